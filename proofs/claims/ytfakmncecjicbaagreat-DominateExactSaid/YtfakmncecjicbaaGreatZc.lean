/-
  The framework (a machine on plain data that answers as the program does), part 3.
-/
import Derived.RangeFuncLeaves
import Derived.RangeFuncCalls
import Derived.OrdersIn
import Derived.LoopNIn
import Derived.LoopN
import Derived.Tactics
import Derived.Laws.Strings
import Derived.Test.YtfakmncecjicbaaGreatZb
set_option linter.unusedSimpArgs false
set_option linter.unusedVariables false
set_option linter.unusedSectionVars false
namespace Go.Fw
variable [dV]
theorem LG(st:St)(dst:Option Tmp)(e:Eff)(t:Nat):(st.eff dst e).s t=if dst=some t then e.x else st.s t:=by
 cases dst with
 |none=>simp[St.eff,St.put,St.aB]
 |some d=>
  simp only[St.eff,St.put,St.aB,Q0];by_cases h:t=d
  .subst h;simp
  .have h1:Nat.beq t d=false:=by cases hb:Nat.beq t d with|false=>rfl|true=>exact absurd (Qf hb) h
   rw[h1,QR (λe=>h e.symm)];rfl
theorem xE(st:St)(dst:Option Tmp)(e:Eff)(g:Nat):(st.eff dst e).o g=match e.aB.lookup g with|some x=>x|none=>st.o g:=by cases dst<;>rfl
theorem sW(st:St)(dst:Option Tmp)(e:Eff)(g:Nat):(st.eff dst e).used g=(e.new.contains g||st.used g):=by cases dst<;>rfl
theorem jF{α:Type}{g:Nat}:∀{l:List (Nat×α)},g∉l.map (·.1)->l.lookup g=none
 | [],_=>rfl
 |(k,v)::l,h=>by
  simp only[X2,Xs,not_or]at h;have:(g==k)=false:=by simpa using h.1
  simp only[List.lookup,this];exact jF h.2
theorem St.ext'{a b:St}(h1 :∀t,a.s t=b.s t)(h2 :∀g,a.o g=b.o g)(h3 :∀g,a.used g=b.used g):a=b:=by obtain⟨s,o,u⟩:=a;obtain⟨s',o',u'⟩:=b;simp only at h1 h2 h3;rw[funext h1,funext h2,funext h3]
section
variable {ops:Array Oper} {es es':Nat->Eff} {st:St} {D D':Nat->Bool}
def SD(ops:Array Oper)(es:Nat->Eff)(st:St)(D:Nat->Bool):Nat->St
 |0=>st
 |k+1=>if D k=true then(SD ops es st D k).eff ((ops[k]?).bind (·.dst)) (es k)else SD ops es st D k
theorem II:∀{n:Nat},(∀k<n,es k=es' k)->SD ops es st D n=SD ops es' st D n
 |0,_=>rfl
 |n+1,h=>by simp only[SD];rw[II λk hk=>h k (by omega),h n (by omega)]
theorem Dx:∀{n:Nat},(∀k<n,D k=D' k)->SD ops es st D n=SD ops es st D' n
 |0,_=>rfl
 |n+1,h=>by simp only[SD];rw[Dx λk hk=>h k (by omega),h n (by omega)]
theorem ah5{t:Nat}:∀{n:Nat},(∀k<n,D k≠D' k->(ops[k]?).bind (·.dst)≠some t)->(SD ops es st D n).s t=(SD ops es st D' n).s t
 |0,_=>rfl
 |n+1,h=>by
  have ih:=ah5 (n:=n) λk hk=>h k (by omega);have hn:=h n (by omega);simp only[SD];cases h1:D n<;>cases h2:D' n
  .simpa using ih
  .have:=hn (by rw[h1,h2];simp);simp only[if_true,LG,QR this];simpa using ih
  .have:=hn (by rw[h1,h2];simp);simp only[if_true,LG,QR this];simpa using ih
  .simp only[if_true,LG,ih]
theorem ah6{g:Nat}:∀{n:Nat},(∀k<n,D k≠D' k->g∉(es k).aB.map (·.1))->(SD ops es st D n).o g=(SD ops es st D' n).o g
 |0,_=>rfl
 |n+1,h=>by
  have ih:=ah6 (n:=n) λk hk=>h k (by omega);have hn:=h n (by omega);simp only[SD];cases h1:D n<;>cases h2:D' n
  .simpa using ih
  .have:=jF (hn (by rw[h1,h2];simp));simp only[if_true,xE,this];simpa using ih
  .have:=jF (hn (by rw[h1,h2];simp));simp only[if_true,xE,this];simpa using ih
  .simp only[if_true,xE,ih]
theorem Oc{g:Nat}:∀{n:Nat},(∀k<n,D k≠D' k->g∉(es k).new)->(SD ops es st D n).used g=(SD ops es st D' n).used g
 |0,_=>rfl
 |n+1,h=>by
  have ih:=Oc (n:=n) λk hk=>h k (by omega);have hn:=h n (by omega);simp only[SD];cases h1:D n<;>cases h2:D' n
  .simpa using ih
  .have:=hn (by rw[h1,h2];simp);have:(es n).new.contains g=false:=by simpa using this
   simp only[if_true,sW,this,K2];simpa using ih
  .have:=hn (by rw[h1,h2];simp);have:(es n).new.contains g=false:=by simpa using this
   simp only[if_true,sW,this,K2];simpa using ih
  .simp only[if_true,sW,ih]
theorem LH{t i:Nat}(hi:D i=true)(hd:(ops[i]?).bind (·.dst)=some t):∀{n:Nat},i<n->(∀k,i<k->k<n->D k=true->(ops[k]?).bind (·.dst)≠some t)->(SD ops es st D n).s t=(es i).x
 |0,h,_=>by omega
 |n+1,hin,h=>by
  simp only[SD];by_cases e:n=i
  .subst e;simp[hi,LG,hd]
  .have ih:=LH hi hd (n:=n) (by omega) λk h1 h2=>h k h1 (by omega);cases hn:D n with
   |false=>simpa using ih
   |true=>have:=h n (by omega) (by omega) hn;simp only[if_true,LG,QR this,ih]
theorem LJ{g i:Nat}{x:O}(hi:D i=true)(hd:(es i).aB.lookup g=some x):∀{n:Nat},i<n->(∀k,i<k->k<n->D k=true->g∉(es k).aB.map (·.1))->(SD ops es st D n).o g=x
 |0,h,_=>by omega
 |n+1,hin,h=>by
  simp only[SD];by_cases e:n=i
  .subst e;simp[hi,xE,hd]
  .have ih:=LJ hi hd (n:=n) (by omega) λk h1 h2=>h k h1 (by omega);cases hn:D n with
   |false=>simpa using ih
   |true=>have:=jF (h n (by omega) (by omega) hn);simp only[if_true,xE,this,ih]
theorem EU{g i:Nat}(hi:D i=true)(hd:g∈(es i).new):∀{n:Nat},i<n->(SD ops es st D n).used g=true
 |0,h=>by omega
 |n+1,hin=>by
  simp only[SD];by_cases e:n=i
  .subst e;simp[hi,sW,hd]
  .have ih:=EU hi hd (n:=n) (by omega);cases hn:D n with
   |false=>simpa using ih
   |true=>simp only[if_true,sW,ih,Bool.or_true]
structure Apart(ops:Array Oper)(x y:Oper)(fx fy:rZ):Prop where
 dy :∀t,x.dst=some t->t∉y.looksAt ops
 dx :∀t,y.dst=some t->t∉x.looksAt ops
 dd :∀t,x.dst=some t->y.dst≠some t
 wr:(∀g∈fx.wr,g∉fy.rd)\/ET fx fy=true
 rw:(∀g∈fy.wr,g∉fx.rd)\/ET fy fx=true
 ww :∀g∈fx.wr,g∉fy.wr
 nn :∀g∈fx.new,g∉fy.new
theorem xG{x:Option Tmp}{ts:List Tmp}(h:IG x ts=true):∀t,x=some t->t∉ts:=by intro t e;subst e;simpa[IG]using h
theorem yG{xs ys:List Nat}(h:NS xs ys=true):∀x∈xs,x∉ys:=by intro x hx;have:=(Z1.1 h) x hx;simpa using this
theorem UE{x y:Oper}{fx fy:rZ}(h:aaL ops x y fx fy=true):Apart ops x y fx fy:=by simp only[aaL,X1,K3]at h;obtain⟨⟨⟨⟨⟨⟨h1,h2⟩,h3⟩,h4⟩,h5⟩,h6⟩,h7⟩:=h;exact⟨xG h1,xG h2,λt e e'=>xG h3 t e (by simp[e']),h4.imp yG id,h5.imp yG id,yG h6,yG h7⟩
theorem LK{acc:List Nat}{i:Nat}:∀{l:List Edge} {s:Nat},(l.foldl (λs e=>if Region.binds .any e=true then s ||| (2 ^ e.on) ||| acc.getD e.on 0 else s) s).testBit i=true↔
  s.testBit i=true\/∃e∈l,Region.binds .any e=true/\(e.on=i\/(acc.getD e.on 0).testBit i=true)
 | [],s=>by simp
 |e::l,s=>by
  simp only[Ka];rw[LK];by_cases hb:Region.binds .any e=true
  .simp only[hb,if_true,Nat.testBit_or,K3,Nat.testBit_two_pow,XX,Xs];constructor
   .rintro (((h|h)|h)|⟨e',h1,h2⟩)
    .exact .inl h
    .exact .inr ⟨e,.inl rfl,hb,.inl h⟩
    .exact .inr ⟨e,.inl rfl,hb,.inr h⟩
    .exact .inr ⟨e',.inr h1,h2⟩
   .rintro (h|⟨e',h1|h1,h2,h3|h3⟩)
    .exact .inl (.inl (.inl h))
    .subst h1;exact .inl (.inl (.inr h3))
    .subst h1;exact .inl (.inr h3)
    .exact .inr ⟨e',h1,h2,.inl h3⟩
    .exact .inr ⟨e',h1,h2,.inr h3⟩
  .simp only[hb,Xs];constructor
   .rintro (h|⟨e',h1,h2⟩)
    .exact .inl (by simpa using h)
    .exact .inr ⟨e',.inr h1,h2⟩
   .rintro (h|⟨e',h1|h1,h2,h3⟩)
    .exact .inl (by simpa using h)
    .subst h1;exact absurd h2 hb
    .exact .inr ⟨e',h1,h2,h3⟩
theorem IJ:∀{os:List Oper} {acc:List Nat},∃t,nP os acc=acc++t
 | [],acc=>⟨[],by simp[nP]⟩
 |o::os,acc=>by obtain⟨t,h⟩:=IJ (os:=os) (acc:=acc++[kX acc o]);exact⟨kX acc o::t,by simp[nP,h]⟩
theorem IK:∀{os:List Oper} {acc:List Nat} {j:Nat} {o:Oper},os[j]?=some o->∃acc',(∃t,nP os acc=acc'++kX acc' o::t)/\acc'.length=acc.length+j
 | [],acc,j,o,h=>by simp at h
 |o'::os,acc,0,o,h=>by simp only[J2,Q0]at h;subst h;obtain⟨t,h⟩:=IJ (os:=os) (acc:=acc++[kX acc o']);exact⟨acc,⟨t,by simp[nP,h]⟩,rfl⟩
 |o'::os,acc,j+1,o,h=>by simp only[VV]at h;obtain⟨acc',h1,h2⟩:=IK (acc:=acc++[kX acc o']) h;exact⟨acc',h1,by simp at h2;omega⟩
def Down(ops:Array Oper)(D:Nat->Bool):Prop :=∀(j:Nat) o,ops[j]?=some o->D j=true->∀e∈o.after,Region.binds .any e=true->D e.on=true
theorem IL{j:Nat}{o:Oper}(ho:ops[j]?=some o){i:Nat}:((nP ops.toList []).getD j 0).testBit i=true↔
  ∃e∈o.after,Region.binds .any e=true/\(e.on=i\/(e.on<j/\((nP ops.toList []).getD e.on 0).testBit i=true)):=by
 have hl:ops.toList[j]?=some o:=by simpa using ho
 obtain⟨acc,⟨t,h1⟩,h2⟩:=IK (acc:=[]) hl;simp only[Km,V1]at h2;rw[h1];have e1:(acc++kX acc o::t).getD j 0=kX acc o:=by rw[Q2,Wg (by omega),h2];simp
 have e2 :∀k,(acc++kX acc o::t).getD k 0=if k<j then acc.getD k 0 else(acc++kX acc o::t).getD k 0:=by
  intro k;split
  .rename_i hk;rw[Q2,Wt (by omega),<-Q2]
  .rfl
 rw[e1];unfold kX;rw[LK];simp only[Nat.zero_testBit,Wa,false_or,Array.mem_toList_iff];constructor
 .rintro ⟨e,q1,q2,q3⟩;refine⟨e,q1,q2,q3.imp id λq=>?_⟩;by_cases hk:e.on<j
  .refine ⟨hk,?_⟩;have:=e2 e.on;rw[Qt hk]at this;unfold kX at this;rw[this];exact q
  .have:acc.getD e.on 0=0:=by rw[Q2,UB (by omega)];rfl
   rw[this]at q;simp at q
 .rintro ⟨e,q1,q2,q3⟩;refine⟨e,q1,q2,q3.imp id λ⟨hk,q⟩=>?_⟩;have:=e2 e.on;rw[Qt hk]at this;unfold kX at this;rw[this]at q;exact q
theorem xH(hD:Down ops D):∀(j:Nat) {o:Oper},ops[j]?=some o->D j=true->∀i,((nP ops.toList []).getD j 0).testBit i=true->D i=true:=by
 intro j
 induction j using Nat.strongRecOn with
 |_ j ih=>
  intro o ho hj i hb;obtain⟨e,h1,h2,h3|⟨h3,h4⟩⟩:=(IL ho).1 hb
  .rw [<-h3];exact hD j o ho hj e h1 h2
  .have hlt:j<ops.size:=(VC.1 ho).1;have hlt':e.on<ops.size:=by omega
   exact ih e.on h3 (qr hlt') (hD j o ho hj e h1 h2) i h4
theorem QC{j:Nat}{o:Oper}(ho:ops[j]?=some o)(h:(nP ops.toList []).getD j 0<2 ^ j){e:Edge}(he:e∈o.after)(hb:Region.binds .any e=true):e.on<j:=by have:=(IL ho (i:=e.on)).2 ⟨e,he,hb,.inl rfl⟩;by_cases hk:e.on<j;exact hk;rw[Nat.testBit_lt_two_pow (Vi h (Nat.pow_le_pow_right (by omega) (by omega)))]at this;cases this
end
section
variable {E:Env} {N:Nat} {bC:List Nat} {wR:Nat->Gh} {st:St} {a:Act} {w:World} {Pg:Program} {T:Tab} {tt:TT} {ops:Array Oper} {Q:Exit->Act->World->Prop}
theorem QD{gh:Nat->Gh}(h:Rel E st gh (λt=>a.tmps.getD t undef) w){x:S}{v:Value}(hx:dn E st gh w x v){i:TI}{t:TypeId}(ht:oW Pg t i){c:Value}{p:Bool->Prop}(hp:xC st.o x i.k c=some p):
  ∃b,(Op.equal t v c).run Pg w=.ok b w/\p b:=by
 unfold xC at hp;split at hp
 .rename_i e hk;have hu:=ht.kind;rw[hk]at hu;have hu:Pg.underlying t=some (.slice e):=hu;have eqs :∀ao n cap,(Op.equal t (.slice ao n cap) (.slice none 0 0)).run Pg w=.ok ao.isNone w:=by intro ao n cap;unfold Op.equal Op.maxDepth;show (Op.equalIn (9999+1) t _ _).run Pg w=_;unfold Op.equalIn;cases ao<;>simp[dN hu]
  unfold LC at hp;split at hp
  .cases hp;have r:=hx.eX;generalize hl:(P.sl _ _)=y at r;cases r with
   |nil sz ao cap=>cases hl;exact⟨_,eqs _ _ _,λh=>absurd rfl h⟩
   |sl sz l ad cap f _ _ _ _ _ _=>cases hl;exact⟨_,eqs _ _ _,λ_=>rfl⟩
   |_=>cases hl
  .rename_i g;split at hp
   rotate_left
   cases hp;rename_i sz l ho;cases hp;cases hx.dB with
   |own _ _ _ hb=>rw[hb _ _ ho];refine⟨_,eqs _ _ _,λhl=>?_⟩;obtain⟨ad,had,_⟩:=(uK (h.aW g) ho).2 (by omega);rw[had];rfl
  .cases hp;cases hx.dB;exact⟨_,eqs _ _ _,rfl⟩
  .cases hp
 .rename_i hk;have hu:=ht.kind;rw[hk]at hu;obtain⟨e,hu⟩:=(hu :∃e,Pg.underlying t=some (.pointer e));have eqp :∀ao,(Op.equal t (.pointer ao) (.pointer none)).run Pg w=.ok ao.isNone w:=by intro ao;unfold Op.equal Op.maxDepth;show (Op.equalIn (9999+1) t _ _).run Pg w=_;unfold Op.equalIn;cases ao<;>simp[dN hu]
  unfold ES at hp;split at hp
  .rename_i g off;split at hp
   .rename_i ws ho;cases hp;cases hx.dB with
    |box _ _ _ _ hb=>obtain⟨ad,_,rfl⟩:=hb ws ho;exact⟨_,eqp _,rfl⟩
   .cases hp
  .cases hp;cases hx.eX with
   |opq _ _=>exact⟨_,eqp _,rfl⟩
  .cases hp
 .cases hp
theorem QE(hT :∀f sp,T f=some sp->Sound Pg (f % 1000000) sp)(htt:iC Pg tt){i:Nat}{o:Oper}(hi:ops[i]?=some o)(hg:Good E N bC wR st a w){K':Eff->Prop}(h:BA T tt N ops o st K')
  {K:Act->World->Prop} (hK :∀e a' w',K' e->Good E N bC wR (st.eff o.dst e) a' w'->K a' w'):wpOp Pg ops Q i K a w:=by
 unfold BA at h;split at h
 .rename_i pos p hn;obtain⟨hd,h⟩:=h;have hd :∀d,o.dst=some d->d<a.tmps.size:=by intro d e;rw[e]at hd;rw[hg.size];simpa using hd
  unfold N_ at hn;split at hn;cases hn;rename_i hgd;split at hn
  rotate_left
  cases hn;rename_i op t x c u hop;split at hn
  rotate_left
  cases hn;rename_i ti ht;obtain⟨gh,hR,Kt⟩:=hg.ex;have hx:=qm hR x;have key :∀p',xC st.o (st.bW x) ti.k c=some p'->∃b,(Op.equal t (a.eval x) c).run Pg w=.ok b w/\p' b:=λp' hp=>QD hR hx (htt _ _ ht) hp;have fin :∀b,(execOp a.eval o).run Pg w=.ok (.value (.bool (bif pos then b else !b))) w->p b->wpOp Pg ops Q i K a w:=by
   intro b hrun hb;unfold wpOp;rw[hi];simp only;have:Region.wanted o (yielded ops a.tmps)=true:=by simp[Region.wanted,hgd]
   rw[Qt this];left;show o.upon Pg a K Q ((execOp a.eval o).run Pg w);rw[hrun];refine hK _ _ _ (h b hb) ⟨⟨gh,?_,λg hg'=>?_⟩,by rw[Bq];exact hg.size,hg.defers.put _ _⟩
   .rw [Bo _ _ hd];unfold St.eff;simp only[Gv];exact hR.put o.dst (dn.ofP (.bool _)) (by simp[scalar,S.names,V.names,W.names])
   .have ho:(st.eff o.dst { x:=scalar (.bool (bif pos then b else !b)),aB:=[],new:=[] }).o g=st.o g:=by unfold St.eff St.put;cases o.dst<;>simp[St.aB]
    have hu:(st.eff o.dst { x:=scalar (.bool (bif pos then b else !b)),aB:=[],new:=[] }).used g=st.used g:=by unfold St.eff St.put;cases o.dst<;>simp[St.aB]
    rw[ho,hu];exact Kt g hg'
  have hcv :∀b,(Op.equal t (a.eval x) c).run Pg w=.ok b w->(c=.slice none 0 0\/c=.pointer none)/\True->(eqGuard op t x (.const c) (a.eval x) c).run Pg w=.ok () w:=by
   intro b _ hc;unfold eqGuard;rcases hc.1 with rfl|rfl
   .cases op<;>first|rfl|(simp only;split<;>first|rfl|simp_all)
   .cases op<;>first|rfl|(simp only;split<;>first|rfl|simp_all)
  have hcc :∀p',xC st.o (st.bW x) ti.k c=some p'->c=.slice none 0 0\/c=.pointer none:=by
   intro p' hp;unfold xC at hp;split at hp
   .exact .inl rfl
   .exact .inr rfl
   .cases hp
  split at hn
  .rename_i p' hp;cases hn;obtain⟨b,hb1,hb2⟩:=key _ hp;refine fin b ?_ hb2;have hge:=hcv b hb1 ⟨hcc _ hp,trivial⟩;unfold execOp;rw[hop];refine fQ ?_;show (eqGuard _ t x (.const c) (a.eval x) c >>= λ_=>binOp _ t (a.eval x) c).run Pg w=_;rw[Sem.run_bind,hge];rcases hcc _ hp with rfl|rfl<;>simp[binOp,hb1]
  .rename_i p' hp;cases hn;obtain⟨b,hb1,hb2⟩:=key _ hp;refine fin b ?_ hb2;have hge:=hcv b hb1 ⟨hcc _ hp,trivial⟩;unfold execOp;rw[hop];refine fQ ?_;show (eqGuard _ t x (.const c) (a.eval x) c >>= λ_=>binOp _ t (a.eval x) c).run Pg w=_;rw[Sem.run_bind,hge];rcases hcc _ hp with rfl|rfl<;>simp[binOp,hb1]
  .cases hn
 .split at h
  .rename_i g s n hn;obtain⟨hd,h1,h2⟩:=h;have hd :∀d,o.dst=some d->d<a.tmps.size:=by intro d e;rw[e]at hd;rw[hg.size];simpa using hd
   unfold Oa at hn;split at hn;cases hn;rename_i hgd;split at hn
   rotate_left
   cases hn;rename_i x hop;split at hn
   rotate_left
   cases hn;rename_i g' hx;split at hn
   rotate_left
   cases hn;rename_i s' n' hog;simp only[Q0,QP]at hn;obtain⟨rfl,rfl,rfl⟩:=hn;obtain⟨gh,hR,Kt⟩:=hg.ex;have hrx:=qm hR x;rw[hx]at hrx;obtain⟨ad,had,hv⟩ :∃ad,(gh g').ad=some ad/\a.eval x=.pointer (some ⟨ad.block,0,none⟩):=by have:=hrx.dB;generalize a.eval x=z at this;cases this with|mO _ _ _ hb=>exact hb _ _ hog
   have hO:=hR.aW g';rw[hog]at hO;obtain⟨ad',bs,k,q1,rfl,rfl,q4⟩:=hO;rw[had]at q1;cases q1;have hlt:ad.block<w.heap.size:=(hR.wr g' ad.block (by rw[hog];rfl) (Gh.jC had)).2;have hkn:(P.int .i64 (k:Int)).nat=k:=by simp[P.nat,P.num]
   have hget:(getObj ad.block).run Pg w=.ok (.stringIter bs k) w:=by simp[getObj,Sem.run,q4]
   have fin :∀(v:Value) (w':World) (e:Eff),(∀b,b≠ad.block->w'.heap[b]?=w.heap[b]?)->(Instr.next (a.eval x) true o.type).run Pg w=.ok v w'->K' e->Rel E (st.aB e.aB e.new) gh (λt=>a.tmps.getD t undef) w'->dn E (st.aB e.aB e.new) gh w' e.x v->(∀g∈e.x.names,(st.aB e.aB e.new).used g=true)->
     (∀g,st.used g=true->(st.aB e.aB e.new).used g=true)->(∀g,((st.aB e.aB e.new).o g=.none\/True)/\(st.o g=.none->(st.aB e.aB e.new).o g=.none))->wpOp Pg ops Q i K a w:=by
    intro v w' e hmm hrun hke hR' hx' hn' hu' ho';unfold wpOp;rw[hi];simp only;have:Region.wanted o (yielded ops a.tmps)=true:=by simp[Region.wanted,hgd]
    rw[Qt this];left;show o.upon Pg a K Q ((execOp a.eval o).run Pg w);have:(execOp a.eval o).run Pg w=.ok (.value v) w':=by unfold execOp;rw[hop];exact fQ hrun
    rw[this];refine hK e _ _ hke ⟨⟨gh,?_,λg hg'=>?_⟩,by rw[Bq];exact hg.size,hg.defers.same (λD _ h3=>hmm D λe'=>by rw[e',q4]at h3;cases h3) _ _⟩
    .rw [Bo _ _ hd];exact hR'.put o.dst hx' hn'
    .obtain ⟨p1,p2⟩:=Kt g hg';have ho2:(st.eff o.dst e).o g=(st.aB e.aB e.new).o g:=by unfold St.eff St.put;cases o.dst<;>rfl
     have hu2:(st.eff o.dst e).used g=(st.aB e.aB e.new).used g:=by unfold St.eff St.put;cases o.dst<;>rfl
     refine⟨by rw[hu2];exact hu' g p1,?_⟩;rw[ho2];rcases p2 with p2|p2
     .exact .inl ((ho' g).2 p2)
     .exact .inr p2
   cases hb:QA (.str bs) (.int .i64 k)with
   |true=>
    have hkb:k<bs.size:=by have:=Wz hb;rw[hkn]at this;exact this
    have hrun:(Instr.next (a.eval x) true o.type).run Pg w=.ok (.tuple #[.bool true,.int .i64 k,.int .i32 (Utf8.decode bs k).1]) { w with heap:=w.heap.setIfInBounds ad.block (.stringIter bs (k+(Utf8.decode bs k).2)) }:=by
     rw[hv];simp only[Instr.next,Sem.run_bind,hget,Result.andThen_ok];rw[Qt hkb];have hset:(setObj ad.block (.stringIter bs (k+(Utf8.decode bs k).2))).run Pg w=.ok () { w with heap:=w.heap.setIfInBounds ad.block (.stringIter bs (k+(Utf8.decode bs k).2)) }:=by simp[setObj,Sem.run,q4]
     simp only[Sem.run_bind,hset,Result.andThen_ok,Sem.run_pure];rfl
    obtain⟨w1,w2⟩:=hR.write g' ad (by rw[hog];rfl) had (.it (.str bs) (UC (.str bs) (.int .i64 k))) (by rw[hog];trivial) { w with heap:=w.heap.setIfInBounds ad.block (.stringIter bs (k+(Utf8.decode bs k).2)) }
     (λb hb=>by simp[KM,Ne.symm hb]) (by simp) rfl rfl rfl rfl (λ_ e=>by cases e) (λ_=>by rw[hog];rfl)
     (λ_=>⟨ad,bs,k+(Utf8.decode bs k).2,had,rfl,by simp only[UC,kE,hkn];rfl,by simp[hlt]⟩) (λg hg=>by simp[O.names]at hg)
    have hold :∀g,g≠g'->(st.aB (IC g' (.str bs) (.int .i64 k)).aB (IC g' (.str bs) (.int .i64 k)).new).o g=st.o g:=by
     intro g hne;have:(g==g')=false:=by simpa using hne
     simp[IC,St.aB,List.lookup,this]
    refine fin _ _ (IC g' (.str bs) (.int .i64 k)) (λb hb=>by simp[KM,Ne.symm hb]) hrun (h1 hb) w1 ?_ ?_ ?_ ?_
    .refine .lq _ _ rfl λj x v hx hv=>?_
     match j,hx,hv with
     |0,hx,hv=>cases hx;cases hv;exact .one _ _ (.p _ _ _ _ (.bool _))
     |1,hx,hv=>cases hx;cases hv;exact .one _ _ (.p _ _ _ _ (by rw[hkn];exact .int _ _))
     |2,hx,hv=>cases hx;cases hv;exact .one _ _ (.p _ _ _ _ (by simp only[aaJ,hkn];exact .int _ _))
     |j+3,hx,_=>cases hx
    .intro g hg';simp[IC,S.names,V.names,W.names]at hg'
    .intro g hg';simp[St.aB,hg']
    .intro g;refine⟨.inr trivial,λh0=>?_⟩;by_cases e:g=g'
     .subst e;rw[hog]at h0;cases h0
     .rw [hold g e];exact h0
   |false=>
    have hkb:¬ k<bs.size:=by have:=K8 hb;rw[hkn]at this;exact this
    have hrun:(Instr.next (a.eval x) true o.type).run Pg w=.ok (.tuple #[.bool false]) w:=by rw[hv];simp only[Instr.next,Sem.run_bind,hget,Result.andThen_ok];rw[QR hkb];rfl
    refine fin _ _ LD (λ_ _=>rfl) hrun (h2 hb) (by rw[show LD.aB=[] from rfl,show LD.new=[] from rfl,Gv];exact hR) ?_ ?_ ?_ ?_
    .refine .lq _ _ rfl λj x v hx hv=>?_
     match j,hx,hv with
     |0,hx,hv=>cases hx;cases hv;exact .one _ _ (.p _ _ _ _ (.bool _))
     |j+1,hx,_=>cases hx
    .intro g hg';simp[LD,S.names,V.names,W.names]at hg'
    .intro g hg';simp[St.aB,hg']
    .intro g;exact⟨.inr trivial,λh0=>by simpa[LD,St.aB]using h0⟩
  .obtain ⟨e,hc,h⟩:=Qv h;exact Iy hT htt hi hg hc λa' w' hg'=>hK e a' w' h hg'
theorem BF(hT :∀f sp,T f=some sp->Sound Pg (f % 1000000) sp)(htt:iC Pg tt){K:St->Prop}(hK :∀st' a' w',K st'->Good E N bC wR st' a' w'->Q .normal a' w'):
  ∀(is:List Nat) {st:St} {a:Act} {w:World},vg T tt N ops is st K->Good E N bC wR st a w->wpOps Pg ops Q is a w
 | [],st,a,w,h,hg=>hK st a w h hg
 |i::is,st,a,w,h,hg=>by
  simp only[vg]at h;split at h
  .rename_i o ho;rw[wpOps_cons];exact QE hT htt ho hg h λe a' w' h hg'=>BF hT htt hK is h hg'
  .cases h
theorem EW{K:St->List rZ->Prop}:∀(m k:Nat) (es:Nat->Eff) (fs:List rZ),fs.length=k->oh T tt N ops (List.range' k m) (SD ops es st (λ_=>true) k) fs K->
  ∃(es':Nat->Eff) (fs':List rZ),(∀i<k,es' i=es i)/\(∀i<k,fs'[i]?=fs[i]?)/\K (SD ops es' st (λ_=>true) (k+m)) fs'/\
   ∀i,k<=i->i<k+m->∃o,ops[i]?=some o/\Can T tt N ops (SD ops es' st (λ_=>true) i) o (es' i)/\fs'[i]?=some { rd:=rY T (SD ops es' st (λ_=>true) i) o,wr:=(es' i).aB.map (·.1),new:=(es' i).new,ld:=KL tt (SD ops es' st (λ_=>true) i) o,kp:=Ob (SD ops es' st (λ_=>true) i) o (es' i),pk:=lX o.op,kd:=UD (SD ops es' st (λ_=>true) i) (es' i) }
 |0,k,es,fs,hl,h=>⟨es,fs,λ_ _=>rfl,λ_ _=>rfl,h,λi h1 h2=>by omega⟩
 |m+1,k,es,fs,hl,h=>by
  simp only[qu,oh]at h;split at h
  rotate_left
  cases h;rename_i o ho;obtain⟨e,hc,h⟩:=Qv h
  let es1:Nat->Eff:=λi=>if i=k then e else es i
  have e1:SD ops es1 st (λ_=>true) k=SD ops es st (λ_=>true) k:=II λi hi=>by simp only[es1];rw[QR (by omega)]
  have e2:SD ops es1 st (λ_=>true) (k+1)=(SD ops es st (λ_=>true) k).eff o.dst e:=by simp only[SD,if_true];rw[e1,ho];simp[es1]
  rw[<-e2]at h;obtain⟨es',fs',q1,q2,q3,q4⟩:=EW m (k+1) es1 _ (by simp[hl]) h;have e3:SD ops es' st (λ_=>true) k=SD ops es st (λ_=>true) k:=(II λi hi=>q1 i (by omega)).trans e1;refine⟨es',fs',λi hi=>?_,λi hi=>?_,by rw[show k+(m+1)=k+1+m by omega];exact q3,λi h1 h2=>?_⟩
  .rw [q1 i (by omega)];simp only[es1];rw[QR (by omega)]
  .rw [q2 i (by omega),Wt (by omega)]
  .by_cases e:i=k
   .subst e;have hei:es' i=e:=by rw[q1 i (by omega)];simp[es1]
    refine⟨o,ho,by rw[e3,hei];exact hc,?_⟩;rw[q2 i (by omega),Wg (by omega),e3,hei];simp[hl]
   .exact q4 i (by omega) (by omega)
def Rng(ws:List W)(off n:Nat)(x:O):Prop :=∃wc,x=.box wc/\wc.length=ws.length/\∀off',off<=off'->off'<off+n->wc[off']?=ws[off']?
theorem IQ{g:Nat}:∀{j:Nat} {xs ys:List W} {r:List (Nat×Nat)},BD g j xs ys=some r->xs.length=ys.length/\∀p∈r,p.1=g/\j<=p.2/\xs[p.2-j]?=ys[p.2-j]?
 |j,[],[],r,h=>by simp only[BD,Q0]at h;subst h;exact⟨rfl,λp hp=>by cases hp⟩
 |j,[],y::ys,r,h=>by simp[BD]at h
 |j,x::xs,[],r,h=>by simp[BD]at h
 |j,x::xs,y::ys,r,h=>by
  simp only[BD]at h;split at h
  rotate_left
  cases h;rename_i r' hr;obtain⟨h1,h2⟩:=IQ hr;have old :∀p∈r',p.1=g/\j<=p.2/\(x::xs)[p.2-j]?=(y::ys)[p.2-j]?:=λp hp=>by obtain⟨a1,a2,a3⟩:=h2 p hp;refine⟨a1,by omega,?_⟩;rw[show p.2-j=(p.2-(j+1))+1 by omega,VV,VV];exact a3
  simp only[Q0]at h;refine⟨by simp[h1],λp hp=>?_⟩;rw[<-h]at hp;split at hp
  rotate_left
  exact old p hp;rename_i hs;rcases Xs.1 hp with rfl|hp
  rotate_left
  exact old p hp;refine⟨rfl,ZD _,?_⟩;have:x=y:=by
   cases x<;>cases y<;>simp only[aaK]at hs<;>first|(cases hs)|skip
   .rw [Qf hs]
   .simp only[X1]at hs;rw[Qf hs.1,Qf hs.2]
  simp[this]
theorem zS{st:St}{o:Oper}{g off n:Nat}(h:KL tt st o=some (g,off,n)):(∃t x i,o.op=.load t x/\tt t=some i/\i.size=n/\st.bW x=.v (.one (.box g off)))\/
  ((off=5000000/\n=1)/\∃t x i m off' a0 i0 sz ah l hole,o.op=.load t x/\tt t=some i/\st.bW x=.v (.one (.ep g m off'))/\st.o g=.aF a0 i0 sz ah l hole/\iL ah off' i.size=[]):=by
 unfold KL at h;split at h
 rotate_left
 cases h;rename_i t x hop;split at h
 .rename_i i g' off' ht hx;cases h;exact .inl ⟨t,x,i,hop,ht,rfl,hx⟩
 .rename_i i g' m off' ht hx;split at h
  rotate_left
  cases h;rename_i a0 i0 sz ah l hole ho;cases hc:iL ah off' i.size with
  |nil=>rw[hc]at h;have h:some (g',5000000,1)=some (g,off,n):=h;cases h;exact .inr ⟨⟨rfl,rfl⟩,t,x,i,m,off',a0,i0,sz,ah,l,hole,hop,ht,hx,ho,hc⟩
  |cons q qs=>rw[hc]at h;have h:(none:Option (Nat×Nat×Nat))=some (g,off,n):=h;cases h
 .cases h
theorem pJ{st:St}{o:Oper}(h:IE o.op=true\/lX o.op=true):iO st o=[]:=by
 refine Ul ?_;unfold argNames;split
 .rename_i f args ts hop;rw[hop]at h;rcases h with h|h<;>cases h
 .rename_i hop;rw[hop]at h;rcases h with h|h<;>cases h
 .rfl
theorem YL{st:St}{o:Oper}{g off n:Nat}(h:KL tt st o=some (g,off,n)):g∈rY T st o:=by
 rcases zS h with⟨t,x,i,h1,_,_,h4⟩|⟨_,t,x,i,m,off',a0,i0,sz,ah,l,hole,h1,_,h4,_⟩
 all_goals
  refine XS _ ?_;rw[pJ (.inl (by rw[h1];rfl))];unfold Bz;rw[h1];show g∈(bif _ then _ else _)++_;refine XS _ (YY.2 ⟨x,by simp[Op.operands],YY.2 ⟨g,?_,by simp⟩⟩);show g∈(st.bW x).names;rw[h4];simp[S.names,V.names,W.names]
theorem QF{es:Nat->Eff}{D:Nat->Bool}{g:Nat}:∀(n:Nat),∃m,(∀k,m<=k->k<n->D k=true->g∉(es k).aB.map (·.1))/\(SD ops es st D n).o g=(SD ops es st (λ_=>true) m).o g/\(m=0\/∃k,m=k+1/\k<n/\D k=true/\g∈(es k).aB.map (·.1))
 |0=>⟨0,λk _ h=>by omega,rfl,.inl rfl⟩
 |n+1=>by
  obtain⟨m,h1,h2,h3⟩:=QF (D:=D) (g:=g) n;by_cases hw:D n=true/\g∈(es n).aB.map (·.1)
  .obtain ⟨hd,hg⟩:=hw;refine⟨n+1,λk a b=>by omega,?_,.inr ⟨n,rfl,by omega,hd,hg⟩⟩;simp only[SD,hd,if_true,xE];cases hl:(es n).aB.lookup g with
   |some x=>rfl
   |none=>
    exfalso;obtain⟨p,hp,e⟩:=XN.1 hg;have :∀{l:List (Nat×O)},p∈l->l.lookup p.1≠none:=by
     intro l
     induction l with
     |nil=>intro h;cases h
     |cons q l ih=>
      intro h hn;simp only[List.lookup]at hn;split at hn;cases hn;rename_i hb;rcases Xs.1 h with h|h
      .subst h;simp at hb
      .exact ih h hn
    exact this hp (by rw[e];exact hl)
  .refine ⟨m,λk a b hd hg=>?_,?_,h3.imp id λ⟨k,a,b,c⟩=>⟨k,a,by omega,c⟩⟩
   .by_cases e:k=n
    .subst e;exact hw ⟨hd,hg⟩
    .exact h1 k a (by omega) hd hg
   .cases hd:D n with
    |false=>simp only[SD,hd,Wa,if_false];exact h2
    |true=>have hg:g∉(es n).aB.map (·.1):=λhg=>hw ⟨hd,hg⟩;simp only[SD,hd,if_true,xE,jF hg];exact h2
theorem zT{st:St}{o:Oper}{d:Nat}{t:TypeId}{x:Operand}{i:TI}{g off:Nat}(h1:o.op=.load t x)(h2:tt t=some i)(h4:st.bW x=.v (.one (.box g off))){K:Eff->Prop}:
  iP T tt d st o K↔∃ws,st.o g=.box ws/\(off+i.size<=ws.length/\0<i.size)/\K { x:=V.fA i.agg ((ws.drop off).take i.size),aB:=[],new:=[] }:=by
 have hD :∀dc,dF tt dc d st.o st.bW (.load t x) o.type=none:=λdc=>by simp only[dF,rP,h2,h4];cases Qc dc<;>rfl
 have e:iP T tt d st o K↔(match kernel tt d st.o st.bW (.load t x) o.type with
   |some r=>r.pre/\K { x:=r.dst r.val,aB:=r.aB r.val,new:=r.new }
   |none=>False):=by
  rw[qO (pJ (.inl (by rw[h1];rfl)))];unfold jP;rw[h1];simp only[hD,reduceCtorEq,false_and,exists_false,false_or,EI,cond_false];cases kernel tt d st.o st.bW (.load t x) o.type<;>rfl
 rw[e];simp only[kernel,h2,h4];cases ho:st.o g with
 |box ws=>
  simp only;by_cases hs:off+i.size<=ws.length/\0<i.size
  .rw [Qt hs];simp only[Et.pure,true_and];constructor
   .intro h;exact⟨ws,rfl,hs,h⟩
   .rintro ⟨ws',e',_,h⟩;cases e';exact h
  .rw [QR hs];simp only[false_iff];rintro ⟨ws',e',h,_⟩;cases e';exact hs h
 |_=>simp only[false_iff];rintro ⟨ws',e',_⟩;cases e'
theorem Wp{st:St}{o:Oper}{e:Eff}(hc:Can T tt N ops st o e){Q:Eff->Prop}(hs:Q Eff.skip)(key :∀{d:Nat},(iP T tt d st o λe'=>e'.new.all (λg=>!st.used g)=true/\e'=e)->Q e):Q e:=by
 unfold Can stepW at hc;obtain⟨_,hc⟩:=hc;split at hc;exact key hc;split at hc
 .rename_i b _;cases b with
  |true=>exact key hc
  |false=>have hc:Eff.skip=e:=hc;rw[<-hc];exact hs
 .cases hc
theorem IU{st:St}{o:Oper}{d:Nat}{t:TypeId}{x:Operand}{i:TI}{g off sz:Nat}{m:P}{a0 i0:Bool}{ah:List (Nat×Nat)}{l:List (List P)}{hole:Option (Nat×Nat×Nat)}(h1:o.op=.load t x)(h2:tt t=some i)(h4:st.bW x=.v (.one (.ep g m off)))
  (h5:st.o g=.aF a0 i0 sz ah l hole) (h6:iL ah off i.size=[]) {K:Eff->Prop} :
  iP T tt d st o K↔(off+i.size<=sz/\0<i.size)/\K { x:=V.fA i.agg ((List.range i.size).map λj=>.p a0 i0 ((l.getD m.nat []).getD (off+j) (PI i.zero j))),aB:=[],new:=[] }:=by
 have hK:kernel tt d st.o st.bW (.load t x) o.type=none:=by simp only[kernel,h2,h4,h5]
 have hH:rP tt st.o st.bW t x=none:=by
  unfold rP;simp only[h2,h4];cases hh:iM st.o g with
  |none=>rfl
  |some q=>
   obtain⟨a,i',sz',gJ,l'⟩:=q;simp only;have hcols:gJ=ah:=by
    unfold iM at hh;rw[h5]at hh;simp only at hh;split at hh
    .simp only[Q0,QP]at hh;exact hh.2.2.2.1.symm
    .split at hh
     .split at hh
      .simp only[Q0,QP]at hh;exact hh.2.2.2.1.symm
      .cases hh
     .cases hh
   subst hcols;cases hl:gJ.lookup off with
   |none=>rfl
   |some s=>
    simp only;rw[QR];rintro ⟨_,h1',_⟩;have hm:(off,s)∈gJ:=jk hl;have:(off,s)∈iL gJ off i.size:=by unfold iL;rw[Jn];exact⟨hm,by rw[h1'];simp⟩
    rw[h6]at this;cases this
 rw[qO (pJ (.inl (by rw[h1];rfl)))];unfold jP;rw[h1];simp only[hK,or_false];constructor
 .rintro ⟨dc,r,hk,hp,hb⟩;simp only[dF]at hk;cases hd:Qc dc with
  |true=>rw[hd]at hk;simp only[cond_true,hH]at hk;cases hk
  |false=>
   rw[hd]at hk;simp only[cond_false,h2,h4,h5,h6]at hk;split at hk
   .rename_i hc;cases hk;exact⟨hc,KF.iff.1 hb⟩
   .cases hk
 .rintro ⟨hc,hK'⟩;refine⟨[],.pure (V.fA i.agg ((List.range i.size).map λj=>.p a0 i0 ((l.getD m.nat []).getD (off+j) (PI i.zero j)))),?_,trivial,KF.iff.2 hK'⟩;simp only[dF,Qc,cond_false,h2,h4,h5,h6];rw[Qt hc]
theorem QG{st:St}{o:Oper}{e:Eff}{g off n:Nat}(hc:Can T tt N ops st o e)(hl:KL tt st o=some (g,off,n)):e.aB=[]:=by
 refine Wp (Q:=λe=>e.aB=[]) hc rfl λ{d} h=>?_;rcases zS hl with⟨t,x,i,h1,h2,h3,h4⟩|⟨_,t,x,i,m,off',a0,i0,sz,ah,l,hole,h1,h2,h4,h5,h6⟩
 .obtain ⟨ws,_,_,_,rfl⟩:=(zT h1 h2 h4).1 h;rfl
 .obtain ⟨_,_,rfl⟩:=(IU h1 h2 h4 h5 h6).1 h;rfl
theorem YM{st:St}{o:Oper}{e:Eff}{g:Nat}{t:TypeId}{x:Operand}{a i:Bool}{sz:Nat}{ah:List (Nat×Nat)}{l:List (List P)}(hc:Can T tt N ops st o e)(h1:o.op=.load t x)(ho:st.o g=.aF a i sz ah l none){a' i':Bool}{sz':Nat}{gJ:List (Nat×Nat)}{l':List (List P)}{fV:Option (Nat×Nat×Nat)}
  (hl:e.aB.lookup g=some (.aF a' i' sz' gJ l' fV)):(O.aF a' i' sz' gJ l' fV).core=(O.aF a i sz ah l none).core:=by
 refine Wp (Q:=λe=>e.aB.lookup g=some (.aF a' i' sz' gJ l' fV)->_) hc (λh=>by cases h) (λ{d} h hl=>?_) hl;rw[qO (pJ (.inl (by rw[h1];rfl)))]at h;unfold jP at h;rw[h1]at h;simp only at h;rcases h with⟨dc,r,hk,hp,hb⟩|h
 .have hb:=(KF.iff.1 hb).2;rw[<-hb]at hl;simp only at hl;simp only[dF]at hk;cases hd:Qc dc with
  |true=>
   rw[hd]at hk;simp only[cond_true]at hk;unfold rP at hk
   repeat' split at hk
   all_goals first|(cases hk;done)|skip
   cases hk;simp[Et.pure,pX]at hl
  |false=>
   rw[hd]at hk;simp only[cond_false]at hk;split at hk
   rotate_left
   cases hk;rename_i i1 g1 n1 off1 _ _;split at hk
   rotate_left
   cases hk;rename_i a1 i2 sz1 arD l1 arE ho1;split at hk
   rotate_left
   cases hk;split at hk
   .cases hk;simp[Et.pure,pX]at hl
   .rename_i c s _;split at hk
    rotate_left
    cases hk;rename_i a2 i3 sz2 akP l2 hh;cases hk;simp only[List.lookup]at hl;cases hg:g==g1 with
    |true=>
     have e1:g=g1:=by simpa using hg
     subst e1;rw[hg]at hl;simp only[Q0]at hl;rw[ho]at ho1;cases ho1;unfold iM at hh;rw[ho]at hh;cases hh;rw[<-hl];rfl
    |false=>
     rw[hg]at hl;simp only at hl;cases hg2:g==d with
     |true=>rw[hg2]at hl;cases hl
     |false=>
      rw[hg2]at hl;simp only at hl;exfalso;have :∀gs:List Nat,(kills gs).lookup g≠some (.aF a' i' sz' gJ l' fV):=λgs=>by
       induction gs with
       |nil=>intro h;cases h
       |cons q qs ih=>
        intro h;simp only[kills,X2,List.lookup]at h;split at h
        .cases h
        .exact ih h
      exact this _ hl
   .cases hk
 .split at h
  rotate_left
  cases h;rename_i r hr;obtain⟨_,h⟩:=h;have h:(_:Prop)/\({ x:=r.dst r.val,aB:=r.aB r.val,new:=r.new }:Eff)=e:=h;rw[<-h.2]at hl;have:r.aB r.val=[]:=by
   simp only[kernel]at hr
   repeat' split at hr
   all_goals first|(cases hr;done)|(cases hr;rfl)
  simp only[this]at hl;cases hl
theorem Dy{st:St}{o:Oper}{e:Eff}{p:Nat×Nat}(hc:Can T tt N ops st o e)(h:p∈Ob st o e):lX o.op=true\/(∃wa wb,st.o p.1=.box wa/\e.aB.lookup p.1=some (.box wb)/\wa.length=wb.length/\wa[p.2]?=wb[p.2]?)\/
  ∃x,e.aB.lookup p.1=some x/\x.core=(st.o p.1).core/\(st.o p.1).core≠none:=by
 unfold Ob at h;rcases QQ.1 h with h|h
 .cases hp:lX o.op with
  |true=>exact .inl rfl
  |false=>rw[hp]at h;cases h
 obtain⟨g,_,hp⟩:=YY.1 h;rcases QQ.1 hp with hp|hp
 .refine .inr (.inl ?_);cases ho:st.o g with
  |box ws=>
   cases hl:e.aB.lookup g with
   |none=>rw[ho,hl]at hp;cases hp
   |some x=>
    cases x with
    |box ws'=>
     rw[ho,hl]at hp;simp only[QB]at hp;split at hp
     .rename_i r hr;obtain⟨h1,h2⟩:=IQ hr;obtain⟨rfl,_,a3⟩:=h2 p hp;exact⟨ws,ws',ho,hl,h1,by simpa using a3⟩
     .cases hp
    |_=>rw[ho,hl]at hp;cases hp
  |_=>rw[ho]at hp;cases hp
 .refine .inr (.inr ?_);cases hop:o.op with
  |load t x=>
   rw[hop]at hp;simp only[IE,cond_true]at hp;cases ho:st.o g with
   |aF a i sz ah l hole=>
    cases hole with
    |some q=>rw[ho]at hp;revert hp;cases e.aB.lookup g with
     |none=>intro hp;cases hp
     |some y=>cases y<;>intro hp<;>cases hp
    |none=>
     cases hl:e.aB.lookup g with
     |none=>rw[ho,hl]at hp;cases hp
     |some y=>
      cases y with
      |aF a' i' sz' gJ l' fV=>rw[ho,hl]at hp;have hp:p∈[(g,5000000)]:=hp;rw[Q6]at hp;subst hp;exact⟨_,hl,by rw[ho];exact YM hc hop ho hl,by rw[ho];simp[O.core]⟩
      |_=>rw[ho,hl]at hp;cases hp
   |_=>rw[ho]at hp;cases hp
  |_=>rw[hop]at hp;cases hp
theorem YN{st:St}{e:Eff}{g:Nat}(h:g∈UD st e):∃x,e.aB.lookup g=some x/\kindOf x=kindOf (st.o g):=by
 unfold UD at h;obtain⟨g',_,hp⟩:=KS.1 h;cases hl:e.aB.lookup g' with
 |none=>rw[hl]at hp;cases hp
 |some x=>
  rw[hl]at hp;simp only at hp;cases hb:Nat.beq (kindOf x) (kindOf (st.o g'))with
  |false=>rw[hb]at hp;cases hp
  |true=>rw[hb]at hp;cases hp;exact⟨x,hl,Qf hb⟩
theorem LM{o o':Nat->O}{x:W}(h :∀g∈x.names,kindOf (o g)=kindOf (o' g)):x.live o=x.live o':=by
 cases x<;>simp only[W.live]<;>first|rfl|skip
 .rename_i g off;have:=h g (by simp[W.names]);cases h1:o g<;>cases h2:o' g<;>rw[h1,h2]at this<;>first|rfl|cases this
 .rename_i g n off;have:=h g (by simp[W.names]);cases h1:o g<;>cases h2:o' g<;>rw[h1,h2]at this<;>first|rfl|cases this
theorem QH{o o':Nat->O}{d:Nat}{F F':Operand->S}{op:Op}{ty:TypeId}(hp:lX op=true)(hF :∀x∈op.operands.toList,F x=F' x)(ho :∀x∈op.operands.toList,∀g∈(F x).names,kindOf (o g)=kindOf (o' g)):
  kernel tt d o F op ty=kernel tt d o' F' op ty:=by
 cases op<;>first|(cases hp;done)|skip
 .rename_i x;have h1:=hF x (by simp[Op.operands]);have h2:=ho x (by simp[Op.operands]);simp only[kernel,<-h1];generalize F x=z at h2;split
  .rename_i x;rw[LM (o':=o') λg hg=>h2 g (by simpa[S.names,V.names]using hg)]
  .rfl
 .rename_i t x n;have h1:=hF x (by simp[Op.operands]);have h2:=ho x (by simp[Op.operands]);simp only[kernel,<-h1];generalize F x=z at h2;split
  .rename_i x _ _;rw[LM (o':=o') λg hg=>h2 g (by simpa[S.names,V.names]using hg)]
  .rfl
theorem zU{st:St}{o:Oper}{d:Nat}(hp:lX o.op=true){K:Eff->Prop}:
  iP T tt d st o K↔(match kernel tt d st.o st.bW o.op o.type with
   |some r=>r.pre/\K { x:=r.dst r.val,aB:=r.aB r.val,new:=r.new }
   |none=>False):=by
 rw[qO (pJ (.inr hp))];unfold jP;cases hop:o.op<;>rw[hop]at hp<;>first|(cases hp;done)|skip
 all_goals
  simp only[dF,reduceCtorEq,false_and,exists_false,false_or,EI,cond_false];generalize kernel tt d st.o st.bW _ o.type=z;cases z<;>rfl
theorem YO{o:Nat->O}{F:Operand->S}{d:Nat}{op:Op}{ty:TypeId}{r:Et}(hp:lX op=true)(h:kernel tt d o F op ty=some r):r.aB r.val=[]:=by
 cases op<;>first|(cases hp;done)|skip
 all_goals
  simp only[kernel]at h;split at h
  .split at h
   .cases h;rfl
   .cases h
  .cases h
theorem BG{st:St}{o:Oper}{e:Eff}(hc:Can T tt N ops st o e)(hp:lX o.op=true):e.aB=[]:=by
 have key :∀{d:Nat},(iP T tt d st o λe'=>e'.new.all (λg=>!st.used g)=true/\e'=e)->e.aB=[]:=by
  intro d h;have h:=(zU hp).1 h;split at h
  .rename_i r hr;obtain⟨_,_,rfl⟩:=h;exact YO hp hr
  .cases h
 unfold Can stepW at hc;obtain⟨_,hc⟩:=hc;split at hc;exact key hc;split at hc
 .rename_i b _;cases b with
  |true=>exact key hc
  |false=>have hc:Eff.skip=e:=hc;rw[<-hc];rfl
 .cases hc
theorem aaM{st st':St}{o:Oper}{e:Eff}(hc:Can T tt N ops st o e)(hp:lX o.op=true)(hs :∀t∈o.looksAt ops,st.s t=st'.s t)(ho :∀x∈o.op.operands.toList,∀g∈(st.bW x).names,kindOf (st.o g)=kindOf (st'.o g))(hu :∀g∈e.new,st.used g=st'.used g):Can T tt N ops st' o e:=by
 have hx :∀x∈o.op.operands.toList,st.bW x=st'.bW x:=by
  intro x hm;cases x with
  |tmp t=>exact hs t (XS _ (KS.2 ⟨_,hm,rfl⟩))
  |_=>rfl
 have hk:kernel tt (o.dst.getD 0) st.o st.bW o.op o.type=kernel tt (o.dst.getD 0) st'.o st'.bW o.op o.type:=QH hp hx ho
 have eff:(iP T tt (o.dst.getD 0) st o λe'=>e'.new.all (λg=>!st.used g)=true/\e'=e)->(iP T tt (o.dst.getD 0) st' o λe'=>e'.new.all (λg=>!st'.used g)=true/\e'=e):=by
  intro h;have h:=(zU hp).1 h;refine(zU hp).2 ?_;rw[<-hk];split at h
  .obtain ⟨q1,q2,rfl⟩:=h;refine⟨q1,?_,rfl⟩;rw[Z1]at q2 ⊢;intro g hg;rw[<-hu g hg];exact q2 g hg
  .cases h
 unfold Can stepW at *;refine⟨hc.1,?_⟩;have hc:=hc.2;cases hg:o.guard with
 |none=>rw[hg]at hc;exact eff hc
 |some p=>
  obtain⟨j,want⟩:=p;rw[hg]at hc;simp only at hc ⊢;have:guardOf ops st j want=guardOf ops st' j want:=by
   unfold guardOf;cases hd:(ops[j]?).bind (·.dst)with
   |none=>rfl
   |some t=>simp only;rw[hs t (We _ (by simp[hg,hd]))]
  rw[<-this];split at hc
  .rename_i b hb;cases b with
   |true=>exact eff hc
   |false=>exact hc
  .cases hc
theorem aaN{st st':St}{o:Oper}{e:Eff}{g off n:Nat}(hc:Can T tt N ops st o e)(hs :∀t∈o.looksAt ops,st.s t=st'.s t){t:TypeId}{x:Operand}{i:TI}(h1:o.op=.load t x)(h2:tt t=some i)(h3:i.size=n)(h4:st.bW x=.v (.one (.box g off)))
  (H:0<n->∀ws,st.o g=.box ws->Rng ws off n (st'.o g)) (hu :∀g∈e.new,st.used g=st'.used g):Can T tt N ops st' o e:=by
 have hx:st'.bW x=.v (.one (.box g off)):=by
  rw[<-h4];cases x with
  |tmp t=>exact(hs t (XS _ (KS.2 ⟨.tmp t,by simp[h1,Op.operands],rfl⟩))).symm
  |_=>rfl
 have eff:(iP T tt (o.dst.getD 0) st o λe'=>e'.new.all (λg=>!st.used g)=true/\e'=e)->(iP T tt (o.dst.getD 0) st' o λe'=>e'.new.all (λg=>!st'.used g)=true/\e'=e):=by
  intro h;obtain⟨ws,ho,⟨q1,q2⟩,q3,rfl⟩:=(zT h1 h2 h4).1 h;obtain⟨wc,r1,r2,r3⟩:=H (by omega) ws ho;refine(zT h1 h2 hx).2 ⟨wc,r1,⟨by omega,q2⟩,rfl,?_⟩;have key:(wc.drop off).take i.size=(ws.drop off).take i.size:=by
   refine qn λk=>?_;rw[ZZ,ZZ];split
   .rw [Wb,Wb];exact r3 _ (by omega) (by omega)
   .rfl
  rw[key]
 unfold Can stepW at *;refine⟨hc.1,?_⟩;have hc:=hc.2;cases hg:o.guard with
 |none=>rw[hg]at hc;exact eff hc
 |some p=>
  obtain⟨j,want⟩:=p;rw[hg]at hc;simp only at hc ⊢;have:guardOf ops st j want=guardOf ops st' j want:=by
   unfold guardOf;cases hd:(ops[j]?).bind (·.dst)with
   |none=>rfl
   |some t=>simp only;rw[hs t (We _ (by simp[hg,hd]))]
  rw[<-this];split at hc
  .rename_i b hb;cases b with
   |true=>exact eff hc
   |false=>exact hc
  .cases hc
theorem ah7{st st':St}{o:Oper}{e:Eff}{g off:Nat}(hc:Can T tt N ops st o e)(hs :∀t∈o.looksAt ops,st.s t=st'.s t){t:TypeId}{x:Operand}{i:TI}{m:P}{a0 i0:Bool}{sz:Nat}{ah:List (Nat×Nat)}{l:List (List P)}{hole:Option (Nat×Nat×Nat)}(h1:o.op=.load t x)(h2:tt t=some i)(h4:st.bW x=.v (.one (.ep g m off)))
  (h5:st.o g=.aF a0 i0 sz ah l hole) (h6:iL ah off i.size=[]) (H:(st'.o g).core=(st.o g).core) (hu :∀g∈e.new,st.used g=st'.used g):Can T tt N ops st' o e:=by
 have hx:st'.bW x=.v (.one (.ep g m off)):=by
  rw[<-h4];cases x with
  |tmp t=>exact(hs t (XS _ (KS.2 ⟨.tmp t,by simp[h1,Op.operands],rfl⟩))).symm
  |_=>rfl
 have eff:(iP T tt (o.dst.getD 0) st o λe'=>e'.new.all (λg=>!st.used g)=true/\e'=e)->(iP T tt (o.dst.getD 0) st' o λe'=>e'.new.all (λg=>!st'.used g)=true/\e'=e):=by
  intro h;obtain⟨q1,_,rfl⟩:=(IU h1 h2 h4 h5 h6).1 h;rw[h5]at H;obtain⟨fV,h5'⟩ :∃fV,st'.o g=.aF a0 i0 sz ah l fV:=by
   cases ho:st'.o g with
   |aF a i2 sz2 akP l2 arF=>rw[ho]at H;simp only[O.core,Q0,QP]at H;obtain⟨rfl,rfl,rfl,rfl,rfl⟩:=H;exact⟨_,rfl⟩
   |_=>rw[ho]at H;cases H
  exact(IU h1 h2 hx h5' h6).2 ⟨q1,rfl,rfl⟩
 unfold Can stepW at *;refine⟨hc.1,?_⟩;have hc:=hc.2;cases hg:o.guard with
 |none=>rw[hg]at hc;exact eff hc
 |some p=>
  obtain⟨j,want⟩:=p;rw[hg]at hc;simp only at hc ⊢;have:guardOf ops st j want=guardOf ops st' j want:=by
   unfold guardOf;cases hd:(ops[j]?).bind (·.dst)with
   |none=>rfl
   |some t=>simp only;rw[hs t (We _ (by simp[hg,hd]))]
  rw[<-this];split at hc
  .rename_i b hb;cases b with
   |true=>exact eff hc
   |false=>exact hc
  .cases hc
theorem YP(hT :∀f sp,T f=some sp->Sound Pg (f % 1000000) sp)(htt:iC Pg tt){es:Nat->Eff}{fs:List rZ}(hfree:Wn ops fs=true)
  (hcan :∀i,i<ops.size->∃o,ops[i]?=some o/\Can T tt N ops (SD ops es st (λ_=>true) i) o (es i)/\fs[i]?=some { rd:=rY T (SD ops es st (λ_=>true) i) o,wr:=(es i).aB.map (·.1),new:=(es i).new,ld:=KL tt (SD ops es st (λ_=>true) i) o,kp:=Ob (SD ops es st (λ_=>true) i) o (es i),pk:=lX o.op,kd:=UD (SD ops es st (λ_=>true) i) (es i) })
  (hQ :∀a' w',Good E N bC wR (SD ops es st (λ_=>true) ops.size) a' w'->Q .normal a' w') :
  ∀(fuel:Nat) (listed:Array Bool) (a:Act) (w:World),listed.size=ops.size->Down ops (λk=>listed.getD k false)->(List.range ops.size).countP (λk=>!listed.getD k false)<=fuel->
   Good E N bC wR (SD ops es st (λk=>listed.getD k false) ops.size) a w->wpAny Pg .any ops Q fuel listed a w:=by
 have hf :∀j,j<ops.size->(nP ops.toList []).getD j 0<2 ^ j/\∀i,i<j->((nP ops.toList []).getD j 0).testBit i=true\/∃x y fx fy,ops[i]?=some x/\ops[j]?=some y/\fs[i]?=some fx/\fs[j]?=some fy/\Apart ops x y fx fy:=by
  intro j hj;have:=(Z1.1 hfree) j (V0.2 hj);simp only[X1,XX,Z1,V0,K3]at this;refine⟨this.1,λi hi=>?_⟩;rcases this.2 i hi with h|h;exact .inl h;right;split at h
  .rename_i x y fx fy h1 h2 h3 h4;exact⟨x,y,fx,fy,h1,h2,h3,h4,UE h⟩
  .cases h
 have done :∀(listed:Array Bool),listed.size=ops.size->Down ops (λk=>listed.getD k false)->Region.ready .any ops listed=[]->∀k,k<ops.size->listed.getD k false=true:=by
  intro listed hsz hD hr k
  induction k using Nat.strongRecOn with
  |_ k ih=>
   intro hk;obtain⟨o,ho,_,_⟩:=hcan k hk;by_cases hl:listed.getD k false=true;exact hl;exfalso;have:k∈Region.ready .any ops listed:=mem_ready.2 ⟨by
    have hl:listed.getD k false=false:=by simpa using hl
    rw[Wo]at hl ⊢;rw[qr (by omega)]at hl ⊢;exact hl,o,ho,λe he hb=>ih e.on (QC ho (hf k hk).1 he hb) (by have:=QC ho (hf k hk).1 he hb;omega)⟩
   rw[hr]at this;cases this
 have final :∀(listed:Array Bool) (a:Act) (w:World),listed.size=ops.size->Down ops (λk=>listed.getD k false)->Region.ready .any ops listed=[]->Good E N bC wR (SD ops es st (λk=>listed.getD k false) ops.size) a w->Q .normal a w:=by intro listed a w hsz hD hr hg;have h:=done listed hsz hD hr;rw[Dx (D':=λ_=>true) λk hk=>h k hk]at hg;exact hQ a w hg
 intro fuel
 induction fuel with
 |zero=>
  intro listed a w hsz hD hcnt hg;have hr:Region.ready .any ops listed=[]:=by
   cases hr:Region.ready .any ops listed with
   |nil=>rfl
   |cons k ks=>
    exfalso;have hk:k∈Region.ready .any ops listed:=by rw[hr];simp
    obtain⟨h1,o,ho,_⟩:=mem_ready.1 hk;have hlt:=(VC.1 ho).1;have:0<(List.range ops.size).countP (λk=>!listed.getD k false):=by rw[List.countP_pos_iff];refine⟨k,V0.2 hlt,?_⟩;rw[Wo]at h1 ⊢;rw[qr (by omega)]at h1 ⊢;simpa using h1
    omega
  exact⟨hr,final listed a w hsz hD hr hg⟩
 |succ fuel ih=>
  intro listed a w hsz hD hcnt hg;refine⟨λhr=>final listed a w hsz hD hr hg,λi hi=>?_⟩;obtain⟨hni,oi,hoi,hpre⟩:=mem_ready.1 hi;have hlt:i<ops.size:=(VC.1 hoi).1;have hDi:listed.getD i false=false:=by rw[Wo]at hni ⊢;rw[qr (by omega)]at hni ⊢;exact hni
  obtain⟨o,ho,hc,hfi⟩:=hcan i hlt;rw[hoi]at ho;cases ho;have hset :∀k,(listed.setIfInBounds i true).getD k false=if k=i then true else listed.getD k false:=by
   intro k;by_cases e:k=i
   .subst e;rw[Qt rfl,Wo,Array.getElem?_setIfInBounds_self];simp[show k<listed.size by omega]
   .rw [QR e,Wo,Array.getElem?_setIfInBounds_ne (Ne.symm e),<-Wo]
  have hD':Down ops (λk=>(listed.setIfInBounds i true).getD k false):=by
   intro j o' ho' hj e he hb;simp only[hset]at hj ⊢;by_cases ej:j=i
   .subst ej;rw[hoi]at ho';cases ho';have:=hpre e he hb;rw[this];simp
   .rw [QR ej]at hj;have:=hD j o' ho' hj e he hb;simp only at this;rw[this];simp
  have hap :∀k,k<ops.size->k≠i->((k<i/\listed.getD k false=false)\/(i<k/\listed.getD k false=true))->∃y fy,ops[k]?=some y/\fs[k]?=some fy/\
    (∀t,y.dst=some t->t∉oi.looksAt ops)/\(∀t,oi.dst=some t->y.dst≠some t)/\((∀g∈fy.wr,g∉rY T (SD ops es st (λ_=>true) i) oi)\/∃fi,fs[i]?=some fi/\ET fy fi=true)/\(∀g∈fy.wr,g∉(es i).aB.map (·.1))/\(∀g∈fy.new,g∉(es i).new)/\fy.wr=(es k).aB.map (·.1)/\fy.new=(es k).new:=by
   intro k hk hne hcase;obtain⟨y0,hy0,_,hfk⟩:=hcan k hk;rcases hcase with⟨hlt',hfalse⟩|⟨hlt',akQ⟩
   .rcases (hf i hlt).2 k hlt' with hb|⟨x,y,fx,fy,h1,h2,h3,h4,ap⟩
    .have:=xH hD' i hoi (by simp[hset]) k hb;simp only[hset,QR hne]at this;rw[hfalse]at this;cases this
    .rw [hoi]at h2;cases h2;rw[hfi]at h4;cases h4;rw[hfk]at h3;cases h3;exact⟨x,_,h1,hfk,ap.dy,λt e e'=>ap.dd t e' e,ap.wr.imp id (λh=>⟨_,hfi,h⟩),ap.ww,ap.nn,rfl,rfl⟩
   .rcases (hf k hk).2 i hlt' with hb|⟨x,y,fx,fy,h1,h2,h3,h4,ap⟩
    .have:=xH hD k hy0 akQ i hb;rw[hDi]at this;cases this
    .rw [hoi]at h1;cases h1;rw[hfi]at h3;cases h3;rw[hfk]at h4;cases h4;exact⟨y,_,h2,hfk,ap.dx,ap.dd,ap.rw.imp id (λh=>⟨_,hfi,h⟩),λg hg hg'=>ap.ww g hg' hg,λg hg hg'=>ap.nn g hg' hg,rfl,rfl⟩
  have Oe:SD ops es st (λ_=>true) i=SD ops es st (λk=>decide (k<i)) ops.size:=by
   have :∀m,i+m<=ops.size->SD ops es st (λk=>decide (k<i)) (i+m)=SD ops es st (λ_=>true) i:=by
    intro m
    induction m with
    |zero=>intro _;exact Dx λk hk=>by simp[show k<i by omega]
    |succ m ih=>intro hm;rw[<-JP];simp only[SD,show ¬ (i+m<i) by omega,decide_false,Wa,if_false];exact ih (by omega)
   have:=this (ops.size-i) (by omega);rw[show i+(ops.size-i)=ops.size by omega]at this;exact this.symm
  have hdiff :∀k,k<ops.size->decide (k<i)≠listed.getD k false->k≠i/\((k<i/\listed.getD k false=false)\/(i<k/\listed.getD k false=true)):=by
   intro k hk hne;by_cases e:k=i
   .subst e;rw[hDi]at hne;simp at hne
   .refine ⟨e,?_⟩;by_cases hki:k<i
    .exact .inl ⟨hki,by simpa[hki]using hne⟩
    .refine .inr ⟨by omega,?_⟩;cases hl:listed.getD k false with
     |true=>rfl
     |false=>rw[hl]at hne;simp[hki]at hne
  have hdst :∀(k:Nat) (y:Oper),ops[k]?=some y->(ops[k]?).bind (·.dst)=y.dst:=λk y h=>by rw[h];rfl
  have hc':Can T tt N ops (SD ops es st (λk=>listed.getD k false) ops.size) oi (es i):=by
   have qj :∀t∈oi.looksAt ops,(SD ops es st (λ_=>true) i).s t=(SD ops es st (λk=>listed.getD k false) ops.size).s t:=λt ht=>by rw[Oe];refine ah5 λk hk hne=>?_;obtain⟨h1,h2⟩:=hdiff k hk hne;obtain⟨y,fy,h3,_,h4,_⟩:=hap k hk h1 h2;rw[hdst k y h3];exact λe=>h4 t e ht
   have KY :∀g∈(es i).new,(SD ops es st (λ_=>true) i).used g=(SD ops es st (λk=>listed.getD k false) ops.size).used g:=λg hg=>by rw[Oe];refine Oc λk hk hne=>?_;obtain⟨h1,h2⟩:=hdiff k hk hne;obtain⟨y,fy,h3,_,_,_,_,_,h4,_,h5⟩:=hap k hk h1 h2;rw[<-h5];exact λe=>h4 g e hg
   have travel :∀(g:Nat) (Pr:O->Prop),g∉(es i).aB.map (·.1)->(∀k,k<ops.size->k≠i->((k<i/\listed.getD k false=false)\/(i<k/\listed.getD k false=true))->g∈(es k).aB.map (·.1)->
     (Pr ((SD ops es st (λ_=>true) k).o g)↔Pr ((SD ops es st (λ_=>true) (k+1)).o g)))->Pr ((SD ops es st (λ_=>true) i).o g)->Pr ((SD ops es st (λk=>listed.getD k false) ops.size).o g):=by
    intro g Pr hgi hkeep hP0;have hstep :∀k,k<ops.size->(g∈(es k).aB.map (·.1)->(Pr ((SD ops es st (λ_=>true) k).o g)↔Pr ((SD ops es st (λ_=>true) (k+1)).o g)))->
      (Pr ((SD ops es st (λ_=>true) k).o g)↔Pr ((SD ops es st (λ_=>true) (k+1)).o g)):=by
     intro k hk hw;by_cases hg:g∈(es k).aB.map (·.1);exact hw hg;have:(SD ops es st (λ_=>true) (k+1)).o g=(SD ops es st (λ_=>true) k).o g:=by simp only[SD,if_true,xE,jF hg]
     rw[this]
    obtain⟨m',hm',hlast,hafter⟩:=QF (ops:=ops) (es:=es) (st:=st) (D:=λk=>listed.getD k false) (g:=g) ops.size;rw[hlast];rcases Nat.lt_or_ge i m' with him|him
    .-- forward
     have :∀d,i+d<=m'->Pr ((SD ops es st (λ_=>true) (i+d)).o g):=by
      intro d
      induction d with
      |zero=>intro _;exact hP0
      |succ d ihd=>
       intro hd;have hk:i+d<ops.size:=by rcases hafter with e|⟨k1,e,h2,_⟩<;>omega
       rw[<-JP];refine(hstep (i+d) hk (λhg=>?_)).1 (ihd (by omega));by_cases e0:d=0
       .exfalso;subst e0;exact hgi hg
       .have hin:listed.getD (i+d) false=true:=by
         rcases hafter with e|⟨k1,rfl,akR,hk1,hg1⟩;omega;by_cases e1:i+d=k1
         .rw [e1];exact hk1
         .obtain ⟨y1,hy1,_,hf1⟩:=hcan k1 akR;rcases (hf k1 akR).2 (i+d) (by omega)with hb|⟨x2,y2,fx,fy,h1,h2,h3,h4,ap⟩;exact xH hD k1 hy1 hk1 _ hb;exfalso;obtain⟨y0,_,_,hfk⟩:=hcan (i+d) hk;rw[hfk]at h3;cases h3;rw[hf1]at h4;cases h4;exact ap.ww g hg hg1
        exact hkeep (i+d) hk (by omega) (.inr ⟨by omega,hin⟩) hg
     have:=this (m'-i) (by omega)
     rwa [show i+(m'-i)=m' by omega]at this
    .-- backward
     have :∀d,d<=i-m'->Pr ((SD ops es st (λ_=>true) (i-d)).o g):=by
      intro d
      induction d with
      |zero=>intro _;exact hP0
      |succ d ihd=>
       intro hd;have hk:i-(d+1)<ops.size:=by omega
       have e1:i-(d+1)+1=i-d:=by omega
       refine(hstep (i-(d+1)) hk (λhg=>?_)).2 (by rw[e1];exact ihd (by omega));have hout:listed.getD (i-(d+1)) false=false:=by
        cases hl:listed.getD (i-(d+1)) false with
        |false=>rfl
        |true=>exact absurd hg (hm' (i-(d+1)) (by omega) hk hl)
       exact hkeep (i-(d+1)) hk (by omega) (.inl ⟨by omega,hout⟩) hg
     have:=this (i-m') (ZD _)
     rwa [show i-(i-m')=m' by omega]at this
   cases hld:KL tt (SD ops es st (λ_=>true) i) oi with
   |none=>
    by_cases hpk:lX oi.op=true
    .refine aaM hc hpk qj (λx0 hx0 g hg=>?_) KY;have hgf:g∈rY T (SD ops es st (λ_=>true) i) oi:=by
      have hl:looks oi.op=true:=by cases hop:oi.op<;>rw[hop]at hpk<;>first|rfl|cases hpk
      refine XS _ ?_;rw[pJ (.inr hpk)];exact XS _ (by rw[hl];exact YY.2 ⟨x0,hx0,YY.2 ⟨g,hg,by simp⟩⟩)
     have aoy:(g,0)∈Ob (SD ops es st (λ_=>true) i) oi (es i):=XS _ (by rw[hpk];exact XN.2 ⟨g,YY.2 ⟨x0,hx0,hg⟩,rfl⟩);refine(travel g (λx=>kindOf ((SD ops es st (λ_=>true) i).o g)=kindOf x) (by rw[BG hc hpk];simp) (λk hk hne hcase hgk=>?_) rfl);obtain⟨y,fy,h3,hfk,_,_,h4,_,_,h5,_⟩:=hap k hk hne hcase;rcases h4 with h4|⟨fi,QI,hs⟩
     .exfalso;rw[<-h5]at hgk;exact h4 g hgk hgf
     .rw [hfi]at QI;cases QI;simp only[ET,hld,hpk,Kd,Z1,K3,WD,WP,XX,decide_eq_false_iff_not]at hs;rw[h5]at hs;rcases hs (g,0) aoy with hs|hs;exact absurd hgk hs;obtain⟨o',ho',_,aaO⟩:=hcan k hk;rw[hfk]at aaO;cases aaO;obtain⟨x,q1,q2⟩:=YN hs;have:(SD ops es st (λ_=>true) (k+1)).o g=x:=by simp only[SD,if_true,xE,q1]
      rw[this,q2]
    .refine YK hc qj (λg hg=>?_) KY;rw[Oe]at hg ⊢;refine ah6 λk hk hne=>?_;obtain⟨h1,h2⟩:=hdiff k hk hne;obtain⟨y,fy,h3,_,_,_,h4,_,_,h5,_⟩:=hap k hk h1 h2;rw[<-h5];rcases h4 with h4|⟨fi,QI,hs⟩
     .rw [Oe]at h4;exact λe=>h4 g e hg
     .rw [hfi]at QI;cases QI;simp only[ET,hld,hpk,Bool.false_and]at hs;cases hs
   |some q=>
    obtain⟨g,off,n⟩:=q;have ag3 :∀k,k<ops.size->k≠i->((k<i/\listed.getD k false=false)\/(i<k/\listed.getD k false=true))->g∈(es k).aB.map (·.1)->∃o',Can T tt N ops (SD ops es st (λ_=>true) k) o' (es k)/\
      ∀off',off<=off'->off'<off+n->(g,off')∈Ob (SD ops es st (λ_=>true) k) o' (es k):=by
     intro k hk hne hcase hg;obtain⟨y,fy,h3,hfk,_,_,h4,_,_,h5,_⟩:=hap k hk hne hcase;rcases h4 with h4|⟨fi,QI,hs⟩
     .exfalso;rw[<-h5]at hg;exact h4 g hg (YL hld)
     .rw [hfi]at QI;cases QI;simp only[ET,hld,Z1,V0]at hs;obtain⟨o',ho',hck,aaO⟩:=hcan k hk;rw[hfk]at aaO;cases aaO;refine⟨o',hck,λoff' h1' h2'=>?_⟩;obtain⟨p,hp,he⟩:=vj.1 (hs (off'-off) (by omega));simp only[X1]at he;have e1:=Qf he.1;have e2:=Qf he.2;have:p=(g,off'):=Prod.ext e1 (by simp only;omega)
      rwa [this]at hp
    have Qg :∀{k x},(es k).aB.lookup g=some x->(SD ops es st (λ_=>true) (k+1)).o g=x:=λh=>by simp only[SD,if_true,xE,h]
    rcases zS hld with⟨t,x,ti,h1,h2,h3,h4⟩|⟨⟨rfl,rfl⟩,t,x,ti,m,off',a0,i0,sz,ah,l,hole,h1,h2,h4,h5,h6⟩
    .refine aaN hc qj h1 h2 h3 h4 (λhn ws hws=>?_) KY;refine travel g (Rng ws off n) (by rw[QG hc hld];simp) (λk hk hne hcase hg=>?_) ⟨ws,hws,rfl,λ_ _ _=>rfl⟩;obtain⟨o',hck,hs⟩:=ag3 k hk hne hcase hg;have ag4 :∀{y:O},y.core≠none->¬ Rng ws off n y:=λhy ⟨wc,e,_⟩=>by subst e;exact hy rfl
     rcases Dy hck (hs off (ZD _) (by omega))with hp|⟨wa,wb,q1,q2,q3,_⟩|⟨y,q1,q2,q3⟩
     .rw [BG hck hp]at hg;cases hg
     .simp only at q1 q2;rw[Qg q2,q1];have hall :∀off',off<=off'->off'<off+n->wa[off']?=wb[off']?:=λoff' a1 a2=>by
       rcases Dy hck (hs off' a1 a2)with hp|⟨wa',wb',r1,r2,_,r4⟩|⟨y,r1,r2,r3⟩
       .rw [BG hck hp]at hg;cases hg
       .simp only at r1 r2;rw[q1]at r1;rw[q2]at r2;cases r1;cases r2;exact r4
       .simp only at r3;rw[q1]at r3;exact absurd rfl r3
      constructor
      .rintro ⟨wc,hc,hl,hr⟩;cases hc;exact⟨wb,rfl,by omega,λoff' a1 a2=>by rw[<-hall off' a1 a2];exact hr off' a1 a2⟩
      .rintro ⟨wc,hc,hl,hr⟩;cases hc;exact⟨wa,rfl,by omega,λoff' a1 a2=>by rw[hall off' a1 a2];exact hr off' a1 a2⟩
     .simp only at q1 q2 q3;rw[Qg q1];exact⟨λh=>absurd h (ag4 q3),λh=>absurd h (ag4 (by rw[q2];exact q3))⟩
    .refine ah7 hc qj h1 h2 h4 h5 h6 ?_ KY;refine travel g (λy=>y.core=((SD ops es st (λ_=>true) i).o g).core) (by rw[QG hc hld];simp) (λk hk hne hcase hg=>?_) rfl;obtain⟨o',hck,hs⟩:=ag3 k hk hne hcase hg;rcases Dy hck (hs _ (ZD _) (by omega))with hp|⟨wa,wb,q1,q2,q3,_⟩|⟨y,q1,q2,q3⟩
     .rw [BG hck hp]at hg;cases hg
     .simp only at q1 q2;rw[Qg q2,q1];exact⟨λh=>h,λh=>h⟩
     .simp only at q1 q2;rw[Qg q1,q2]
  have hins:SD ops es st (λk=>(listed.setIfInBounds i true).getD k false) ops.size=(SD ops es st (λk=>listed.getD k false) ops.size).eff oi.dst (es i):=by
   have hDs :∀k,(λk=>(listed.setIfInBounds i true).getD k false) k=if k=i then true else listed.getD k false:=hset
   have hne :∀k,(λk=>(listed.setIfInBounds i true).getD k false) k≠(λk=>listed.getD k false) k->k=i:=by intro k h;simp only[hset]at h;by_cases e:k=i;exact e;rw[QR e]at h;exact absurd rfl h
   have aaP :∀k,i<k->k<ops.size->(λk=>(listed.setIfInBounds i true).getD k false) k=true->listed.getD k false=true:=by intro k h1 h2 h3;simp only[hset,QR (show k≠i by omega)]at h3;exact h3
   refine St.ext' (λt=>?_) (λg=>?_) (λg=>?_)
   .rw [LG];by_cases hd:oi.dst=some t
    .rw [Qt hd];refine LH (by simp[hset]) ((hdst i oi hoi).trans hd) hlt λk h1 h2 h3=>?_;obtain⟨y,fy,q1,_,_,q2,_⟩:=hap k h2 (by omega) (.inr ⟨h1,aaP k h1 h2 h3⟩);rw[hdst k y q1];exact q2 t hd
    .rw [QR hd];refine ah5 λk hk hk'=>?_;rw[hne k hk',hdst i oi hoi];exact hd
   .rw [xE];cases hu:(es i).aB.lookup g with
    |some x=>refine LJ (by simp[hset]) hu hlt λk h1 h2 h3=>?_;obtain⟨y,fy,q1,_,_,_,_,q2,_,q3,_⟩:=hap k h2 (by omega) (.inr ⟨h1,aaP k h1 h2 h3⟩);rw[<-q3];exact λe=>q2 g e (XN.2 ⟨(g,x),jk hu,rfl⟩)
    |none=>
     refine ah6 λk hk hk'=>?_;rw[hne k hk'];intro hm;obtain⟨p,hp,rfl⟩:=XN.1 hm;have :∀{l:List (Nat×O)},p∈l->l.lookup p.1≠none:=by
      intro l
      induction l with
      |nil=>intro h;cases h
      |cons q l ih=>
       intro h hn;simp only[List.lookup]at hn;split at hn;cases hn;rename_i hb;rcases Xs.1 h with h|h
       .subst h;simp at hb
       .exact ih h hn
     exact this hp hu
   .rw [sW];by_cases hn:g∈(es i).new
    .rw [EU (by simp[hset]) hn hlt];simp[hn]
    .have:(es i).new.contains g=false:=by simpa using hn
     rw[this,K2];refine Oc λk hk hk'=>?_;rw[hne k hk'];exact hn
  refine Iy hT htt hoi hg hc' λa' w' hg'=>ih _ a' w' (by simp[hsz]) hD' ?_ (by rw[hins];exact hg');have hlt2:(List.range ops.size).countP (λk=>!(listed.setIfInBounds i true).getD k false)<(List.range ops.size).countP (λk=>!listed.getD k false):=by
   have gen :∀l:List Nat,i∈l->l.countP (λk=>!(listed.setIfInBounds i true).getD k false)<l.countP (λk=>!listed.getD k false):=by
    intro l;have hle :∀l:List Nat,l.countP (λk=>!(listed.setIfInBounds i true).getD k false)<=l.countP (λk=>!listed.getD k false):=λl=>List.countP_mono_left λk _ h=>by
     simp only[hset]at h;by_cases e:k=i
     .simp [e]at h
     .simpa [e]using h
    induction l with
    |nil=>intro h;cases h
    |cons k l ihl=>
     intro h;simp only[List.countP_cons];by_cases e:k=i
     .subst e;have h1:(!(listed.setIfInBounds k true).getD k false)=false:=by simp[hset]
      have h2:(!listed.getD k false)=true:=by simp[hDi]
      rw[h1,h2];exact Nat.lt_succ_of_le (hle l)
     .have:=ihl (by rcases Xs.1 h with h|h;exact absurd h.symm e;exact h);have e1:(!(listed.setIfInBounds i true).getD k false)=(!listed.getD k false):=by rw[hset,QR e]
      rw[e1];omega
   exact gen _ (V0.2 hlt)
  omega
theorem UF(hT :∀f sp,T f=some sp->Sound Pg (f % 1000000) sp)(htt:iC Pg tt){draw:Bool}{K:St->Prop}(h:qU T tt N ops draw st K)(hg:Good E N bC wR st a w)
  (hK :∀st' a' w',K st'->Good E N bC wR st' a' w'->Q .normal a' w'):(draw=false/\wpOps Pg ops Q (List.range ops.size) a w)\/(draw=true/\wpAny Pg .any ops Q ops.size (Array.replicate ops.size false) a { w with drawn:=w.drawn+1 }):=by
 cases draw with
 |false=>exact .inl ⟨rfl,BF hT htt hK _ h hg⟩
 |true=>
  have h:oh T tt N ops (List.range ops.size) st [] (λst' fs=>Wn ops fs=true/\K st'):=h;rw[vi]at h;obtain⟨es,fs,_,_,⟨h1,h2⟩,h3⟩:=EW (st:=st) ops.size 0 (λ_=>Eff.skip) [] rfl h;rw[V1]at h2;refine .inr ⟨rfl,?_⟩;refine YP hT htt h1 (λi hi=>h3 i (by omega) (by omega)) (λa' w' hg'=>hK _ a' w' h2 hg') ops.size _ a _ (by simp) ?_ ?_ ?_
  .intro j o _ hj;simp only[Wo]at hj;rw[vL]at hj;split at hj<;>cases hj
  .refine J0 List.countP_le_length ?_;simp
  .obtain ⟨⟨gh,hR,Kt⟩,hsz,hdf⟩:=hg;have e:SD ops es st (λk=>(Array.replicate ops.size false).getD k false) ops.size=st:=by
    have :∀n,SD ops es st (λk=>(Array.replicate ops.size false).getD k false) n=st:=by
     intro n
     induction n with
     |zero=>rfl
     |succ n ih=>
      have:(Array.replicate ops.size false).getD n false=false:=by rw[Wo,vL];split<;>rfl
      simp only[SD,this,Wa,if_false];exact ih
    exact this _
   rw[e];exact⟨⟨gh,hR.drew _,Kt⟩,hsz,hdf⟩
theorem Og(hT :∀f sp,T f=some sp->Sound Pg (f % 1000000) sp)(htt:iC Pg tt)(hm:Pg.follows .mixedOrders=true){id:Nat}{draw:Bool}{K:St->Prop}(h:qU T tt N ops draw st K)(hg:Good E N bC wR st a w)
  (hK :∀st' a' w',K st'->Good E N bC wR st' a' w'->Q .normal a' w'):(Code.region id ops draw).wp Pg Q a w:=by
 rcases UF hT htt h hg hK with⟨e,h2⟩|⟨e,h2⟩
 .rw [e];exact wp_region h2
 .rw [e];exact wp_region_any hm h2
end
end Go.Fw

namespace Go.Fw
variable [dV]
def Wq(gs:List Nat)(o:Nat->O):W->W
 |.own g=>if gs.contains g=true then match plainO o g with
  |some (a,i,sz,l)=>.p a i (P.fG sz l)
  |none=>.own g
  else .own g
 |.vw g lo hi=>if gs.contains g=true then match plainO o g with
  |some (a,i,sz,l)=>.p a i (P.fG sz ((l.take hi.nat).drop lo.nat))
  |none=>.vw g lo hi
  else .vw g lo hi
 |x=>x
def plV(gs:List Nat)(o:Nat->O):V->V
 |.one x=>.one (Wq gs o x)
 |.agg xs=>.agg (xs.map (Wq gs o))
def plS(gs:List Nat)(o:Nat->O):S->S
 |.v x=>.v (plV gs o x)
 |.lq xs=>.lq (xs.map (plV gs o))
 |.no=>.no
def Z7(gs:List Nat)(o:Nat->O)(g:Nat):O:=match o g with
 |.box ws=>.box (ws.map (Wq gs o))
 |x=>if gs.contains g=true then(Fw.aN o g).2 else x
def dX(gs:List Nat)(st:St):St:={ s:=λt=>plS gs st.o (st.s t),o:=λg=>Z7 gs st.o g,used:=st.used }
def aey(o:Nat->O)(gs:List Nat):Bool:=gs.all λg=>(plainO o g).isSome&&(o g).names.all λd=>gs.contains d
theorem YQ{o:Nat->O}{gs:List Nat}(h:aey o gs=true):wU o gs:=λg hg=>by have:=(Z1.1 h) g hg;simp only[X1,Z1,WP,XX]at this;exact this
section
variable {E:Env} {st:St} {gh:Nat->Gh} {w:World} {val:Nat->Value}
theorem Dz{gs:List Nat}{o:Nat->O}{x:W}{g:Nat}(h:g∈(Wq gs o x).names):g∈x.names:=by
 unfold Wq at h;split at h
 .split at h
  .split at h
   .simp [W.names]at h
   .exact h
  .exact h
 .split at h
  .split at h
   .simp [W.names]at h
   .exact h
  .exact h
 .exact h
theorem LP{gs:List Nat}{o:Nat->O}{x:V}{g:Nat}(h:g∈(plV gs o x).names):g∈x.names:=by
 cases x with
 |one x=>exact Dz h
 |agg xs=>simp only[plV,V.names,YY,XN]at h ⊢;obtain⟨_,⟨x,hx,rfl⟩,hg⟩:=h;exact⟨x,hx,Dz hg⟩
theorem YR{gs:List Nat}{o:Nat->O}{x:S}{g:Nat}(h:g∈(plS gs o x).names):g∈x.names:=by
 cases x with
 |v x=>exact LP h
 |lq xs=>simp only[plS,S.names,YY,XN]at h ⊢;obtain⟨_,⟨x,hx,rfl⟩,hg⟩:=h;exact⟨x,hx,LP hg⟩
 |no=>exact h
theorem IV(gs:List Nat)(st:St)(g:Nat):((dX gs st).o g=(st.aB (gs.map (Fw.aN st.o)) []).o g/\∀ws,st.o g≠.box ws)\/
  ∃ws,st.o g=.box ws/\(st.aB (gs.map (Fw.aN st.o)) []).o g=.box ws/\(dX gs st).o g=.box (ws.map (Wq gs st.o)):=by
 rw[fJ];cases ho:st.o g with
 |box ws=>
  refine .inr ⟨ws,rfl,?_,by simp only[dX,Z7,ho]⟩;split
  .simp [Fw.aN,plainO,ho]
  .rfl
 |_=>refine .inl ⟨?_,λws e=>by cases e⟩;simp only[dX,Z7,ho];simp only[WP,XX]
theorem zk{gs:List Nat}{st:St}{g:Nat}(h:st.o g=.none):(dX gs st).o g=.none:=by
 simp only[dX,Z7,h];split
 .simp [Fw.aN,plainO,h]
 .rfl
theorem Rel.plain(h:Rel E st gh val w)(gs:List Nat)(hgs:wU st.o gs):Rel E (dX gs st) gh val w:=by
 have h1:=(h.freezes gs hgs).1;have hss:(st.aB (gs.map (Fw.aN st.o)) []).s=st.s:=rfl;have hun :∀g,(st.aB (gs.map (Fw.aN st.o)) []).used g=st.used g:=λg=>by simp[St.aB]
 have key:=IV gs st;have hfr:=λg=>fJ (st:=st) gs g;generalize hst1:st.aB (gs.map (Fw.aN st.o)) []=st1 at h1 hss hun key hfr;have own :∀g,((dX gs st).o g).bJ=(st1.o g).bJ:=λg=>by
  rcases key g with⟨e,_⟩|⟨ws,_,e1,e2⟩
  .rw [e]
  .rw [e1,e2];rfl
 have dim :∀g,((dX gs st).o g).dim=(st1.o g).dim:=λg=>by
  rcases key g with⟨e,_⟩|⟨ws,_,e1,e2⟩
  .rw [e]
  .rw [e1,e2];rfl
 have inner :∀g,((dX gs st).o g).inner=(st1.o g).inner:=λg=>by
  rcases key g with⟨e,_⟩|⟨ws,_,e1,e2⟩
  .rw [e]
  .rw [e1,e2];rfl
 have isd :∀g,((dX gs st).o g).nH=(st1.o g).nH:=λg=>by
  rcases key g with⟨e,_⟩|⟨ws,_,e1,e2⟩
  .rw [e]
  .rw [e1,e2];rfl
 have aoz :∀g ws,(dX gs st).o g=.box ws->∃ws',st1.o g=.box ws':=λg ws hg=>by
  rcases key g with⟨e,_⟩|⟨ws',_,e1,e2⟩
  .rw [e]at hg;exact⟨ws,hg⟩
  .exact ⟨ws',e1⟩
 have oit :∀g s n,(dX gs st).o g=.it s n->st1.o g=.it s n:=λg s n hg=>by
  rcases key g with⟨e,_⟩|⟨ws',_,e1,e2⟩
  .rw [e]at hg;exact hg
  .rw [e2]at hg;cases hg
 have hok:E.ok (dX gs st) gh w=E.ok st1 gh w:=by funext a i b;simp only[Env.ok,own]
 have hp :∀{g a i sz l},gs.contains g=true->plainO st.o g=some (a,i,sz,l)->st1.o g=.arr true a i sz l:=λ{g a i sz l} hc hpl=>by rw[hfr,Qt (by simpa using hc),lY hpl]
 have same :∀{x:W} {v:Value},eH E st1 gh w x v->eH E (dX gs st) gh w x v:=by
  intro x v r
  induction r with
  |p a i x v hx=>exact .p a i x v (by rw[hok];exact hx)
  |b_=>exact .b_
  |own g v hv hx=>exact .own g v hv λsz len hg=>hx sz len (by rw[<-dim];exact hg)
  |vw g lo hi v hv hx=>exact .vw g lo hi v hv λsz len hg=>hx sz len (by rw[<-dim];exact hg)
  |box g off v hv hx=>exact .box g off v hv λws hg=>by obtain⟨ws',e⟩:=aoz g ws hg;exact hx ws' e
  |ep g n off v hv hx=>exact .ep g n off v hv λsz len hg=>hx sz len (by rw[<-dim];exact hg)
  |sp a i row off b o hb hx=>exact .sp a i row off b o (by rw[hok];exact hb) (by rw[hok];exact hx)
  |gl g=>exact .gl g
  |mO g v hv hx=>exact .mO g v hv λs n hg=>hx s n (oit g s n hg)
  |gd b x v hx ih=>exact .gd b x v ih
  |clo f caps vs hl hx ih=>exact .clo f caps vs hl ih
  |no v=>exact .no v
 have ag5 :∀{a i:Bool} {sz:Nat} {l:List (List P)} {G:Gh},iw E st1 gh w a i sz l G->iw E (dX gs st) gh w a i sz l G:=by intro a i sz l G r;simpa only[iw,hok]using r
 have wd :∀{x:W} {v:Value},eH E st1 gh w x v->eH E (dX gs st) gh w (Wq gs st.o x) v:=by
  intro x v r;unfold Wq;split
  .rename_i g;split
   rotate_left
   exact same r;rename_i hc;split
   rotate_left
   exact same r;rename_i a i sz l hpl;have ho1:=hp hc hpl;cases r with
   |own _ _ hv hx=>have hv:=hx _ _ (O.jM ho1);have hO:=h1.aW g;rw[ho1]at hO;rw[hv];exact .p a i _ _ (by rw[hok];exact bU.fG hO)
  .rename_i g lo hi;split
   rotate_left
   exact same r;rename_i hc;split
   rotate_left
   exact same r;rename_i a i sz l hpl;have ho1:=hp hc hpl;cases r with
   |vw _ _ _ _ hv hx=>
    obtain⟨n,m,c,rfl,rfl,q1,q2,qc,he⟩:=hx _ _ (O.jM ho1);have hO:=h1.aW g;rw[ho1]at hO;rw[he];have e1:(P.int .i64 (n:Int)).nat=n:=by simp[P.nat,P.num]
    have e2:(P.int .i64 (m:Int)).nat=m:=by simp[P.nat,P.num]
    rw[e1,e2];exact .p a i _ _ (by rw[hok];exact bU.fG ((bU.sub hO q1 q2).agS (by simp;omega)))
  .exact same r
 have wV :∀{x:V} {v:Value},qH E st1 gh w x v->qH E (dX gs st) gh w (plV gs st.o x) v:=by
  intro x v r;cases r with
  |one x v r=>exact .one _ _ (wd r)
  |agg xs cs hl hv hr=>refine .agg _ cs (by simpa using hl) hv λj x v hx hv=>?_;simp only[Z3,W7]at hx;obtain⟨y,hy,rfl⟩:=hx;exact wd (hr j y v hy hv)
 refine⟨λt=>?_,λg=>?_,?_,?_,?_,?_,h1.wb,h1.frame,h1.size,h1.os,h1.tape,h1.output,?_,?_,?_⟩
 .have hs:=h1.slots t;rw[hss]at hs;show dn E _ gh w (plS gs st.o (st.s t)) (val t);cases hs':st.s t with
  |v x=>rw[hs']at hs;cases hs with|v _ _ r=>exact .v _ _ (wV r)
  |lq xs=>
   rw[hs']at hs;generalize hval:val t=vt at hs;cases hs with
   |lq _ vs hl hr=>refine .lq _ vs (by simpa using hl) λj x v hx hv=>?_;simp only[Z3,W7]at hx;obtain⟨y,hy,rfl⟩:=hx;exact wV (hr j y v hy hv)
  |no=>exact .no _
 .have hO:=h1.aW g;rcases key g with⟨e,_⟩|⟨ws',_,e1,e2⟩
  .rw [e];generalize st1.o g=x at hO;cases x with
   |none=>trivial
   |box ws=>obtain⟨ad,c,ty,a1,a2,a3,a4,a5⟩:=hO;exact⟨ad,c,ty,a1,a2,a3,a4,λj x hx=>let ⟨v,b1,b2,b3⟩:=a5 j x hx;⟨v,b1,b2,same b3⟩⟩
   |arr fz a i sz l=>
    cases fz with
    |false=>exact ag5 hO
    |true=>simpa only[lF,hok]using hO
   |aF a i sz ah l hole=>
    rcases hO with hO|⟨ad,c,ty,a1,a2,a3,a4,a5,a6,a7,a8⟩;exact .inl hO;refine .inr ⟨ad,c,ty,a1,a2,a3,a4,a5,a6,a7,λn x hx j y hy=>?_⟩;obtain⟨v,hv,hr⟩:=a8 n x hx j y hy;refine⟨v,hv,?_⟩;unfold iy at *;cases hcj:ah.lookup j with
    |none=>rw[hcj]at hr;exact(by rw[hok];exact hr:bU w (E.ok (dX gs st) gh w a i) y v)
    |some sz'=>
     rw[hcj]at hr;simp only at *;cases hh:gB hole n j with
     |some d=>rw[hh]at hr;exact⟨hr.1,same hr.2⟩
     |none=>rw[hh]at hr;obtain⟨l',ao,k,q1,q2,q3,q4⟩:=hr;exact⟨l',ao,k,q1,q2,ag5 q3,q4⟩
   |it s n=>exact hO
  .rw [e2];rw[e1]at hO;obtain⟨ad,c,ty,a1,a2,a3,a4,a5⟩:=hO;refine⟨ad,c,ty,a1,a2,a3,by simpa using a4,λj x hx=>?_⟩;simp only[Z3,W7]at hx;obtain⟨y,hy,rfl⟩:=hx;obtain⟨v,b1,b2,b3⟩:=a5 j y hy;exact⟨v,b1,b2,wd b3⟩
 .intro g g' b ha ha';rw[own]at ha ha';exact h1.inj g g' b ha ha'
 .intro g b ha;rw[own]at ha;exact h1.wr g b ha
 .intro g i b hg;rw[inner]at hg;exact h1.wi g i b hg
 .intro g ho hd;rw[own]at ho;rw[isd]at hd;exact h1.ns g ho hd
 .intro t g hg;exact h.us t g (YR hg)
 .intro g g' hg;rcases key g with⟨e,_⟩|⟨ws',e0,e1,e2⟩
  .rw [e]at hg;have:=h1.uo g g' hg;rw[hun]at this;exact this
  .rw [e2]at hg;simp only[O.names,YY,XN]at hg;obtain⟨_,⟨x,hx,rfl⟩,hg⟩:=hg;exact h.uo g g' (by rw[e0];simp only[O.names,YY];exact⟨x,hx,Dz hg⟩)
 .intro g hg;exact h.ul g λe=>hg (zk e)
theorem aaS{gs:List Nat}{w:World}{gh:Nat->Gh}{st:St}{E:Env}{a i:Bool}{b:Nat}(h:E.ok st gh w a i b):E.ok (dX gs st) gh w a i b:=by
 refine⟨h.1,h.2.1,λg ho had=>h.2.2 g ?_ had⟩;rcases IV gs st g with⟨e,_⟩|⟨ws,e,_⟩
 .rw [e,fJ]at ho;split at ho
  .cases hp:plainO st.o g with
   |none=>simpa[Fw.aN,hp]using ho
   |some x=>obtain⟨a,i,sz,l⟩:=x;rw[lY hp]at ho;cases ho
  .exact ho
 .rw [e];rfl
theorem Rel.norm(h:Rel E st gh val w)(hs gs:List Nat)(hgs:aey (Fw.shuts hs st).o gs=true):
  ∃bG,Rel E (dX gs (Fw.shuts hs st)) bG val w/\(∀x,(bG x).ad=(gh x).ad/\(bG x).cap=(gh x).cap)/\(∀a i b,E.ok st gh w a i b->E.ok (dX gs (Fw.shuts hs st)) bG w a i b)/\
   ∀g,st.o g=.none->(dX gs (Fw.shuts hs st)).o g=.none:=by
 obtain⟨bG,h1,l1,e1⟩:=h.shuts hs;exact⟨bG,h1.plain gs (YQ hgs),e1,λa i b hb=>aaS (l1.ok a i b hb).1,λg hg=>zk (Ib hs hg)⟩
end
end Go.Fw

namespace Go.Fw
open Go.RowKit
variable [dV]
def FR(ro:Option Nat):Fence:={ Fence.wide with round:=ro }
section
variable {Pg:Program} {ro:Option Nat} {n:Nat} {ops:Array Oper} {Q:Exit->Act->World->Prop}
theorem UG{f:FuncId}{args:Array Value}{w:World}{R:Ending->World->Prop}(h:Calls Pg f args w R):CallsIn (FR ro) n Pg f args w R:=callsIn_wide.2 h
theorem YS{row:String}{args:Array Value}{w:World}{R:Value->World->Prop}(h:Rows Pg row args w R):RowsIn (FR ro) n Pg row args w R:=by intro c cs _;obtain⟨v,w',h1,h2⟩:=h c cs;exact⟨v,w',h1,stepsIn_wide.2 h2⟩
theorem aoA{o:Oper}(ho :∀c,o.op≠.defer c){a:Act}{w:World}{K K':Act->World->Prop}(hK :∀a w,K a w->K' a w)(h:o.wp Pg a w K Q):o.wpIn (FR ro) n Pg a w K' Q:=by
 refine⟨λ_ _=>trivial,?_⟩;rw[Oper.semAt_eq _ _ _ ho];unfold Oper.wp at h;have hd:(FR ro).depth.isSome=true->1<=n:=λe=>absurd e (by simp[FR,Fence.wide]);generalize (execOp a.eval o).run Pg w=r at *;cases r with
 |ok x w'=>
  cases x<;>simp only[Oper.upon]at h<;>simp only[Oper.uponIn]
  all_goals first
   |exact hK _ _ h
   |exact⟨hd,UG (Calls.mono h λe w'' he=>by cases e<;>first|exact hK _ _ he|exact he)⟩
   |exact⟨hd,YS (Rows.mono h λv w'' he=>hK _ _ he)⟩
 |halt x w'=>cases x<;>simp only[Oper.upon]at h<;>simp only[Oper.uponIn]<;>exact h
theorem aaT(ho :∀o∈ops.toList,∀c,o.op≠.defer c)(hlo:¬ LetsOut Q){i:Nat}{a:Act}{w:World}{K K':Act->World->Prop}(hK :∀a w,K a w->K' a w)(h:wpOp Pg ops Q i K a w):wpOpIn (FR ro) n Pg ops Q i K' a w:=by
 unfold wpOp at h;unfold wpOpIn;cases hi:ops[i]? with
 |none=>rw[hi]at h;exact hK _ _ h
 |some o=>
  rw[hi]at h;simp only at h ⊢;split
  .rename_i hw;rw[Qt hw]at h;rcases h with h|h
   .exact aoA (ho o (by have:=(VC.1 hi).2;rw[<-this];simp)) hK h
   .exact absurd h.2 hlo
  .rename_i hw;rw[QR hw]at h;exact⟨λ_ _=>trivial,hK _ _ h⟩
theorem akS(ho :∀o∈ops.toList,∀c,o.op≠.defer c)(hlo:¬ LetsOut Q):∀(is:List Nat) (a:Act) (w:World),wpOps Pg ops Q is a w->wpOpsIn (FR ro) n Pg ops Q is a w
 | [],a,w,h=>h
 |i::is,a,w,h=>by rw[wpOps_cons]at h;rw[wpOpsIn_cons];exact aaT ho hlo (λa w=>akS ho hlo is a w) h
theorem akT{md:Region.Mode}(ho :∀o∈ops.toList,∀c,o.op≠.defer c)(hlo:¬ LetsOut Q):∀(fuel:Nat) (listed:Array Bool) (a:Act) (w:World),wpAny Pg md ops Q fuel listed a w->wpAnyIn (FR ro) n Pg md ops Q fuel listed a w
 |0,listed,a,w,h=>h
 |fuel+1,listed,a,w,h=>⟨h.1,λi hi=>aaT ho hlo (λa w=>akT ho hlo fuel _ a w) (h.2 i hi)⟩
end
omit [dV] in
def P.lv:P->Value
 |.int k n=>.int k n
 |.bool b=>.bool b
 |.str s=>.string s
 |_=>undef
def P.lit:P->Bool
 |.int _ _=>true
 |.bool _=>true
 |.str _=>true
 |_=>false
theorem P.anz{w:World}{ok:Nat->Prop}{x:P}(h:x.lit=true):bU w ok x x.lv:=by cases x<;>first|exact .int _ _|exact .bool _|exact .str _|cases h
omit [dV] in
def aaU(Pg:Program)(w:World)(S:List Nat)(rows:List (List P))(v:Value):Prop:=
 ∃gf lb,v=.func (.func gf) #[] lb/\(∀(args:Array Value) (w:World),(callFunc gf args).run Pg w=.ok (.enter gf args) w)/\
  ∀(l:Nat) (J:Nat->List Nat->World->Prop) (W:World),(∀k D A,J k D A->∀b∈S,A.heap[b]?=w.heap[b]?)->(∀k D A B D',J k D A->Bl A B->(∀b∈D',b∈D\/(A.heap.size<=b/\b<B.heap.size))->J k D' B)->
   (∀k row D A,rows[k]?=some row->J k D A->YieldAt Fence.wide 0 Pg l (row.map P.lv).toArray A λe B=>e=.returned (.bool true)/\J (k+1) D B/\∀b∈D,B.heap[b]?=A.heap[b]?)->
   J 0 [] W->Calls Pg gf (#[.func (.yield l) #[] #[]]++lb) W λe B=>(∃v,e=.returned v)/\∃D,J rows.length D B
section
variable {Pg:Program}
theorem akU{g:Operand}{ps:Array Tmp}{x y:Code}{Q:Exit->Act->World->Prop}{a:Act}{w:World}{S:List Nat}{rows:List (List P)}(hit:aaU Pg w S rows (a.eval g))(hlen :∀row∈rows,row.length=ps.size)
  (J:Nat->List Nat->World->Prop) (hS :∀k D A,J k D A->∀b∈S,A.heap[b]?=w.heap[b]?) (hgrow :∀k D A B D',J k D A->Bl A B->(∀b∈D',b∈D\/(A.heap.size<=b/\b<B.heap.size))->J k D' B)
  (hturn :∀k D A b o o',w.heap.size<=b->b∉D->J k D A->A.heap[b]?=some o->quiet o=true->J k D (A.putObj b o')) (h0:J 0 [] w)
  (ah8 :∀k row D A,rows[k]?=some row->J k D A->∀l,∃a₁,(∀(K:Act->World->Prop) W,K a₁ W->x.wpIn (FR (some l)) 0 Pg (Exit.then K (λ_ _ _=>False)) { tmps:=(ps.zip (row.map P.lv).toArray).foldl (λt (p,v)=>t.setIfInBounds p v) a.tmps,defers:=[] } W)/\
   y.wpIn (FR (some l)) 0 Pg (λe _ B=>e=.normal/\J (k+1) D B/\(∀b∈D,B.heap[b]?=A.heap[b]?)/\∀b o,A.heap[b]?=some o->quiet o=true->w.heap.size<=b->B.heap[b]?=some o) a₁ A)
  (hdone :∀D B D',w.heap.size<=D->J rows.length D' B->B.heap[D]?=some (.deferred (some []))->Q .normal { a with defers:={ target:=.collected D,args:=#[] }::a.defers } B) :
  (Code.rangeFunc g ps x y).wp Pg Q a w:=by
 obtain⟨gf,lb,hg,eg,hseq⟩:=hit;rw[<-wpIn_wide (n:=1)];refine wpIn_rangeFunc ?_;intro fn hfn;obtain⟨rec,hrec⟩ :∃rec:LoopState->Option Code->Loop,rec=λst pe=>{ state:=st,pending:=pe,fn,tmps:=a.tmps,params:=ps,assign:=x,body:=y,defers:=w.heap.size }:=⟨_,rfl⟩;obtain⟨W1,hW1⟩ :∃W1,(w.alloc (.deferred (some []))).alloc (.loop (rec .ready none))=W1:=⟨_,rfl⟩;have hL1:W1.heap[w.heap.size+1]?=some (.loop (rec .ready none)):=by rw[<-hW1];have:=World.alloc_heap_new (w.alloc (.deferred (some []))) (.loop (rec .ready none));rwa [World.size_alloc]at this
 have hK1:W1.heap[w.heap.size]?=some (.deferred (some [])):=by rw[<-hW1];exact(Below.heap_alloc _ _ _ (by simp)).trans (World.alloc_heap_new w _)
 have hJ1:J 0 [] W1:=by rw[<-hW1];exact hgrow _ _ _ _ [] (hgrow _ _ _ _ [] h0 (Bl.alloc _ _) (λb hb=>by cases hb)) (Bl.alloc _ _) (λb hb=>by cases hb)
 refine⟨w.heap.size+1,[{ target:=.collected w.heap.size,args:=#[] }],W1,{ target:=.fn (.func gf) lb,args:=#[.func (.yield (w.heap.size+1)) #[] #[]] },W1,gf,
  #[.func (.yield (w.heap.size+1)) #[] #[]]++lb,W1,?_,?_,λ_ _=>trivial,?_,λ_=>ZD _,?_⟩
 .rw [<-hW1,hrec];exact run_enterLoop_outer _ _ _ _ _
 .simp only[resolve,hg];simp[go_sem]
 .simp [invoke,go_sem,eg]
 refine callsIn_wide.2 (Calls.mono (hseq (w.heap.size+1)
   (λk D A=>J k D A/\A.heap[w.heap.size+1]?=some (.loop (rec .ready none))/\A.heap[w.heap.size]?=some (.deferred (some []))/\∀b∈D,w.heap.size+1<b)
   W1 (λk D A h=>hS k D A h.1) (λk D A B D' h hg hD=>?_) ?_ ⟨hJ1,hL1,hK1,λb hb=>by cases hb⟩) ?_)
 .have lt :∀{i o},A.heap[i]?=some o->i<A.heap.size:=λh=>(VC.1 h).1;refine⟨hgrow k D A B D' h.1 hg hD,(hg.same _ (lt h.2.1)).trans h.2.1,(hg.same _ (lt h.2.2.1)).trans h.2.2.1,λb hb=>?_⟩;rcases hD b hb with hb|hb
  .exact h.2.2.2 b hb
  .exact Vi (lt h.2.1) hb.1
 .rintro k row D A hrow ⟨hj,hl,hk,hD⟩;have hy:=run_yield (P:=Pg) (args:=(row.map P.lv).toArray) hl (by rw[hrec];simpa using hlen row (Ys hrow));rw[hrec]at hy;have hlt:w.heap.size+1<A.heap.size:=(VC.1 hl).1;have hnD:w.heap.size+1∉D:=λhm=>KB _ (hD _ hm);have akV :∀b∈D,b≠w.heap.size+1:=λb hb e=>hnD (e▸hb);have hj2:J k D (A.putObj (w.heap.size+1) (.loop { rec .ready none with state:=.busy })):=hturn _ _ _ _ _ _ (by omega) hnD hj hl rfl;obtain⟨a₁,hx,hbody⟩:=ah8 k row D _ hrow hj2 (w.heap.size+1);refine⟨fn,_,x,y,hy,roundIn_of_wpIn hfn (hx _ _ ⟨_,run_beginRound hl (by rw[hrec]),wpIn_mono hbody ?_⟩)⟩;rintro e a3 B ⟨rfl,hj3,hkD,hkeep⟩;have hl2:(A.putObj (w.heap.size+1) (.loop { rec .ready none with state:=.busy })).heap[w.heap.size+1]?=some (.loop { rec .ready none with state:=.busy }):=World.putObj_heap_same hlt;have hk2:(A.putObj (w.heap.size+1) (.loop { rec .ready none with state:=.busy })).heap[w.heap.size]?=some (.deferred (some [])):=(World.putObj_heap_other (by omega)).trans hk;have hl3:=hkeep _ _ hl2 rfl (by omega);have hk3:=hkeep _ _ hk2 rfl (by omega);have hr:=run_endRound (P:=Pg) none hl3;refine⟨_,_,hr,rfl,⟨hturn _ _ _ _ _ _ (by omega) hnD hj3 hl3 rfl,?_,(World.putObj_heap_other (by omega)).trans hk3,hD⟩,λb hb=>?_⟩
  .rw [World.putObj_heap_same (VC.1 hl3).1,hrec];rfl
  .rw [World.putObj_heap_other (akV b hb),hkD b hb,World.putObj_heap_other (akV b hb)]
 .rintro e B ⟨⟨v,rfl⟩,D,hj,hl,hk,hD⟩;have hnD:w.heap.size+1∉D:=λhm=>KB _ (hD _ hm);refine⟨none,_,by have:=run_endLoop (P:=Pg) hl (by rw[hrec];simp);rw[hrec]at this;exact this,hdone _ _ D (ZD _) (hturn _ _ _ _ _ _ (by omega) hnD hj hl rfl) ((World.putObj_heap_other (by omega)).trans hk)⟩
end
end Go.Fw

namespace Go.Fw
open Go.RowKit
variable [dV]
structure BH where
 n:St->Prop
 x:Nat->St->Prop
 r:St->Prop
def keeps(bC:List Nat)(j:Shape)(m:Ren):Bool:=bC.all λg=>j.nms.contains g&&(match m.lookup g with
 |some (some g')=>Nat.beq g' g
 |_=>false)
inductive Back(bC:List Nat)(j:Shape)(st:St)(G:List P->Prop):Prop where
 |mk (hs gs:List Nat) (m:Ren) (vs:List P) (hgs:aey (Fw.shuts hs st).o gs=true) (hm:keeps bC j m=true) (h:coerce j m (dX gs (Fw.shuts hs st))=some vs) (hG:G vs)
inductive ag6(bC:List Nat)(body:St->BH->Prop)(st:St)(K:BH):Prop where
 |mk (j:Shape) (I:List P->Prop) (μ:List P->Nat) (h0:Back bC j st I) (round :∀us,I us->body (Fw.mk j us) { n:=λst'=>Back bC j st' λvs=>I vs/\μ vs<μ us,x:=K.x,r:=K.r })
inductive Wk(bC:List Nat)(K:St->Prop)(st:St):Prop where
 |now (h:K st)
 |back (j:Shape) (h:Back bC j st λvs=>K (Fw.mk j vs))
def exec(T:Tab)(tt:TT)(N:Nat)(bC:List Nat):Code->St->BH->Prop
 |.skip,st,K=>K.n st
 |.region _ ops draw,st,K=>qU T tt N ops draw st (Wk bC K.n)
 |.seq x y,st,K=>exec T tt N bC x st { n:=λst'=>exec T tt N bC y st' K,x:=K.x,r:=K.r }
 |.cond c x y,st,K=>match st.bW c with
  |.v (.one (.p _ _ (.bool b)))=>bif b then exec T tt N bC x st { n:=Wk bC K.n,x:=K.x,r:=K.r } else exec T tt N bC y st { n:=Wk bC K.n,x:=K.x,r:=K.r }
  |_=>False
 |.block id c,st,K=>exec T tt N bC c st { n:=Wk bC K.n,x:=λid' st'=>bif Nat.beq id' id then Wk bC K.n st' else K.x id' st',r:=K.r }
 |.loop c,st,K=>ag6 bC (exec T tt N bC c) st K
 |.exit id,st,K=>K.x id st
 |.ret,st,K=>K.r st
 |.label _,st,K=>K.n st
 |.scope c,st,K=>exec T tt N bC c st K
 |_,_,_=>False
structure Fit(Pg:Program):Prop where
 mixed:Pg.follows .mixedOrders=true
 sq :∀w S l v,dV.sq w S l v->aaU Pg w S l v
section
variable {E:Env} {N:Nat} {bC:List Nat} {wR:Nat->Gh} {Pg:Program} {T:Tab} {tt:TT}
structure Knt(E:Env)(N:Nat)(bC:List Nat)(wR:Nat->Gh)(K:BH)(Q:Exit->Act->World->Prop):Prop where
 n :∀st a w,K.n st->Good E N bC wR st a w->Q .normal a w
 x :∀id st a w,K.x id st->Good E N bC wR st a w->Q (.exit id) a w
 r :∀st a w,K.r st->Good E N bC wR st a w->Q .ret a w
theorem Back.good{j:Shape}{st:St}{G:List P->Prop}(h:Back bC j st G){a:Act}{w:World}(hg:Good E N bC wR st a w):∃vs,G vs/\Good E N bC wR (Fw.mk j vs) a w:=by
 obtain⟨hs,gs,m,vs,hgs,hm,h,hG⟩:=h;obtain⟨⟨gh,hR,Kt⟩,hsz,hdf⟩:=hg;obtain⟨bG,hR,e1,_,e3⟩:=hR.norm hs gs hgs;have hr:=y9 h;refine⟨vs,hG,⟨jD bG (Ih j m),hR.aax hr,λg hg=>?_⟩,hsz,hdf⟩;have:=(Z1.1 hm) g hg;simp only[X1]at this;obtain⟨h1,h2⟩:=this;refine⟨h1,?_⟩;have hF:Ih j m g=some g:=by
  unfold Ih;rw[Qt h1];split at h2
  .rename_i g' hl;rw[hl,Qf h2];rfl
  .cases h2
 have ho:=hr.aW g g hF;rcases (Kt g hg).2 with e|e
 .have e:=e3 g e;rw[e]at ho;generalize (Fw.mk j vs).o g=z at ho;cases ho;exact .inl rfl
 .exact .inr (by simp only[jD,hF];exact⟨(e1 g).1.trans e.1,(e1 g).2.trans e.2⟩)
theorem Wk.good{K:St->Prop}{st:St}(h:Wk bC K st){a:Act}{w:World}(hg:Good E N bC wR st a w):∃st',K st'/\Good E N bC wR st' a w:=by
 cases h with
 |now h=>exact⟨st,h,hg⟩
 |back j h=>obtain⟨vs,h1,h2⟩:=h.good hg;exact⟨_,h1,h2⟩
theorem Knt.wk{K:BH}{Q:Exit->Act->World->Prop}(h:Knt E N bC wR K Q):Knt E N bC wR { n:=Wk bC K.n,x:=K.x,r:=K.r } Q:=⟨λst a w hk hg=>let ⟨st',h1,h2⟩:=hk.good hg;h.n st' a w h1 h2,h.x,h.r⟩
theorem aaV{sp:zf}{st:St}{cZ:List P}{lZ:Nat->Gh}{rs:Nat->Value}{w':World}(hfin:Rel E st lZ rs w')(ah9 :∀g∈sp.bC,st.used g=true/\(st.o g=.none\/((lZ g).ad=(wR g).ad/\(lZ g).cap=(wR g).cap)))
  (hBk:Back sp.bC sp.aO st λvs=>vs=cZ) :∃bG,Rel E (Fw.mk sp.aO cZ) bG rs w'/\∀g∈sp.bC,(bG g).ad=(wR g).ad/\(bG g).cap=(wR g).cap:=by
 obtain⟨hs,gs,m,vs,hgs,hkm,hco,rfl⟩:=hBk;obtain⟨yY,hfin,e1,_,e3⟩:=hfin.norm hs gs hgs;have hr:=y9 hco;refine⟨jD yY (Ih sp.aO m),hfin.aax hr,λg hg=>?_⟩;have:=(Z1.1 hkm) g hg;simp only[X1]at this;obtain⟨h1,h2⟩:=this;have hF:Ih sp.aO m g=some g:=by
  unfold Ih;rw[Qt h1];split at h2
  .rename_i g' hl;rw[hl,Qf h2];rfl
  .cases h2
 have ho:=hr.aW g g hF;have hbox:(Fw.mk sp.aO vs).o g≠.none:=by
  have hm:g∈sp.aO.aW.map (·.1):=by simpa[Shape.nms]using h1
  obtain⟨x,hxx⟩:=uZ (vs:=vs) (n:=(dh vs 0 sp.aO.slots).2) hm;have e:(Fw.mk sp.aO vs).o g=x:=by show (match (fP vs (dh vs 0 sp.aO.slots).2 sp.aO.aW).1.lookup g with|some x=>x|none=>O.none)=x;rw[hxx]
  obtain⟨k,n',_,h2⟩:=kJ hxx;rw[e,h2];cases k<;>simp[sN]
 rcases (ah9 g hg).2 with e|e
 .exfalso;have e:=e3 g e;rw[e]at ho;generalize (Fw.mk sp.aO vs).o g=z at ho hbox;cases ho;exact hbox rfl
 .simp only[jD,hF];exact⟨(e1 g).1.trans e.1,(e1 g).2.trans e.2⟩
theorem UH(hT :∀f sp,T f=some sp->Sound Pg (f % 1000000) sp)(htt:iC Pg tt)(hm:Fit Pg):∀(c:Code) {st:St} {K:BH} {Q:Exit->Act->World->Prop} {a:Act} {w:World},
  exec T tt N bC c st K->Good E N bC wR st a w->Knt E N bC wR K Q->c.wp Pg Q a w:=by
 intro c
 induction c with
 |skip=>intro st K Q a w h hg hK;exact wp_skip (hK.n _ _ _ h hg)
 |region id ops draw=>intro st K Q a w h hg hK;exact Og hT htt hm.mixed h hg λst' a' w' q hg'=>hK.wk.n _ _ _ q hg'
 |seq x y Wu ihy=>intro st K Q a w h hg hK;refine wp_seq (Wu h hg ⟨λst' a' w' q hg'=>ihy q hg' hK,λid st' a' w' q hg'=>hK.x _ _ _ _ q hg',λst' a' w' q hg'=>hK.r _ _ _ q hg'⟩)
 |cond c x y Wu ihy=>
  intro st K Q a w h hg hK;simp only[exec]at h;split at h
  rotate_left
  cases h;rename_i a1 i1 b hc;obtain⟨gh,hR,_⟩:=hg.ex;have hv:=qm hR c;rw[hc]at hv;have hv:=hv.eX.mV;refine wp_cond_split hv (λhb=>?_) (λhb=>?_)
  .subst hb;exact Wu h hg hK.wk
  .subst hb;exact ihy h hg hK.wk
 |block id c ih=>
  intro st K Q a w h hg hK;refine wp_block (ih h hg ⟨λst' a' w' q hg'=>hK.wk.n _ _ _ q hg',λid' st' a' w' q hg'=>?_,λst' a' w' q hg'=>hK.r _ _ _ q hg'⟩);simp only[Exit.inBlock];by_cases e:id'=id
  .subst e;rw[Qt rfl];have:Nat.beq id' id'=true:=by simp
   simp only[this]at q;exact hK.wk.n _ _ _ q hg'
  .rw [QR e];have:Nat.beq id' id=false:=by cases hb:Nat.beq id' id with|false=>rfl|true=>exact absurd (Qf hb) e
   simp only[this]at q;exact hK.x _ _ _ _ q hg'
 |loop c ih=>
  intro st K Q a w h hg hK;obtain⟨j,I,μ,h0,round⟩:=(show ag6 bC (exec T tt N bC c) st K from h);obtain⟨us,hI,hg0⟩:=h0.good hg;refine wp_loop_rounds (μ us+1) ?_;have key :∀n us,I us->μ us<n->∀a w,Good E N bC wR (Fw.mk j us) a w->Code.rounds Pg c Q n a w:=by
   intro n
   induction n with
   |zero=>intro us _ h;omega
   |succ n ihn=>intro us hI hlt a w hg;refine ih (round us hI) hg ⟨λst' a' w' q hg'=>?_,λid st' a' w' q hg'=>hK.x _ _ _ _ q hg',λst' a' w' q hg'=>hK.r _ _ _ q hg'⟩;obtain⟨vs,⟨h1,h2⟩,h3⟩:=Back.good q hg';exact ihn vs h1 (by omega) _ _ h3
  exact key _ us hI (by omega) a w hg0
 |exit id=>intro st K Q a w h hg hK;exact wp_exit (hK.x _ _ _ _ h hg)
 |ret=>intro st K Q a w h hg hK;exact wp_ret (hK.r _ _ _ h hg)
 |label l=>intro st K Q a w h hg hK;exact wp_label (hK.n _ _ _ h hg)
 |scope c ih=>intro st K Q a w h hg hK;exact wp_scope_straight (ih h hg ⟨λst' a' w' q hg'=>hK.n _ _ _ q hg',λid st' a' w' q hg'=>hK.x _ _ _ _ q hg',λst' a' w' q hg'=>hK.r _ _ _ q hg'⟩)
 |_=>intro st K Q a w h;exact absurd h (by simp[exec])
def YT(tt:TT)(st:St):ResultVar->Option S
 |.tmp t=>some (st.s t)
 |.cell a t=>match tt t,st.s a with
  |some i,.v (.one (.box g off))=>match st.o g with
   |.box ws=>if off+i.size<=ws.length/\0<i.size then some (V.fA i.agg ((ws.drop off).take i.size))else none
   |_=>none
  |_,_=>none
def EX(tt:TT)(st:St):List ResultVar->Option (List S)
 | []=>some []
 |r::rs=>match YT tt st r,EX tt st rs with
  |some x,some xs=>some (x::xs)
  |_,_=>none
def QJ(xs:List S)(st:St):St:={ s:=λk=>xs.getD k .no,o:=st.o,used:=st.used }
def Fin(tt:TT)(sp:zf)(ts:List ResultVar)(cZ:List P)(st:St):Prop:=match EX tt st ts with
 |some xs=>Back sp.bC sp.aO (QJ xs st) λvs=>vs=cZ
 |none=>False
def ah_(tt:TT)(sp:zf)(ts:List ResultVar)(cZ:List P):BH:={ n:=Fin tt sp ts cZ,x:=λ_ _=>False,r:=Fin tt sp ts cZ }
def DC(tmps:Array Value)(r:ResultVar):Sem Value:=match r with
 |.tmp t=>pure (tmps.getD t undef)
 |.cell a t=>do loadVar t (<-asAddr (tmps.getD a undef))
theorem UJ{fn:Func}{ts:List ResultVar}(hr:fn.results=ts.toArray)(tmps:Array Value):results fn tmps=(do
  let vs <-List.toArray <$> ts.mapM (DC tmps)
  pure (if h:vs.size=1 then vs[0]else .tuple vs)):=by
 unfold results;rw[hr,List.mapM_toArray];have :∀F:ResultVar->Sem Value,(∀r,F r=DC tmps r)->ts.mapM F=ts.mapM (DC tmps):=λF hF=>by rw[funext hF]
 rw[this _ λr=>by cases r<;>rfl]
theorem UK(htt:iC Pg tt){st:St}{gh:Nat->Gh}{a:Act}{w:World}(h:Rel E st gh (λt=>a.tmps.getD t undef) w){r:ResultVar}{x:S}(hx:YT tt st r=some x):
  ∃v,(DC a.tmps r).run Pg w=.ok v w/\dn E st gh w x v/\∀g∈x.names,st.used g=true:=by
 cases r with
 |tmp t=>simp only[YT,Q0]at hx;subst hx;exact⟨_,rfl,h.slots t,h.us t⟩
 |cell ad t=>
  simp only[YT]at hx;split at hx
  rotate_left
  cases hx;rename_i i g off ht hs;have rx:=h.slots ad;rw[hs]at rx;split at hx
  rotate_left
  cases hx;rename_i ws hog;split at hx
  rotate_left
  cases hx;rename_i hlt;cases hx;have hO:=h.aW g;rw[hog]at hO;obtain⟨ad',had,cs,hl,hone,hcell,hrep⟩:=yS.cells hO;obtain⟨asy,Nw,hv⟩:=(by cases rx.dB with|box _ _ _ _ hb=>exact hb ws hog :∃ad',(gh g).ad=some ad'/\a.tmps.getD ad undef=.pointer (some ⟨ad'.block,ad'.off+off,none⟩));rw[had]at Nw;cases Nw;have hl':((cs.drop off).take i.size).length=i.size:=by simp;omega
  obtain⟨v,hrun,hval⟩:=jO (Pg:=Pg) (w:=w) (htt _ _ ht) ad'.block (ad'.off+off) ((cs.drop off).take i.size) hl' (λj u hu=>by
   have hj:j<i.size:=by have:=(Q4.1 hu).1;omega
   rw[ZZ,Qt hj,Wb]at hu;rw[JP];exact hcell _ _ hu) (λ_=>hlt.2)
  refine⟨v,by simp only[DC];rw[hv];simpa[asAddr]using hrun,kG (cs:=(cs.drop off).take i.size) (by simp;omega) (λc hc=>hone c (Up (W6 hc)))
   (λj y u hy hu=>?_) v hval,λg' hg'=>?_⟩
  .have hj:j<i.size:=by have:=(Q4.1 hu).1;omega
   rw[ZZ,Qt hj,Wb]at hy hu;exact hrep _ _ _ hy hu
  .obtain ⟨x,hx,hg'⟩:=jh hg';exact h.uo g g' (by rw[hog];simp only[O.names,YY];exact⟨x,Up (W6 hx),hg'⟩)
theorem EY(htt:iC Pg tt){st:St}{gh:Nat->Gh}{a:Act}{w:World}(h:Rel E st gh (λt=>a.tmps.getD t undef) w):∀{rs:List ResultVar} {xs:List S},EX tt st rs=some xs->
  ∃vs:List Value,(rs.mapM (DC a.tmps)).run Pg w=.ok vs w/\vs.length=rs.length/\
   ∀k,dn E st gh w (xs.getD k .no) (vs.getD k undef)/\∀g∈(xs.getD k .no).names,st.used g=true
 | [],xs,hx=>by simp only[EX,Q0]at hx;subst hx;exact⟨[],rfl,rfl,λk=>⟨.no _,by simp[S.names]⟩⟩
 |r::rs,xs,hx=>by
  simp only[EX]at hx;split at hx
  rotate_left
  cases hx;rename_i x xs h1 h2;cases hx;obtain⟨v,q1,q2,q3⟩:=UK htt h h1;obtain⟨vs,p1,p2,p3⟩:=EY htt h h2;refine⟨v::vs,?_,by simp[p2],λk=>?_⟩
  .rw [vQ,Sem.run_bind,q1];show Sem.run Pg _ w=_;rw[Sem.run_bind,p1];rfl
  .cases k with
   |zero=>exact⟨q2,q3⟩
   |succ k=>simpa using p3 k
theorem KN(htt:iC Pg tt){st:St}{gh:Nat->Gh}{a:Act}{w:World}(h:Rel E st gh (λt=>a.tmps.getD t undef) w){fn:Func}{ts:List ResultVar}(hr:fn.results=ts.toArray){xs:List S}(hx:EX tt st ts=some xs):
  ∃vs:List Value,(results fn a.tmps).run Pg w=.ok (Yx vs) w/\vs.length=ts.length/\∀k,dn E st gh w (xs.getD k .no) (vs.getD k undef)/\∀g∈(xs.getD k .no).names,st.used g=true:=by
 obtain⟨vs,q1,q2,q3⟩:=EY htt h hx;refine⟨vs,?_,q2,q3⟩;rw[UJ hr,Sem.run_bind,Sem.run_map,q1]
 match vs with
 | []=>rfl
 | [v]=>rfl
 |v::u::vs=>simp[Yx]
theorem aaW{f:FuncId}{fn:Func}{c:Code}{sp:Spec}(ts:List ResultVar)(hf:Pg.funcs[f]?=some fn)(hb:fn.body=some c)(hname:(fn.name == "runtime.NumGoroutine")=false)(hres:fn.results=ts.toArray)
  (hok:sp.sig.ok=true) (Kt:(sp.sig.bC.all λg=>sp.sig.pin.nms.contains g)=true) (hlk :∀ins cZ,sp.R ins cZ->∀g∈sp.sig.bC,((Fw.mk sp.sig.pin ins).o g).like ((Fw.mk sp.sig.aO cZ).o g)) (hn:sp.sig.bD<=fn.ntmps) (hnr:ts.length=sp.sig.cO)
  (hT :∀f sp,T f=some sp->Sound Pg (f % 1000000) sp) (htt:iC Pg tt) (hm:Fit Pg)
  (h :∀ins cZ,sp.R ins cZ->exec T tt fn.ntmps sp.sig.bC c (Fw.mk sp.sig.pin ins) (ah_ tt sp.sig ts cZ)):Sound Pg f sp:=by
 refine⟨hok,λargs w=>?_,λE w vals gh ins cZ hR hB hw0 KH hlen=>?_⟩
 .have hname':¬ fn.name = "runtime.NumGoroutine" :=by simpa using hname
  simp[callFunc,hf,hname',hb]
 .have hsz:vals.toArray.size<=fn.ntmps:=by simp;omega
  refine callsIn_wide.1 (callsIn_of_wp_marks (n:=0) hf hb trivial (wpIn_wide.2 (UH (E:=E) (N:=fn.ntmps) (bC:=sp.sig.bC) (wR:=gh) hT htt hm c (h ins cZ hR) ⟨⟨gh,?_,λg hg=>⟨?_,.inr ⟨rfl,rfl⟩⟩⟩,by simp;omega,Marks.nil rfl⟩ ?_)) rfl)
  .have e:(λt=>(vals.toArray++Array.replicate (fn.ntmps-vals.toArray.size) undef).getD t undef)=λk=>vals.getD k undef:=by
    funext t;rw[Wo,Q2,Array.getElem?_append];split;simp;rename_i ht;have ht:vals.length<=t:=by simpa using ht
    rw[UB ht,vL];split<;>rfl
   rw[e];exact KH
  .exact (Z1.1 Kt) g hg
  .have fin :∀st a w',Fin tt sp.sig ts cZ st->Good E fn.ntmps sp.sig.bC gh st a w'->LeavesInM Fence.wide 0 Pg fn a.tmps (λe w'=>∃(rs:List Value) (bG:Nat->Gh),rs.length=sp.sig.cO/\e=.returned (Yx rs)/\Rel E (Fw.mk sp.sig.aO cZ) bG (λk=>rs.getD k undef) w'/\∀g∈sp.sig.bC,((bG g).ad=(gh g).ad/\(bG g).cap=(gh g).cap)/\((Fw.mk sp.sig.pin ins).o g).like ((Fw.mk sp.sig.aO cZ).o g)) a.defers .returning w':=by
    intro st a w' hBk hg;unfold Fin at hBk;split at hBk
    rotate_left
    .cases hBk
    rename_i xs hxs;obtain⟨⟨lZ,hR1,ah9⟩,_,Ds,hd1,hd2,hd3⟩:=hg;rw[hd1];clear hd1
    induction Ds generalizing w' with
    |nil=>
     obtain⟨rs,hrun,hrl,hrs⟩:=KN htt hR1 hres hxs;refine⟨_,hrun,rs,?_⟩;have hfin:Rel E (QJ xs st) lZ (λk=>rs.getD k undef) w':=by refine⟨λk=>?_,λg=>lF.congr (st:=st) (st':=QJ xs st) rfl (hR1.aW g),hR1.inj,hR1.wr,hR1.wi,hR1.ns,hR1.wb,hR1.frame,hR1.size,hR1.os,hR1.tape,hR1.output,λk g hg=>(hrs k).2 g hg,hR1.uo,hR1.ul⟩;exact dn.congr (st:=st) (st':=QJ xs st) rfl (hrs k).1
     obtain⟨bG,r1,r2⟩:=aaV hfin ah9 hBk;exact⟨bG,by omega,rfl,r1,λg hg=>⟨r2 g hg,hlk ins cZ hR g hg⟩⟩
    |cons D Ds ih=>obtain⟨h1,h2⟩:=hd3 D (by simp);have hnd:=UI.1 hd2;refine⟨by simp,.inl ⟨D,_,rfl,run_takeDeferred h2,ih _ (hR1.turn h2 rfl h1 _) hnd.2 λD' hD'=>?_⟩⟩;obtain⟨q1,q2⟩:=hd3 D' (by simp[hD']);exact⟨q1,(World.putObj_heap_other (λe:D'=D=>hnd.1 (by rw[<-e];exact hD'))).trans q2⟩
   exact⟨λst a w' hk hg=>fin st a w' hk hg,λid st a w' hk=>hk.elim,λst a w' hk hg=>fin st a w' hk hg⟩
end
end Go.Fw

namespace Go.Fg
open Go.Fw
inductive Ty where
 |int (k:IntKind)
 |bool
 |str
 |sl (e:Ty)
 |prod (a b:Ty)
 |st (n:Nat)
 |opq
 |sq (e:Ty)
def aaX:(a b:IntKind)->Option (PLift (a=b))
 |.i8,.i8=>some ⟨rfl⟩
 |.i16,.i16=>some ⟨rfl⟩
 |.i32,.i32=>some ⟨rfl⟩
 |.i64,.i64=>some ⟨rfl⟩
 |.u8,.u8=>some ⟨rfl⟩
 |.u16,.u16=>some ⟨rfl⟩
 |.u32,.u32=>some ⟨rfl⟩
 |.u64,.u64=>some ⟨rfl⟩
 |_,_=>none
def aaY(a b:Nat):Option (PLift (a=b)):=match h:Nat.beq a b with
 |true=>some ⟨Qf h⟩
 |false=>none
def Ty.eq:(a b:Ty)->Option (PLift (a=b))
 |.int k,.int k'=>match aaX k k' with
  |some ⟨h⟩=>some ⟨h▸rfl⟩
  |none=>none
 |.bool,.bool=>some ⟨rfl⟩
 |.str,.str=>some ⟨rfl⟩
 |.opq,.opq=>some ⟨rfl⟩
 |.sl a,.sl b=>match Ty.eq a b with
  |some ⟨h⟩=>some ⟨h▸rfl⟩
  |none=>none
 |.sq a,.sq b=>match Ty.eq a b with
  |some ⟨h⟩=>some ⟨h▸rfl⟩
  |none=>none
 |.prod a b,.prod a' b'=>match Ty.eq a a',Ty.eq b b' with
  |some ⟨h⟩,some ⟨h'⟩=>some ⟨h▸h'▸rfl⟩
  |_,_=>none
 |.st n,.st m=>match aaY n m with
  |some ⟨h⟩=>some ⟨h▸rfl⟩
  |none=>none
 |_,_=>none
def Ty.word:Ty->Bool
 |.prod _ _=>false
 |.st _=>false
 |_=>true
def Ty.flat:Ty->Bool
 |.int _=>true
 |.bool=>true
 |.str=>true
 |.opq=>true
 |_=>false
def D(C:Nat->Type):Ty->Type
 |.int _=>Int
 |.bool=>Bool
 |.str=>List UInt8
 |.sl e=>List (D C e)
 |.prod a b=>D C a×D C b
 |.st n=>C n
 |.opq=>Value
 |.sq e=>List (D C e)
structure TP(C:Nat->Type) where
 t:Ty
 x:D C t
def TP.get{C:Nat->Type}(t:Ty)(d:D C t)(ws:List (TP C))(n:Nat):D C t:=match ws[n]? with
 |some w=>match Ty.eq w.t t with
  |some ⟨h⟩=>h▸w.x
  |none=>d
 |none=>d
theorem bn{C:Nat->Type}{ws:List (TP C)}{t:Ty}{ts:List Ty}(h:ws.map (·.t)=t::ts):∃x ws',ws=⟨t,x⟩::ws'/\ws'.map (·.t)=ts:=by
 cases ws with
 |nil=>cases h
 |cons w ws=>obtain⟨t',x⟩:=w;simp only[X2,List.cons.injEq]at h;obtain⟨rfl,h⟩:=h;exact⟨x,ws,rfl,h⟩
theorem dP{C:Nat->Type}{ws:List (TP C)}(h:ws.map (·.t)=[]):ws=[]:=by simpa using h
def IW{C:Nat->Type}(size:Ty->Nat)(kL:(t:Ty)->D C t->List P):(t:Ty)->D C t->P
 |.int k,x=>.int k x
 |.bool,b=>.bool b
 |.str,s=>.str ⟨s.toArray⟩
 |.sl e,l=>P.fG (size e) (List.map (kL e) l)
 |.opq,v=>.opq v
 |.sq e,l=>.seq (List.map (kL e) l)
 |.prod _ _,_=>default
 |.st _,_=>default
def oK{C:Nat->Type}(F:Nat->List Ty)(er:(n:Nat)->C n->List P)(size:Ty->Nat):(t:Ty)->D C t->List P
 |.int k,x=>[.int k x]
 |.bool,b=>[.bool b]
 |.str,s=>[.str ⟨s.toArray⟩]
 |.sl e,l=>[P.fG (size e) (List.map (oK F er size e) l)]
 |.opq,v=>[.opq v]
 |.sq e,l=>[.seq (List.map (oK F er size e) l)]
 |.prod a b,x=>oK F er size a x.1++oK F er size b x.2
 |.st n,x=>er n x
def iY(F:Nat->List Ty):Ty->Nat
 |.prod a b=>iY F a+iY F b
 |.st n=>(F n).length
 |_=>1
class RE where
 C:Nat->Type
 F:Nat->List Ty
 dflt:(n:Nat)->C n
 un:(n:Nat)->C n->List (TP C)
 ro:(n:Nat)->List (TP C)->C n
 er:(n:Nat)->C n->List P
 Fwd :∀n,(F n).all Ty.word=true
 ag7 :∀n x,(un n x).map (·.t)=F n
 ag8 :∀n ws,ws.map (·.t)=F n->un n (ro n ws)=ws
 ag9 :∀n x,er n x=(un n x).map λw=>IW (iY F) (oK F er (iY F)) w.t w.x
 hd:Nat:=999999
 hdF:F hd=[]:=by rfl
 G:Nat->Option ((e:Ty)×List (D C e)):=λ_=>none
 Q:World->List Nat->List (List P)->Value->Prop:=λ_ _ _ _=>False
 aia :∀{w w':World} {S:List Nat} {l:List (List P)} {v:Value},(∀b∈S,w'.heap[b]?=w.heap[b]?)->Q w S l v->Q w' S l v:=by intro _ _ _ _ _ _ h;exact h
section
variable [RE]
abbrev Dt(t:Ty):Type:=D RE.C t
abbrev Wd:=TP RE.C
def size:Ty->Nat:=iY RE.F
def kL:(t:Ty)->Dt t->List P:=oK RE.F RE.er (iY RE.F)
instance:dV:=⟨λg=>(RE.G g).map λx=>(size x.1,List.map (kL x.1) x.2),RE.Q,RE.aia⟩
theorem ag_(g:Nat):dV.gt g=(RE.G g).map λx=>(size x.1,List.map (kL x.1) x.2):=rfl
def bY(w:Wd):P:=IW (iY RE.F) (oK RE.F RE.er (iY RE.F)) w.t w.x
def dflt:(t:Ty)->Dt t
 |.int _=>(0:Int)
 |.bool=>false
 |.str=>([]:List UInt8)
 |.sl e=>([]:List (Dt e))
 |.prod a b=>(dflt a,dflt b)
 |.st n=>RE.dflt n
 |.opq=>Value.nilFunc
 |.sq e=>([]:List (Dt e))
def TP.Ar(t:Ty)(w:Wd):Option (Dt t):=match Ty.eq w.t t with
 |some ⟨h⟩=>some (h▸w.x)
 |none=>none
def TP.as(t:Ty)(w:Wd):Dt t:=match Ty.eq w.t t with
 |some ⟨h⟩=>h▸w.x
 |none=>dflt t
def fF:(t:Ty)->Dt t->List Wd
 |.prod a b,x=>fF a x.1++fF b x.2
 |.st n,x=>RE.un n x
 |.int k,x=>[⟨.int k,x⟩]
 |.bool,x=>[⟨.bool,x⟩]
 |.str,x=>[⟨.str,x⟩]
 |.sl e,x=>[⟨.sl e,x⟩]
 |.opq,x=>[⟨.opq,x⟩]
 |.sq e,x=>[⟨.sq e,x⟩]
def iZ:Ty->List Ty
 |.prod a b=>iZ a++iZ b
 |.st n=>RE.F n
 |t=>[t]
def kM:(t:Ty)->List Wd->Dt t
 |.prod a b,ws=>(kM a (ws.take (size a)),kM b (ws.drop (size a)))
 |.st n,ws=>RE.ro n ws
 |.int k,ws=>match ws with
  |w::_=>w.as (.int k)
  | []=>dflt (.int k)
 |.bool,ws=>match ws with
  |w::_=>w.as .bool
  | []=>dflt .bool
 |.str,ws=>match ws with
  |w::_=>w.as .str
  | []=>dflt .str
 |.sl e,ws=>match ws with
  |w::_=>w.as (.sl e)
  | []=>dflt (.sl e)
 |.opq,ws=>match ws with
  |w::_=>w.as .opq
  | []=>dflt .opq
 |.sq e,ws=>match ws with
  |w::_=>w.as (.sq e)
  | []=>dflt (.sq e)
theorem Ty.eq_self:∀(t:Ty),∃h,Ty.eq t t=some ⟨h⟩:=by
 intro t
 induction t with
 |int k=>cases k<;>exact⟨rfl,rfl⟩
 |bool=>exact⟨rfl,rfl⟩
 |str=>exact⟨rfl,rfl⟩
 |opq=>exact⟨rfl,rfl⟩
 |sl e ih=>obtain⟨h,ih⟩:=ih;exact⟨rfl,by simp[Ty.eq,ih]⟩
 |sq e ih=>obtain⟨h,ih⟩:=ih;exact⟨rfl,by simp[Ty.eq,ih]⟩
 |prod a b iha ihb=>obtain⟨h,iha⟩:=iha;obtain⟨h',ihb⟩:=ihb;exact⟨rfl,by simp[Ty.eq,iha,ihb]⟩
 |st n=>
  refine⟨rfl,?_⟩;have:aaY n n=some ⟨rfl⟩:=by unfold aaY;split;rfl;rename_i h;simp at h
  simp[Ty.eq,this]
theorem qV(t:Ty)(x:Dt t):TP.as t ⟨t,x⟩=x:=by obtain⟨h,e⟩:=Ty.eq_self t;simp[TP.as,e]
theorem wC{t:Ty}{w:Wd}(h:w.t=t):(⟨t,w.as t⟩:Wd)=w:=by obtain⟨t',x⟩:=w;simp only at h;subst h;rw[qV]
theorem gu{t:Ty}{w:Wd}{x:Dt t}(h:w.Ar t=some x):w=⟨t,x⟩:=by
 obtain⟨t',y⟩:=w;unfold TP.Ar at h;split at h
 .rename_i e he;simp only at e;subst e;cases h;rfl
 .cases h
theorem aib{t:Ty}{w:Wd}{x:Dt t}(h:w.Ar t=some x):w.t=t:=by rw[gu h]
theorem jG:∀(t:Ty),(iZ t).length=size t
 |.prod a b=>by have h1:=jG a;have h2:=jG b;simp only[size]at h1 h2;simp[iZ,size,iY,h1,h2]
 |.st n=>by simp[iZ,size,iY]
 |.int k=>rfl
 |.bool=>rfl
 |.str=>rfl
 |.sl e=>rfl
 |.opq=>rfl
 |.sq e=>rfl
theorem sZ:∀(t:Ty) (x:Dt t),(fF t x).map (·.t)=iZ t
 |.prod a b,x=>by simp[fF,iZ,sZ a,sZ b]
 |.st n,x=>by simp[fF,iZ];exact RE.ag7 n x
 |.int k,x=>rfl
 |.bool,x=>rfl
 |.str,x=>rfl
 |.sl e,x=>rfl
 |.opq,x=>rfl
 |.sq e,x=>rfl
theorem pK(t:Ty)(x:Dt t):(fF t x).length=size t:=by rw[<-jG,<-sZ t x,W5]
theorem gG:∀(t:Ty) (x:Dt t),kL t x=(fF t x).map bY
 |.prod a b,x=>by show kL a x.1++kL b x.2=_;rw[gG a x.1,gG b x.2];simp[fF]
 |.st n,x=>RE.ag9 n x
 |.int k,x=>rfl
 |.bool,x=>rfl
 |.str,x=>rfl
 |.sl e,x=>rfl
 |.opq,x=>rfl
 |.sq e,x=>rfl
theorem QK(t:Ty)(x:Dt t):(kL t x).length=size t:=by rw[gG,W5,pK]
theorem DF{ws:List Wd}{t:Ty}(h:ws.map (·.t)=[t]):∃w,ws=[w]/\w.t=t:=by
 match ws with
 | []=>cases h
 | [w]=>exact⟨w,rfl,by simpa using h⟩
 |w::u::ws=>simp at h
theorem IX:∀(t:Ty) (ws:List Wd),ws.map (·.t)=iZ t->fF t (kM t ws)=ws
 |.prod a b,ws,h=>by
  have h1:(ws.take (size a)).map (·.t)=iZ a:=by rw[VM,h];simp[iZ,<-jG]
  have h2:(ws.drop (size a)).map (·.t)=iZ b:=by rw[Vc,h];simp[iZ,<-jG]
  show fF a (kM a (ws.take (size a)))++fF b (kM b (ws.drop (size a)))=ws;rw[IX a _ h1,IX b _ h2,K5]
 |.st n,ws,h=>RE.ag8 n ws h
 |.int k,ws,h=>by obtain⟨w,rfl,hw⟩:=DF (t:=(.int k)) h;show [(⟨.int k,w.as (.int k)⟩:Wd)]=[w];rw[wC hw]
 |.bool,ws,h=>by obtain⟨w,rfl,hw⟩:=DF (t:=.bool) h;show [(⟨.bool,w.as .bool⟩:Wd)]=[w];rw[wC hw]
 |.str,ws,h=>by obtain⟨w,rfl,hw⟩:=DF (t:=.str) h;show [(⟨.str,w.as .str⟩:Wd)]=[w];rw[wC hw]
 |.sl e,ws,h=>by obtain⟨w,rfl,hw⟩:=DF (t:=(.sl e)) h;show [(⟨.sl e,w.as (.sl e)⟩:Wd)]=[w];rw[wC hw]
 |.opq,ws,h=>by obtain⟨w,rfl,hw⟩:=DF (t:=.opq) h;show [(⟨.opq,w.as .opq⟩:Wd)]=[w];rw[wC hw]
 |.sq e,ws,h=>by obtain⟨w,rfl,hw⟩:=DF (t:=(.sq e)) h;show [(⟨.sq e,w.as (.sq e)⟩:Wd)]=[w];rw[wC hw]
theorem vk{t:Ty}{ws:List Wd}(h:ws.map (·.t)=iZ t):kL t (kM t ws)=ws.map bY:=by rw[gG,IX t ws h]
def aC(e:Ty)(l:List (Dt e)):List (List P):=List.map (kL e) l
theorem Gy(e:Ty)(l:List (Dt e)):bY ⟨.sl e,l⟩=P.fG (size e) (aC e l):=rfl
theorem iV(e:Ty)(l:List (Dt e)):(bY ⟨.sl e,l⟩).list=aC e l:=by rw[Gy,P.nI]
theorem YU{w:Wd}(h:w.t.flat=true):(bY w).flat=true:=by obtain⟨t,x⟩:=w;cases t<;>simp[Ty.flat]at h<;>rfl
end
end Go.Fg

namespace Go.Fg
open Go.Fw
section
variable [RE]
inductive TW where
 |p (a i:Bool) (w:Wd)
 |b_
 |own (g:Nat)
 |vw (g:Nat) (lo hi:Int)
 |box (g off:Nat)
 |ep (g:Nat) (n:Int) (off:Nat)
 |sp (a i:Bool) (t:Ty) (x:Dt t) (off:Nat)
 |clo (f:FuncId) (caps:List TW)
 |gl (g:Nat)
 |mO (g:Nat)
 |no
inductive TV where
 |one (x:TW)
 |agg (xs:List TW)
inductive TS where
 |v (x:TV)
 |lq (xs:List TV)
 |no
inductive TO where
 |none
 |box (ws:List TW)
 |arr (fz a i:Bool) (e:Ty) (l:List (Dt e))
 |it (s:List UInt8) (n:Int)
 |aF (a i:Bool) (e:Ty) (ah:List (Nat×Ty)) (l:List (Dt e)) (hole:Option (Nat×Nat×Nat))
mutual
def bQ:TW->W
 |.p a i w=>.p a i (bY w)
 |.b_=>.b_
 |.own g=>.own g
 |.vw g lo hi=>.vw g (.int .i64 lo) (.int .i64 hi)
 |.box g off=>.box g off
 |.ep g n off=>.ep g (.int .i64 n) off
 |.sp a i t x off=>.sp a i (kL t x) off
 |.clo f caps=>.clo f (mZ caps)
 |.gl g=>.gl g
 |.mO g=>.mO g
 |.no=>.no
def mZ:List TW->List W
 | []=>[]
 |x::xs=>bQ x::mZ xs
end
theorem yH:∀(l:List TW),mZ l=l.map bQ
 | []=>rfl
 |x::xs=>by simp[mZ,yH xs]
def jv:TV->V
 |.one x=>.one (bQ x)
 |.agg xs=>.agg (xs.map bQ)
def aZ:TS->S
 |.v x=>.v (jv x)
 |.lq xs=>.lq (xs.map jv)
 |.no=>.no
def gY(ah:List (Nat×Ty)):List (Nat×Nat):=ah.map λc=>(c.1,size c.2)
def dJ:TO->O
 |.none=>.none
 |.box ws=>.box (ws.map bQ)
 |.arr fz a i e l=>.arr fz a i (size e) (aC e l)
 |.it s n=>.it (.str ⟨s.toArray⟩) (.int .i64 n)
 |.aF a i e ah l hole=>.aF a i (size e) (gY ah) (aC e l) hole
def jl{α:Type}(d:α):List (Nat×α)->Nat->α
 | [],_=>d
 |(k,v)::r,t=>bif Nat.beq t k then v else jl d r t
def xI{α:Type}(k:Nat)(v:α):List (Nat×α)->List (Nat×α)
 | []=>[(k,v)]
 |(k',v')::r=>bif Nat.beq k k' then(k,v)::r else(k',v')::xI k v r
def eY(g:Nat):List Nat->Bool
 | []=>false
 |x::xs=>Nat.beq g x||eY g xs
structure iQ where
 s:List (Nat×TS)
 o:List (Nat×TO)
 u:List Nat
def iQ.gs(st:iQ)(t:Nat):TS:=jl .no st.s t
def iQ.go(st:iQ)(g:Nat):TO:=jl .none st.o g
def aP(st:iQ):St:={ s:=λt=>aZ (st.gs t),o:=λg=>dJ (st.go g),used:=λg=>eY g st.u }
def bT(o:Nat->TO):Nat->O:=λg=>dJ (o g)
def iE(k:IntKind)(x:Int):Wd:=⟨.int k,x⟩
def iI(x:Bool):Wd:=⟨.bool,x⟩
def QL(x:List UInt8):Wd:=⟨.str,x⟩
def tq(e:Ty)(x:List (Dt e)):Wd:=⟨.sl e,x⟩
def aoB(x:Value):Wd:=⟨.opq,x⟩
def Z8:Value->TW
 |.int k n=>.p false false (iE k n)
 |.bool b=>.p false false (iI b)
 |.string s=>.p false false (QL s.data.toList)
 |.slice none 0 0=>.b_
 |v=>.p false false (aoB v)
def UL:Value->TS
 |.agg cs=>bif cs.toList.all Value.oneCell' then .v (.agg (cs.toList.map Z8))else .no
 |.tuple _=>.no
 |.func (.func f) ⟨[]⟩ ⟨[]⟩=>.v (.one (.clo f []))
 |v=>bif v.oneCell' then .v (.one (Z8 v))else .no
def iQ.bW(st:iQ):Operand->TS
 |.tmp t=>st.gs t
 |.const v=>UL v
 |.func f=>.v (.one (.clo f []))
 |.global g=>match RE.G g with
  |some _=>.v (.one (.gl g))
  |none=>.no
structure r_ where
 pre:Bool
 t:Ty
 val:Dt t
 dst:Dt t->TS
 aB:Dt t->List (Nat×TO)
 new:List Nat
def r_.pure(x:TS):r_:={ pre:=true,t:=.bool,val:=false,dst:=λ_=>x,aB:=λ_=>[],new:=[] }
def Wv(w:Wd):TS:=.v (.one (.p false false w))
def r_.calc(pre:Bool)(t:Ty)(x:Dt t):r_:={ pre,t,val:=x,dst:=λz=>Wv ⟨t,z⟩,aB:=λ_=>[],new:=[] }
structure TA where
 a:Bool
 i:Bool
 e:Ty
 l:List (Dt e)
structure TH where
 a:Bool
 i:Bool
 e:Ty
 ah:List (Nat×Ty)
 l:List (Dt e)
def tyB(a b:Ty):Bool:=match Ty.eq a b with
 |some _=>true
 |none=>false
def tu(c:Nat):List (Nat×Ty)->Option Ty
 | []=>none
 |(k,t)::r=>bif Nat.beq c k then some t else tu c r
def YV(e:Ty)(ah:List (Nat×Ty))(c:Nat)(e':Ty):Bool:=(match tu c ah with
 |some t=>tyB t e'
 |none=>false)&&(match (iZ e)[c]? with
 |some (.sl t)=>tyB t e'
 |_=>false)
def KO(e:Ty)(whole:Bool)(x:Dt e)(off:Nat)(ps:List Wd):Dt e:=match whole with
 |true=>kM e ps
 |false=>kM e (aJ (fF e x) off ps)
def putRow(e:Ty)(l:List (Dt e))(n c:Nat)(w:Wd):List (Dt e):=List.set l n (KO e (Nat.beq 1 (size e)) (l.getD n (dflt e)) c [w])
def m_(o:Nat->TO)(g:Nat):Option TA:=match o g with
 |.arr _ a i e l=>some ⟨a,i,e,l⟩
 |.aF a i e ah l hole=>match hole with
  |none=>some ⟨a,i,e,l⟩
  |some (n,c,d)=>match o d with
   |.arr _ a' i' e' l'=>match YV e ah c e' with
    |true=>some ⟨a||a',i||i',e,putRow e l n c (tq e' l')⟩
    |false=>none
   |_=>none
 |_=>none
def iF:TO->List Nat
 |.aF _ _ _ _ _ hole=>match hole with
  |some (_,_,d)=>[d]
  |none=>[]
 |_=>[]
def KP(o:Nat->TO)(g:Nat):Option (Ty×Nat):=match o g with
 |.arr _ _ _ e l=>some (e,l.length)
 |.aF _ _ e _ l _=>some (e,l.length)
 |_=>none
def TW.toP(o:Nat->TO)(t:Ty):TW->Option (Dt t×Bool×Bool×List Nat)
 |.p a i w=>match w.Ar t with
  |some x=>some (x,a,i,[])
  |none=>none
 |.b_=>match t with
  |.sl e=>some (([]:List (Dt e)),false,false,[])
  |_=>none
 |.own g=>match m_ o g with
  |some ⟨a,i,e,l⟩=>match (tq e l).Ar t with
   |some x=>some (x,a,i,iF (o g)++[g])
   |none=>none
  |none=>none
 |.vw g lo hi=>match m_ o g with
  |some ⟨a,i,e,l⟩=>match (tq e ((l.take hi.toNat).drop lo.toNat)).Ar t with
   |some x=>some (x,a,i,iF (o g)++[g])
   |none=>none
  |none=>none
 |_=>none
def qW(o:Nat->TO):List Ty->List TW->Option (List Wd×Bool×Bool×List Nat)
 | [],[]=>some ([],false,false,[])
 |t::ts,x::xs=>match x.toP o t,qW o ts xs with
  |some (y,a,i,gs),some (ys,a',i',gs')=>some (⟨t,y⟩::ys,a||a',i||i',gs++gs')
  |_,_=>none
 |_,_=>none
def TV.words:TV->List TW
 |.one x=>[x]
 |.agg xs=>xs
def kY(o:Nat->TO)(g:Nat):Nat×TO:=
 (g,match m_ o g with
  |some ⟨a,i,e,l⟩=>.arr true a i e l
  |none=>o g)
def TV.fA(agg:Bool)(ws:List TW):TS:=match agg with
 |true=>.v (.agg ws)
 |false=>match ws with
  | [x]=>.v (.one x)
  |_=>.no
def TW.solid:TW->Bool
 |.no=>false
 |_=>true
def TV.solid:TV->Bool
 |.one x=>x.solid
 |.agg _=>true
def BI(place:Nat->Option (Nat×Nat))(ws:List TW):List (Nat×TS)->Option (List TW)
 | []=>some ws
 |(n,.v x)::rest=>match place n with
  |some (off,size)=>bif Nat.beq x.words.length size&&Nat.ble (off+size) ws.length&&x.solid then BI place (aJ ws off x.words) rest else none
  |none=>none
 |_=>none
def TW.rows(o:Nat->TO)(e:Ty):TW->Option (List (Dt e)×Bool×Bool)
 |.p a i w=>match w.Ar (.sl e)with
  |some l=>some (l,a,i)
  |none=>none
 |.b_=>some ([],false,false)
 |.own g=>match o g with
  |.arr _ a i e' l=>match (tq e' l).Ar (.sl e)with
   |some l=>some (l,a,i)
   |none=>none
  |_=>none
 |.vw g lo hi=>match o g with
  |.arr _ a i e' l=>match (tq e' ((l.take hi.toNat).drop lo.toNat)).Ar (.sl e)with
   |some l=>some (l,a,i)
   |none=>none
  |_=>none
 |_=>none
def QM(o:Nat->TO):TW->Option Int
 |.p _ _ ⟨.sl e,l⟩=>some (List.length (α:=Dt e) l)
 |.b_=>some 0
 |.own g=>match KP o g with
  |some (_,n)=>some n
  |none=>none
 |.vw g lo hi=>match KP o g with
  |some _=>some (hi.toNat-lo.toNat:Nat)
  |none=>none
 |_=>none
def TW.live(o:Nat->TO):TW->Bool
 |.box g _=>match o g with
  |.box _=>true
  |_=>false
 |.ep g _ _=>match KP o g with
  |some _=>true
  |none=>false
 |.sp _ _ _ _ _=>true
 |_=>false
def TW.shift(n:Nat):TW->TW
 |.box g off=>.box g (off+n)
 |.ep g k off=>.ep g k (off+n)
 |.sp a i t x off=>.sp a i t x (off+n)
 |x=>x
def kZ(dflt:Int):Option TS->Option Int
 |none=>some dflt
 |some (.v (.one (.p _ _ ⟨.int .i64,x⟩)))=>some x
 |_=>none
def aoC(n:Int):Int:=0-n
def eqI(a b:Int):Bool:=decide (a=b)
def inB(n:Int)(len:Nat):Bool:=decide (0<=n)&&decide (n<len)
def DI(lo hi:Int)(len:Nat):Bool:=decide (0<=lo)&&decide (lo<=hi)&&decide (hi<=(len:Int))
def o7(bytes:Nat)(n c:Int):Bool:=decide (0<=n)&&decide (n<=c)&&decide (bytes*c<=281474976710656)&&decide (c<=9223372036854775807)
def strOf(l:List Int):List UInt8:=l.map λn=>UInt8.ofNat n.toNat
def aie(s:List UInt8):List Int:=s.map λb=>(b.toNat:Int)
def YW(a b:Int):Int:=if b<a then b else a
def QN(a b:Int):Int:=if b>a then b else a
def UM(op:BinOp)(k k':IntKind)(a b:Int):Option (Bool×Wd):=
 match op with
 |.shl=>some (decide (0<=b),iE k (k.wrap (a*2 ^ min b.toNat k.bits)))
 |.shr=>some (decide (0<=b),iE k (a.fdiv (2 ^ min b.toNat k.bits)))
 |_=>match aaX k k' with
  |none=>none
  |some _=>match op with
   |.add=>some (true,iE k (k.wrap (a+b)))
   |.sub=>some (true,iE k (k.wrap (a-b)))
   |.mul=>some (true,iE k (k.wrap (a*b)))
   |.quo=>some (!(decide (b=0)),iE k (k.wrap (a.tdiv b)))
   |.rem=>some (!(decide (b=0)),iE k (a.tmod b))
   |.and=>some (true,iE k (bits .and k a b))
   |.or=>some (true,iE k (bits .or k a b))
   |.xor=>some (true,iE k (bits .xor k a b))
   |.andNot=>some (true,iE k (bits .andNot k a b))
   |.eql=>some (true,iI (decide (a=b)))
   |.neq=>some (true,iI (!(decide (a=b))))
   |.lss=>some (true,iI (decide (a<b)))
   |.leq=>some (true,iI (decide (a<=b)))
   |.gtr=>some (true,iI (decide (b<a)))
   |.geq=>some (true,iI (decide (b<=a)))
   |_=>none
def BJ(n m:Nat):Bool:=Nat.ble n (9223372036854775807-m)&&Nat.ble m 9223372036854775807
theorem nR{n m:Nat}:BJ n m=true↔n+m<=9223372036854775807:=by unfold BJ;rw[X1,Nat.ble_eq,Nat.ble_eq];omega
def UN(op:BinOp)(a b:List UInt8):Option (Bool×Wd):=
 match op with
 |.add=>some (BJ a.length b.length,QL (a++b))
 |.eql=>some (true,iI (a==b))
 |.neq=>some (true,iI (!(a==b)))
 |.lss=>some (true,iI (Op.bytesLess a b))
 |.leq=>some (true,iI (Op.bytesLess a b||a==b))
 |.gtr=>some (true,iI (!(Op.bytesLess a b||a==b)))
 |.geq=>some (true,iI (!Op.bytesLess a b))
 |_=>none
def Oh(op:BinOp)(a b:Bool):Option (Bool×Wd):=
 match op with
 |.eql=>some (true,iI (a==b))
 |.neq=>some (true,iI (a != b))
 |_=>none
def akW(k:TK)(op:BinOp)(x y:Wd):Option (Bool×Wd):=
 match k,x,y with
 |.int _,⟨.int k,a⟩,⟨.int k',b⟩=>UM op k k' a b
 |.str,⟨.str,a⟩,⟨.str,b⟩=>UN op a b
 |.bool,⟨.bool,a⟩,⟨.bool,b⟩=>Oh op a b
 |_,_,_=>none
def unT(op:UnOp)(x:Wd):Option Wd:=
 match op,x with
 |.neg,⟨.int k,n⟩=>some (iE k (k.wrap (aoC n)))
 |.not,⟨.bool,b⟩=>some (iI (!b))
 |_,_=>none
def ahb(k k':IntKind)(m n:Int):Option Bool:=
 match aaX k k' with
 |some _=>some (decide (m=n))
 |none=>none
def eqStr(a b:List UInt8):Option Bool:=some (a==b)
def akX(a b:Bool):Option Bool:=some (a==b)
def aif(k:TK)(x y:Wd):Option Bool:=
 match k,x,y with
 |.int _,⟨.int a,m⟩,⟨.int b,n⟩=>ahb a b m n
 |.str,⟨.str,a⟩,⟨.str,b⟩=>eqStr a b
 |.bool,⟨.bool,a⟩,⟨.bool,b⟩=>akX a b
 |_,_,_=>none
def Gm(tt:TT):Nat->List (Nat×TypeId)->List TW->List TW->Option Bool
 |_,[],[],[]=>some true
 |n,(off,t)::fs,.p _ _ x::xs,.p _ _ y::ys=>match tt t with
  |some i=>bif Nat.beq off n&&i.k.flat&&Nat.beq i.size 1 then match aif i.k x y,Gm tt (n+1) fs xs ys with
   |some b,some c=>some (b&&c)
   |_,_=>none
   else none
  |none=>none
 |_,_,_,_=>none
def r_.nS(c:Bool×Wd):r_:=.calc c.1 c.2.t c.2.x
def aaZ:Wd->Value->Bool
 |⟨.int k,n⟩,.int k' n'=>(match aaX k k' with|some _=>true|none=>false)&&eqI n n'
 |⟨.bool,b⟩,.bool b'=>BEq.beq (α:=Bool) b b'
 |⟨.str,s⟩,.string s'=>List.isEmpty (α:=UInt8) s&&s'.data.toList.isEmpty
 |⟨.sl e,l⟩,.slice none 0 0=>List.isEmpty (α:=Dt e) l
 |_,_=>false
def su:List Wd->List Value->Bool
 | [],[]=>true
 |w::ws,v::vs=>aaZ w v&&su ws vs
 |_,_=>false
def tpw(a i:Bool)(ws:List Wd):List TW:=ws.map (TW.p a i)
def Oi(tt:TT)(ety:TypeId->Option Ty)(d:Nat)(o:Nat->TO)(sT:TypeId)(s x:TW):Option r_:=
 match tt sT with
 |some { k:=.slice e,.. }=>match tt e,ety e with
  |some ie,some et=>bif Nat.beq ie.bytes 0||!Nat.beq (size et) ie.size then none else match x.rows o et with
   |none=>none
   |some (new,a',i')=>
    let res (pre:Bool) (old:List (Dt et)) (a i:Bool) (kill:List (Nat×TO)):r_:=
     { pre:=pre&&decide ((old.length+new.length)*ie.bytes<=140737488355328),t:=.sl et,val:=List.append old new,dst:=λ_=>.v (.one (.own d)),aB:=λy=>kill++[(d,.arr false (a||a') (i||i') et y)],new:=[d] }
    match s with
    |.b_=>some (res true [] false false [])
    |.own g=>match o g with
     |.arr false a i e' l=>match (tq e' l).Ar (.sl et)with
      |some l=>bif Nat.beq g d then none else some (res true l a i [(g,.none)])
      |none=>none
     |_=>none
    |.vw g lo hi=>match o g with
     |.arr false a i e' l=>match (tq e' (l.take hi.toNat)).Ar (.sl et)with
      |some l=>bif Nat.beq g d then none else some (res (decide (lo=0)) l a i [(g,.none)])
      |none=>none
     |_=>none
    |_=>none
  |_,_=>none
 |_=>none
def BK(e:Ty):Nat->List Wd->List (Dt e)
 |0,_=>[]
 |n+1,l=>kM e (l.take (size e))::BK e n (l.drop (size e))
def IY{α:Type}(l:List α):Nat->List α
 |0=>[]
 |n+1=>l++IY l n
def Wx(tt:TT)(o:Nat->TO)(t:TypeId)(x h m:TS):Option r_:=
 match tt t,x,h,m with
 |some { k:=.slice e,.. },.v (.one (.own g)),.v (.one (.p _ _ ⟨.int .i64,h⟩)),.v (.one (.p _ _ ⟨.int .i64,m⟩))=>match tt e,o g with
  |some ie,.arr false _ _ e' l=>bif Nat.beq (size e') ie.size then some { pre:=DI h m l.length,t:=.bool,val:=false,dst:=λ_=>.v (.one (.vw g 0 h)),aB:=λ_=>[],new:=[] } else none
  |_,_=>none
 |some { k:=.slice e,.. },.v (.one .b_),.v (.one (.p _ _ ⟨.int .i64,h⟩)),.v (.one (.p _ _ ⟨.int .i64,m⟩))=>match tt e with
  |some _=>some { pre:=DI h m 0,t:=.bool,val:=false,dst:=λ_=>.v (.one .b_),aB:=λ_=>[],new:=[] }
  |none=>none
 |_,_,_,_=>none
def dK(tt:TT)(ety:TypeId->Option Ty)(d:Nat)(o:Nat->TO)(f:Operand->TS)(op:Op)(ty:TypeId):Option r_:=
 match op with
 |.move x|.assign x=>match f x with
  |.no=>none
  |s=>some (.pure s)
 |.pick c x y=>match f c with
  |.v (.one (.p _ _ ⟨.bool,b⟩))=>match f x,f y with
   |.v (.one (.p a i w)),.v (.one (.p a' i' w'))=>match w'.Ar w.t with
    |some z=>some { pre:=true,t:=w.t,val:=bif b then w.x else z,dst:=λz=>.v (.one (.p (a||a') (i||i') ⟨w.t,z⟩)),aB:=λ_=>[],new:=[] }
    |none=>none
   |x,y=>match (bif b then x else y)with
    |.no=>none
    |s=>some (.pure s)
  |_=>none
 |.alloc t=>match tt t with
  |some i=>some { pre:=true,t:=.bool,val:=false,dst:=λ_=>.v (.one (.box d 0)),aB:=λ_=>[(d,.box (i.zero.map Z8))],new:=[d] }
  |none=>none
 |.box t x=>match tt t,f x with
  |some i,.v x=>bif Nat.beq x.words.length i.size&&x.solid then some { pre:=true,t:=.bool,val:=false,dst:=λ_=>.v (.one (.box d 0)),aB:=λ_=>[(d,.box x.words)],new:=[d] } else none
  |_,_=>none
 |.build t parts=>match tt t with
  |some i=>bif i.known tt then match BI (placeOf tt t) (i.zero.map Z8) (parts.toList.map λp=>(p.1,f p.2))with
   |some ws=>some (.pure (.v (.agg ws)))
   |none=>none
   else none
  |none=>none
 |.buildSlice t n parts=>match tt t with
  |some { k:=.slice e,.. }=>match tt e,ety e with
   |some ie,some et=>match BI (λm=>if m<n then some (m*ie.size,ie.size)else none) (IY (ie.zero.map Z8) n) (parts.toList.map λp=>(p.1,f p.2))with
    |some ws=>match qW o (IY (iZ et) n) ws with
     |some (ps,a,i,gs)=>bif Nat.ble (n+n*ie.size) 16777216&&Nat.beq (size et) ie.size then
       some { pre:=true,t:=.sl et,val:=BK et n ps,dst:=λ_=>.v (.one (.own d)),aB:=λy=>gs.map (kY o)++[(d,.arr false a i et y)],new:=[d] } else none
     |none=>none
    |none=>none
   |_,_=>none
  |_=>none
 |.load t x=>match tt t,f x with
  |some i,.v (.one (.box g off))=>match o g with
   |.box ws=>bif Nat.ble (off+i.size) ws.length&&Nat.blt 0 i.size then some (.pure (TV.fA i.agg ((ws.drop off).take i.size)))else none
   |_=>none
  |some i,.v (.one (.ep g n off))=>match o g with
   |.arr _ a i' e l=>bif Nat.ble (off+i.size) (size e)&&Nat.blt 0 i.size&&su (((fF e (dflt e)).drop off).take i.size) i.zero then
     some { pre:=true,t:=e,val:=l.getD n.toNat (dflt e),dst:=λz=>TV.fA i.agg (tpw a i' (((fF e z).drop off).take i.size)),aB:=λ_=>[],new:=[] } else none
   |_=>none
  |some i,.v (.one (.sp a i' e x off))=>bif Nat.blt 0 i.size&&Nat.ble (off+i.size) (size e)then
    some (.pure (TV.fA i.agg (tpw a i' (((fF e x).drop off).take i.size))))else none
  |_,_=>none
 |.store t x y=>match tt t,f x,f y with
  |some i,.v (.one (.box g off)),.v y=>match o g with
   |.box ws=>bif Nat.ble (off+i.size) ws.length&&Nat.beq y.words.length i.size&&y.solid then
     some { pre:=true,t:=.bool,val:=false,dst:=λ_=>.no,aB:=λ_=>[(g,.box (aJ ws off y.words))],new:=[] } else none
   |_=>none
  |some i,.v (.one (.ep g n off)),.v y=>match o g with
   |.arr false a i' e l=>match qW o (((iZ e).drop off).take i.size) y.words with
    |some (ps,a',i'',gs)=>bif Nat.ble (off+i.size) (size e)&&Nat.beq y.words.length i.size&&y.solid&&!eY g gs then
     some { pre:=true,t:=.sl e,val:=List.set l n.toNat (KO e (Nat.beq i.size (size e)) (l.getD n.toNat (dflt e)) off ps),dst:=λ_=>.no,aB:=λz=>gs.map (kY o)++[(g,.arr false (a||a') (i'||i'') e z)],new:=[] } else none
    |none=>none
   |_=>none
  |_,_,_=>none
 |.nilCheck x=>match f x with
  |.v (.one x)=>bif x.live o then some (.pure (.v (.one x)))else none
  |_=>none
 |.binOp op t x y _=>match f x,f y with
  |.v (.one (.p _ _ x)),.v (.one (.p _ _ y))=>match tt t with
   |some i=>match akW i.k op x y with
    |some c=>some (.nS c)
    |none=>none
   |none=>none
  |.v (.agg xs),.v (.agg ys)=>match tt t with
   |some i=>match Gm tt 0 i.k.parts xs ys,aee op with
    |some b,some true=>bif i.eq then some (.nS (true,iI b))else none
    |some b,some false=>bif i.eq then some (.nS (true,iI (!b)))else none
    |_,_=>none
   |none=>none
  |_,_=>none
 |.unOp op _ x=>match f x with
  |.v (.one (.p _ _ x))=>match unT op x with
   |some c=>some (.nS (true,c))
   |none=>none
  |_=>none
 |.convert s t x=>match tt s,tt t,f x with
  |some { k:=.int _,.. },some { k:=.int k,.. },.v (.one (.p _ _ ⟨.int _,x⟩))=>some (.calc true (.int k) (k.wrap x))
  |some { k:=.slice e,.. },some { k:=.str,.. },.v (.one x)=>match tt e with
   |some { k:=.int .u8,.. }=>match x.rows o (.int .u8)with
    |some (l,_,_)=>some (.calc true .str (strOf l))
    |none=>none
   |_=>none
  |some { k:=.str,.. },some { k:=.slice e,.. },.v (.one (.p _ _ ⟨.str,x⟩))=>match tt e with
   |some { k:=.int .u8,.. }=>some (.calc true (.sl (.int .u8)) (aie x))
   |_=>none
  |_,_,_=>none
 |.makeSlice t n c=>match tt t,f n,f c with
  |some { k:=.slice e,.. },.v (.one (.p _ _ ⟨.int .i64,n⟩)),.v (.one (.p _ _ ⟨.int .i64,c⟩))=>match tt e,ety e with
   |some ie,some et=>match qW o (iZ et) (ie.zero.map Z8)with
    |some (ps,false,false,[])=>bif Nat.blt 0 ie.size&&Nat.beq (size et) ie.size then
     some { pre:=o7 ie.bytes n c,t:=.sl et,val:=List.replicate (Int.toNat n) (kM et ps),dst:=λ_=>.v (.one (.own d)),aB:=λy=>[(d,.arr false false false et y)],new:=[d] } else none
    |_=>none
   |_,_=>none
  |_,_,_=>none
 |.slice t x lo hi none=>match tt t,f x with
  |some { k:=.slice e,.. },.v (.one x)=>match tt e,ety e,QM o x with
   |some ie,some et,some len=>match kZ 0 (lo.map f),kZ len (hi.map f)with
    |some lo,some hi=>match x with
     |.own g=>match KP o g with
      |some (e',l)=>bif Nat.beq (size e') ie.size then
        some { pre:=DI lo hi l,t:=.bool,val:=false,dst:=λ_=>.v (.one (.vw g lo hi)),aB:=λ_=>[],new:=[] } else none
      |none=>none
     |.p a i w=>match w.Ar (.sl et)with
      |some l=>bif Nat.beq (size et) ie.size then some { pre:=DI lo hi (List.length (α:=Dt et) l),t:=.sl et,val:=List.drop lo.toNat (List.take (α:=Dt et) hi.toNat l),dst:=λz=>.v (.one (.p a i ⟨.sl et,z⟩)),aB:=λ_=>[],new:=[] } else none
      |none=>none
     |.b_=>some { pre:=decide (lo=0)&&decide (hi=0),t:=.bool,val:=false,dst:=λ_=>.v (.one .b_),aB:=λ_=>[],new:=[] }
     |_=>none
    |_,_=>none
   |_,_,_=>none
  |some { k:=.str,.. },.v (.one (.p _ _ ⟨.str,y⟩))=>match kZ 0 (lo.map f),kZ (List.length (α:=UInt8) y) (hi.map f)with
   |some lo,some hi=>some (.calc (DI lo hi (List.length (α:=UInt8) y)) .str (List.drop lo.toNat (List.take (α:=UInt8) hi.toNat y)))
   |_,_=>none
  |_,_=>none
 |.slice t x none (some hi) (some mx)=>Wx tt o t (f x) (f hi) (f mx)
 |.fieldAddr t x n=>match tt t,placeOf tt t n,f x with
  |some { k:=.struct _,.. },some (off',sz'),.v (.one x)=>bif Nat.blt 0 sz'&&x.live o then some (.pure (.v (.one (x.shift off'))))else none
  |_,_,_=>none
 |.field t x n=>match tt t,f x with
  |some { k:=.struct fs,.. },.v (.agg ws)=>match fs[n]? with
   |some (off,u)=>match tt u with
    |some iu=>bif Nat.ble (off+iu.size) ws.length&&Nat.blt 0 iu.size then some (.pure (TV.fA iu.agg ((ws.drop off).take iu.size)))else none
    |none=>none
   |none=>none
  |_,_=>none
 |.indexAddr t x ix=>match tt t,f x,f ix with
  |some { k:=.slice e,.. },.v (.one x),.v (.one (.p _ _ ⟨.int _,n⟩))=>match tt e,ety e,x with
   |some ie,some et,.own g=>match KP o g with
    |some (e',l)=>bif Nat.beq (size e') ie.size then
      some { pre:=inB n l,t:=.bool,val:=false,dst:=λ_=>.v (.one (.ep g (Int.toNat n:Nat) 0)),aB:=λ_=>[],new:=[] } else none
    |none=>none
   |some ie,some et,.vw g lo hi=>match KP o g with
    |some (e',_)=>bif Nat.beq (size e') ie.size then
      some { pre:=inB n (hi.toNat-lo.toNat),t:=.bool,val:=false,dst:=λ_=>.v (.one (.ep g (lo.toNat+Int.toNat n:Nat) 0)),aB:=λ_=>[],new:=[] } else none
    |none=>none
   |some ie,some et,.p a i w=>match w.Ar (.sl et)with
    |some l=>bif Nat.beq (size et) ie.size then some { pre:=inB n (List.length (α:=Dt et) l),t:=et,val:=List.getD (α:=Dt et) l (Int.toNat n) (dflt et),dst:=λz=>.v (.one (.sp a i et z 0)),aB:=λ_=>[],new:=[] } else none
    |none=>none
   |_,_,_=>none
  |some { k:=.arr m e,.. },.v (.one (.gl g)),.v (.one (.p _ _ ⟨.int _,n⟩))=>match tt e,RE.G g with
   |some ie,some ⟨et,l⟩=>bif Nat.beq (size et) ie.size&&Nat.beq (List.length (α:=Dt et) l) m then some { pre:=inB n m,t:=et,val:=List.getD (α:=Dt et) l (Int.toNat n) (dflt et),dst:=λz=>.v (.one (.sp false false et z 0)),aB:=λ_=>[],new:=[] } else none
   |_,_=>none
  |some { k:=.arr m e,.. },.v (.one x),.v (.one (.p _ _ ⟨.int _,n⟩))=>match tt e with
   |some ie=>bif inB n m&&x.live o then some (.pure (.v (.one (x.shift (Int.toNat n*ie.size)))))else none
   |none=>none
  |_,_,_=>none
 |.index t x ix=>match tt t,f x,f ix with
  |some { k:=.str,.. },.v (.one (.p _ _ ⟨.str,s⟩)),.v (.one (.p _ _ ⟨.int _,n⟩))=>some (.calc (inB n (List.length (α:=UInt8) s)) (.int .u8) ((List.getD (α:=UInt8) s (Int.toNat n) 0).toNat:Int))
  |_,_,_=>none
 |.range t x=>match tt t,f x with
  |some { k:=.str,.. },.v (.one (.p _ _ ⟨.str,s⟩))=>some { pre:=true,t:=.str,val:=s,dst:=λ_=>.v (.one (.mO d)),aB:=λz=>[(d,.it z 0)],new:=[d] }
  |_,_=>none
 |.extract t n=>match f t with
  |.lq xs=>match xs[n]? with
   |some x=>some (.pure (.v x))
   |none=>none
  |_=>none
 |.makeFunc (.func g) first caps=>bif Nat.beq first.size 0 then
   match caps.toList.mapM (λx=>match f x with|.v (.one w)=>some w|_=>none)with
   |some ws=>some (.pure (.v (.one (.clo g ws))))
   |none=>none
   else none
 |.call { callee:=.builtin .len,args,argTypes }=>match args.toList,argTypes.toList with
  | [x],[t]=>match tt t,f x with
   |some { k:=.slice _,.. },.v (.one x)=>match QM o x with
    |some n=>some (.calc true (.int .i64) n)
    |none=>none
   |some { k:=.str,.. },.v (.one (.p _ _ ⟨.str,s⟩))=>some (.calc true (.int .i64) (List.length (α:=UInt8) s:Int))
   |_,_=>none
  |_,_=>none
 |.call { callee:=.builtin .append,args,argTypes }=>match args.toList,argTypes.toList with
  | [s,x],sT::xT::_=>match tt xT,f s,f x with
   |some { k:=.slice _,.. },.v (.one s),.v (.one x)=>Oi tt ety d o sT s x
   |_,_,_=>none
  |_,_=>none
 |.call { callee:=.builtin .min,args,.. }=>match args.toList with
  | [x,y]=>match f x,f y with
   |.v (.one (.p _ _ ⟨.int k,x⟩)),.v (.one (.p _ _ ⟨.int _,y⟩))=>some (.calc true (.int k) (YW x y))
   |_,_=>none
  | [x,y,z]=>match f x,f y,f z with
   |.v (.one (.p _ _ ⟨.int k,x⟩)),.v (.one (.p _ _ ⟨.int _,y⟩)),.v (.one (.p _ _ ⟨.int _,z⟩))=>some (.calc true (.int k) (YW (YW x y) z))
   |_,_,_=>none
  |_=>none
 |.call { callee:=.builtin .max,args,.. }=>match args.toList with
  | [x,y]=>match f x,f y with
   |.v (.one (.p _ _ ⟨.int k,x⟩)),.v (.one (.p _ _ ⟨.int _,y⟩))=>some (.calc true (.int k) (QN x y))
   |_,_=>none
  | [x,y,z]=>match f x,f y,f z with
   |.v (.one (.p _ _ ⟨.int k,x⟩)),.v (.one (.p _ _ ⟨.int _,y⟩)),.v (.one (.p _ _ ⟨.int _,z⟩))=>some (.calc true (.int k) (QN (QN x y) z))
   |_,_,_=>none
  |_=>none
 |_=>none
end
end Go.Fg

namespace Go.Fg
open Go.Fw
section
variable [RE] {o:Nat->TO} {tt:TT} {ety:TypeId->Option Ty}
theorem dQ(e:Ty)(l:List (Dt e)):(aC e l).length=l.length:=by simp[aC]
theorem qX(e:Ty)(l:List (Dt e))(lo hi:Int):((aC e l).take (P.nat (.int .i64 hi))).drop (P.nat (.int .i64 lo))=aC e ((l.take hi.toNat).drop lo.toNat):=by simp[aC,P.nat,P.num,VM,Vc]
theorem pq(e:Ty)(l:List (Dt e))(hi:Int):(aC e l).take (P.nat (.int .i64 hi))=aC e (l.take hi.toNat):=by simp[aC,P.nat,P.num,VM]
theorem gI{g:Nat}{fz a i:Bool}{e:Ty}{l:List (Dt e)}(h:o g=.arr fz a i e l):bT o g=.arr fz a i (size e) (aC e l):=by simp[bT,h,dJ]
theorem nT{g:Nat}{ws:List TW}(h:o g=.box ws):bT o g=.box (ws.map bQ):=by simp[bT,h,dJ]
theorem oL{g n:Nat}{e:Ty}(h:KP o g=some (e,n)):(bT o g).dim=some (size e,n):=by
 unfold KP at h;unfold bT;cases ho:o g with
 |arr fz a i e l=>rw[ho]at h;cases h;simp[dJ,O.dim,aC]
 |aF a i e ah l hole=>rw[ho]at h;cases h;simp[dJ,O.dim,aC]
 |_=>rw[ho]at h;cases h
theorem xJ{a b:Ty}(h:tyB a b=true):a=b:=by
 unfold tyB at h;split at h
 .rename_i p _;exact p.down
 .cases h
theorem DJ{c:Nat}:∀{ah:List (Nat×Ty)} {t:Ty},tu c ah=some t->(gY ah).lookup c=some (size t)
 | [],t,h=>by cases h
 |(k,u)::r,t,h=>by
  simp only[tu]at h;simp only[gY,X2,List.lookup];by_cases e:c=k
  .subst e;have:Nat.beq c c=true:=by simp
   rw[this]at h;simp only[cond_true,Q0]at h;subst h;simp
  .have e1:Nat.beq c k=false:=by cases hb:Nat.beq c k with|false=>rfl|true=>exact absurd (Qf hb) e
   have e2:(c==k)=false:=by simpa using e
   rw[e1]at h;rw[e2];exact DJ h
theorem IZ{c:Nat}:∀{ah:List (Nat×Ty)},tu c ah=none->(gY ah).lookup c=none
 | [],h=>rfl
 |(k,u)::r,h=>by
  simp only[tu]at h;simp only[gY,X2,List.lookup];by_cases e:c=k
  .subst e;have:Nat.beq c c=true:=by simp
   rw[this]at h;cases h
  .have e1:Nat.beq c k=false:=by cases hb:Nat.beq c k with|false=>rfl|true=>exact absurd (Qf hb) e
   have e2:(c==k)=false:=by simpa using e
   rw[e1]at h;rw[e2];exact IZ h
theorem tC{e e':Ty}{ah:List (Nat×Ty)}{c:Nat}(h:YV e ah c e'=true):(gY ah).lookup c=some (size e')/\(iZ e)[c]?=some (.sl e')/\c<size e:=by
 simp only[YV,X1]at h;obtain⟨h1,h2⟩:=h;have k1:tu c ah=some e':=by
  split at h1
  .rename_i t ht;rw[ht,xJ h1]
  .cases h1
 have k2:(iZ e)[c]?=some (.sl e'):=by
  split at h2
  .rename_i t ht;rw[ht,xJ h2]
  .cases h2
 exact⟨DJ k1,k2,by have:=(Q4.1 k2).1;rwa [jG]at this⟩
theorem zl{α β:Type}(f:α->β)(l:List α)(off:Nat)(new:List α):(aJ l off new).map f=aJ (l.map f) off (new.map f):=by simp[aJ,VM,Vc]
theorem aa0{e:Ty}{x:Dt e}{off:Nat}{ps:List Wd}(hty:ps.map (·.t)=((iZ e).drop off).take ps.length)(hlt:off+ps.length<=size e):kL e (KO e (Nat.beq ps.length (size e)) x off ps)=aJ (kL e x) off (ps.map bY):=by
 have hty':(aJ (fF e x) off ps).map (·.t)=iZ e:=by
  have e0:iZ e=(iZ e).take off++(((iZ e).drop off).take ps.length++(iZ e).drop (off+ps.length)):=by rw[<-List.drop_drop,K5,K5]
  simp only[aJ,Z6,VM,Vc,sZ,hty,Wm];exact e0.symm
 unfold KO;cases hc:Nat.beq ps.length (size e)with
 |true=>
  have hc:=Qf hc;have h0:off=0:=by omega
  subst h0;have e2:aJ (fF e x) 0 ps=ps:=by simp only[aJ,vh,qa,V1];rw[List.drop_of_length_le (by rw[pK];omega),qb]
  have e3:aJ (kL e x) 0 (ps.map bY)=ps.map bY:=by rw[gG,<-zl,e2]
  rw[e2]at hty';rw[e3];exact vk hty'
 |false=>simp only;rw[vk hty',zl,<-gG]
theorem EZ{e:Ty}{l:List (Dt e)}{n off:Nat}{ps:List Wd}(hty:ps.map (·.t)=((iZ e).drop off).take ps.length)(hlt:off+ps.length<=size e):
  aC e (List.set l n (KO e (Nat.beq ps.length (size e)) (l.getD n (dflt e)) off ps))=(aC e l).set n (aJ ((aC e l).getD n []) off (ps.map bY)):=by
 have e0 :∀x,aC e (List.set l n x)=(aC e l).set n (kL e x):=λx=>by simp[aC,List.map_set]
 rw[e0];by_cases hn:n<l.length
 .have e1:(aC e l).getD n []=kL e (l.getD n (dflt e)):=by simp[aC,Q2,hn]
  rw[e1,aa0 hty hlt]
 .have e1 :∀z,(aC e l).set n z=aC e l:=λz=>List.set_eq_of_length_le (by rw[dQ];omega);rw[e1,e1]
theorem zV{e e':Ty}{l:List (Dt e)}{n c:Nat}{l':List (Dt e')}(hc:(iZ e)[c]?=some (.sl e')):aC e (putRow e l n c (tq e' l'))=iR (aC e l) n c (P.fG (size e') (aC e' l')):=by
 have hlt:c<size e:=by have:=(Q4.1 hc).1;rwa [jG]at this
 have:=EZ (e:=e) (l:=l) (n:=n) (off:=c) (ps:=[tq e' l']) (by
  show [Ty.sl e']=((iZ e).drop c).take 1;have hlt':c<(iZ e).length:=by rw[jG];exact hlt
  rw[List.drop_eq_getElem_cons hlt'];rw[Q3 hlt']at hc;simp only[Q0]at hc;rw[hc];rfl) (by simp only[W3];omega)
 exact this
theorem nU{g:Nat}{a i:Bool}{e:Ty}{l:List (Dt e)}(h:m_ o g=some ⟨a,i,e,l⟩):plainO (bT o) g=some (a,i,size e,aC e l)/\(bT o g).names=iF (o g):=by
 unfold m_ at h;cases ho:o g with
 |arr fz a' i' e' l'=>rw[ho]at h;cases h;have:=gI ho;exact⟨by simp[plainO,this],by rw[this];rfl⟩
 |aF a0 i0 e0 ah l0 hole=>
  rw[ho]at h;have hg:bT o g=.aF a0 i0 (size e0) (gY ah) (aC e0 l0) hole:=by simp[bT,ho,dJ]
  rcases hole with _|⟨n,c,d⟩
  .cases h;exact⟨by simp[plainO,hg],by rw[hg];rfl⟩
  .simp only at h;cases hd:o d with
   |arr fz a' i' e' l'=>
    rw[hd]at h;simp only at h;split at h
    .rename_i hc;cases h;obtain⟨k1,k2,k3⟩:=tC hc;refine⟨?_,by rw[hg];rfl⟩;simp only[plainO,hg,gI hd];rw[Qt ⟨k1,k3⟩,zV k2]
    .cases h
   |_=>rw[hd]at h;cases h
 |_=>rw[ho]at h;cases h
theorem nV{e:Ty}{l:List (Dt e)}{t:Ty}{x:Dt t}(h:(tq e l).Ar t=some x):∃h:Ty.sl e=t,x=h▸l:=by have:=gu h;unfold tq at this;cases this;exact⟨rfl,rfl⟩
theorem Oj{t:Ty}{x:TW}{y:Dt t}{a i:Bool}{gs:List Nat}(h:x.toP o t=some (y,a,i,gs)):(bQ x).toP (bT o)=some (bY ⟨t,y⟩,a,i,gs):=by
 cases x with
 |p a' i' w=>
  simp only[TW.toP]at h;split at h
  .rename_i x hx;cases h;rw[gu hx];rfl
  .cases h
 |b_=>
  simp only[TW.toP]at h;split at h
  .cases h;rfl
  .cases h
 |own g=>
  simp only[TW.toP]at h;split at h
  rotate_left
  cases h;rename_i a' i' e l hg;split at h
  .rename_i z hz;cases h;rw[<-gu hz];obtain⟨k1,k2⟩:=nU hg;simp only[bQ,W.toP,k1,k2];rfl
  .cases h
 |vw g lo hi=>
  simp only[TW.toP]at h;split at h
  rotate_left
  cases h;rename_i a' i' e l hg;split at h
  .rename_i z hz;cases h;rw[<-gu hz];obtain⟨k1,k2⟩:=nU hg;simp only[bQ,W.toP,k1,k2,qX];rfl
  .cases h
 |_=>simp[TW.toP]at h
theorem BL:∀{ts:List Ty} {xs:List TW} {ys:List Wd} {a i:Bool} {gs:List Nat},qW o ts xs=some (ys,a,i,gs)->wK (bT o) (xs.map bQ)=some (ys.map bY,a,i,gs)/\ys.map (·.t)=ts
 | [],[],ys,a,i,gs,h=>by simp only[qW,Q0,QP]at h;obtain⟨rfl,rfl,rfl,rfl⟩:=h;exact⟨rfl,rfl⟩
 | [],x::xs,ys,a,i,gs,h=>by simp[qW]at h
 |t::ts,[],ys,a,i,gs,h=>by simp[qW]at h
 |t::ts,x::xs,ys,a,i,gs,h=>by
  simp only[qW]at h;split at h
  .rename_i h1 h2;cases h;obtain⟨k1,k2⟩:=BL h2;refine⟨?_,by simp only[X2,k2]⟩;simp only[X2,wK,Oj h1,k1]
  .cases h
def gZ(l:List (Nat×TO)):List (Nat×O):=l.map λp=>(p.1,dJ p.2)
def Pl(o:Nat->TO)(gs:List Nat):Prop :=∀g∈gs,∃p,m_ o g=some p
theorem Pl.append{a b:List Nat}(h:Pl o a)(h':Pl o b):Pl o (a++b):=λg hg=>by
 rcases QQ.1 hg with x|x
 .exact h g x
 .exact h' g x
theorem Pl.nil:Pl o []:=λg hg=>by cases hg
theorem LQ{g:Nat}{p:TA}(h:m_ o g=some p):Pl o (iF (o g)++[g]):=by
 refine Pl.append (λd hd=>?_) (λg' hg'=>by rw[Q6]at hg';subst hg';exact⟨p,h⟩);unfold m_ at h;cases ho:o g with
 |aF a i e ah l hole=>
  rw[ho]at h hd;rcases hole with _|⟨n,c,d'⟩;cases hd;simp only[iF,Q6]at hd;subst hd;simp only at h;cases hod:o d with
  |arr fz a' i' e' l'=>exact⟨⟨a',i',e',l'⟩,by simp only[m_,hod]⟩
  |_=>rw[hod]at h;cases h
 |_=>rw[ho]at hd;cases hd
theorem UO{t:Ty}{x:TW}{y:Dt t}{a i:Bool}{gs:List Nat}(h:x.toP o t=some (y,a,i,gs)):Pl o gs:=by
 cases x with
 |p a' i' w=>
  simp only[TW.toP]at h;split at h
  .simp only[Q0,QP]at h;obtain⟨_,_,_,rfl⟩:=h;exact Pl.nil
  .cases h
 |b_=>
  simp only[TW.toP]at h;split at h
  .simp only[Q0,QP]at h;obtain⟨_,_,_,rfl⟩:=h;exact Pl.nil
  .cases h
 |own g=>
  simp only[TW.toP]at h;split at h
  .rename_i hg;split at h
   .simp only[Q0,QP]at h;obtain⟨_,_,_,rfl⟩:=h;exact LQ hg
   .cases h
  .cases h
 |vw g lo hi=>
  simp only[TW.toP]at h;split at h
  .rename_i hg;split at h
   .simp only[Q0,QP]at h;obtain⟨_,_,_,rfl⟩:=h;exact LQ hg
   .cases h
  .cases h
 |_=>simp[TW.toP]at h
theorem Ol:∀{ts:List Ty} {xs:List TW} {ys:List Wd} {a i:Bool} {gs:List Nat},qW o ts xs=some (ys,a,i,gs)->Pl o gs
 | [],[],ys,a,i,gs,h=>by simp only[qW,Q0,QP]at h;obtain⟨_,_,_,rfl⟩:=h;exact Pl.nil
 | [],x::xs,ys,a,i,gs,h=>by simp[qW]at h
 |t::ts,[],ys,a,i,gs,h=>by simp[qW]at h
 |t::ts,x::xs,ys,a,i,gs,h=>by
  simp only[qW]at h;split at h
  .rename_i h1 h2;simp only[Q0,QP]at h;obtain⟨_,_,_,rfl⟩:=h;exact(UO h1).append (Ol h2)
  .cases h
theorem I4{g:Nat}(h :∃p,m_ o g=some p):Fw.aN (bT o) g=((kY o g).1,dJ (kY o g).2):=by obtain⟨⟨a,i,e,l⟩,hp⟩:=h;simp only[Fw.aN,kY,hp,(nU hp).1];rfl
theorem oM{gs:List Nat}(h:Pl o gs):gs.map (Fw.aN (bT o))=gZ (gs.map (kY o)):=by simp only[gZ,Uv];exact W4 λg hg=>I4 (h g hg)
theorem tH(x:TV):(jv x).words=x.words.map bQ:=by cases x<;>rfl
theorem tJ(x:TV)(h:x.solid=true):(jv x).solid=true:=by
 cases x with
 |one x=>cases x<;>first|rfl|(simp[TV.solid,TW.solid]at h)
 |agg xs=>rfl
theorem kN(agg:Bool)(ws:List TW):aZ (TV.fA agg ws)=V.fA agg (ws.map bQ):=by
 cases agg with
 |true=>rfl
 |false=>
  match ws with
  | []=>rfl
  | [x]=>rfl
  |x::y::ws=>rfl
theorem pz{α β:Type}(f:α->β)(l:List α)(off:Nat)(new:List α):(aJ l off new).map f=aJ (l.map f) off (new.map f):=by simp[aJ,VM,Vc]
theorem BM{place:Nat->Option (Nat×Nat)}:∀{ps:List (Nat×TS)} {ws r:List TW},BI place ws ps=some r->lG place (ws.map bQ) (ps.map λp=>(p.1,aZ p.2))=some (r.map bQ)
 | [],ws,r,h=>by simp only[BI,Q0]at h;subst h;rfl
 |(n,.v x)::ps,ws,r,h=>by
  simp only[BI]at h;split at h
  rotate_left
  cases h;rename_i off size hp;cases hb:(Nat.beq x.words.length size&&Nat.ble (off+size) ws.length&&x.solid)with
  |false=>rw[hb]at h;cases h
  |true=>rw[hb,cond_true]at h;simp only[X1]at hb;have h1:=Qf hb.1.1;have h2:=Wf hb.1.2;have ih:=BM h;rw[pz]at ih;simp only[X2,aZ,lG,hp,tH,W5];rw[Qt ⟨h1,h2,tJ x hb.2⟩];exact ih
 |(n,.lq xs)::ps,ws,r,h=>by simp[BI]at h
 |(n,.no)::ps,ws,r,h=>by simp[BI]at h
theorem aez(sz:Nat)(l:List (List P)):(P.fG sz l).T_ sz:=by cases l<;>simp[P.fG,P.T_]
theorem I5(e:Ty)(l:List (Dt e)):(bY ⟨.sl e,l⟩).T_ (size e):=aez _ _
theorem QO{e:Ty}{x:TW}{l:List (Dt e)}{a i:Bool}(h:x.rows o e=some (l,a,i)):∃ask,(bQ x).rows (bT o) (size e)=some (ask,aC e l,a,i)/\ask:=by
 cases x with
 |p a' i' w=>
  simp only[TW.rows]at h;split at h
  .rename_i y hy;cases h;rw[gu hy];exact⟨(bY ⟨.sl e,l⟩).T_ (size e),by simp only[bQ,W.rows,iV],I5 _ _⟩
  .cases h
 |b_=>simp only[TW.rows,Q0,QP]at h;obtain⟨rfl,rfl,rfl⟩:=h;exact⟨_,rfl,trivial⟩
 |own g=>
  simp only[TW.rows]at h;split at h
  rotate_left
  cases h;rename_i fz a' i' e' l' hg;split at h
  .rename_i z hz;cases h;obtain⟨he,hz⟩:=nV hz;cases he;subst hz;exact⟨True,by simp only[bQ,W.rows,gI hg,if_true],trivial⟩
  .cases h
 |vw g lo hi=>
  simp only[TW.rows]at h;split at h
  rotate_left
  cases h;rename_i fz a' i' e' l' hg;split at h
  .rename_i z hz;cases h;obtain⟨he,hz⟩:=nV hz;cases he;subst hz;exact⟨True,by simp only[bQ,W.rows,gI hg,if_true,qX],trivial⟩
  .cases h
 |_=>simp[TW.rows]at h
theorem UQ(sz:Nat)(l:List (List P)):(P.fG sz l).isSlice:=by cases l<;>simp[P.fG,P.isSlice]
theorem aii(sz:Nat)(l:List (List P)):(P.fG sz l).len=.int .i64 l.length:=by cases l<;>rfl
theorem aeA(e:Ty)(l:List (Dt e)):(bY ⟨.sl e,l⟩).len=.int .i64 l.length:=by rw[Gy,aii,dQ]
theorem Wy{x:TW}{n:Int}(h:QM o x=some n):∃ask,lenOf (bT o) (bQ x)=some (ask,.int .i64 n)/\ask:=by
 cases x with
 |p a i w=>
  obtain⟨t,x⟩:=w;cases t<;>simp only[QM]at h<;>try (cases h;done)
  rename_i e;cases h;refine⟨(bY ⟨.sl e,x⟩).isSlice,?_,UQ _ _⟩;have e1:(bY ⟨.sl e,x⟩).len=.int .i64 (List.length (α:=Dt e) x):=aeA e x;simp only[bQ,lenOf];rw[e1]
 |b_=>simp only[QM,Q0]at h;subst h;exact⟨_,rfl,trivial⟩
 |own g=>
  simp only[QM]at h;split at h
  .rename_i hg;cases h;exact⟨True,by simp only[bQ,lenOf,oL hg],trivial⟩
  .cases h
 |vw g lo hi=>
  simp only[QM]at h;split at h
  .rename_i hg;cases h;rename_i x;obtain⟨e,n⟩:=x;exact⟨True,by simp only[bQ,lenOf,oL hg,P.nat,P.num],trivial⟩
  .cases h
 |_=>simp[QM]at h
theorem I7{x:TW}(h:x.live o=true):(bQ x).live (bT o)=true:=by
 cases x with
 |box g off=>
  simp only[TW.live]at h;split at h
  .rename_i hg;simp only[bQ,W.live,nT hg]
  .cases h
 |ep g n off=>
  simp only[TW.live]at h;split at h
  .rename_i x hg;obtain⟨e,n⟩:=x;simp only[bQ,W.live,oL hg];rfl
  .cases h
 |sp=>rfl
 |_=>simp[TW.live]at h
theorem LU(n:Nat)(x:TW):bQ (x.shift n)=(bQ x).shift n:=by cases x<;>simp[TW.shift,bQ,W.shift]
theorem aa1(v:Value):bQ (Z8 v)=cv v:=by
 unfold Z8;split;rfl;rfl;rfl;rfl;rename_i x h1 h2 h3 h4;show W.p false false (P.opq v)=cv v;unfold cv;split
 .exact (h1 _ _ rfl).elim
 .exact (h2 _ rfl).elim
 .exact (h3 _ rfl).elim
 .exact (h4 rfl).elim
 .rfl
theorem vC(l:List Value):(l.map Z8).map bQ=l.map cv:=by rw[Uv];exact W4 λv _=>aa1 v
theorem YX(v:Value):aZ (UL v)=uG v:=by
 unfold UL;split
 .rename_i cs;unfold uG;have e:(cs.toList.map Z8).map bQ=cs.toList.map cv:=vC _;cases h:cs.toList.all Value.oneCell'
  .simp only[h,cond_false,Wa,if_false];rfl
  .simp only[h,cond_true,if_true,aZ,jv,e]
 .rfl
 .simp only[aZ,jv,bQ,mZ];rfl
 .rename_i x h1 h2 h3;have e:uG v=if v.oneCell'=true then .v (.one (cv v))else .no:=by
   unfold uG;split
   .exact (h1 _ rfl).elim
   .exact (h2 _ rfl).elim
   .exact (h3 _ rfl).elim
   .rfl
  rw[e];cases h:v.oneCell'
  .simp only[cond_false,Wa,if_false];rfl
  .simp only[cond_true,if_true,aZ,jv,aa1]
theorem kP(st:iQ)(x:Operand):(aP st).bW x=aZ (st.bW x):=by
 cases x with
 |tmp t=>rfl
 |const v=>exact(YX v).symm
 |func f=>simp[St.bW,iQ.bW,aZ,jv,bQ,mZ]
 |global g=>simp only[Fw.St.bW,iQ.bW,ag_];cases RE.G g<;>rfl
end
end Go.Fg

namespace Go.Fg
open Go.Fw
section
variable [RE] {o:Nat->TO} {tt:TT} {ety:TypeId->Option Ty} {d:Nat} {f:Operand->TS} {ty:TypeId}
structure fD(r:r_)(r':Et):Prop where
 pre:r.pre=true->r'.pre
 dst:r'.dst r'.val=aZ (r.dst r.val)
 aB:r'.aB r'.val=gZ (r.aB r.val)
 new:r'.new=r.new
def gV(tt:TT)(ety:TypeId->Option Ty)(d:Nat)(o:Nat->TO)(f:Operand->TS)(op:Op)(ty:TypeId):Prop:=∀r,dK tt ety d o f op ty=some r->∃r',kernel tt d (bT o) (λx=>aZ (f x)) op ty=some r'/\fD r r'
def akY(r:r_)(r':Et):Prop:=(r.pre=true->fD r r')/\r'.new=r.new
theorem fD.toC{r:r_}{r':Et}(h:fD r r'):akY r r':=⟨λ_=>h,h.new⟩
def aa2(tt:TT)(ety:TypeId->Option Ty)(d:Nat)(o:Nat->TO)(f:Operand->TS)(op:Op)(ty:TypeId):Prop:=∀r,dK tt ety d o f op ty=some r->∃r',kernel tt d (bT o) (λx=>aZ (f x)) op ty=some r'/\akY r r'
theorem gV.toC{tt:TT}{ety:TypeId->Option Ty}{d:Nat}{o:Nat->TO}{f:Operand->TS}{op:Op}{ty:TypeId}(h:gV tt ety d o f op ty):aa2 tt ety d o f op ty:=λr hr=>
 let ⟨r',h1,h2⟩:=h r hr
 ⟨r',h1,h2.toC⟩
theorem fD.pure(x:TS):fD (.pure x) (.pure (aZ x)):=⟨λ_=>trivial,rfl,rfl,rfl⟩
theorem Om{x:TS}(h:aZ x=.no):x=.no:=by cases x<;>first|rfl|cases h
theorem aeB(x:Operand):gV tt ety d o f (.move x) ty:=by
 intro r h;simp only[dK]at h;split at h;cases h;rename_i s hs;cases h;refine⟨.pure (aZ (f x)),?_,fD.pure _⟩;simp only[kernel];split
 .rename_i e;exact(hs (Om e)).elim
 .rfl
theorem YZ(x:Operand):gV tt ety d o f (.assign x) ty:=by
 intro r h;simp only[dK]at h;split at h;cases h;rename_i s hs;cases h;refine⟨.pure (aZ (f x)),?_,fD.pure _⟩;simp only[kernel];split
 .rename_i e;exact(hs (Om e)).elim
 .rfl
theorem aa3{x:TS}{a i:Bool}{y:P}(h:aZ x=.v (.one (.p a i y))):∃w,x=.v (.one (.p a i w))/\bY w=y:=by
 cases x with
 |v x=>cases x with
  |one x=>cases x<;>simp[aZ,jv,bQ]at h<;>exact⟨_,by rw[h.1,h.2.1],h.2.2⟩
  |agg xs=>cases h
 |_=>cases h
theorem aeC(c x y:Operand):gV tt ety d o f (.pick c x y) ty:=by
 intro r h;simp only[dK]at h;split at h
 rotate_left
 cases h;rename_i a0 i0 b hc;change Bool at b;have hc':aZ (f c)=.v (.one (.p a0 i0 (.bool b))):=by rw[hc];rfl
 split at h
 .rename_i a i w a' i' w' hx hy;split at h
  rotate_left
  cases h;rename_i z hz;cases h;have hx':aZ (f x)=.v (.one (.p a i (bY w))):=by rw[hx];rfl
  have hy':aZ (f y)=.v (.one (.p a' i' (bY w'))):=by rw[hy];rfl
  simp only[kernel,hc',hx',hy'];refine⟨_,rfl,⟨λ_=>trivial,?_,rfl,rfl⟩⟩;have e:=gu hz;rw[e];cases b<;>rfl
 .rename_i hno;have eb:(bif b then aZ (f x)else aZ (f y))=aZ (bif b then f x else f y):=by cases b<;>rfl
  split at h;cases h;rename_i s hs;cases h;refine⟨.pure (aZ (bif b then f x else f y)),?_,fD.pure _⟩;simp only[kernel,hc'];split
  .rename_i a1 i1 x1 a2 i2 y1 h1 h2;obtain⟨w1,e1,_⟩:=aa3 h1;obtain⟨w2,e2,_⟩:=aa3 h2;exact(hno _ _ _ _ _ _ e1 e2).elim
  .rw [eb];split
   .rename_i e;exact(hs (Om e)).elim
   .rfl
theorem bM{α:Type}{b:Bool}{x:Option α}{y:α}(h:(bif b then x else none)=some y):b=true/\x=some y:=by
 cases b
 .cases h
 .exact ⟨rfl,h⟩
theorem aa4(t:TypeId):gV tt ety d o f (.alloc t) ty:=by
 intro r h;simp only[dK]at h;split at h
 .rename_i i hi;cases h;simp only[kernel,hi];refine⟨_,rfl,⟨λ_=>trivial,rfl,?_,rfl⟩⟩;simp only[gZ,X2,Kb,dJ,vC]
 .cases h
theorem aij(t:TypeId)(x:Operand):gV tt ety d o f (.box t x) ty:=by
 intro r h;simp only[dK]at h;split at h
 rotate_left
 cases h;rename_i i x' hi hx;obtain⟨hb,h⟩:=bM h;cases h;simp only[X1]at hb;simp only[kernel,hi,hx,aZ,tH,W5];rw[Qt ⟨Qf hb.1,tJ _ hb.2⟩];exact⟨_,rfl,⟨λ_=>trivial,rfl,rfl,rfl⟩⟩
theorem DK(ps:List (Nat×Operand)):(ps.map λp=>(p.1,aZ (f p.2)))=(ps.map λp=>(p.1,f p.2)).map λp=>(p.1,aZ p.2):=by rw[Uv];rfl
theorem aa5(t:TypeId)(ps:Array (Nat×Operand)):gV tt ety d o f (.build t ps) ty:=by
 intro r h;simp only[dK]at h;split at h
 rotate_left
 cases h;rename_i i hi;obtain⟨hb,h⟩:=bM h;split at h
 .rename_i ws hw;cases h;have:=BM hw;rw[vC]at this;simp only[kernel,hi,hb,if_true,DK,this];exact⟨_,rfl,fD.pure _⟩
 .cases h
theorem I8{α β:Type}(g:α->β)(l:List α):∀n,(IY l n).map g=fZ (l.map g) n
 |0=>rfl
 |n+1=>by simp[IY,fZ,I8 g l n]
theorem zW(e:Ty):∀(n:Nat) (ws:List Wd),ws.map (·.t)=IY (iZ e) n->aC e (BK e n ws)=chunks (size e) n (ws.map bY)
 |0,ws,h=>rfl
 |n+1,ws,h=>by
  have h1:(ws.take (size e)).map (·.t)=iZ e:=by rw[VM,h,IY,<-jG,Kg]
  have h2:(ws.drop (size e)).map (·.t)=IY (iZ e) n:=by rw[Vc,h,IY,<-jG,UP]
  simp only[BK,aC,X2,chunks];rw[vk h1,VM];congr 1;rw[<-Vc];exact zW e n _ h2
theorem kQ(a b:List (Nat×TO)):gZ (a++b)=gZ a++gZ b:=by simp[gZ]
theorem KQ(t:TypeId)(n:Nat)(ps:Array (Nat×Operand)):gV tt ety d o f (.buildSlice t n ps) ty:=by
 intro r h;simp only[dK]at h;split at h
 rotate_left
 cases h;rename_i e i1 i2 i3 ht;split at h
 rotate_left
 cases h;rename_i ie et he het;split at h
 rotate_left
 cases h;rename_i ws hw;split at h
 rotate_left
 cases h;rename_i qs a i gs hp;obtain⟨hb,h⟩:=bM h;cases h;simp only[X1]at hb;have hsz:=Qf hb.2;have:=BM hw;rw[I8,vC]at this;obtain⟨k1,k2⟩:=BL hp;simp only[kernel,ht,he,DK,this,k1];rw[Qt (Wf hb.1)];refine⟨_,rfl,⟨λ_=>trivial,rfl,?_,rfl⟩⟩;simp only[kQ,<-oM (Ol hp)];congr 1;simp only[P.list,gZ,X2,Kb,dJ,zW et n qs k2,hsz]
end
end Go.Fg

namespace Go.Fg
open Go.Fw
section
variable [RE] {o:Nat->TO} {tt:TT} {ety:TypeId->Option Ty} {d:Nat} {f:Operand->TS} {ty:TypeId}
theorem ig{a b:Bool}(h:(a&&b)=true):a=true/\b=true:=by simpa using h
theorem aeD(a i:Bool)(ws:List Wd):(tpw a i ws).map bQ=ws.map λw=>W.p a i (bY w):=by simp only[tpw,Uv];rfl
theorem xK(e:Ty)(x:Dt e)(a i:Bool)(off n:Nat)(h:off+n<=size e)(df:Nat->P):
  ((List.range n).map λj=>W.p a i ((kL e x).getD (off+j) (df j)))=(tpw a i (((fF e x).drop off).take n)).map bQ:=by
 rw[aeD,gG];apply qn;intro j;simp only[Z3,ZZ,Wb];by_cases hj:j<n
 .have hlt:off+j<(fF e x).length:=by rw[pK];omega
  rw[qz hj,Qt hj];simp[Q2,Q3 hlt]
 .rw [UB (by simp;omega),QR hj];rfl
theorem KR{n:Nat}(h:Nat.blt 0 n=true):0<n:=Wf h
theorem aa6{w:Wd}{v:Value}(h:aaZ w v=true):bY w=PI [v] 0:=by
 unfold aaZ at h;split at h
 .rename_i k n k' n';change Int at n;simp only[X1,eqI,XX]at h;obtain⟨h1,h2⟩:=h;cases hk:aaX k k' with
  |none=>rw[hk]at h1;cases h1
  |some p=>have e:=p.down;subst e;subst h2;rfl
 .rename_i b b';change Bool at b;have h:b=b':=LawfulBEq.eq_of_beq h;subst h;rfl
 .rename_i s s';change List UInt8 at s;simp only[X1,List.isEmpty_iff]at h;obtain⟨h1,h2⟩:=h;subst h1;obtain⟨⟨l⟩⟩:=s';simp only at h2;subst h2;rfl
 .rename_i e l;change List (Dt e)at l;have hl:l=[]:=by simpa using h
  subst hl;rfl
 .cases h
theorem DL:∀{ws:List Wd} {vs:List Value},su ws vs=true->∀j,(ws.map bY)[j]?=if j<vs.length then some (PI vs j)else none
 | [],[],h,j=>by simp
 |w::ws,[],h,j=>by simp[su]at h
 | [],v::vs,h,j=>by simp[su]at h
 |w::ws,v::vs,h,j=>by
  obtain⟨h1,h2⟩:=ig h;cases j with
  |zero=>simp only[X2,J2,K7,Nat.zero_lt_succ,if_true,aa6 h1];rfl
  |succ j=>have:=DL h2 j;simp only[X2,VV,K7,this,Nat.succ_lt_succ_iff];rfl
theorem Oo(e:Ty)(l:List (Dt e))(n off size':Nat)(z:List Value)(h:off+size'<=size e)(hz:su (((fF e (dflt e)).drop off).take size') z=true)(a i:Bool):
  ((List.range size').map λj=>W.p a i (((aC e l).getD n []).getD (off+j) (PI z j)))=(tpw a i (((fF e (l.getD n (dflt e))).drop off).take size')).map bQ:=by
 by_cases hn:n<l.length
 .have e1:(aC e l).getD n []=kL e (l.getD n (dflt e)):=by simp[aC,Q2,hn]
  rw[e1];exact xK e _ a i off size' h _
 .have e1:(aC e l).getD n []=[]:=by simp[aC,Q2,UB (vl hn)]
  have e2:l.getD n (dflt e)=dflt e:=by simp[Q2,UB (vl hn)]
  rw[e1,e2,<-xK e _ a i off size' h (PI z)];refine W4 λj hj=>?_;have hj:j<size':=V0.1 hj;have:=DL hz j;rw[VM,Vc,ZZ,Qt hj,Wb,<-gG]at this;have hlen:off+j<(kL e (dflt e)).length:=by rw[QK];omega
  rw[Q2,Q2,this];split
  .rfl
  .rfl
theorem aeE(t:TypeId)(x:Operand):gV tt ety d o f (.load t x) ty:=by
 intro r h;simp only[dK]at h;split at h
 .rename_i i g off ht hx;have hx':aZ (f x)=.v (.one (.box g off)):=by rw[hx];rfl
  split at h
  rotate_left
  cases h;rename_i ws hg;obtain⟨hb,h⟩:=bM h;cases h;obtain⟨h1,h2⟩:=ig hb;simp only[kernel,ht,hx',nT hg,W5];rw[Qt ⟨Wf h1,KR h2⟩];refine⟨_,rfl,?_⟩;have:=fD.pure (TV.fA i.agg ((ws.drop off).take i.size));rw[kN,VM,Vc]at this;exact this
 .rename_i i g n off ht hx;have hx':aZ (f x)=.v (.one (.ep g (.int .i64 n) off)):=by rw[hx];rfl
  split at h
  rotate_left
  cases h;rename_i fz a i' e l hg;obtain⟨hb,h⟩:=bM h;cases h;obtain⟨hb,h3⟩:=ig hb;obtain⟨h1,h2⟩:=ig hb;have h1:=Wf h1;simp only[kernel,ht,hx',gI hg];rw[Qt ⟨h1,KR h2⟩];refine⟨_,rfl,⟨λ_=>trivial,?_,rfl,rfl⟩⟩;simp only[Et.pure,kN];congr 1;have en:(P.int .i64 n).nat=n.toNat:=rfl;rw[en];exact Oo e l n.toNat off i.size i.zero h1 h3 a i'
 .rename_i i a i' e x' off ht hx;have hx':aZ (f x)=.v (.one (.sp a i' (kL e x') off)):=by rw[hx];rfl
  obtain⟨hb,h⟩:=bM h;cases h;obtain⟨h1,h2⟩:=ig hb;have h2:=Wf h2;simp only[kernel,ht,hx'];rw[Qt (KR h1)];refine⟨_,rfl,⟨λ_=>by rw[QK];exact h2,?_,rfl,rfl⟩⟩;simp only[r_.pure,kN];congr 1;exact xK e x' a i' off i.size h2 λ_=>default
 .cases h
theorem bI(g:Nat):∀(l:List Nat),eY g l=l.contains g
 | []=>rfl
 |x::xs=>by simp only[eY,List.contains_cons,bI g xs];congr 1;rw[Bool.eq_iff_iff];simp
theorem aeF(e:Ty)(l:List (Dt e))(n:Nat)(x:Dt e):aC e (l.set n x)=(aC e l).set n (kL e x):=by simp[aC,List.map_set]
theorem aa7(t:TypeId)(x y:Operand):gV tt ety d o f (.store t x y) ty:=by
 intro r h;simp only[dK]at h;split at h
 .rename_i i g off y' ht hx hy;have hx':aZ (f x)=.v (.one (.box g off)):=by rw[hx];rfl
  have hy':aZ (f y)=.v (jv y'):=by rw[hy];rfl
  split at h
  rotate_left
  cases h;rename_i ws hg;obtain⟨hb,h⟩:=bM h;cases h;obtain⟨hb,h3⟩:=ig hb;obtain⟨h1,h2⟩:=ig hb;simp only[kernel,ht,hx',hy',nT hg,W5,tH];rw[Qt ⟨Wf h1,Qf h2,tJ _ h3⟩];refine⟨_,rfl,⟨λ_=>trivial,rfl,?_,rfl⟩⟩;simp only[gZ,X2,Kb,dJ,pz]
 .rename_i i g n off y' ht hx hy;have hx':aZ (f x)=.v (.one (.ep g (.int .i64 n) off)):=by rw[hx];rfl
  have hy':aZ (f y)=.v (jv y'):=by rw[hy];rfl
  split at h
  rotate_left
  cases h;rename_i a i' e l hg;split at h
  rotate_left
  cases h;rename_i ps a' i'' gs hp;obtain⟨hb,h⟩:=bM h;cases h;obtain⟨hb,h4⟩:=ig hb;obtain⟨hb,h3⟩:=ig hb;obtain⟨h1,h2⟩:=ig hb;have h1:=Wf h1;have h2:=Qf h2;obtain⟨k1,k2⟩:=BL hp;have hl:ps.length=i.size:=by have:=ZS List.length k2;simp[jG]at this;omega
  simp only[kernel,ht,hx',hy',gI hg,tH,k1,W5];rw[Qt ⟨h1,hl,h2,tJ _ h3,by simpa[bI]using h4⟩];refine⟨_,rfl,⟨λ_=>trivial,rfl,?_,rfl⟩⟩;simp only[kQ,<-oM (Ol hp)];congr 1;simp only[P.list,gZ,X2,Kb,dJ,aeF];have en:(P.int .i64 n).nat=n.toNat:=rfl;rw[en];by_cases hn:n.toNat<l.length
  .have e1:(aC e l).getD n.toNat []=kL e (l.getD n.toNat (dflt e)):=by simp[aC,Q2,hn]
   have hty:(aJ (fF e (l.getD n.toNat (dflt e))) off ps).map (·.t)=iZ e:=by
    have e0:iZ e=(iZ e).take off++(((iZ e).drop off).take i.size++(iZ e).drop (off+i.size)):=by rw[<-List.drop_drop,K5,K5]
    simp only[aJ,Z6,VM,Vc,sZ,k2,hl,Wm];exact e0.symm
   have key:kL e (KO e (Nat.beq i.size (size e)) (l.getD n.toNat (dflt e)) off ps)=aJ ((aC e l).getD n.toNat []) off (ps.map bY):=by
    rw[e1];unfold KO;cases hc:Nat.beq i.size (size e)with
    |true=>
     have hc:=Qf hc;have h0:off=0:=by omega
     subst h0;have e2:aJ (fF e (l.getD n.toNat (dflt e))) 0 ps=ps:=by simp only[aJ,vh,qa,V1];rw[List.drop_of_length_le (by rw[pK];omega),qb]
     have e3:aJ (kL e (l.getD n.toNat (dflt e))) 0 (ps.map bY)=ps.map bY:=by rw[gG,<-pz,e2]
     rw[e2]at hty;rw[e3];exact vk hty
    |false=>simp only;rw[vk hty,pz,<-gG]
   rw[key]
  .have e1 :∀z,(aC e l).set n.toNat z=aC e l:=λz=>List.set_eq_of_length_le (by rw[dQ];omega);rw[e1,e1]
 .cases h
theorem QS(x:Operand):gV tt ety d o f (.nilCheck x) ty:=by
 intro r h;simp only[dK]at h;split at h
 rotate_left
 cases h;rename_i x' hx;obtain⟨hb,h⟩:=bM h;cases h;have hx':aZ (f x)=.v (.one (bQ x')):=by rw[hx];rfl
 simp only[kernel,hx'];rw[Qt (I7 hb)];exact⟨_,rfl,fD.pure _⟩
theorem UR{op:BinOp}{k k':IntKind}{a b:Int}{c:Bool×Wd}(h:UM op k k' a b=some c):(c.1=true->P.PG op (.int k a) (.int k' b))/\P.bin op (.int k a) (.int k' b)=bY c.2:=by
 unfold UM at h;cases op<;>simp only at h
 case shl=>cases h;exact⟨λh=>(by simpa using h:0<=b),rfl⟩
 case shr=>cases h;exact⟨λh=>(by simpa using h:0<=b),rfl⟩
 all_goals
  split at h;cases h;rename_i p hp;obtain⟨e⟩:=p;subst e;simp only[Q0]at h
  first
   |(cases h;done)
   |(
     
     subst h;refine⟨λh=>?_,?_⟩
     .first
      |exact rfl
      |(simp at h;exact⟨rfl,h⟩)
     .first
      |rfl
      |(simp only[P.bin,iI,akZ];congr 1))
theorem Y0(a b:List UInt8):(⟨a.toArray⟩++⟨b.toArray⟩:ByteArray)=⟨(a++b).toArray⟩:=by apply ByteArray.ext;simp[ByteArray.data_append]
theorem DN(a:List UInt8):(⟨a.toArray⟩:ByteArray).toList=a:=by rw[ByteArray.toList_eq]
theorem UU{op:BinOp}{a b:List UInt8}{c:Bool×Wd}(h:UN op a b=some c):(c.1=true->P.PG op (.str ⟨a.toArray⟩) (.str ⟨b.toArray⟩))/\P.bin op (.str ⟨a.toArray⟩) (.str ⟨b.toArray⟩)=bY c.2:=by
 unfold UN at h;cases op<;>simp only[Q0]at h<;>try (cases h;done)
 all_goals subst h
 case add=>
  refine⟨λh=>?_,?_⟩
  .simp only[nR]at h;show a.toArray.size+b.toArray.size<=_;simp only[qq];omega
  .simp only[P.bin,Y0];rfl
 all_goals exact⟨λ_=>trivial,by simp only[P.bin,DN];rfl⟩
theorem QT{op:BinOp}{a b:Bool}{c:Bool×Wd}(h:Oh op a b=some c):(c.1=true->P.Nr op (.bool a) (.bool b))/\P.bin op (.bool a) (.bool b)=bY c.2:=by
 unfold Oh at h;cases op<;>simp only[Q0]at h<;>try (cases h;done)
 all_goals subst h
 .exact ⟨λ_=>.inl rfl,rfl⟩
 .exact ⟨λ_=>.inr rfl,rfl⟩
theorem fD.nS{c:Bool×Wd}{pre:Prop}{x:P}(h:c.1=true->pre)(hx:x=bY c.2):fD (.nS c) (.calc pre x):=by subst hx;obtain⟨c1,t,y⟩:=c;exact⟨h,rfl,rfl,rfl⟩
theorem aeG(a b:List UInt8):P.eqB (.str ⟨a.toArray⟩) (.str ⟨b.toArray⟩)=(a==b):=by show ((⟨a.toArray⟩:ByteArray)==⟨b.toArray⟩)=_;rw[beq_toListBytes,DN,DN]
theorem aa8{k:TK}{x y:Wd}{b:Bool}(h:aif k x y=some b):VW k (bY x) (bY y)/\P.eqB (bY x) (bY y)=b:=by
 unfold aif at h;split at h
 .unfold ahb at h;split at h
  .rename_i p hp;obtain⟨e⟩:=p;subst e;cases h;exact⟨rfl,rfl⟩
  .cases h
 .rename_i a b';simp only[eqStr,Q0]at h;subst h;exact⟨trivial,aeG a b'⟩
 .simp only[akX,Q0]at h;subst h;exact⟨trivial,rfl⟩
 .cases h
theorem QU{tt:TT}:∀(fs:List (Nat×TypeId)) (n:Nat) (xs ys:List TW) (b:Bool),Gm tt n fs xs ys=some b->∃c,mP tt n fs (xs.map bQ) (ys.map bQ)=some c/\c.1/\c.2=b
 | [],n,[],[],b,h=>by simp only[Gm,Q0]at h;subst h;exact⟨(True,true),rfl,trivial,rfl⟩
 |(off,t)::fs,n,x::xs,y::ys,b,h=>by
  cases x with
  |p a1 i1 x=>cases y with
   |p a2 i2 y=>
    simp only[Gm]at h;split at h
    rotate_left
    cases h;rename_i i hi;cases hb:(Nat.beq off n&&i.k.flat&&Nat.beq i.size 1)with
    |false=>rw[hb]at h;cases h
    |true=>
     rw[hb]at h;simp only[cond_true]at h;split at h
     rotate_left
     cases h;rename_i b1 b2 h1 h2;cases h;obtain⟨c,e1,e2,e3⟩:=QU fs (n+1) xs ys b2 h2;obtain⟨q1,q2⟩:=aa8 h1;simp only[X1]at hb;have hoff:off=n/\i.k.flat=true/\i.size=1:=⟨Qf hb.1.1,hb.1.2,Qf hb.2⟩;refine⟨(VW i.k (bY x) (bY y)/\c.1,P.eqB (bY x) (bY y)&&c.2),?_,⟨q1,e2⟩,by rw[q2,e3]⟩;simp only[X2,bQ,mP,hi];rw[Qt hoff,e1]
   |_=>simp[Gm]at h
  |_=>simp[Gm]at h
 | [],n,_::_,_,b,h=>by simp[Gm]at h
 | [],n,[],_::_,b,h=>by simp[Gm]at h
 |_::_,n,[],_,b,h=>by simp[Gm]at h
 |_::_,n,x::xs,[],b,h=>by cases x<;>simp[Gm]at h
theorem aa9(op:BinOp)(t:TypeId)(x y:Operand)(u:TypeId):gV tt ety d o f (.binOp op t x y u) ty:=by
 intro r h;simp only[dK]at h;split at h
 .rename_i a1 i1 x' a2 i2 y' hx hy;have hx':aZ (f x)=.v (.one (.p a1 i1 (bY x'))):=by rw[hx];rfl
  have hy':aZ (f y)=.v (.one (.p a2 i2 (bY y'))):=by rw[hy];rfl
  split at h
  rotate_left
  cases h;rename_i i ht;split at h
  rotate_left
  cases h;rename_i c hc;cases h;obtain⟨ik,isz,ib,iz⟩:=i;simp only at hc;unfold akW at hc;split at hc
  .obtain ⟨k1,k2⟩:=UR hc;simp only[kernel,hx',hy',ht];exact⟨_,rfl,fD.nS k1 k2⟩
  .obtain ⟨k1,k2⟩:=UU hc;simp only[kernel,hx',hy',ht];exact⟨_,rfl,fD.nS k1 k2⟩
  .obtain ⟨k1,k2⟩:=QT hc;simp only[kernel,hx',hy',ht];exact⟨_,rfl,fD.nS k1 k2⟩
  .cases hc
 .rename_i xs ys hx hy;have hx':aZ (f x)=.v (.agg (xs.map bQ)):=by rw[hx];rfl
  have hy':aZ (f y)=.v (.agg (ys.map bQ)):=by rw[hy];rfl
  split at h
  rotate_left
  cases h;rename_i i ht;have key :∀{b q:Bool} {v:Bool},Gm tt 0 i.k.parts xs ys=some b->aee op=some q->i.eq=true->v=(b==q)->∃r',kernel tt d (bT o) (λa=>aZ (f a)) (.binOp op t x y u) ty=some r'/\fD (.nS (true,iI v)) r':=by intro b q v h1 h2 h3 h4;obtain⟨c,e1,e2,e3⟩:=QU _ _ _ _ _ h1;simp only[kernel,hx',hy',ht,e1,h2];rw[Qt h3];exact⟨_,rfl,fD.nS (λ_=>e2) (by rw[e3,h4];rfl)⟩
  split at h
  .rename_i b h1 h2;cases h3:i.eq with
   |false=>rw[h3]at h;cases h
   |true=>rw[h3]at h;simp only[cond_true,Q0]at h;subst h;exact key (v:=b) h1 h2 h3 (by cases b<;>rfl)
  .rename_i b h1 h2;cases h3:i.eq with
   |false=>rw[h3]at h;cases h
   |true=>rw[h3]at h;simp only[cond_true,Q0]at h;subst h;exact key (v:=!b) h1 h2 h3 (by cases b<;>rfl)
  .cases h
 .cases h
theorem aeH(op:UnOp)(t:TypeId)(x:Operand):gV tt ety d o f (.unOp op t x) ty:=by
 intro r h;simp only[dK]at h;split at h
 rotate_left
 cases h;rename_i a1 i1 x' hx;have hx':aZ (f x)=.v (.one (.p a1 i1 (bY x'))):=by rw[hx];rfl
 split at h
 rotate_left
 cases h;rename_i c hc;cases h;simp only[kernel,hx'];unfold unT at hc;split at hc
 .cases hc;exact⟨_,rfl,fD.nS (λ_=>trivial) rfl⟩
 .cases hc;exact⟨_,rfl,fD.nS (λ_=>trivial) rfl⟩
 .cases hc
theorem UW(s t:TypeId)(x:Operand):gV tt ety d o f (.convert s t x) ty:=by
 intro r h;simp only[dK]at h;split at h
 .rename_i k0 s0 b0 z0 k s1 b1 z1 a1 i1 k2 x' hs ht hx;have hx':aZ (f x)=.v (.one (.p a1 i1 (.int k2 x'))):=by rw[hx];rfl
  cases h;simp only[kernel,hs,ht,hx'];exact⟨_,rfl,⟨λ_=>trivial,rfl,rfl,rfl⟩⟩
 .rename_i e s0 b0 z0 s1 b1 z1 x' hs ht hx;have hx':aZ (f x)=.v (.one (bQ x')):=by rw[hx];rfl
  split at h
  rotate_left
  cases h;rename_i s2 b2 z2 he;split at h
  rotate_left
  cases h;rename_i l a1 i1 hr;cases h;obtain⟨ask,hr',hask⟩:=QO hr;have hr':(bQ x').rows (bT o) 1=some (ask,aC (.int .u8) l,a1,i1):=hr';simp only[kernel,hs,ht,hx',he,hr'];refine⟨_,rfl,⟨λ_=>⟨hask,λr hr=>?_⟩,?_,rfl,rfl⟩⟩
  .simp only[aC,XN]at hr;obtain⟨n,_,rfl⟩:=hr;exact⟨n,rfl⟩
  .have e:Hr (aC (.int .u8) l)=bY ⟨.str,strOf l⟩:=by show P.str _=P.str _;congr 2;simp only[aC,Uv,strOf];congr 1
   show S.v (V.one (W.p false false (Hr (aC (.int .u8) l))))=_;rw[e];rfl
 .rename_i s0 b0 z0 e s1 b1 z1 a1 i1 x' hs ht hx;change List UInt8 at x';have hx':aZ (f x)=.v (.one (.p a1 i1 (.str ⟨x'.toArray⟩))):=by rw[hx];rfl
  split at h
  rotate_left
  cases h;rename_i s2 b2 z2 he;cases h;simp only[kernel,hs,ht,hx',he];refine⟨_,rfl,⟨λ_=>trivial,?_,rfl,rfl⟩⟩;have e:Ns (.str ⟨x'.toArray⟩)=bY ⟨.sl (.int .u8),aie x'⟩:=by
   show P.fG 1 _=P.fG 1 _;have key :∀l:List UInt8,(l.map λb=>[P.int .u8 (b.toNat:Int)])=aC (.int .u8) (aie l):=by
    intro l
    induction l with
    |nil=>rfl
    |cons a l ih=>exact ZS (List.cons _) ih
   exact ZS (P.fG 1) (key x')
  show S.v (V.one (W.p false false (Ns (.str ⟨x'.toArray⟩))))=_;rw[e];rfl
 .cases h
end
end Go.Fg

namespace Go.Fg
open Go.Fw
section
variable [RE] {o:Nat->TO} {tt:TT} {ety:TypeId->Option Ty} {d:Nat} {f:Operand->TS} {ty:TypeId}
theorem xM{k:IntKind}{n:Int}{m:Nat}(h:inB n m=true):inRange (.int k n) m:=by simp only[inB,X1,XX]at h;exact h
theorem Oq(t:TypeId)(n c:Operand):gV tt ety d o f (.makeSlice t n c) ty:=by
 intro r h;simp only[dK]at h;split at h
 rotate_left
 cases h;rename_i e i1 i2 i3 a1 j1 n' a2 j2 c' ht hn hc;change Int at n';change Int at c';have hn':aZ (f n)=.v (.one (.p a1 j1 (.int .i64 n'))):=by rw[hn];rfl
 have hc':aZ (f c)=.v (.one (.p a2 j2 (.int .i64 c'))):=by rw[hc];rfl
 split at h
 rotate_left
 cases h;rename_i ie et he het;split at h
 rotate_left
 cases h;rename_i ps hp;obtain⟨hb,h⟩:=bM h;cases h;obtain⟨h1,h2⟩:=ig hb;obtain⟨k1,k2⟩:=BL hp;have hsz:=Qf h2;rw[vC]at k1;simp only[kernel,ht,hn',hc',he,k1];rw[Qt (KR h1)];refine⟨_,rfl,⟨λhp=>?_,rfl,?_,rfl⟩⟩
 .simp only[o7,X1,XX]at hp;obtain⟨⟨⟨p1,p2⟩,p3⟩,p4⟩:=hp;refine⟨n'.toNat,c'.toNat,by rw[US p1],by rw[US (by omega)],by omega,?_,by omega⟩;have e:((ie.bytes*c'.toNat:Nat):Int)=ie.bytes*c':=by rw[Int.natCast_mul,US (by omega)]
  omega
 .simp only[P.list,gZ,X2,Kb,dJ,hsz];have en:(P.int .i64 n').nat=n'.toNat:=rfl;rw[en];simp only[aC,List.map_replicate];rw[vk k2]
theorem lg{df:Int}{lo:Option Operand}{m:Int}(h:kZ df (lo.map f)=some m):lH (.int .i64 df) (lo.map λx=>aZ (f x))=some (.int .i64 m):=by
 cases lo with
 |none=>simp only[Kl,kZ,Q0]at h;subst h;rfl
 |some x=>
  simp only[W2]at h ⊢;unfold kZ at h;split at h
  .rename_i hh;cases hh
  .rename_i hh;simp only[Q0]at hh;cases h;rw[hh];rfl
  .cases h
theorem tK{lo hi:Int}{len:Nat}(h:DI lo hi len=true):∃m k:Nat,P.int .i64 lo=.int .i64 m/\P.int .i64 hi=.int .i64 k/\m<=k/\k<=len:=by simp only[DI,X1,XX]at h;exact⟨lo.toNat,hi.toNat,by rw[US (by omega)],by rw[US (by omega)],by omega,by omega⟩
theorem UY(y:List UInt8)(a b:Nat):(⟨y.toArray⟩:ByteArray).extract a b=⟨((y.take b).drop a).toArray⟩:=by apply ByteArray.ext;simp[ByteArray.data_extract,List.drop_take]
theorem Y1(t:TypeId)(x hi mx:Operand):gV tt ety d o f (.slice t x none (some hi) (some mx)) ty:=by
 intro r h;simp only[dK]at h;unfold Wx at h;split at h
 .rename_i e i1 i2 i3 g a1 j1 h' a2 j2 m' ht hx hh hm;change Int at h';change Int at m';have hx':aZ (f x)=.v (.one (.own g)):=by rw[hx];rfl
  have hh':aZ (f hi)=.v (.one (.p a1 j1 (.int .i64 h'))):=by rw[hh];rfl
  have hm':aZ (f mx)=.v (.one (.p a2 j2 (.int .i64 m'))):=by rw[hm];rfl
  split at h
  rotate_left
  cases h;rename_i ie a i e' l he hg;obtain⟨hb,h⟩:=bM h;cases h;have hg':bT o g=.arr false a i (size e') (aC e' l):=by unfold bT;rw[hg];rfl
  simp only[kernel,AB,ht,hx',hh',hm',he,hg'];rw[Qt (Qf hb)];refine⟨_,rfl,⟨λhp=>?_,rfl,rfl,rfl⟩⟩;obtain⟨k,j,q1,q2,q3,q4⟩:=tK hp;exact⟨k,j,q1,q2,q3,by rw[dQ];exact q4⟩
 .rename_i e i1 i2 i3 a1 j1 h' a2 j2 m' ht hx hh hm;change Int at h';change Int at m';have hx':aZ (f x)=.v (.one .b_):=by rw[hx];rfl
  have hh':aZ (f hi)=.v (.one (.p a1 j1 (.int .i64 h'))):=by rw[hh];rfl
  have hm':aZ (f mx)=.v (.one (.p a2 j2 (.int .i64 m'))):=by rw[hm];rfl
  split at h
  rotate_left
  cases h;rename_i ie he;cases h;simp only[kernel,AB,ht,hx',hh',hm',he];refine⟨_,rfl,⟨λhp=>?_,rfl,rfl,rfl⟩⟩;obtain⟨k,j,q1,q2,q3,q4⟩:=tK hp;have hj:j=0:=by omega
  have hk:k=0:=by omega
  subst hj;subst hk;exact⟨q1,q2⟩
 .cases h
theorem aa_(t:TypeId)(x:Operand)(lo hi:Option Operand):gV tt ety d o f (.slice t x lo hi none) ty:=by
 intro r h;simp only[dK]at h;split at h
 .rename_i e i1 i2 i3 x' ht hx;have hx':aZ (f x)=.v (.one (bQ x')):=by rw[hx];rfl
  split at h
  rotate_left
  cases h;rename_i ie et len he het hlen;split at h
  rotate_left
  cases h;rename_i lo' hi' hlo hhi;obtain⟨ask,hl,hask⟩:=Wy hlen;have H7:=lg hlo;have uM:=lg hhi;have en0:kE 0=P.int .i64 0:=rfl;simp only[kernel,ht,hx',he,hl,en0,H7,uM];split at h
  .rename_i g;split at h
   rotate_left
   cases h;rename_i e' l hg;obtain⟨hb,h⟩:=bM h;cases h;simp only[bQ,oL hg];rw[Qt (Qf hb)];refine⟨_,rfl,⟨λhp=>?_,rfl,rfl,rfl⟩⟩;exact tK hp
  .rename_i a i w;split at h
   rotate_left
   cases h;rename_i l hl';change List (Dt et)at l;obtain⟨hb,h⟩:=bM h;cases h;have hsz:=Qf hb;simp only[bQ];refine⟨_,rfl,⟨λhp=>⟨hask,?_,?_⟩,?_,rfl,rfl⟩⟩
   .rw [gu hl',<-hsz];exact I5 _ _
   .rw [gu hl',iV,dQ];exact tK hp
   .rw [gu hl'];show S.v (V.one (W.p a i (P.sub ie.size (P.int .i64 lo').nat (P.int .i64 hi').nat (bY ⟨.sl et,l⟩))))=S.v (V.one (W.p a i (bY ⟨.sl et,List.drop lo'.toNat (List.take hi'.toNat l)⟩)));rw[P.sub,iV,qX,<-hsz];rfl
  .cases h;simp only[bQ];refine⟨_,rfl,⟨λhp=>?_,rfl,rfl,rfl⟩⟩;obtain⟨h1,h2⟩:=ig hp;have h1:lo'=0:=by simpa using h1
   have h2:hi'=0:=by simpa using h2
   subst h1;subst h2;exact⟨rfl,rfl⟩
  .cases h
 .rename_i s0 b0 z0 a1 i1 y ht hx;have hx':aZ (f x)=.v (.one (.p a1 i1 (.str ⟨y.toArray⟩))):=by rw[hx];rfl
  change List UInt8 at y;split at h
  rotate_left
  cases h;rename_i lo' hi' hlo hhi;cases h;have H7:=lg hlo;have uM:=lg hhi;have en0:kE 0=P.int .i64 0:=rfl;have el:(P.str ⟨y.toArray⟩).len=P.int .i64 (y.length:Nat):=by show P.int .i64 (y.toArray.size:Nat)=_;simp
  simp only[kernel,ht,hx',en0,el,H7,uM];refine⟨_,rfl,⟨λhp=>⟨trivial,?_⟩,?_,rfl,rfl⟩⟩
  .have:=tK hp;simpa[P.bytes,ByteArray.size]using this
  .show S.v (V.one (W.p false false (P.str ((⟨y.toArray⟩:ByteArray).extract lo'.toNat hi'.toNat))))=S.v (V.one (W.p false false (P.str ⟨(List.drop lo'.toNat (List.take hi'.toNat y)).toArray⟩)));rw[UY]
 .cases h
theorem Ot(t:TypeId)(x:Operand)(n:Nat):gV tt ety d o f (.fieldAddr t x n) ty:=by
 intro r h;simp only[dK]at h;split at h
 rotate_left
 cases h;rename_i fs i1 i2 i3 off' sz' x' ht hp hx;have hx':aZ (f x)=.v (.one (bQ x')):=by rw[hx];rfl
 obtain⟨hb,h⟩:=bM h;cases h;obtain⟨h1,h2⟩:=ig hb;simp only[kernel,ht,hp,hx'];rw[Qt ⟨KR h1,I7 h2⟩];refine⟨_,rfl,?_⟩;have:=fD.pure (.v (.one (x'.shift off')));simpa only[aZ,jv,LU]using this
theorem abb(t:TypeId)(x:Operand)(n:Nat):gV tt ety d o f (.field t x n) ty:=by
 intro r h;simp only[dK]at h;split at h
 rotate_left
 cases h;rename_i fs i1 i2 i3 ws ht hx;have hx':aZ (f x)=.v (.agg (ws.map bQ)):=by rw[hx];rfl
 split at h
 rotate_left
 cases h;rename_i off u hf;split at h
 rotate_left
 cases h;rename_i iu hu;obtain⟨hb,h⟩:=bM h;cases h;obtain⟨h1,h2⟩:=ig hb;simp only[kernel,ht,hx',hf,hu,W5];rw[Qt ⟨Wf h1,KR h2⟩];refine⟨_,rfl,?_⟩;have:=fD.pure (TV.fA iu.agg ((ws.drop off).take iu.size));rw[kN,VM,Vc]at this;exact this
theorem Ou(t:TypeId)(x ix:Operand):aa2 tt ety d o f (.indexAddr t x ix) ty:=by
 intro r h;simp only[dK]at h;split at h
 .rename_i e i1 i2 i3 x' a1 j1 k n ht hx hn;change Int at n;have hx':aZ (f x)=.v (.one (bQ x')):=by rw[hx];rfl
  have hn':aZ (f ix)=.v (.one (.p a1 j1 (.int k n))):=by rw[hn];rfl
  have en:(P.int k n).nat=n.toNat:=rfl;split at h
  .rename_i ie et g he het;split at h
   rotate_left
   cases h;rename_i e' l hg;obtain⟨hb,h⟩:=bM h;cases h;simp only[kernel,ht,hx',hn',he,bQ,oL hg];rw[Qt (Qf hb)];refine⟨_,rfl,fD.toC ⟨λhp=>?_,rfl,rfl,rfl⟩⟩;exact xM (k:=k) hp
  .rename_i ie et g lo hi he het;split at h
   .rename_i e' l hg;obtain⟨hb,h⟩:=bM h;cases h;simp only[kernel,ht,hx',hn',he,bQ,oL hg];rw[Qt (Qf hb)];exact⟨_,rfl,fD.toC ⟨λhp=>xM (k:=k) hp,rfl,rfl,rfl⟩⟩
   .cases h
  .rename_i ie et a i w he het;split at h
   rotate_left
   cases h;rename_i l hl;change List (Dt et)at l;obtain⟨hb,h⟩:=bM h;cases h;have hsz:=Qf hb;simp only[kernel,ht,hx',hn',he,bQ];refine⟨_,rfl,⟨λhp=>⟨λ_=>⟨?_,?_⟩,?_,rfl,rfl⟩,rfl⟩⟩
   .rw [gu hl,<-hsz];exact I5 _ _
   .rw [gu hl,iV,dQ];exact xM (k:=k) hp
   .have hlt:n.toNat<l.length:=by have hp:inB n l.length=true:=hp;simp only[inB,X1,XX]at hp;omega
    rw[gu hl];show S.v (V.one (W.sp a i ((bY ⟨.sl et,l⟩).list.getD (P.int k n).nat []) 0))=S.v (V.one (W.sp a i (kL et (List.getD l n.toNat (dflt et))) 0));rw[iV,en];simp[aC,Q2,hlt]
  .cases h
 .rename_i m e i1 i2 i3 g a1 j1 k n ht hx hn;change Int at n;have hx':aZ (f x)=.v (.one (.gl g)):=by rw[hx];rfl
  have hn':aZ (f ix)=.v (.one (.p a1 j1 (.int k n))):=by rw[hn];rfl
  split at h
  rotate_left
  cases h;rename_i ie et l he hg;obtain⟨hb,h⟩:=bM h;cases h;obtain⟨h1,h2⟩:=ig hb;have h1:=Qf h1;have h2:=Qf h2;simp only[kernel,ht,hx',hn',he,ag_,hg,W2];rw[Qt ⟨h1,by rw[W5];exact h2⟩];refine⟨_,rfl,⟨λhp=>⟨λ_=>xM (k:=k) hp,?_,rfl,rfl⟩,rfl⟩⟩;have hlt:n.toNat<l.length:=by have hp:inB n m=true:=hp;simp only[inB,X1,XX]at hp;omega
  show S.v (V.one (W.sp false false ((List.map (kL et) l).getD (P.int k n).nat []) 0))=S.v (V.one (W.sp false false (kL et (List.getD l n.toNat (dflt et))) 0));have en:(P.int k n).nat=n.toNat:=rfl;rw[en];simp[Q2,hlt]
 .rename_i m e i1 i2 i3 x' a1 j1 k n hng ht hx hn;change Int at n;have hx':aZ (f x)=.v (.one (bQ x')):=by rw[hx];rfl
  have hn':aZ (f ix)=.v (.one (.p a1 j1 (.int k n))):=by rw[hn];rfl
  split at h
  rotate_left
  cases h;rename_i ie he;obtain⟨hb,h⟩:=bM h;cases h;obtain⟨h1,h2⟩:=ig hb;simp only[inB,X1,XX]at h1;have hl:=I7 h2;have key :∃r',kernel tt d (bT o) (λx=>aZ (f x)) (.indexAddr t x ix) ty=some r'/\r'=.pure (.v (.one ((bQ x').shift (n.toNat*ie.size)))):=by
   cases x'<;>first
    |(cases h2;done)
    |(
      simp only[bQ]at hx' hl ⊢;simp only[kernel,ht,hx',hn',he];rw[Qt ⟨h1.1,h1.2,hl⟩];exact⟨_,rfl,rfl⟩)
  obtain⟨r',e1,rfl⟩:=key;refine⟨_,e1,fD.toC ?_⟩;have:=fD.pure (.v (.one (x'.shift (n.toNat*ie.size))));simpa only[aZ,jv,LU]using this
 .cases h
theorem abd(t:TypeId)(x ix:Operand):gV tt ety d o f (.index t x ix) ty:=by
 intro r h;simp only[dK]at h;split at h
 rotate_left
 cases h;rename_i i1 i2 i3 a1 j1 s a2 j2 k n ht hx hn;change List UInt8 at s;change Int at n;have hx':aZ (f x)=.v (.one (.p a1 j1 (.str ⟨s.toArray⟩))):=by rw[hx];rfl
 have hn':aZ (f ix)=.v (.one (.p a2 j2 (.int k n))):=by rw[hn];rfl
 cases h;simp only[kernel,ht,hx',hn'];refine⟨_,rfl,⟨λhp=>⟨trivial,?_⟩,?_,rfl,rfl⟩⟩
 .have:(P.str ⟨s.toArray⟩).bytes.size=s.length:=by show s.toArray.size=_;simp
  rw[this];exact xM (k:=k) hp
 .have:(s.toArray.getD n.toNat 0)=s.getD n.toNat 0:=by simp[Wo,Q2]
  simp only[P.agQ,this];rfl
theorem abe(t:TypeId)(x:Operand):gV tt ety d o f (.range t x) ty:=by
 intro r h;simp only[dK]at h;split at h
 .rename_i i1 i2 i3 a1 j1 s ht hx;change List UInt8 at s;have hx':aZ (f x)=.v (.one (.p a1 j1 (.str ⟨s.toArray⟩))):=by rw[hx];rfl
  cases h;simp only[kernel,ht,hx'];exact⟨_,rfl,⟨λ_=>trivial,rfl,rfl,rfl⟩⟩
 .cases h
theorem UZ(t:Operand)(n:Nat):gV tt ety d o f (.extract t n) ty:=by
 intro r h;simp only[dK]at h;split at h
 rotate_left
 cases h;rename_i xs hx;have hx':aZ (f t)=.lq (xs.map jv):=by rw[hx];rfl
 split at h
 .rename_i x hn;cases h;simp only[kernel,hx',Z3,hn,W2];exact⟨_,rfl,fD.pure _⟩
 .cases h
theorem QV{F:Operand->Option TW}{G:Operand->Option W}(hFG :∀x w,F x=some w->G x=some (bQ w)):∀{xs:List Operand} {ws:List TW},xs.mapM F=some ws->xs.mapM G=some (ws.map bQ)
 | [],ws,h=>by simp at h;subst h;rfl
 |x::xs,ws,h=>by simp only[vQ,Option.bind_eq_bind,JS]at h ⊢;obtain⟨w,hw,ws',hws,h⟩:=h;cases h;exact⟨bQ w,hFG x w hw,ws'.map bQ,QV hFG hws,rfl⟩
theorem QW(g:FuncId)(first caps:Array Operand):gV tt ety d o f (.makeFunc (.func g) first caps) ty:=by
 intro r h;simp only[dK]at h;obtain⟨hb,h⟩:=bM h;split at h
 rotate_left
 cases h;rename_i ws hw;cases h;simp only[kernel];rw[Qt (Qf hb)];have key :∀{G:Operand->Option W},(∀x,G x=match aZ (f x)with|.v (.one w)=>some w|_=>none)->caps.toList.mapM G=some (ws.map bQ):=by
  intro G hG;refine QV (λx w hx=>?_) hw;rw[hG];split at hx
  .rename_i hf;cases hx;rw[hf];rfl
  .cases hx
 split
 .rename_i ws' hw';have e:=hw'.symm.trans (key λx=>rfl);cases e;refine⟨_,rfl,?_⟩;have:=fD.pure (.v (.one (.clo g ws)));simpa only[aZ,jv,bQ,yH]using this
 .rename_i hw';exact nomatch hw'.symm.trans (key λx=>rfl)
theorem aik(args:Array Operand)(ts:Array TypeId):gV tt ety d o f (.call { callee:=.builtin .len,args:=args,argTypes:=ts }) ty:=by
 intro r h;simp only[dK]at h;split at h
 rotate_left
 cases h;rename_i x t ha hts;split at h
 .rename_i e i1 i2 i3 x' ht hx;have hx':aZ (f x)=.v (.one (bQ x')):=by rw[hx];rfl
  split at h
  .rename_i n hn;cases h;obtain⟨ask,hl,hask⟩:=Wy hn;simp only[kernel,ha,hts,ht,hx',hl];exact⟨_,rfl,⟨λ_=>hask,rfl,rfl,rfl⟩⟩
  .cases h
 .rename_i i1 i2 i3 a1 j1 s ht hx;change List UInt8 at s;have hx':aZ (f x)=.v (.one (.p a1 j1 (.str ⟨s.toArray⟩))):=by rw[hx];rfl
  cases h;simp only[kernel,ha,hts,ht,hx'];refine⟨_,rfl,⟨λ_=>trivial,?_,rfl,rfl⟩⟩;have:(P.str ⟨s.toArray⟩).len=.int .i64 s.length:=by show P.int .i64 (s.toArray.size:Nat)=_;simp
  simp only[this];rfl
 .cases h
theorem ail(args:Array Operand)(ts:Array TypeId):gV tt ety d o f (.call { callee:=.builtin .min,args:=args,argTypes:=ts }) ty:=by
 intro r h;simp only[dK]at h;split at h
 .rename_i x y ha;split at h
  .rename_i a1 j1 k x' a2 j2 k2 y' hx hy;have hx':aZ (f x)=.v (.one (.p a1 j1 (.int k x'))):=by rw[hx];rfl
   have hy':aZ (f y)=.v (.one (.p a2 j2 (.int k2 y'))):=by rw[hy];rfl
   cases h;simp only[kernel,ha,hx',hy'];exact⟨_,rfl,⟨λ_=>⟨trivial,trivial⟩,rfl,rfl,rfl⟩⟩
  .cases h
 .rename_i x y z ha;split at h
  rotate_left
  cases h;rename_i a1 j1 k x' a2 j2 k2 y' a3 j3 k3 z' hx hy hz;have hx':aZ (f x)=.v (.one (.p a1 j1 (.int k x'))):=by rw[hx];rfl
  have hy':aZ (f y)=.v (.one (.p a2 j2 (.int k2 y'))):=by rw[hy];rfl
  have hz':aZ (f z)=.v (.one (.p a3 j3 (.int k3 z'))):=by rw[hz];rfl
  cases h;simp only[kernel,ha,hx',hy',hz'];exact⟨_,rfl,⟨λ_=>⟨trivial,trivial,trivial⟩,rfl,rfl,rfl⟩⟩
 .cases h
theorem ain(args:Array Operand)(ts:Array TypeId):gV tt ety d o f (.call { callee:=.builtin .max,args:=args,argTypes:=ts }) ty:=by
 intro r h;simp only[dK]at h;split at h
 .rename_i x y ha;split at h
  .rename_i a1 j1 k x' a2 j2 k2 y' hx hy;have hx':aZ (f x)=.v (.one (.p a1 j1 (.int k x'))):=by rw[hx];rfl
   have hy':aZ (f y)=.v (.one (.p a2 j2 (.int k2 y'))):=by rw[hy];rfl
   cases h;simp only[kernel,ha,hx',hy'];exact⟨_,rfl,⟨λ_=>⟨trivial,trivial⟩,rfl,rfl,rfl⟩⟩
  .cases h
 .rename_i x y z ha;split at h
  rotate_left
  cases h;rename_i a1 j1 k x' a2 j2 k2 y' a3 j3 k3 z' hx hy hz;have hx':aZ (f x)=.v (.one (.p a1 j1 (.int k x'))):=by rw[hx];rfl
  have hy':aZ (f y)=.v (.one (.p a2 j2 (.int k2 y'))):=by rw[hy];rfl
  have hz':aZ (f z)=.v (.one (.p a3 j3 (.int k3 z'))):=by rw[hz];rfl
  cases h;simp only[kernel,ha,hx',hy',hz'];exact⟨_,rfl,⟨λ_=>⟨trivial,trivial,trivial⟩,rfl,rfl,rfl⟩⟩
 .cases h
theorem xO(e:Ty)(a b:List (Dt e)):aC e (a++b)=aC e a++aC e b:=by simp[aC]
theorem U0{sT:TypeId}{s x:TW}{r:r_}(h:Oi tt ety d o sT s x=some r):∃r',uH tt d (bT o) sT (bQ s) (bQ x)=some r'/\fD r r':=by
 simp only[Oi]at h;split at h
 rotate_left
 cases h;rename_i e i1 i2 i3 ht;split at h
 rotate_left
 cases h;rename_i ie et he het;cases hb:(Nat.beq ie.bytes 0||!Nat.beq (size et) ie.size)with
 |true=>rw[hb]at h;cases h
 |false=>
  rw[hb,cond_false]at h;simp only[UV,Bool.not_eq_false']at hb;have hsz:=Qf hb.2;have hb0:¬ ie.bytes=0:=λe=>by rw[e]at hb;cases hb.1
  split at h;cases h;rename_i new a' i' hrow;obtain⟨ask,hr,hask⟩:=QO hrow;rw[hsz]at hr;simp only[uH,ht,he,QR hb0,hr];have key :∀(pre:Bool) (pre':Prop) (old:List (Dt et)) (a i:Bool) (kill:List (Nat×TO)),(pre=true->pre')->
    fD { pre:=pre&&decide ((old.length+new.length)*ie.bytes<=140737488355328),t:=.sl et,val:=List.append old new,dst:=λ_=>.v (.one (.own d)),aB:=λy=>kill++[(d,.arr false (a||a') (i||i') et y)],new:=[d] }
     (.mk (ask/\pre'/\((aC et old).length+(aC et new).length)*ie.bytes<=140737488355328) (.sl ie.size (aC et old++aC et new)) (λ_=>.v (.one (.own d)))
      (λy=>gZ kill++[(d,.arr false (a||a') (i||i') ie.size y.list)]) [d]):=by
   intro pre pre' old a i kill hpre;refine⟨λhp=>?_,rfl,?_,rfl⟩
   .obtain ⟨h1,h2⟩:=ig hp;refine⟨hask,hpre h1,?_⟩;rw[dQ,dQ];simpa using h2
   .simp only[kQ];congr 1;simp only[P.list,gZ,X2,Kb,dJ,hsz];rw[<-xO];rfl
  split at h
  .cases h;exact⟨_,rfl,key true True [] false false [] λ_=>trivial⟩
  .rename_i g;split at h
   rotate_left
   cases h;rename_i a i e' l hg;split at h
   rotate_left
   cases h;rename_i l' hl;cases hgd:Nat.beq g d with
   |true=>rw[hgd]at h;cases h
   |false=>rw[hgd,cond_false]at h;cases h;obtain⟨ee,hl⟩:=nV hl;cases ee;subst hl;simp only[bQ,gI hg];rw[Qt ⟨hsz,λe=>by subst e;simp at hgd⟩];exact⟨_,rfl,key true True _ a i [(g,.none)] λ_=>trivial⟩
  .rename_i g lo hi;split at h
   rotate_left
   cases h;rename_i a i e' l hg;split at h
   rotate_left
   cases h;rename_i l' hl;cases hgd:Nat.beq g d with
   |true=>rw[hgd]at h;cases h
   |false=>
    rw[hgd,cond_false]at h;cases h;obtain⟨ee,hl⟩:=nV hl;cases ee;subst hl;simp only[bQ,gI hg,pq];rw[Qt ⟨hsz,λe=>by subst e;simp at hgd⟩];refine⟨_,rfl,key (decide (lo=0)) (P.int .i64 lo=kE 0) (l.take hi.toNat) a i [(g,.none)] λh=>?_⟩;have h:lo=0:=by simpa using h
    subst h;rfl
  .cases h
theorem Y2(args:Array Operand)(ts:Array TypeId):gV tt ety d o f (.call { callee:=.builtin .append,args:=args,argTypes:=ts }) ty:=by
 intro r h;simp only[dK]at h;split at h
 rotate_left
 cases h;rename_i s x sT xT rest ha hts;split at h
 .rename_i e i1 i2 i3 s' x' ht hs hx;have hs':aZ (f s)=.v (.one (bQ s')):=by rw[hs];rfl
  have hx':aZ (f x)=.v (.one (bQ x')):=by rw[hx];rfl
  simp only[kernel,ha,hts,ht,hs',hx'];exact U0 h
 .cases h
theorem U1(op:Op):aa2 tt ety d o f op ty:=by
 cases op
 case move x=>exact gV.toC (aeB x)
 case assign x=>exact gV.toC (YZ x)
 case pick c x y=>exact gV.toC (aeC c x y)
 case alloc t=>exact gV.toC (aa4 t)
 case box t x=>exact gV.toC (aij t x)
 case build t ps=>exact gV.toC (aa5 t ps)
 case buildSlice t n ps=>exact gV.toC (KQ t n ps)
 case load t x=>exact gV.toC (aeE t x)
 case store t x y=>exact gV.toC (aa7 t x y)
 case nilCheck x=>exact gV.toC (QS x)
 case binOp op t x y u=>exact gV.toC (aa9 op t x y u)
 case unOp op t x=>exact gV.toC (aeH op t x)
 case convert s t x=>exact gV.toC (UW s t x)
 case makeSlice t n c=>exact gV.toC (Oq t n c)
 case slice t x lo hi mx=>
  cases mx with
  |none=>exact gV.toC (aa_ t x lo hi)
  |some m=>cases lo with
   |some l=>intro r h;simp[dK]at h
   |none=>cases hi with
    |none=>intro r h;simp[dK]at h
    |some hi=>exact gV.toC (Y1 t x hi m)
 case fieldAddr t x n=>exact gV.toC (Ot t x n)
 case field t x n=>exact gV.toC (abb t x n)
 case indexAddr t x ix=>exact Ou t x ix
 case index t x ix=>exact gV.toC (abd t x ix)
 case range t x=>exact gV.toC (abe t x)
 case extract t n=>exact gV.toC (UZ t n)
 case makeFunc fn first caps=>
  cases fn
  case func g=>exact gV.toC (QW g first caps)
  all_goals (intro r h;simp[dK]at h)
 case call c=>
  obtain⟨callee,args,ts⟩:=c;cases callee
  case builtin b=>
   cases b
   case len=>exact gV.toC (aik args ts)
   case append=>exact gV.toC (Y2 args ts)
   case min=>exact gV.toC (ail args ts)
   case max=>exact gV.toC (ain args ts)
   all_goals (intro r h;simp[dK]at h)
  all_goals (intro r h;simp[dK]at h)
 all_goals (intro r h;simp[dK]at h)
end
end Go.Fg

namespace Go.Fg
open Go.Fw
section
variable [RE]
def wdF:Wd:=⟨.bool,false⟩
def placesOf:Ty->List Nat
 |.prod (.st c) r=>c::placesOf r
 |_=>[]
def U2(et:Ty):List Nat->List (Nat×Ty)
 | []=>[]
 |c::cs=>match (iZ et)[c]? with
  |some (.sl t)=>(c,t)::U2 et cs
  |_=>U2 et cs
def abf(ety:TypeId->Option Ty)(e:TypeId)(et:Ty):List (Nat×Ty):=match ety (1000000+e)with
 |some t=>U2 et (placesOf t)
 |none=>[]
def yI(ah:List (Nat×Ty))(off n:Nat):List (Nat×Ty):=match ah with
 | []=>[]
 |(c,t)::r=>match Nat.ble off c&&Nat.blt c (off+n)with
  |true=>(c,t)::yI r off n
  |false=>yI r off n
def wE(o:Nat->TO)(g:Nat):Option TH:=match o g with
 |.aF a i e ah l hole=>match hole with
  |none=>some ⟨a,i,e,ah,l⟩
  |some (n,c,d)=>match o d with
   |.arr false a' i' e' l'=>match YV e ah c e' with
    |true=>some ⟨a||a',i||i',e,ah,putRow e l n c (tq e' l')⟩
    |false=>none
   |_=>none
 |_=>none
def ak0:TO->Bool
 |.arr fz _ _ _ _=>!fz
 |_=>false
def kR:List Nat->List (Nat×TO)
 | []=>[]
 |g::gs=>(g,.none)::kR gs
def cellT(e:Ty)(x:Dt e)(c:Nat)(e':Ty):List (Dt e'):=((fF e x).getD c wdF).as (.sl e')
def Ov(o:Nat->TO)(col:Nat->Option Ty):Nat->List Ty->List TW->Option (List Wd×Bool×Bool×List Nat×List (Nat×Nat))
 |_,[],[]=>some ([],false,false,[],[])
 |j,t::ts,x::xs=>match Ov o col (j+1) ts xs with
  |none=>none
  |some (ys,a',i',gs',es)=>match col j with
   |none=>match x.toP o t with
    |some (y,a,i,gs)=>some (⟨t,y⟩::ys,a||a',i||i',gs++gs',es)
    |none=>none
   |some s=>match tyB t (.sl s)with
    |true=>match x with
     |.b_=>some (tq s []::ys,a',i',gs',es)
     |.own e=>match o e with
      |.arr false a i s' l=>match (tq s' l).Ar (.sl s)with
       |some l=>some (tq s l::ys,a||a',i||i',gs',(j,e)::es)
       |none=>none
      |_=>none
     |_=>none
    |false=>none
 |_,_,_=>none
def E5:List (Nat×Ty)->List (Nat×Ty)->Bool
 | [],[]=>true
 |(c,t)::r,(c',t')::r'=>Nat.beq c c'&&tyB t t'&&E5 r r'
 |_,_=>false
def QX(o:Nat->TO)(et:Ty)(ah:List (Nat×Ty)):TW->Option (Bool×Bool×Bool×List (Dt et)×List Nat)
 |.b_=>some (true,false,false,[],[])
 |.own g=>match wE o g with
  |some ⟨a,i,e,gJ,l⟩=>match (tq e l).Ar (.sl et),E5 gJ ah with
   |some l,true=>some (true,a,i,l,g::iF (o g))
   |_,_=>none
  |none=>none
 |.vw g lo hi=>match wE o g with
  |some ⟨a,i,e,gJ,l⟩=>match (tq e (l.take hi.toNat)).Ar (.sl et),E5 gJ ah with
   |some l,true=>some (decide (lo=0),a,i,l,g::iF (o g))
   |_,_=>none
  |none=>none
 |_=>none
def vF:Ty:=.st RE.hd
def Y3(n:Nat):List (Dt vF):=List.replicate n (dflt vF)
def Ox(tt:TT)(o:Nat->TO)(f:Operand->TS)(t:TypeId)(x:Operand):Option r_:=match tt t,f x with
 |some i,.v (.one (.ep g n off))=>match wE o g with
  |some ⟨a,i',e,ah,l⟩=>match tu off ah with
   |some e'=>bif YV e ah off e'&&(Nat.beq i.size 1&&!i.agg)&&su (((fF e (dflt e)).drop off).take i.size) i.zero then
     some { pre:=true,t:=.sl vF,val:=Y3 (List.length (α:=Dt e') (cellT e (l.getD n.toNat (dflt e)) off e')),dst:=λz=>.v (.one (.p false false ⟨.sl vF,z⟩)),aB:=λ_=>[],new:=[] } else none
   |none=>none
  |none=>none
 |_,_=>none
def jd(tt:TT)(ety:TypeId->Option Ty)(d:Nat)(o:Nat->TO)(f:Operand->TS)(op:Op)(ty:TypeId):Option r_:=
 match op with
 |.load t x=>match ety (3000000+d)with
  |some _=>Ox tt o f t x
  |none=>match tt t,f x with
  |some i,.v (.one (.ep g n off))=>match o g with
   |.aF a0 i0 e0 jV l0 _=>bif Nat.ble (off+i.size) (size e0)&&Nat.blt 0 i.size&&su (((fF e0 (dflt e0)).drop off).take i.size) i.zero then
     match yI jV off i.size with
     | []=>some { pre:=true,t:=e0,val:=l0.getD n.toNat (dflt e0),dst:=λz=>TV.fA i.agg (tpw a0 i0 (((fF e0 z).drop off).take i.size)),aB:=λ_=>[],new:=[] }
     | [(c,e')]=>match wE o g with
      |some ⟨a,i',e,ah,l⟩=>match YV e ah c e'&&Nat.ble (off+i.size) (size e)&&su (((fF e (dflt e)).drop off).take i.size) i.zero with
       |true=>some { pre:=true,t:=.sl e,val:=l,dst:=λ(y:List (Dt e))=>TV.fA i.agg ((tpw a i' (((fF e (y.getD n.toNat (dflt e))).drop off).take i.size)).set (c-off) (.own d)),aB:=λ(y:List (Dt e))=>(g,.aF a i' e ah y (some (n.toNat,c,d)))::(d,.arr false a i' e' (cellT e (y.getD n.toNat (dflt e)) c e'))::kR (iF (o g)),new:=[d] }
       |false=>none
      |none=>none
     |_=>none
     else none
   |_=>none
  |_,_=>none
 |.store t x y=>match tt t,f x,f y with
  |some i,.v (.one (.ep g n off)),.v y=>match o g with
   |.aF a0 i0 e0 ah l0 hole=>match Ov o (λj=>tu j ah) off (((iZ e0).drop off).take i.size) y.words with
    |some (ps,a',i',gs,es)=>bif Nat.ble (off+i.size) (size e0)&&Nat.beq y.words.length i.size&&y.solid&&!eY g gs&&rO (es.map (·.2))&&Dj (es.map (·.2)) gs then
      let res (pre:Bool) (a i1:Bool) (e:Ty) (l:List (Dt e)) (fV:Option (Nat×Nat×Nat)) (ks:List Nat):r_:=
       { pre,t:=.sl e,val:=List.set l n.toNat (KO e (Nat.beq i.size (size e)) (l.getD n.toNat (dflt e)) off ps),dst:=λ_=>.no,aB:=λz=>(g,.aF (a||a') (i1||i') e ah z fV)::kR (es.map (·.2))++kR ks++gs.map (kY o),new:=[] }
      match yI ah off i.size with
      | []=>some (res true a0 i0 e0 l0 hole [])
      |_::_=>match hole with
       |none=>some (res true a0 i0 e0 l0 none [])
       |some (n0,c0,d0)=>match wE o g with
        |some ⟨a,i1,e,gJ,l⟩=>match !eY d0 (es.map (·.2))&&!eY d0 gs with
         |true=>match tyB e e0 with
          |true=>some (res true a i1 e l none [d0])
          |false=>none
         |false=>bif Nat.ble off c0&&Nat.blt c0 (off+i.size)then some (res (Nat.beq n0 n.toNat) a0 i0 e0 l0 none [])else none
        |none=>match ak0 (o d0)with
         |true=>none
         |false=>bif Nat.ble off c0&&Nat.blt c0 (off+i.size)then some (res (Nat.beq n0 n.toNat) a0 i0 e0 l0 none [])else none
      else none
    |none=>none
   |_=>none
  |_,_,_=>none
 |.buildSlice t n parts=>match tt t with
  |some { k:=.slice e,.. }=>match tt e,ety e with
   |some ie,some et=>match abf ety e et with
    | []=>none
    |y7::Dn=>match BI (λm=>if m<n then some (m*ie.size,ie.size)else none) (IY (ie.zero.map Z8) n) (parts.toList.map λp=>(p.1,f p.2))with
     |some ws=>match Ov o (λj=>tu (j % ie.size) (y7::Dn)) 0 (IY (iZ et) n) ws with
      |some (ps,a,i,gs,es)=>bif Nat.ble (n+n*ie.size) 16777216&&Nat.beq (size et) ie.size&&rO (es.map (·.2))&&Dj (es.map (·.2)) gs then
        some { pre:=true,t:=.sl et,val:=BK et n ps,dst:=λ_=>.v (.one (.own d)),aB:=λy=>(d,.aF a i et (y7::Dn) y none)::kR (es.map (·.2))++gs.map (kY o),new:=[d] } else none
      |none=>none
     |none=>none
   |_,_=>none
  |_=>none
 |.makeSlice t n c=>match tt t,f n,f c with
  |some { k:=.slice e,.. },.v (.one (.p _ _ ⟨.int .i64,n⟩)),.v (.one (.p _ _ ⟨.int .i64,c⟩))=>match tt e,ety e with
   |some ie,some et=>match abf ety e et with
    | []=>none
    |y7::Dn=>match Ov o (λj=>tu j (y7::Dn)) 0 (iZ et) (ie.zero.map Z8)with
     |some (ps,false,false,[],[])=>bif Nat.blt 0 ie.size&&Nat.beq (size et) ie.size then
      some { pre:=o7 ie.bytes n c,t:=.sl et,val:=List.replicate (Int.toNat n) (kM et ps),dst:=λ_=>.v (.one (.own d)),aB:=λy=>[(d,.aF false false et (y7::Dn) y none)],new:=[d] } else none
     |_=>none
   |_,_=>none
  |_,_,_=>none
 |.call { callee:=.builtin .append,args,argTypes }=>match args.toList,argTypes.toList with
  | [s,x],sT::xT::_=>match tt sT,tt xT,f s,f x with
   |some { k:=.slice e,.. },some { k:=.slice _,.. },.v (.one s),.v (.one (.own g2))=>match tt e,wE o g2 with
    |some ie,some ⟨a2,i2,et,ah,new⟩=>match QX o et ah s with
     |some (pre,a,i,old,ks)=>bif !Nat.beq ie.bytes 0&&Nat.beq (size et) ie.size&&rO (ks++g2::iF (o g2))then
       some { pre:=pre&&decide ((old.length+new.length)*ie.bytes<=140737488355328),t:=.sl et,val:=List.append old new,dst:=λ_=>.v (.one (.own d)),aB:=λy=>(d,.aF (a||a2) (i||i2) et ah y none)::kR (ks++g2::iF (o g2)),new:=[d] } else none
     |none=>none
    |_,_=>none
   |_,_,_,_=>none
  |_,_=>none
 |.slice t x none hi none=>match ety 2000000 with
  |none=>none
  |some _=>match tt t,f x with
   |some { k:=.slice e,.. },.v (.one (.own g))=>match tt e,o g with
    |some ie,.arr false a i et l=>bif Nat.beq (size et) ie.size then match kZ (List.length (α:=Dt et) l) (hi.map f)with
     |some hi=>some { pre:=decide (0<=hi)&&decide (hi<=(List.length (α:=Dt et) l:Int)),t:=.sl et,val:=List.take (α:=Dt et) hi.toNat l,dst:=λ_=>.v (.one (.own d)),aB:=λy=>[(d,.arr false a i et y),(g,.none)],new:=[d] }
     |none=>none
     else none
    |some ie,.aF a i et ah l none=>bif Nat.beq (size et) ie.size then match kZ (List.length (α:=Dt et) l) (hi.map f)with
     |some hi=>some { pre:=decide (0<=hi)&&decide (hi<=(List.length (α:=Dt et) l:Int)),t:=.sl et,val:=List.take (α:=Dt et) hi.toNat l,dst:=λ_=>.v (.one (.own d)),aB:=λy=>[(d,.aF a i et ah y none),(g,.none)],new:=[d] }
     |none=>none
     else none
    |_,_=>none
   |_,_=>none
 |_=>none
section
variable {o:Nat->TO} {tt:TT} {ety:TypeId->Option Ty} {d:Nat} {f:Operand->TS} {ty:TypeId}
theorem qo(off n:Nat):∀(ah:List (Nat×Ty)),iL (gY ah) off n=gY (yI ah off n)
 | []=>rfl
 |(c,t)::r=>by
  have ih:=qo off n r;simp only[iL,gY,X2,zb,yI]at ih ⊢;cases hb:(Nat.ble off c&&Nat.blt c (off+n))with
  |true=>simp only[if_true,X2,ih]
  |false=>simp only[Wa,if_false,ih]
theorem DR(c:Nat)(ah:List (Nat×Ty)):(gY ah).lookup c=(tu c ah).map size:=by
 cases h:tu c ah with
 |none=>exact IZ h
 |some t=>exact DJ h
theorem pO(g:Nat)(x:TO)(r:List (Nat×TO)):gZ ((g,x)::r)=(g,dJ x)::gZ r:=rfl
theorem pR:∀(gs:List Nat),gZ (kR gs)=kills gs
 | []=>rfl
 |g::gs=>by show (g,O.none)::gZ (kR gs)=(g,O.none)::kills gs;rw[pR gs]
theorem pU{g:Nat}{a i:Bool}{e:Ty}{ah:List (Nat×Ty)}{l:List (Dt e)}(h:wE o g=some ⟨a,i,e,ah,l⟩):iM (bT o) g=some (a,i,size e,gY ah,aC e l)/\(bT o g).hn=iF (o g):=by
 unfold wE at h;cases ho:o g with
 |aF a0 i0 e0 jV l0 hole=>
  rw[ho]at h;have hg:bT o g=.aF a0 i0 (size e0) (gY jV) (aC e0 l0) hole:=by simp[bT,ho,dJ]
  rcases hole with _|⟨n,c,d⟩
  .cases h;exact⟨by simp[iM,hg],by rw[hg];rfl⟩
  .simp only at h;cases hd:o d with
   |arr fz a' i' e' l'=>
    rw[hd]at h;cases fz with
    |true=>cases h
    |false=>
     simp only at h;split at h
     .rename_i hc;cases h;obtain⟨k1,k2,k3⟩:=tC hc;refine⟨?_,by rw[hg];rfl⟩;simp only[iM,hg,gI hd];rw[Qt ⟨k1,k3⟩,zV k2]
     .cases h
   |_=>rw[hd]at h;cases h
 |_=>rw[ho]at h;cases h
theorem U3{g n c d0:Nat}{a0 i0:Bool}{e0:Ty}{ah:List (Nat×Ty)}{l0:List (Dt e0)}(hog:o g=.aF a0 i0 e0 ah l0 (some (n,c,d0)))(h:ak0 (o d0)=false):iM (bT o) g=none:=by
 have hg:bT o g=.aF a0 i0 (size e0) (gY ah) (aC e0 l0) (some (n,c,d0)):=by simp[bT,hog,dJ]
 simp only[iM,hg];cases hd:o d0 with
 |arr fz a i e l=>
  rw[hd]at h;cases fz with
  |true=>simp[bT,hd,dJ]
  |false=>cases h
 |_=>simp[bT,hd,dJ]
theorem QY{e e':Ty}{x:Dt e}{c:Nat}(hc:(iZ e)[c]?=some (.sl e')):(kL e x)[c]?=some (bY ⟨.sl e',cellT e x c e'⟩):=by
 rw[gG,Z3];have hlt:c<(fF e x).length:=by rw[pK,<-jG];exact(Q4.1 hc).1
 rw[Q3 hlt,W2];have ht:((fF e x)[c]).t=.sl e':=by have:=sZ e x;have h2:=ZS (λl=>l[c]?) this;simp only[Z3,Q3 hlt,W2,hc,Q0]at h2;exact h2
 have hg:(fF e x).getD c wdF=(fF e x)[c]:=by rw[Q2,Q3 hlt];rfl
 unfold cellT;rw[hg,wC ht]
theorem BN{col:Nat->Option Ty}{col':Nat->Option Nat}(aem :∀j,col' j=(col j).map size):∀{ts:List Ty} {xs:List TW} {j:Nat} {ys:List Wd} {a i:Bool} {gs:List Nat} {es:List (Nat×Nat)},Ov o col j ts xs=some (ys,a,i,gs,es)->
  Pv (bT o) col' j (xs.map bQ)=some (ys.map bY,a,i,gs,es)/\ys.map (·.t)=ts/\Pl o gs
 | [],[],j,ys,a,i,gs,es,h=>by simp only[Ov,Q0,QP]at h;obtain⟨rfl,rfl,rfl,rfl,rfl⟩:=h;exact⟨rfl,rfl,Pl.nil⟩
 | [],x::xs,j,ys,a,i,gs,es,h=>by simp[Ov]at h
 |t::ts,[],j,ys,a,i,gs,es,h=>by simp[Ov]at h
 |t::ts,x::xs,j,ys,a,i,gs,es,h=>by
  simp only[Ov]at h;split at h;cases h;rename_i ys' a' i' gs' es' h2;obtain⟨k1,k2,k3⟩:=BN aem h2;simp only[X2,Pv,k1,aem j];cases hc:col j with
  |none=>
   rw[hc]at h;simp only at h;split at h
   .rename_i h1;cases h;refine⟨by simp only[Kl,Oj h1,X2],by simp only[X2,k2],(UO h1).append k3⟩
   .cases h
  |some s=>
   rw[hc]at h;simp only at h;split at h
   rotate_left
   cases h;rename_i hts;have hts:=xJ hts;split at h
   .cases h;exact⟨by simp only[W2,bQ,X2];rfl,by simp only[X2,k2,hts];rfl,k3⟩
   .rename_i e;split at h
    rotate_left
    cases h;rename_i a1 i1 s' l hoe;split at h
    rotate_left
    cases h;rename_i l1 hl;cases h;obtain⟨he,hl⟩:=nV hl;cases he;subst hl;refine⟨?_,by simp only[X2,k2,hts];rfl,k3⟩;simp only[W2,bQ,gI hoe,if_true,X2];rfl
   .cases h
def I9(tt:TT)(ety:TypeId->Option Ty)(d:Nat)(o:Nat->TO)(f:Operand->TS)(op:Op)(ty:TypeId):Prop:=∀r,jd tt ety d o f op ty=some r->∃dc r',dF tt dc d (bT o) (λx=>aZ (f x)) op ty=some r'/\fD r r'
theorem LV{i:TI}{e e':Ty}{l:List (Dt e)}{n off c:Nat}(hz:su (((fF e (dflt e)).drop off).take i.size) i.zero=true)(c2:(iZ e)[c]?=some (.sl e'))(hc1:off<=c)(hc2:c<off+i.size):
  (((aC e l).getD n []).getD c default).list=aC e' (cellT e (l.getD n (dflt e)) c e'):=by
 by_cases hn:n<l.length
 .have e1:(aC e l).getD n []=kL e (l.getD n (dflt e)):=by simp[aC,Q2,hn]
  rw[e1,Q2,QY c2];exact iV _ _
 .have e1:(aC e l).getD n []=[]:=by simp[aC,Q2,UB (vl hn)]
  have e2:l.getD n (dflt e)=dflt e:=by simp[Q2,UB (vl hn)]
  rw[e1,e2];have hz':=DL hz (c-off);rw[VM,Vc,ZZ,Qt (by omega),Wb,<-gG]at hz';have e3:off+(c-off)=c:=by omega
  rw[e3,QY c2]at hz';split at hz'
  rotate_left
  cases hz';simp only[Q0]at hz';have hl:=ZS P.list hz';rw[iV]at hl;rw[hl];have:(PI i.zero (c-off)).list=[]:=by have hsl :∃sz l,PI i.zero (c-off)=P.fG sz l:=⟨_,_,hz'.symm⟩;unfold PI at hsl ⊢;split<;>rfl
  rw[this];rfl
theorem aeI(n:Nat):bY ⟨.sl vF,Y3 n⟩=hdr (List.replicate n ([]:List P)):=by
 have e0 :∀x,kL vF x=[]:=λx=>by
  have h1:=pK vF x;have h2:size vF=0:=by simp[vF,size,iY,RE.hdF]
  rw[h2]at h1;rw[gG,Vv h1];rfl
 rw[Gy];have e1:aC vF (Y3 n)=List.replicate n []:=by
  have :∀(n:Nat),List.map (kL vF) (Y3 n)=List.replicate n []:=λn=>by
   induction n with
   |zero=>rfl
   |succ n ih=>have e1:kL vF (dflt vF)=[]:=e0 _;show kL vF (dflt vF)::List.map (kL vF) (Y3 n)=[]::List.replicate n [];rw[ih,e1]
  exact this n
 have e2:size vF=0:=by simp[vF,size,iY,RE.hdF]
 rw[e1,e2];unfold hdr;rw[Kf];cases n<;>rfl
theorem U4{t:TypeId}{x:Operand}{r:r_}(h:Ox tt o f t x=some r):∃r',rP tt (bT o) (λx=>aZ (f x)) t x=some r'/\fD r r':=by
 unfold Ox at h;split at h
 rotate_left
 cases h;rename_i i g n off ht hx;have hx':aZ (f x)=.v (.one (.ep g (.int .i64 n) off)):=by rw[hx];rfl
 have en:(P.int .i64 n).nat=n.toNat:=rfl;split at h
 rotate_left
 cases h;rename_i a i' e ah l hh;split at h
 rotate_left
 cases h;rename_i e' hca;obtain⟨hb,h⟩:=bM h;obtain⟨hb,hz⟩:=ig hb;obtain⟨hcb,hb⟩:=ig hb;obtain⟨h1,h2⟩:=ig hb;have h1:=Qf h1;have h2:i.agg=false:=by simpa using h2
 cases h;obtain⟨k1,k2⟩:=pU hh;obtain⟨c1,c2,c3⟩:=tC hcb;unfold rP;simp only[ht,hx',k1,c1];rw[Qt ⟨c3,h1,h2⟩];refine⟨_,rfl,⟨λ_=>trivial,?_,rfl,rfl⟩⟩;have key:(((aC e l).getD (P.int .i64 n).nat []).getD off default).list=aC e' (cellT e (l.getD n.toNat (dflt e)) off e'):=by rw[en];exact LV hz c2 (ZD _) (by omega)
 show S.v (.one (.p false false (hdr (((aC e l).getD (P.int .i64 n).nat []).getD off default).list)))=S.v (.one (.p false false (bY ⟨.sl vF,Y3 _⟩)));rw[aeI,key];unfold hdr;rw[dQ,Kf]
theorem abg(t:TypeId)(x:Operand):I9 tt ety d o f (.load t x) ty:=by
 intro r h;simp only[jd]at h;split at h
 .obtain ⟨r',h1,h2⟩:=U4 h;exact⟨[(0,0)],r',h1,h2⟩
 split at h
 rotate_left
 cases h;rename_i i g n off ht hx;have hx':aZ (f x)=.v (.one (.ep g (.int .i64 n) off)):=by rw[hx];rfl
 have en:(P.int .i64 n).nat=n.toNat:=rfl;split at h
 rotate_left
 cases h;rename_i a0 i0 e0 jV l0 hole hog;have hg:bT o g=.aF a0 i0 (size e0) (gY jV) (aC e0 l0) hole:=by simp[bT,hog,dJ]
 obtain⟨hb,h⟩:=bM h;obtain⟨hb,h3⟩:=ig hb;obtain⟨h1,h2⟩:=ig hb;have h1:=Wf h1;split at h
 .rename_i hci;cases h;refine⟨[],?_⟩;simp only[dF,Qc,cond_false,ht,hx',hg];rw[Qt ⟨h1,KR h2⟩];have eci:iL (gY jV) off i.size=[]:=by rw[qo,hci];rfl
  simp only[eci];refine⟨_,rfl,⟨λ_=>trivial,?_,rfl,rfl⟩⟩;simp only[Et.pure,kN];congr 1;rw[en];exact Oo e0 l0 n.toNat off i.size i.zero h1 h3 a0 i0
 .rename_i c e' hci;split at h
  rotate_left
  cases h;rename_i a i' e ah l hh;split at h
  rotate_left
  cases h;rename_i hcc;obtain⟨hcc,hz⟩:=ig hcc;obtain⟨hcb,hle⟩:=ig hcc;have hle:=Wf hle;cases h;obtain⟨k1,k2⟩:=pU hh;obtain⟨c1,c2,c3⟩:=tC hcb;have hcin:off<=c/\c<off+i.size:=by
   have hm:(c,size e')∈iL (gY jV) off i.size:=by rw[qo,hci];simp[gY]
   have:=(Jn.1 hm).2;simp only[X1,Nat.ble_eq,Nat.blt_eq]at this;exact this
  refine⟨[],?_⟩;simp only[dF,Qc,cond_false,ht,hx',hg];rw[Qt ⟨h1,KR h2⟩];rw[hg]at k2;have eci:iL (gY jV) off i.size=[(c,size e')]:=by rw[qo,hci];rfl
  simp only[eci,k1];refine⟨_,rfl,⟨λ_=>trivial,?_,?_,rfl⟩⟩
  .simp only[kN];congr 1;rw[en];have key:=Oo e l n.toNat off i.size i.zero hle hz a i';simp only[P.list];rw[List.map_set,<-key];apply qn;intro j;rw[Kx];simp only[Z3,W5,List.length_range];by_cases hj:j<i.size
   .rw [qz hj];by_cases hjc:c-off=j
    .rw [Qt hjc,Qt (by omega)];have:Nat.beq (off+j) c=true:=by simp;omega
     simp only[W2,this,if_true];rfl
    .rw [QR hjc];have:Nat.beq (off+j) c=false:=by
      cases hb:Nat.beq (off+j) c with
      |false=>rfl
      |true=>have:=Qf hb;omega
     simp only[W2,this,Wa,if_false]
   .rw [UB (by simp;omega),QR (by omega)];rfl
  .have key:(((aC e l).getD n.toNat []).getD c default).list=aC e' (cellT e (l.getD n.toNat (dflt e)) c e'):=LV hz c2 hcin.1 hcin.2;show (g,O.aF a i' (size e) (gY ah) (aC e l) (some ((P.int .i64 n).nat,c,d)))::(d,O.arr false a i' (size e') ((((aC e l).getD (P.int .i64 n).nat []).getD c default).list))::kills _=gZ (_::_::kR _);rw[pO,pO,pR,k2,en,key];rfl
 .cases h
theorem I_{g:Nat}{l:List Nat}:(!eY g l)=true->l.contains g=false:=by intro h;rw[bI]at h;simpa using h
theorem nX:∀{a b:List (Nat×Ty)},E5 a b=true->a=b
 | [],[],_=>rfl
 | [],_::_,h=>by cases h
 |_::_,[],h=>by cases h
 |(c,t)::r,(c',t')::r',h=>by simp only[E5,X1]at h;rw[Qf h.1.1,xJ h.1.2,nX h.2]
theorem Y4(t:TypeId)(x y:Operand):I9 tt ety d o f (.store t x y) ty:=by
 intro r h;simp only[jd]at h;split at h
 rotate_left
 cases h;rename_i i g n off y' ht hx hy;have hx':aZ (f x)=.v (.one (.ep g (.int .i64 n) off)):=by rw[hx];rfl
 have hy':aZ (f y)=.v (jv y'):=by rw[hy];rfl
 have en:(P.int .i64 n).nat=n.toNat:=rfl;split at h
 rotate_left
 cases h;rename_i a0 i0 e0 ah l0 hole hog;have hg:bT o g=.aF a0 i0 (size e0) (gY ah) (aC e0 l0) hole:=by simp[bT,hog,dJ]
 split at h
 rotate_left
 cases h;rename_i ps a' i' gs es hD;obtain⟨hb,h⟩:=bM h;obtain⟨hb,h6⟩:=ig hb;obtain⟨hb,h5⟩:=ig hb;obtain⟨hb,h4⟩:=ig hb;obtain⟨hb,h3⟩:=ig hb;obtain⟨h1,h2⟩:=ig hb;have h1:=Wf h1;have h2:=Qf h2;obtain⟨k1,k2,k3⟩:=BN (col':=λj=>(gY ah).lookup j) (λj=>DR j ah) hD;have hl:ps.length=i.size:=by have:=ZS List.length k2;simp[jG]at this;omega
 have hgl:gs.contains g=false:=I_ h4;have hcnd:off+i.size<=size e0/\(y'.words.map bQ).length=i.size/\(jv y').solid=true/\gs.contains g=false/\rO (es.map (·.2))=true/\Dj (es.map (·.2)) gs=true:=⟨h1,by rw[W5];exact h2,tJ _ h3,hgl,h5,h6⟩
 have key :∀(pre:Bool) (pre':Prop) (a i1:Bool) (e:Ty) (l:List (Dt e)) (fV:Option (Nat×Nat×Nat)) (ks:List Nat),e=e0->(pre=true->pre')->
   fD { pre,t:=.sl e,val:=List.set l n.toNat (KO e (Nat.beq i.size (size e)) (l.getD n.toNat (dflt e)) off ps),dst:=λ_=>.no,aB:=λz=>(g,.aF (a||a') (i1||i') e ah z fV)::kR (es.map (·.2))++kR ks++gs.map (kY o),new:=[] }
    (.mk pre' (.sl (size e0) ((aC e l).set (P.int .i64 n).nat (aJ ((aC e l).getD (P.int .i64 n).nat []) off (ps.map bY)))) (λ_=>.no)
     (λz=>(g,.aF (a||a') (i1||i') (size e0) (gY ah) z.list fV)::kills (es.map (·.2))++kills ks++gs.map (Fw.aN (bT o))) []):=by
  intro pre pre' a i1 e l fV ks he hpre;subst he;refine⟨hpre,rfl,?_,rfl⟩;show (g,O.aF (a||a') (i1||i') (size e) (gY ah) ((aC e l).set (P.int .i64 n).nat (aJ ((aC e l).getD (P.int .i64 n).nat []) off (ps.map bY))) fV)::kills (es.map (·.2))++kills ks++gs.map (Fw.aN (bT o))=gZ ((_::kR _)++kR _++_);rw[kQ,kQ,pO,pR,pR,oM k3,en];have hp:=EZ (e:=e) (l:=l) (n:=n.toNat) (off:=off) (ps:=ps) (by rw[hl];exact k2) (by omega);rw[hl]at hp;rw[<-hp];rfl
 have eci:=qo off i.size ah;have hk:dF tt [] d (bT o) (λx=>aZ (f x)) (.store t x y) ty=dF tt [] d (bT o) (λx=>aZ (f x)) (.store t x y) ty:=rfl;refine⟨[],?_⟩;simp only[dF,ht,hx',hy',hg,tH,k1];rw[Qt hcnd];split at h
 .rename_i hci;cases h;have eci:iL (gY ah) off i.size=[]:=by rw[eci,hci];rfl
  simp only[eci];exact⟨_,rfl,key true True a0 i0 e0 l0 hole [] rfl λ_=>trivial⟩
 .rename_i c0 cs hci;have eci:iL (gY ah) off i.size=(c0.1,size c0.2)::gY cs:=by rw[eci,hci];rfl
  simp only[eci];split at h
  .cases h;exact⟨_,rfl,key true True a0 i0 e0 l0 none [] rfl λ_=>trivial⟩
  .rename_i n0 c1 d0 _;have over :∀(r:r_),(bif Nat.ble off c1&&Nat.blt c1 (off+i.size)then some
      ({ pre:=Nat.beq n0 n.toNat,t:=.sl e0,val:=List.set l0 n.toNat (KO e0 (Nat.beq i.size (size e0)) (l0.getD n.toNat (dflt e0)) off ps),dst:=λ_=>.no,aB:=λz=>(g,.aF (a0||a') (i0||i') e0 ah z none)::kR (es.map (·.2))++kR []++gs.map (kY o),new:=[] }:r_)else none)=some r->
     (off<=c1/\c1<off+i.size)/\fD r (.mk (n0=(P.int .i64 n).nat) (.sl (size e0) ((aC e0 l0).set (P.int .i64 n).nat (aJ ((aC e0 l0).getD (P.int .i64 n).nat []) off (ps.map bY)))) (λ_=>.no)
      (λz=>(g,.aF (a0||a') (i0||i') (size e0) (gY ah) z.list none)::kills (es.map (·.2))++kills []++gs.map (Fw.aN (bT o))) []):=by
    intro r hr;obtain⟨hb,hr⟩:=bM hr;cases hr;obtain⟨q1,q2⟩:=ig hb;exact⟨⟨Wf q1,Wf q2⟩,key _ _ a0 i0 e0 l0 none [] rfl λhp=>by rw[en];exact Qf hp⟩
   split at h
   .rename_i a i1 e gJ l hh;obtain⟨j1,j2⟩:=pU hh;simp only[j1];split at h
    .rename_i hcc;obtain⟨q1,q2⟩:=ig hcc;split at h
     .rename_i hty;cases h;rw[Qt ⟨I_ q1,I_ q2⟩];exact⟨_,rfl,key true True a i1 e l none [d0] (xJ hty) λ_=>trivial⟩
     .cases h
    .rename_i hcc;obtain⟨q1,q2⟩:=over r h;rw[QR (by rintro ⟨z1,z2⟩;rw[<-bI]at z1 z2;rw[z1,z2]at hcc;cases hcc),Qt q1]
     exact⟨_,rfl,q2⟩
   .split at h;cases h;rename_i har;obtain⟨q1,q2⟩:=over r h;simp only[U3 hog har];rw[Qt q1];exact⟨_,rfl,q2⟩
theorem KT(t:TypeId)(n c:Operand):I9 tt ety d o f (.makeSlice t n c) ty:=by
 intro r h;simp only[jd]at h;split at h
 rotate_left
 cases h;rename_i e i1 i2 i3 a1 j1 n' a2 j2 c' ht hn hc;change Int at n';change Int at c';have hn':aZ (f n)=.v (.one (.p a1 j1 (.int .i64 n'))):=by rw[hn];rfl
 have hc':aZ (f c)=.v (.one (.p a2 j2 (.int .i64 c'))):=by rw[hc];rfl
 split at h
 rotate_left
 cases h;rename_i ie et he het;split at h;cases h;rename_i y7 Dn hdc;split at h
 rotate_left
 cases h;rename_i ps hp;obtain⟨hb,h⟩:=bM h;cases h;obtain⟨h1,h2⟩:=ig hb;have hsz:=Qf h2;obtain⟨k1,k2,_⟩:=BN (col':=λj=>(gY (y7::Dn)).lookup j) (λj=>DR j (y7::Dn)) hp;rw[vC]at k1;refine⟨gY (y7::Dn),?_⟩;have edc:gY (y7::Dn)=(y7.1,size y7.2)::gY Dn:=rfl;simp only[dF,ht,hn',hc',edc,he];rw[edc]at k1;simp only[k1];rw[Qt (KR h1)];refine⟨_,rfl,⟨λhp=>?_,rfl,?_,rfl⟩⟩
 .have hp:o7 ie.bytes n' c'=true:=hp;simp only[o7,X1,XX]at hp;obtain⟨⟨⟨q1,q2⟩,q3⟩,q4⟩:=hp;exact⟨n'.toNat,c'.toNat,by congr 1;omega,by congr 1;omega,by omega,by
   have:((ie.bytes*c'.toNat:Nat):Int)<=281474976710656:=by rw[Int.natCast_mul,US (by omega)];exact q3
   omega,by omega⟩
 .show [(d,O.aF false false ie.size ((y7.1,size y7.2)::gY Dn) (List.replicate (P.int .i64 n').nat (ps.map bY)) none)]=gZ [(d,_)];have en:(P.int .i64 n').nat=n'.toNat:=rfl;rw[pO,en];simp only[dJ,edc,hsz,aC,List.map_replicate,vk k2];rfl
theorem Ja(t:TypeId)(n:Nat)(ps:Array (Nat×Operand)):I9 tt ety d o f (.buildSlice t n ps) ty:=by
 intro r h;simp only[jd]at h;split at h
 rotate_left
 cases h;rename_i e i1 i2 i3 ht;split at h
 rotate_left
 cases h;rename_i ie et he het;split at h;cases h;rename_i y7 Dn hdc;split at h
 rotate_left
 cases h;rename_i ws hw;split at h
 rotate_left
 cases h;rename_i qs a i gs es hp;obtain⟨hb,h⟩:=bM h;cases h;obtain⟨hb,h4⟩:=ig hb;obtain⟨hb,h3⟩:=ig hb;obtain⟨h1,h2⟩:=ig hb;have hsz:=Qf h2;have:=BM hw;rw[I8,vC]at this;have edc:gY (y7::Dn)=(y7.1,size y7.2)::gY Dn:=rfl;obtain⟨k1,k2,k3⟩:=BN (col':=λj=>((y7.1,size y7.2)::gY Dn).lookup (j % ie.size)) (λj=>by rw[<-edc];exact DR (j % ie.size) (y7::Dn)) hp;refine⟨gY (y7::Dn),?_⟩;simp only[dF,ht,edc,he,DK,this,k1];rw[Qt ⟨Wf h1,h3,h4⟩];refine⟨_,rfl,⟨λ_=>trivial,rfl,?_,rfl⟩⟩;show (d,O.aF a i ie.size ((y7.1,size y7.2)::gY Dn) (chunks ie.size n (qs.map bY)) none)::kills (es.map (·.2))++gs.map (Fw.aN (bT o))=gZ ((_::kR _)++_);rw[kQ,pO,pR,oM k3];have e1:=zW et n qs k2;rw[hsz]at e1;simp only[dJ,edc,hsz];rw[<-e1]
theorem U5(args:Array Operand)(ts:Array TypeId):I9 tt ety d o f (.call { callee:=.builtin .append,args:=args,argTypes:=ts }) ty:=by
 intro r h;simp only[jd]at h;split at h
 rotate_left
 cases h;rename_i s x sT xT rest ha hts;split at h
 rotate_left
 cases h;rename_i e i1 i2 i3 e' j1 j2 j3 s' g2 hsT hxT hs hx;have hs':aZ (f s)=.v (.one (bQ s')):=by rw[hs];rfl
 have hx':aZ (f x)=.v (.one (.own g2)):=by rw[hx];rfl
 split at h
 rotate_left
 cases h;rename_i ie a2 i2' et ah new he hh;obtain⟨j1',j2'⟩:=pU hh;split at h
 rotate_left
 cases h;rename_i pre a i old ks hbase;obtain⟨hb,h⟩:=bM h;cases h;obtain⟨hb,h3⟩:=ig hb;obtain⟨h1,h2⟩:=ig hb;have hsz:=Qf h2;have hb0:ie.bytes≠0:=λe=>by rw[e]at h1;cases h1
 have hB :∃ask src,baseD (bT o) (bQ s')=some (ask,a,i,aC et old,ks,src)/\(src=none\/src=some (size et,gY ah))/\(pre=true->ask):=by
  cases s' with
  |b_=>simp only[QX,Q0,QP]at hbase;obtain⟨rfl,rfl,rfl,rfl,rfl⟩:=hbase;exact⟨True,none,rfl,.inl rfl,λ_=>trivial⟩
  |own g=>
   simp only[QX]at hbase;split at hbase
   rotate_left
   cases hbase;rename_i a1 i1 e1 gJ l hg;obtain⟨q1,q2⟩:=pU hg;split at hbase
   rotate_left
   cases hbase;rename_i l1 hl hc;cases hbase;obtain⟨ee,hl⟩:=nV hl;cases ee;subst hl;have:=nX hc;subst this;exact⟨True,some (size et,gY gJ),by simp only[bQ,baseD,q1,q2],.inr rfl,λ_=>trivial⟩
  |vw g lo hi=>
   simp only[QX]at hbase;split at hbase
   rotate_left
   cases hbase;rename_i a1 i1 e1 gJ l hg;obtain⟨q1,q2⟩:=pU hg;split at hbase
   rotate_left
   cases hbase;rename_i l1 hl hc;cases hbase;obtain⟨ee,hl⟩:=nV hl;cases ee;subst hl;have:=nX hc;subst this;refine⟨P.int .i64 lo=kE 0,some (size et,gY gJ),by simp only[bQ,baseD,q1,q2,pq],.inr rfl,λh=>?_⟩;have h:lo=0:=by simpa using h
   subst h;rfl
  |_=>simp[QX]at hbase
 obtain⟨ask,src,q1,q2,q3⟩:=hB;refine⟨[],?_⟩;simp only[dF,ha,hts,hsT,hxT,hs',hx',he,q1,j1'];rw[Qt ⟨hb0,hsz,q2,by rw[j2'];exact h3⟩];refine⟨_,rfl,⟨λhp=>?_,rfl,?_,rfl⟩⟩
 .obtain ⟨p1,p2⟩:=ig hp;refine⟨q3 p1,?_⟩;rw[dQ,dQ];simpa using p2
 .show (d,O.aF (a||a2) (i||i2') (size et) (gY ah) (aC et old++aC et new) none)::kills (ks++g2::(bT o g2).hn)=gZ (_::kR _);rw[pO,pR,j2',<-xO];rfl
theorem Y5(t:TypeId)(x:Operand)(lo hi mx:Option Operand):I9 tt ety d o f (.slice t x lo hi mx) ty:=by
 intro r h;cases lo with
 |some _=>simp[jd]at h
 |none=>
 cases mx with
 |some _=>simp[jd]at h
 |none=>
 simp only[jd]at h;split at h;cases h;split at h
 rotate_left
 cases h;rename_i e i1 i2 i3 g ht hx;have hx':aZ (f x)=.v (.one (.own g)):=by rw[hx];rfl
 split at h
 .rename_i ie a i et l he hg;change List (Dt et)at l;obtain⟨hb,h⟩:=bM h;split at h
  rotate_left
  cases h;rename_i hi' hhi;cases h;have uM:=lg hhi;have hg':bT o g=.arr false a i (size et) (aC et l):=gI hg;refine⟨[],?_⟩;have en:kE (aC et l).length=P.int .i64 (List.length (α:=Dt et) l:Int):=by rw[dQ];rfl
  simp only[dF,ht,hx',he,hg'];rw[Qt (Qf hb)];simp only[en,uM];refine⟨_,rfl,⟨λhp=>?_,rfl,?_,rfl⟩⟩
  .obtain ⟨h1,h2⟩:=ig hp;have h1:=Wz h1;have h2:=Wz h2;exact⟨hi'.toNat,by rw[US h1],by rw[dQ];omega⟩
  .show [(d,O.arr false a i (size et) ((aC et l).take (P.nat (.int .i64 hi')))),(g,O.none)]=[(d,O.arr false a i (size et) (aC et (List.take hi'.toNat l))),(g,O.none)];rw[pq]
 .rename_i ie a i et ah l he hg;change List (Dt et)at l;obtain⟨hb,h⟩:=bM h;split at h
  rotate_left
  cases h;rename_i hi' hhi;cases h;have uM:=lg hhi;have hg':bT o g=.aF a i (size et) (gY ah) (aC et l) none:=by simp[bT,hg,dJ]
  refine⟨[],?_⟩;have en:kE (aC et l).length=P.int .i64 (List.length (α:=Dt et) l:Int):=by rw[dQ];rfl
  simp only[dF,ht,hx',he,hg'];rw[Qt (Qf hb)];simp only[en,uM];refine⟨_,rfl,⟨λhp=>?_,rfl,?_,rfl⟩⟩
  .obtain ⟨h1,h2⟩:=ig hp;have h1:=Wz h1;have h2:=Wz h2;exact⟨hi'.toNat,by rw[US h1],by rw[dQ];omega⟩
  .show [(d,O.aF a i (size et) (gY ah) ((aC et l).take (P.nat (.int .i64 hi'))) none),(g,O.none)]=[(d,O.aF a i (size et) (gY ah) (aC et (List.take hi'.toNat l)) none),(g,O.none)];rw[pq]
 .cases h
theorem QZ(op:Op):I9 tt ety d o f op ty:=by
 cases op
 case load t x=>exact abg t x
 case store t x y=>exact Y4 t x y
 case buildSlice t n ps=>exact Ja t n ps
 case makeSlice t n c=>exact KT t n c
 case slice t x lo hi mx=>exact Y5 t x lo hi mx
 case call c=>
  obtain⟨callee,args,ts⟩:=c;cases callee
  case builtin b=>
   cases b
   case append=>exact U5 args ts
   all_goals (intro r h;simp[jd]at h)
  all_goals (intro r h;simp[jd]at h)
 all_goals (intro r h;simp[jd]at h)
end
end
end Go.Fg

namespace Go.Fg
open Go.Fw
inductive Prog:Type->Type 1 where
 |ret {R:Type} (r:R):Prog R
 |stuck {R:Type} (n:Nat):Prog R
 |cond {R:Type} (b:Bool) (x y:Prog R):Prog R
 |chk {R:Type} (b:Bool) (x:Prog R):Prog R
 |any {R:Type} (x y:Prog R):Prog R
 |let_ {A R:Type} (x:A) (k:A->Prog R):Prog R
 |join {A R:Type} (x:Prog A) (k:A->Prog R):Prog R
 |LW {A R:Type} (x:Prog (A ⊕ R)) (k:A->Prog R):Prog R
 |loop {A R:Type} (a:A) (body:A->Prog (A ⊕ R)):Prog R
 |call {A B R:Type} (n:Nat) (f:A->Option B) (a:A) (k:B->Prog R):Prog R
def Prog.map:{R R':Type}->(R->R')->Prog R->Prog R'
 |_,_,f,.ret r=>.ret (f r)
 |_,_,_,.stuck n=>.stuck n
 |_,_,f,.cond b x y=>.cond b (x.map f) (y.map f)
 |_,_,f,.chk b x=>.chk b (x.map f)
 |_,_,f,.any x y=>.any (x.map f) (y.map f)
 |_,_,f,.let_ x k=>.let_ x λz=>(k z).map f
 |_,_,f,.join x k=>.join x λz=>(k z).map f
 |_,_,f,.LW x k=>.LW (x.map (Sum.map id f)) λz=>(k z).map f
 |_,_,f,.loop a body=>.loop a λz=>(body z).map (Sum.map id f)
 |_,_,f,.call n g a k=>.call n g a λz=>(k z).map f
def iD{A R:Type}(body:A->Option (A ⊕ R)):Nat->A->Option R
 |0,_=>none
 |n+1,a=>(body a).bind λ
  |.inl a'=>iD body n a'
  |.inr r=>some r
open Classical in
noncomputable def aT{A R:Type}(body:A->Option (A ⊕ R))(a:A):Option R:=
 match iD body 1000000 a with
 |some r=>some r
 |none=>if h :∃n r,iD body n a=some r then iD body (Classical.choose h) a else none
open Classical in
noncomputable def both{R:Type}(x y:Option R):Option R:=if x=y then x else none
def ck{R:Type}(b:Bool)(x:Option R):Option R:=bif b then x else none
def dY{A R:Type}(x:Option (A ⊕ R))(k:A->Option R):Option R:=x.bind λ
 |.inl z=>k z
 |.inr r=>some r
def cu(x:Int):Int:=IntKind.i64.wrap x
noncomputable def Prog.run:{R:Type}->Prog R->Option R
 |_,.ret r=>some r
 |_,.stuck _=>none
 |_,.cond b x y=>bif b then x.run else y.run
 |_,.chk b x=>ck b x.run
 |_,.any x y=>both x.run y.run
 |_,.let_ x k=>(k x).run
 |_,.join x k=>x.run.bind λz=>(k z).run
 |_,.LW x k=>dY x.run λz=>(k z).run
 |_,.loop a body=>aT (λz=>(body z).run) a
 |_,.call _ g a k=>(g a).bind λz=>(k z).run
section
variable [RE]
inductive jI where
 |p (a i:Bool) (t:Ty)
 |b_
 |own (g:Nat)
 |box (g off:Nat)
 |fn (f:FuncId) (gs:List Nat)
 |mO (g:Nat)
 |no
 |vw (g:Nat)
 |ep (g off:Nat)
inductive j_ where
 |one (x:jI)
 |agg (xs:List jI)
inductive g_ where
 |box (ws:List jI)
 |arr (fz a i:Bool) (e:Ty)
 |it
 |aF (a i:Bool) (e:Ty) (ah:List (Nat×Ty))
structure LX where
 slots:List (Nat×j_)
 aW:List (Nat×g_)
def jI.er:jI->WS
 |.p a i _=>.p a i
 |.b_=>.b_
 |.own g=>.own g
 |.box g off=>.box g off
 |.fn f gs=>.fn f gs
 |.mO g=>.mO g
 |.no=>.no
 |.vw g=>.vw g
 |.ep g off=>.ep g off
def j_.er:j_->SS
 |.one x=>.one x.er
 |.agg xs=>.agg (xs.map jI.er)
def g_.er:g_->OS
 |.box ws=>.box (ws.map jI.er)
 |.arr fz a i e=>.arr fz a i (size e)
 |.it=>.it
 |.aF a i e ah=>.aF a i (size e) (gY ah)
def LX.er(j:LX):Shape:=⟨j.slots.map λp=>(p.1,p.2.er),j.aW.map λp=>(p.1,p.2.er)⟩
def jI.tys:jI->List Ty
 |.p _ _ t=>[t]
 |.vw _=>[.int .i64,.int .i64]
 |.ep _ _=>[.int .i64]
 |_=>[]
def j_.tys:j_->List Ty
 |.one x=>x.tys
 |.agg xs=>xs.flatMap jI.tys
def g_.tys:g_->List Ty
 |.box ws=>ws.flatMap jI.tys
 |.arr _ _ _ e=>[.sl e]
 |.it=>[.str,.int .i64]
 |.aF _ _ e _=>[.sl e]
def LX.tys(j:LX):List Ty:=j.slots.flatMap (λp=>p.2.tys)++j.aW.flatMap λp=>p.2.tys
def Tup:List Ty->Type
 | []=>Unit
 | [t]=>Dt t
 |t::u::ts=>Dt t×Tup (u::ts)
def Tup.lD:(ts:List Ty)->Tup ts->List Wd
 | [],_=>[]
 | [t],x=>[⟨t,x⟩]
 |t::u::ts,x=>⟨t,x.1⟩::Tup.lD (u::ts) x.2
def Tup.ofL:(ts:List Ty)->List Wd->Option (Tup ts)
 | [],[]=>some ()
 | [t],[w]=>w.Ar t
 |t::u::ts,w::ws=>match w.Ar t,Tup.ofL (u::ts) ws with
  |some x,some xs=>some (x,xs)
  |_,_=>none
 |_,_=>none
def Gz(m:Ren):List Nat->List TW->Bool
 | [],[]=>true
 |g'::gs,.box g off::cs=>decide (m.lookup g'=some (some g))&&(Nat.beq off 0&&Gz m gs cs)
 |_,_=>false
def DT:List Nat->List TW
 | []=>[]
 |g::gs=>.box g 0::DT gs
def DU(m:Ren):jI->TW->Option (List Wd)
 |.p a i t,.p a' i' w=>match w.Ar t with
  |some _=>bif(imp a' a&&imp i' i)||w.t.flat then some [w]else none
  |none=>none
 |.p _ _ t,.b_=>match t with
  |.sl e=>some [tq e []]
  |_=>none
 |.b_,.b_=>some []
 |.own g',.own g=>if m.lookup g'=some (some g)then some []else none
 |.own g',.b_=>if m.lookup g'=some none then some []else none
 |.box g' off,.box g off'=>if m.lookup g'=some (some g)/\off=off' then some []else none
 |.fn f gs,.clo f' caps=>bif Nat.beq f f'&&Gz m gs caps then some []else none
 |.mO g',.mO g=>if m.lookup g'=some (some g)then some []else none
 |.no,_=>some []
 |.vw g',.vw g lo hi=>if m.lookup g'=some (some g)then some [iE .i64 lo,iE .i64 hi]else none
 |.ep g' off,.ep g n off'=>if m.lookup g'=some (some g)/\off=off' then some [iE .i64 n]else none
 |_,_=>none
def xP(m:Ren):List jI->List TW->Option (List Wd)
 | [],[]=>some []
 |k::ks,x::xs=>match DU m k x,xP m ks xs with
  |some u,some v=>some (u++v)
  |_,_=>none
 |_,_=>none
def aeJ(m:Ren):j_->TS->Option (List Wd)
 |.one k,.v (.one x)=>DU m k x
 |.agg ks,.v (.agg xs)=>xP m ks xs
 |_,_=>none
def U6(m:Ren):g_->TO->Option (List Wd)
 |.box ks,.box xs=>xP m ks xs
 |.arr fz a i e,.arr fz' a' i' e' l=>match (tq e' l).Ar (.sl e)with
  |some l=>if fz=fz'/\(imp a' a&&imp i' i)=true then some [tq e l]else none
  |none=>none
 |.it,.it s n=>some [QL s,iE .i64 n]
 |.aF a i e ah,.aF a' i' e' gJ l hole=>match hole,(tq e' l).Ar (.sl e),E5 ah gJ with
  |none,some l,true=>if(imp a' a&&imp i' i)=true then some [tq e l]else none
  |_,_,_=>none
 |_,_=>none
def ng(m:Ren)(s:Nat->TS):List (Nat×j_)->Option (List Wd)
 | []=>some []
 |(t,k)::rest=>match aeJ m k (s t),ng m s rest with
  |some u,some v=>some (u++v)
  |_,_=>none
def pF(m:Ren)(o:Nat->TO):List (Nat×g_)->Option (List Wd)
 | []=>some []
 |(g',k)::rest=>match (match m.lookup g' with
   |some (some g)=>U6 m k (o g)
   |some none=>(match k with
    |.arr false _ _ e=>some [tq e []]
    |.aF _ _ e _=>some [tq e []]
    |_=>none)
   |none=>none),pF m o rest with
  |some u,some v=>some (u++v)
  |_,_=>none
def BO(j:LX)(m:Ren)(st:iQ):Option (List Wd):=
 match j.er.ok&&agV j.er m with
 |true=>match ng m st.gs j.slots,pF m st.go j.aW with
  |some u,some v=>some (u++v)
  |_,_=>none
 |false=>none
def zX:Wd:=⟨.bool,false⟩
def zY(vs:List Wd)(n:Nat):jI->TW×Nat
 |.p a i _=>(.p a i (vs.getD n zX),n+1)
 |.b_=>(.b_,n)
 |.own g=>(.own g,n)
 |.box g off=>(.box g off,n)
 |.fn f gs=>(.clo f (DT gs),n)
 |.mO g=>(.mO g,n)
 |.no=>(.no,n)
 |.vw g=>(.vw g ((vs.getD n zX).as (.int .i64)) ((vs.getD (n+1) zX).as (.int .i64)),n+2)
 |.ep g off=>(.ep g ((vs.getD n zX).as (.int .i64)) off,n+1)
def tN(vs:List Wd):Nat->List jI->List TW×Nat
 |n,[]=>([],n)
 |n,k::ks=>((zY vs n k).1::(tN vs (zY vs n k).2 ks).1,(tN vs (zY vs n k).2 ks).2)
def Gn(vs:List Wd)(n:Nat):j_->TS×Nat
 |.one k=>(.v (.one (zY vs n k).1),(zY vs n k).2)
 |.agg ks=>(.v (.agg (tN vs n ks).1),(tN vs n ks).2)
def DV(vs:List Wd)(n:Nat):g_->TO×Nat
 |.box ks=>(.box (tN vs n ks).1,(tN vs n ks).2)
 |.arr fz a i e=>(.arr fz a i e ((vs.getD n zX).as (.sl e)),n+1)
 |.it=>(.it ((vs.getD n zX).as .str) ((vs.getD (n+1) zX).as (.int .i64)),n+2)
 |.aF a i e ah=>(.aF a i e ah ((vs.getD n zX).as (.sl e)) none,n+1)
def fK(vs:List Wd):Nat->List (Nat×j_)->List (Nat×TS)×Nat
 |n,[]=>([],n)
 |n,(t,k)::rest=>((t,(Gn vs n k).1)::(fK vs (Gn vs n k).2 rest).1,(fK vs (Gn vs n k).2 rest).2)
def jy(vs:List Wd):Nat->List (Nat×g_)->List (Nat×TO)×Nat
 |n,[]=>([],n)
 |n,(g,k)::rest=>((g,(DV vs n k).1)::(jy vs (DV vs n k).2 rest).1,(jy vs (DV vs n k).2 rest).2)
def mkT(j:LX)(vs:List Wd):iQ:=
 { s:=(fK vs 0 j.slots).1,o:=(jy vs (fK vs 0 j.slots).2 j.aW).1,u:=j.aW.map (·.1) }
def WA:List Nat->List TW->Ren
 |g'::gs,.box g _::cs=>(g',some g)::WA gs cs
 |_,_=>[]
def ak1:jI->TW->Ren
 |.own g',.own g=>[(g',some g)]
 |.own g',.b_=>[(g',none)]
 |.box g' _,.box g _=>[(g',some g)]
 |.mO g',.mO g=>[(g',some g)]
 |.fn _ gs,.clo _ caps=>WA gs caps
 |.vw g',.vw g _ _=>[(g',some g)]
 |.ep g' _,.ep g _ _=>[(g',some g)]
 |_,_=>[]
def abh:List jI->List TW->Ren
 |k::ks,x::xs=>ak1 k x++abh ks xs
 |_,_=>[]
def aoD:j_->TS->Ren
 |.one k,.v (.one x)=>ak1 k x
 |.agg ks,.v (.agg xs)=>abh ks xs
 |_,_=>[]
def Q5(s:Nat->TS):List (Nat×j_)->Ren
 | []=>[]
 |(t,k)::r=>aoD k (s t)++Q5 s r
def GH(m:Ren)(o:Nat->TO):List (Nat×g_)->Ren
 | []=>[]
 |(g',.box ks)::r=>(match m.lookup g' with
  |some (some g)=>match o g with
   |.box ws=>abh ks ws
   |_=>[]
  |_=>[])++GH m o r
 |_::r=>GH m o r
def derive(bC:List Nat)(j:LX)(st:iQ):Ren:=
 let m0:=bC.map (λg=>(g,some g))++Q5 st.gs j.slots
 let m1:=m0++GH m0 st.go j.aW
 m1++GH m1 st.go j.aW
structure dA where
 bD:Nat
 pin:LX
 aO:LX
 cO:Nat
 bC:List Nat
 aQ:List Nat
 kept:List Nat:=[]
def dA.er(s:dA):zf:={ bD:=s.bD,pin:=s.pin.er,aO:=s.aO.er,cO:=s.cO,bC:=s.bC,aQ:=s.aQ }
open Classical in
noncomputable def wO{A R:Type}(x y:A)(r:Option R):Option R:=if x=y then r else none
noncomputable def Jb{R:Type}(a b:Nat->TO)(r:R):List Nat->Option R
 | []=>some r
 |g::gs=>match a g,b g with
  |.arr false _ _ e l,.arr false _ _ e' l'=>match (tq e' l').Ar (.sl e)with
   |some l''=>wO (A:=List (Dt e)) l'' l (Jb a b r gs)
   |none=>none
  |.aF _ _ e ah l none,.aF _ _ e' gJ l' none=>match (tq e' l').Ar (.sl e),E5 ah gJ with
   |some l'',true=>wO (A:=List (Dt e)) l'' l (Jb a b r gs)
   |_,_=>none
  |_,_=>none
structure aS where
 sig:dA
 f:Tup sig.pin.tys->Option (Tup sig.aO.tys)
noncomputable def aS.ff(s:aS):Tup s.sig.pin.tys->Option (Tup s.sig.aO.tys):=match s.sig.kept with
 | []=>s.f
 |g::gs=>λx=>(s.f x).bind λy=>Jb (mkT s.sig.pin (Tup.lD s.sig.pin.tys x)).go (mkT s.sig.aO (Tup.lD s.sig.aO.tys y)).go y (g::gs)
abbrev ku:=FuncId->Option aS
structure Gp where
 ins:List Wd
 A:Bool×Bool
 I:Bool×Bool
 uD:List Nat
 ren:List (Nat×Nat)
def oN:List Nat->List TW->Option (List (Nat×Nat))
 | [],[]=>some []
 |g'::gs,.box g off::cs=>bif Nat.beq off 0 then match oN gs cs with
  |some r=>some ((g',g)::r)
  |none=>none
  else none
 |_,_=>none
def LY(o:Nat->TO):jI->TW->Option (List Wd×(Bool×Bool)×List Nat×List (Nat×Nat))
 |.p _ _ t,x=>match x.toP o t with
  |some (y,a,i,gs)=>some ([⟨t,y⟩],(a,i),gs,[])
  |none=>none
 |.own g',.own g=>some ([],(false,false),[],[(g',g)])
 |.box g' off',.box g off=>bif Nat.beq off' 0&&Nat.beq off 0 then some ([],(false,false),[],[(g',g)])else none
 |.fn f gs,.clo f' caps=>bif Nat.beq f f' then match oN gs caps with
  |some r=>some ([],(false,false),[],r)
  |none=>none
  else none
 |_,_=>none
def o8(o:Nat->TO):List jI->List TW->Option (List Wd×(Bool×Bool)×List Nat×List (Nat×Nat))
 | [],[]=>some ([],(false,false),[],[])
 |k::ks,x::xs=>match LY o k x,o8 o ks xs with
  |some (u,c,g,r),some (u',c',g',r')=>some (u++u',wL c c',g++g',r++r')
  |_,_=>none
 |_,_=>none
def WB(o:Nat->TO):j_->TS->Option (List Wd×(Bool×Bool)×List Nat×List (Nat×Nat))
 |.one k,.v (.one x)=>LY o k x
 |.agg ks,.v (.agg xs)=>o8 o ks xs
 |_,_=>none
def mF(o:Nat->TO)(args:List TS):List (Nat×j_)->Option (List Wd×(Bool×Bool)×List Nat×List (Nat×Nat))
 | []=>some ([],(false,false),[],[])
 |(t,k)::rest=>match WB o k (args.getD t .no),mF o args rest with
  |some (u,c,g,r),some (u',c',g',r')=>some (u++u',wL c c',g++g',r++r')
  |_,_=>none
def aip:jI->TW->Option (List Wd×(Bool×Bool)×List (Nat×Nat))
 |.p _ _ t,.p a i w=>match w.Ar t with
  |some x=>some ([⟨t,x⟩],(a,i),[])
  |none=>none
 |.p _ _ t,.b_=>match t with
  |.sl e=>some ([tq e []],(false,false),[])
  |_=>none
 |.own g',.own g=>some ([],(false,false),[(g',g)])
 |.box g' off',.box g off=>bif Nat.beq off' 0&&Nat.beq off 0 then some ([],(false,false),[(g',g)])else none
 |.fn f gs,.clo f' caps=>bif Nat.beq f f' then match oN gs caps with
  |some r=>some ([],(false,false),r)
  |none=>none
  else none
 |_,_=>none
def Jc:List jI->List TW->Option (List Wd×(Bool×Bool)×List (Nat×Nat))
 | [],[]=>some ([],(false,false),[])
 |k::ks,x::xs=>match aip k x,Jc ks xs with
  |some (u,c,r),some (u',c',r')=>some (u++u',wL c c',r++r')
  |_,_=>none
 |_,_=>none
def vG(o:Nat->TO):List (Nat×Nat)->List (Nat×g_)->Option (List Wd×(Bool×Bool)×List (Nat×Nat))
 |ren,[]=>some ([],(false,false),ren)
 |ren,(g',k)::rest=>match ren.lookup g' with
  |some g=>match k,o g with
   |.box ks,.box ws=>match Jc ks ws with
    |some (u,c,r)=>match vG o (ren++r) rest with
     |some (u',c',r')=>some (u++u',wL c c',r')
     |none=>none
    |none=>none
   |.arr _ _ _ e,.arr false a i e' l=>match (tq e' l).Ar (.sl e)with
    |some l=>match vG o ren rest with
     |some (u',c',r')=>some (tq e l::u',wL (a,i) c',r')
     |none=>none
    |none=>none
   |.aF _ _ e ah,.aF a i e' gJ l hole=>match hole,(tq e' l).Ar (.sl e),E5 ah gJ with
    |none,some l,true=>match vG o ren rest with
     |some (u',c',r')=>some (tq e l::u',wL (a,i) c',r')
     |none=>none
    |_,_,_=>none
   |_,_=>none
  |none=>none
def yJ(s:dA)(o:Nat->TO)(args:List TS):Option Gp:=
 match mF o args s.pin.slots with
 |some (u,A,gs,r)=>match vG o r s.pin.aW with
  |some (u',I,r')=>some { ins:=u++u',A,I,uD:=gs,ren:=jE r' }
  |none=>none
 |none=>none
def Gp.er(c:Gp):Ld:={ ins:=c.ins.map bY,A:=c.A,I:=c.I,uD:=c.uD,ren:=c.ren }
def xQ(f:Nat->Nat):List TW->List TW
 | []=>[]
 |.box g off::r=>.box (f g) off::xQ f r
 |_::r=>.no::xQ f r
def Y6(A I:Bool×Bool)(f:Nat->Nat):TW->TW
 |.p a i x=>.p (ql A I a i).1 (ql A I a i).2 x
 |.b_=>.b_
 |.own g=>.own (f g)
 |.box g off=>.box (f g) off
 |.clo fn caps=>.clo fn (xQ f caps)
 |_=>.no
def aiq(A I:Bool×Bool)(f:Nat->Nat):TV->TV
 |.one x=>.one (Y6 A I f x)
 |.agg xs=>.agg (xs.map (Y6 A I f))
def abj(A I:Bool×Bool)(f:Nat->Nat):TS->TV
 |.v x=>aiq A I f x
 |_=>.one .no
def Oy(A I:Bool×Bool)(f:Nat->Nat):TO->TO
 |.none=>.none
 |.box ws=>.box (ws.map (Y6 A I f))
 |.arr fz a i e l=>.arr fz (ql A I a i).1 (ql A I a i).2 e l
 |.it s n=>.it s n
 |.aF a i e ah l _=>.aF (ql A I a i).1 (ql A I a i).2 e ah l none
structure je where
 x:TS
 aB:List (Nat×TO)
 new:List Nat
def je.er(e:je):Eff:={ x:=aZ e.x,aB:=gZ e.aB,new:=e.new }
def abk(vs:List TV):TS:=match vs with
 | [x]=>.v x
 |xs=>.lq xs
def tV(s:dA)(d:Nat)(o:Nat->TO)(c:Gp)(cZ:List Wd):je:=
 let x:=mkT s.aO cZ
 let f:=callName d s.er c.ren
 { x:=abk ((List.range s.cO).map λk=>abj c.A c.I f (x.gs k)),aB:=(bif s.er.lJ then c.uD.map (kY o)else[])++c.ren.map (λp=>(p.2,bif s.bC.contains p.1 then Oy c.A c.I f (x.go p.1)else .none))++s.aQ.map (λg=>(f g,Oy c.A c.I f (x.go g))),new:=s.aQ.map f }
def air:Bool->Bool->Bool
 |true,true=>true
 |false,false=>true
 |_,_=>false
def U7:TO->Option (Bool×Bool)
 |.arr fz a i _ _=>match fz with
  |true=>none
  |false=>some (a,i)
 |.aF a i _ _ _ hole=>match hole with
  |none=>some (a,i)
  |some _=>none
 |_=>none
def BP(s:dA)(o f:Nat->TO):List (Nat×Nat)->List Nat
 | []=>[]
 |(g',g)::r=>match eY g' s.kept&&s.bC.contains g',U7 (o g),U7 (f g')with
  |true,some (a,i),some (a',i')=>match air a a'&&air i i' with
   |true=>g::BP s o f r
   |false=>BP s o f r
  |_,_,_=>BP s o f r
def LZ(same:List Nat):List (Nat×TO)->List (Nat×TO)
 | []=>[]
 |(g,x)::r=>match eY g same with
  |true=>LZ same r
  |false=>(g,x)::LZ same r
def yK(s:dA)(d:Nat)(o:Nat->TO)(c:Gp)(cZ:List Wd):je:=match s.kept with
 | []=>tV s d o c cZ
 |_::_=>
  let e:=tV s d o c cZ
  { e with aB:=LZ (BP s o (λg'=>Oy c.A c.I (callName d s.er c.ren) ((mkT s.aO cZ).go g')) c.ren) e.aB }
def je.skip:je:={ x:=.lq [],aB:=[],new:=[] }
def BQ(l:List (Nat×TO)):List (Nat×TO)->List (Nat×TO)
 | []=>l
 |(g,x)::r=>xI g x (BQ l r)
structure jw where
 st:iQ
 ds:List Nat
 od:List Nat
def iQ.put(st:iQ)(dst:Option Tmp)(x:TS):iQ:=match dst with
 |some t=>{ st with s:=xI t x st.s }
 |none=>st
def jw.eff(q:jw)(dst:Option Tmp)(e:je):jw:=
 { st:={ s:=(q.st.put dst e.x).s,o:=BQ q.st.o e.aB,u:=e.new++q.st.u },ds:=(match dst with|some t=>t::q.ds|none=>q.ds),od:=e.aB.map (·.1)++q.od }
def frB{β:Type 1}(b:Bool)(k:Bool->β):β:=match b with
 |true=>k true
 |false=>k false
def Oz{β:Type 1}:Ty->(Ty->β)->β
 |.int .i8,k=>k (.int .i8)
 |.int .i16,k=>k (.int .i16)
 |.int .i32,k=>k (.int .i32)
 |.int .i64,k=>k (.int .i64)
 |.int .u8,k=>k (.int .u8)
 |.int .u16,k=>k (.int .u16)
 |.int .u32,k=>k (.int .u32)
 |.int .u64,k=>k (.int .u64)
 |.bool,k=>k .bool
 |.str,k=>k .str
 |.sl e,k=>Oz e λe=>k (.sl e)
 |.prod a b,k=>Oz a λa=>Oz b λb=>k (.prod a b)
 |.st n,k=>k (.st n)
 |.opq,k=>k .opq
 |.sq e,k=>Oz e λe=>k (.sq e)
def frW{β:Type 1}:TW->(TW->β)->β
 |.p a i ⟨t,x⟩,k=>frB a λa=>frB i λi=>k (.p a i ⟨t,x⟩)
 |.b_,k=>k .b_
 |.own g,k=>k (.own g)
 |.vw g lo hi,k=>k (.vw g lo hi)
 |.box g off,k=>k (.box g off)
 |.ep g n off,k=>k (.ep g n off)
 |.sp a i t x off,k=>frB a λa=>frB i λi=>k (.sp a i t x off)
 |.clo f caps,k=>k (.clo f caps)
 |.gl g,k=>k (.gl g)
 |.mO g,k=>k (.mO g)
 |.no,k=>k .no
def abm{β:Type 1}:List TW->(List TW->β)->β
 | [],k=>k []
 |x::xs,k=>frW x λx=>abm xs λxs=>k (x::xs)
def frV{β:Type 1}:TV->(TV->β)->β
 |.one x,k=>frW x λx=>k (.one x)
 |.agg xs,k=>abm xs λxs=>k (.agg xs)
def aeK{β:Type 1}:List TV->(List TV->β)->β
 | [],k=>k []
 |x::xs,k=>frV x λx=>aeK xs λxs=>k (x::xs)
def frS{β:Type 1}:TS->(TS->β)->β
 |.v x,k=>frV x λx=>k (.v x)
 |.lq xs,k=>aeK xs λxs=>k (.lq xs)
 |.no,k=>k .no
def frC{β:Type 1}:List (Nat×Ty)->(List (Nat×Ty)->β)->β
 | [],k=>k []
 |(c,t)::r,k=>Oz t λt=>frC r λr=>k ((c,t)::r)
def frH{β:Type 1}:Option (Nat×Nat×Nat)->(Option (Nat×Nat×Nat)->β)->β
 |none,k=>k none
 |some (n,c,d),k=>k (some (n,c,d))
def frO{β:Type 1}:TO->(TO->β)->β
 |.none,k=>k .none
 |.box ws,k=>abm ws λws=>k (.box ws)
 |.arr fz a i e l,k=>frB fz λfz=>frB a λa=>frB i λi=>k (.arr fz a i e l)
 |.it s n,k=>k (.it s n)
 |.aF a i e ah l hole,k=>frB a λa=>frB i λi=>frC ah λah=>frH hole λhole=>k (.aF a i e ah l hole)
def aeL{β:Type 1}:List (Nat×TS)->(List (Nat×TS)->β)->β
 | [],k=>k []
 |(t,x)::r,k=>frS x λx=>aeL r λr=>k ((t,x)::r)
def aeM{β:Type 1}:List (Nat×TO)->(List (Nat×TO)->β)->β
 | [],k=>k []
 |(t,x)::r,k=>frO x λx=>aeM r λr=>k ((t,x)::r)
def KU{β:Type 1}:List Nat->(List Nat->β)->β
 | [],k=>k []
 |x::r,k=>KU r λr=>k (x::r)
def frX{β:Type 1}(q:jw)(k:jw->β):β:=aeL q.st.s λs=>aeM q.st.o λo=>KU q.st.u λu=>KU q.ds λds=>KU q.od λod=>k ⟨⟨s,o,u⟩,ds,od⟩
def abn:TS->Option Nat
 |.v (.one (.clo g _))=>some g
 |_=>none
def Jd:List TS->Option Nat
 | []=>none
 |x::l=>match abn x with
  |some g=>some g
  |none=>Jd l
def DW(fn:Nat)(l:List TS):Nat:=match Jd l with
 |some g=>fn+1000000*(g+1)
 |none=>fn
def WC(T:ku)(fn:Nat)(l:List TS):Option aS:=match Nat.blt fn 1000000 with
 |true=>match T (DW fn l)with
  |some sp=>some sp
  |none=>T fn
 |false=>none
def pkT(T:ku)(fn:Nat)(l:List TS):Nat:=match T (DW fn l)with
 |some _=>DW fn l
 |none=>fn
def xR:List TW->List Nat
 | []=>[]
 |.box g _::r=>g::xR r
 |x::r=>(bQ x).names++xR r
def W.namesT:TW->List Nat
 |.own g|.vw g _ _|.box g _|.ep g _ _|.mO g=>[g]
 |.clo _ caps=>xR caps
 |_=>[]
def V.namesT:TV->List Nat
 |.one x=>W.namesT x
 |.agg xs=>xs.flatMap W.namesT
def S.namesT:TS->List Nat
 |.v x=>V.namesT x
 |.lq xs=>xs.flatMap V.namesT
 |.no=>[]
def Q7:TO->Option Nat
 |.aF _ _ _ _ _ hole=>match hole with
  |some (_,_,d)=>some d
  |none=>none
 |_=>none
def DX:TO->List Nat
 |.box ws=>ws.flatMap W.namesT
 |_=>[]
def BR(o:Nat->TO):Nat->List Nat->List Nat
 |0,gs=>gs
 |n+1,gs=>gs++BR o n (gs.flatMap λg=>DX (o g))
def yL(st:iQ)(o:Oper):List Nat:=match o.op with
 |.call { callee:=.value _,args,.. }=>args.toList.flatMap λx=>S.namesT (st.bW x)
 |.slice _ x _ _ _=>S.namesT (st.bW x)
 |_=>[]
def GI(st:iQ)(o:Oper):List Nat:=BR st.go 2 (yL st o)
def GK(st:iQ)(o:Oper):List Nat:=(GI st o).filter λg=>match iF (st.go g)with
 | []=>false
 |d::_=>!eY d (yL st o)
def Je:List Nat->iQ->Option iQ
 | [],st=>some st
 |g::gs,st=>match Q7 (st.go g),wE st.go g with
  |some d,some ⟨a,i,e,ah,l⟩=>Je gs { st with o:=BQ st.o [(g,.aF a i e ah l none),(d,.none)] }
  |_,_=>none
def U8(hs:List Nat)(st st1:iQ):List (Nat×TO):=hs.flatMap λg=>(g,st1.go g)::(iF (st.go g)).map λd=>(d,st1.go d)
noncomputable def WG{R:Type}(T:ku)(tt:TT)(ety:TypeId->Option Ty)(d:Nat)(st:iQ)(o:Oper)(K:je->Prog R):Prog R:=
 match o.op with
 |.call { callee:=.value f,args,.. }=>match st.bW f with
  |.v (.one (.clo fn caps))=>match WC T fn (args.toList.map st.bW)with
   |some sp=>match yJ sp.sig st.go ((args.toList.map st.bW)++caps.map λx=>TS.v (.one x))with
    |some c=>match c.er.fine sp.sig.er&&Nat.beq (args.size+caps.length) sp.sig.bD with
     |true=>match Tup.ofL sp.sig.pin.tys c.ins with
      |some x=>match sp.sig.er.ok with
       |true=>.call (pkT T fn (args.toList.map st.bW)) sp.ff x λy=>K (yK sp.sig d st.go c (Tup.lD sp.sig.aO.tys y))
       |false=>.stuck 17
      |none=>.stuck 11
     |false=>.stuck 12
    |none=>.stuck 13
   |none=>.stuck 14
  |_=>.stuck 15
 |op=>match jd tt ety d st.go st.bW op o.type with
  |some r=>.chk r.pre (.let_ r.val λz=>K { x:=r.dst z,aB:=r.aB z,new:=r.new })
  |none=>match dK tt ety d st.go st.bW op o.type with
   |some r=>.chk r.pre (.let_ r.val λz=>K { x:=r.dst z,aB:=r.aB z,new:=r.new })
   |none=>.stuck 16
noncomputable def Y7{R:Type}(T:ku)(tt:TT)(ety:TypeId->Option Ty)(d:Nat)(st:iQ)(o:Oper)(K:je->Prog R):Prog R:=
 match GK st o with
 | []=>WG T tt ety d st o K
 |g::gs=>match Je (g::gs) st with
  |some st1=>WG T tt ety d st1 o λe=>K { x:=e.x,aB:=e.aB++U8 (g::gs) st st1,new:=e.new }
  |none=>.stuck 18
def zZ(u:List Nat):List Nat->Bool
 | []=>true
 |g::gs=>!eY g u&&zZ u gs
def U9(ops:Array Oper)(st:iQ)(j:Nat):Option (Tmp×Option (Bool×Bool×Bool)):=
 match (ops[j]?).bind (·.dst)with
 |some t=>match st.gs t with
  |.v (.one (.p a i ⟨.bool,b⟩))=>some (t,some (a,i,b))
  |.lq []=>some (t,none)
  |_=>none
 |none=>none
def WH(N:Nat):Option Tmp->Bool
 |some d=>Nat.blt d N
 |none=>true
def jw.know(q:jw)(t:Tmp)(a i b:Bool):jw:={ q with st:={ q.st with s:=xI t (.v (.one (.p a i (iI b)))) q.st.s } }
def jw.Q8(q:jw)(t:Tmp)(a i:Bool)(k:IntKind)(n:Int):jw:={ q with st:={ q.st with s:=xI t (.v (.one (.p a i (iE k n)))) q.st.s } }
def abo(tt:TT)(st:iQ)(t:TypeId)(x:Operand)(j:Tmp):Option (Bool×Bool×IntKind×Int×Nat):=
 match tt t with
 |some { k:=.arr n _,.. }=>match st.bW x with
  |.v (.one (.box _ _))=>match st.gs j with
   |.v (.one (.p a i ⟨.int k,v⟩))=>bif Nat.ble n 4 then some (a,i,k,v,n)else none
   |_=>none
  |.v (.one (.ep _ _ _))=>match st.gs j with
   |.v (.one (.p a i ⟨.int k,v⟩))=>bif Nat.ble n 4 then some (a,i,k,v,n)else none
   |_=>none
  |.v (.one (.sp _ _ _ _ _))=>match st.gs j with
   |.v (.one (.p a i ⟨.int k,v⟩))=>bif Nat.ble n 4 then some (a,i,k,v,n)else none
   |_=>none
  |_=>none
 |_=>none
def ais(tt:TT)(st:iQ)(o:Oper):Option (Tmp×Bool×Bool×IntKind×Int×Nat):=
 match o.op with
 |.indexAddr t x (.tmp j)=>match abo tt st t x j with
  |some r=>some (j,r)
  |none=>none
 |_=>none
def WI{R:Type}(v:Int)(k:Int->Prog R):Nat->Nat->Prog R
 |_,0=>.stuck 24
 |m,1=>.chk (eqI v (Int.ofNat m)) (k (Int.ofNat m))
 |m,n+2=>.cond (eqI v (Int.ofNat m)) (k (Int.ofNat m)) (WI v k (m+1) (n+1))
noncomputable def stepT{R:Type}(T:ku)(tt:TT)(ety:TypeId->Option Ty)(N:Nat)(ops:Array Oper)(o:Oper)(q:jw)(K:jw->je->Prog R):Prog R:=
 match WH N o.dst with
 |false=>.stuck 20
 |true=>match o.guard with
  |none=>match ais tt q.st o with
   |none=>Y7 T tt ety (o.dst.getD 0) q.st o λe=>match zZ q.st.u e.new with
    |true=>K q e
    |false=>.stuck 21
   |some (t,a,i,k,v,n)=>WI v (λz=>frX (q.Q8 t a i k z) λq=>Y7 T tt ety (o.dst.getD 0) q.st o λe=>match zZ q.st.u e.new with
    |true=>K q e
    |false=>.stuck 21) 0 n
  |some (j,want)=>match U9 ops q.st j with
   |none=>.stuck 22
   |some (t,none)=>K q je.skip
   |some (t,some (a,i,b))=>
    let on (q:jw):Prog R:=Y7 T tt ety (o.dst.getD 0) q.st o λe=>match zZ q.st.u e.new with
     |true=>K q e
     |false=>.stuck 21
    .cond b (frX (q.know t a i true) λq=>bif want then on q else K q je.skip) (frX (q.know t a i false) λq=>bif want then K q je.skip else on q)
inductive OA where
 |yes
 |no
 |may (empty:Bool)
def Jf(o:Nat->TO):TS->Option OA
 |.v (.one (.p _ _ ⟨.sl e,l⟩))=>some (.may (List.isEmpty (α:=Dt e) l))
 |.v (.one (.own g))=>match o g with
  |.arr _ _ _ _ l=>some (.may l.isEmpty)
  |.aF _ _ _ _ l _=>some (.may l.isEmpty)
  |_=>none
 |.v (.one .b_)=>some .yes
 |_=>none
def Jg(o:Nat->TO):TS->Option OA
 |.v (.one (.box g _))=>match o g with
  |.box _=>some .no
  |_=>none
 |.v (.one (.p _ _ ⟨.opq,.pointer none⟩))=>some .yes
 |_=>none
def OC(o:Nat->TO)(x:TS)(k:TK)(c:Value):Option OA:=
 match k,c with
 |.slice _,.slice none 0 0=>Jf o x
 |.ptr,.pointer none=>Jg o x
 |_,_=>none
def ait(tt:TT)(st:iQ)(o:Oper):Option (Bool×OA):=
 match o.guard with
 |some _=>none
 |none=>match o.op with
  |.binOp op t x (.const c) _=>match tt t with
   |some i=>match op,OC st.go (st.bW x) i.k c with
    |.eql,some p=>some (true,p)
    |.neq,some p=>some (false,p)
    |_,_=>none
   |none=>none
  |_=>none
def aeN(s:List UInt8)(n:Int):Bool:=decide (n.toNat<s.length)
def aiu(s:List UInt8)(n:Int):Int:=((Utf8.decode ⟨s.toArray⟩ n.toNat).1:Nat)
def Y8(s:List UInt8)(n:Int):Int:=((n.toNat+(Utf8.decode ⟨s.toArray⟩ n.toNat).2:Nat):Int)
def Q9(n:Int):Int:=((n.toNat:Nat):Int)
def abp(st:iQ)(o:Oper):Option (Nat×List UInt8×Int):=
 match o.guard with
 |some _=>none
 |none=>match o.op with
  |.next x true=>match st.bW x with
   |.v (.one (.mO g))=>match st.go g with
    |.it s n=>some (g,s,n)
    |_=>none
   |_=>none
  |_=>none
def OD(g:Nat)(s:List UInt8)(n:Int):je:={ x:=.lq [.one (.p false false (iI true)),.one (.p false false (iE .i64 (Q9 n))),.one (.p false false (iE .i32 (aiu s n)))],aB:=[(g,.it s (Y8 s n))],new:=[] }
def U_:je:={ x:=.lq [.one (.p false false (iI false))],aB:=[],new:=[] }
def qp(b:Bool):je:={ x:=Wv (iI b),aB:=[],new:=[] }
noncomputable def Va{R:Type}(T:ku)(tt:TT)(ety:TypeId->Option Ty)(N:Nat)(ops:Array Oper)(o:Oper)(q:jw)(K:jw->je->Prog R):Prog R:=
 match ait tt q.st o with
 |some (pos,c)=>match WH N o.dst with
  |false=>.stuck 23
  |true=>match c with
   |.yes=>K q (qp pos)
   |.no=>K q (qp (!pos))
   |.may e=>.cond e (.any (K q (qp true)) (K q (qp false))) (K q (qp (!pos)))
 |none=>match abp q.st o with
  |some (g,s,n)=>match WH N o.dst with
   |false=>.stuck 23
   |true=>.cond (aeN s n) (K q (OD g s n)) (K q U_)
  |none=>stepT T tt ety N ops o q K
noncomputable def runT{R:Type}(T:ku)(tt:TT)(ety:TypeId->Option Ty)(N:Nat)(ops:Array Oper):List Oper->jw->(jw->Prog R)->Prog R
 | [],q,K=>K q
 |o::os,q,K=>Va T tt ety N ops o q λq e=>frX (q.eff o.dst e) λq=>runT T tt ety N ops os q K
def WJ(args:List TS):List (Nat×j_)->Bool
 | []=>false
 |(t,_)::rest=>match args.getD t .no with
  |.no=>true
  |.lq _=>true
  |_=>WJ args rest
def Vb(T:ku)(st:iQ)(o:Oper):Option (List Nat):=
 match o.op with
 |.call { callee:=.value f,args,.. }=>match st.bW f with
  |.v (.one (.clo fn caps))=>match WC T fn (args.toList.map st.bW)with
   |some sp=>match yJ sp.sig st.go ((args.toList.map st.bW)++caps.map λx=>TS.v (.one x))with
    |some c=>some (c.ren.map (·.2))
    |none=>bif WJ ((args.toList.map st.bW)++caps.map λx=>TS.v (.one x)) sp.sig.pin.slots then some []else none
   |none=>some []
  |_=>some []
 |_=>some []
def Vd(T:ku)(st:iQ)(o:Oper):Option (List Nat):=match Vb T st o with
 |some r=>some ((bif looks o.op then(o.op.operands.toList.flatMap λx=>(S.namesT (st.bW x)).flatMap λg=>g::iF (st.go g))else[])++r)
 |none=>none
def abq(T:ku)(st:iQ)(o:Oper):Option (List Nat):=match Je (GK st o) st with
 |some st1=>match Vd T st1 o with
  |some l=>some (l++(GI st o).flatMap λg=>g::iF (st.go g))
  |none=>none
 |none=>none
def aeO{β:Type 1}:List (Nat×Nat)->(List (Nat×Nat)->β)->β
 | [],k=>k []
 |(a,b)::r,k=>aeO r λr=>k ((a,b)::r)
def frF{β:Type 1}(f:rZ)(k:rZ->β):β:=KU f.rd λrd=>KU f.wr λwr=>KU f.new λnew=>frH f.ld λld=>aeO f.kp λkp=>frB f.pk λpk=>KU f.kd λkd=>k ⟨rd,wr,new,ld,kp,pk,kd⟩
def abr:TW->TW->Bool
 |.own g,.own g'=>Nat.beq g g'
 |.box g off,.box g' off'=>Nat.beq g g'&&Nat.beq off off'
 |_,_=>false
def DY(g:Nat):Nat->List TW->List TW->Option (List (Nat×Nat))
 |_,[],[]=>some []
 |j,x::xs,y::ys=>match DY g (j+1) xs ys with
  |some r=>some (match abr x y with
   |true=>(g,j)::r
   |false=>r)
  |none=>none
 |_,_,_=>none
def Ve(g:Nat):TO->Option TO->List (Nat×Nat)
 |.box ws,some (.box ws')=>match DY g 0 ws ws' with
  |some r=>r
  |none=>[]
 |_,_=>[]
def abt(g:Nat):TO->Option TO->List (Nat×Nat)
 |.aF _ _ _ _ _ hole,some (.aF _ _ _ _ _ _)=>match hole with
  |none=>[(g,5000000)]
  |some _=>[]
 |_,_=>[]
def kpT(st:iQ)(o:Oper)(aB:List (Nat×TO)):List (Nat×Nat):=(bif lX o.op then(o.op.operands.toList.flatMap λx=>S.namesT (st.bW x)).map λg=>(g,0)else[]) ++
 (aB.map (·.1)).flatMap λg=>Ve g (st.go g) (aB.lookup g)++bif IE o.op then abt g (st.go g) (aB.lookup g)else[]
def abu:TO->Nat
 |.box _=>1
 |.arr _ _ _ _ _=>2
 |.aF _ _ _ _ _ _=>2
 |.it _ _=>3
 |.none=>0
def kdT(st:iQ)(aB:List (Nat×TO)):List Nat:=(aB.map (·.1)).filterMap λg=>match aB.lookup g with
 |some x=>bif Nat.beq (abu x) (abu (st.go g))then some g else none
 |none=>none
def ldT(tt:TT)(st:iQ)(o:Oper):Option (Nat×Nat×Nat):=match o.op with
 |.load t x=>match tt t,st.bW x with
  |some i,.v (.one (.box g off))=>some (g,off,i.size)
  |some i,.v (.one (.ep g _ off))=>match st.go g with
   |.aF _ _ _ ah _ _=>bif(iL (gY ah) off i.size).isEmpty then some (g,5000000,1)else none
   |_=>none
  |_,_=>none
 |_=>none
noncomputable def runNT{R:Type}(T:ku)(tt:TT)(ety:TypeId->Option Ty)(N:Nat)(ops:Array Oper):List Oper->jw->List rZ->(jw->List rZ->Prog R)->Prog R
 | [],q,fs,K=>K q fs
 |o::os,q,fs,K=>match abq T q.st o with
  |none=>.stuck 25
  |some rd=>stepT T tt ety N ops o q λq' e=>frF { rd,wr:=e.aB.map (·.1),new:=e.new,ld:=ldT tt q.st o,kp:=kpT q.st o e.aB,pk:=lX o.op,kd:=kdT q.st e.aB } λft=>frX (q'.eff o.dst e) λq=>runNT T tt ety N ops os q (fs++[ft]) K
noncomputable def vH{R:Type}(T:ku)(tt:TT)(ety:TypeId->Option Ty)(N:Nat)(ops:Array Oper)(draw:Bool)(q:jw)(K:jw->Prog R):Prog R:=
 match draw with
 |false=>runT T tt ety N ops ops.toList q K
 |true=>runNT T tt ety N ops ops.toList q [] λq fs=>match Wn ops fs with
  |true=>K q
  |false=>.stuck 24
inductive Md where
 |keep
 |sl (k:j_)
inductive Mo where
 |keep
 |ob (k:g_)
structure JT where
 slots:List (Nat×Md)
 aW:List (Nat×Mo)
def BU:List TW->Option (List Nat)
 | []=>some []
 |.box g off::cs=>bif Nat.beq off 0 then match BU cs with
  |some gs=>some (g::gs)
  |none=>none
  else none
 |_=>none
def Q_:TW->Option (jI×List Wd)
 |.p a i w=>some (.p a i w.t,[w])
 |.b_=>some (.b_,[])
 |.own g=>some (.own g,[])
 |.box g off=>some (.box g off,[])
 |.clo f caps=>match BU caps with
  |some gs=>some (.fn f gs,[])
  |none=>none
 |.mO g=>some (.mO g,[])
 |.vw g lo hi=>some (.vw g,[iE .i64 lo,iE .i64 hi])
 |.ep g n off=>some (.ep g off,[iE .i64 n])
 |_=>none
def wF:List TW->Option (List jI×List Wd)
 | []=>some ([],[])
 |x::xs=>match Q_ x,wF xs with
  |some (k,u),some (ks,us)=>some (k::ks,u++us)
  |_,_=>none
def OE:TS->Option (j_×List Wd)
 |.v (.one x)=>match Q_ x with
  |some (k,u)=>some (.one k,u)
  |none=>none
 |.v (.agg xs)=>match wF xs with
  |some (ks,u)=>some (.agg ks,u)
  |none=>none
 |_=>none
def wP:TO->Option (g_×List Wd)
 |.box ws=>match wF ws with
  |some (ks,u)=>some (.box ks,u)
  |none=>none
 |.arr fz a i e l=>some (.arr fz a i e,[tq e l])
 |.it s n=>some (.it,[QL s,iE .i64 n])
 |.aF a i e ah l hole=>match hole with
  |none=>some (.aF a i e ah,[tq e l])
  |some _=>none
 |.none=>none
def z_(s:Nat->TS):List (Nat×Md)->Option (List (Nat×j_×Option (List Wd)))
 | []=>some []
 |(t,.keep)::r=>match OE (s t),z_ s r with
  |some (k,u),some l=>some ((t,k,some u)::l)
  |_,_=>none
 |(t,.sl k)::r=>match z_ s r with
  |some l=>some ((t,k,none)::l)
  |none=>none
def Jh(o:Nat->TO):List (Nat×Mo)->Option (List (Nat×g_×Option (List Wd)))
 | []=>some []
 |(t,.keep)::r=>match wP (o t),Jh o r with
  |some (k,u),some l=>some ((t,k,some u)::l)
  |_,_=>none
 |(t,.ob k)::r=>match Jh o r with
  |some l=>some ((t,k,none)::l)
  |none=>none
structure JF where
 slots:List (Nat×j_×Option (List Wd))
 aW:List (Nat×g_×Option (List Wd))
def JF.sh(j:JF):LX:=⟨j.slots.map λp=>(p.1,p.2.1),j.aW.map λp=>(p.1,p.2.1)⟩
def jq:List (Nat×j_×Option (List Wd))->List Ty
 | []=>[]
 |(_,k,none)::r=>k.tys++jq r
 |(_,_,some _)::r=>jq r
def oO:List (Nat×g_×Option (List Wd))->List Ty
 | []=>[]
 |(_,k,none)::r=>k.tys++oO r
 |(_,_,some _)::r=>oO r
def JF.tys(j:JF):List Ty:=jq j.slots++oO j.aW
def lM:List (Nat×j_×Option (List Wd))->List Wd->List Wd×List Wd
 | [],ws=>([],ws)
 |(_,k,none)::r,ws=>(ws.take k.tys.length++(lM r (ws.drop k.tys.length)).1,(lM r (ws.drop k.tys.length)).2)
 |(_,_,some u)::r,ws=>(u++(lM r ws).1,(lM r ws).2)
def qw:List (Nat×g_×Option (List Wd))->List Wd->List Wd×List Wd
 | [],ws=>([],ws)
 |(_,k,none)::r,ws=>(ws.take k.tys.length++(qw r (ws.drop k.tys.length)).1,(qw r (ws.drop k.tys.length)).2)
 |(_,_,some u)::r,ws=>(u++(qw r ws).1,(qw r ws).2)
def JF.pay(j:JF)(ws:List Wd):List Wd:=(lM j.slots ws).1++(qw j.aW (lM j.slots ws).2).1
def OG:List (Nat×j_×Option (List Wd))->List Wd->List Wd×List Wd
 | [],ws=>([],ws)
 |(_,k,none)::r,ws=>(ws.take k.tys.length++(OG r (ws.drop k.tys.length)).1,(OG r (ws.drop k.tys.length)).2)
 |(_,k,some u)::r,ws=>((OG r (ws.drop u.length)).1,(OG r (ws.drop u.length)).2)
def Rf:List (Nat×g_×Option (List Wd))->List Wd->List Wd×List Wd
 | [],ws=>([],ws)
 |(_,k,none)::r,ws=>(ws.take k.tys.length++(Rf r (ws.drop k.tys.length)).1,(Rf r (ws.drop k.tys.length)).2)
 |(_,k,some u)::r,ws=>((Rf r (ws.drop u.length)).1,(Rf r (ws.drop u.length)).2)
def JF.ext(j:JF)(ws:List Wd):List Wd:=(OG j.slots ws).1++(Rf j.aW (OG j.slots ws).2).1
def hasK{α:Type}(t:Nat):List (Nat×α)->Bool
 | []=>false
 |(k,_)::r=>Nat.beq t k||hasK t r
def Rh(s:List (Nat×TS))(ds:List Nat):List (Nat×j_×Option (List Wd))->Bool
 | []=>true
 |(t,_,some _)::r=>hasK t s&&!eY t ds&&Rh s ds r
 |(_,_,none)::r=>Rh s ds r
def Ri(s:List (Nat×TO))(ds:List Nat):List (Nat×g_×Option (List Wd))->Bool
 | []=>true
 |(t,_,some _)::r=>hasK t s&&!eY t ds&&Ri s ds r
 |(_,_,none)::r=>Ri s ds r
def keysB(bC:List Nat)(j:LX)(m:Ren):Bool:=keeps bC j.er m
def L6:List (Nat×g_×Option (List Wd))->Ren
 | []=>[]
 |(t,_,some _)::r=>(t,some t)::L6 r
 |(_,_,none)::r=>L6 r
def tpW(gs:List Nat)(o:Nat->TO):TW->TW
 |.own g=>bif eY g gs then match m_ o g with
  |some ⟨a,i,e,l⟩=>.p a i (tq e l)
  |none=>.own g
  else .own g
 |.vw g lo hi=>bif eY g gs then match m_ o g with
  |some ⟨a,i,e,l⟩=>.p a i (tq e ((l.take hi.toNat).drop lo.toNat))
  |none=>.vw g lo hi
  else .vw g lo hi
 |x=>x
def tpV(gs:List Nat)(o:Nat->TO):TV->TV
 |.one x=>.one (tpW gs o x)
 |.agg xs=>.agg (xs.map (tpW gs o))
def tpS(gs:List Nat)(o:Nat->TO):TS->TS
 |.v x=>.v (tpV gs o x)
 |.lq xs=>.lq (xs.map (tpV gs o))
 |.no=>.no
def tpO(gs:List Nat)(o:Nat->TO)(g:Nat):TO->TO
 |.none=>.none
 |.box ws=>.box (ws.map (tpW gs o))
 |.arr fz a i e l=>.arr (fz||eY g gs) a i e l
 |.it s n=>.it s n
 |.aF a i e ah l hole=>bif eY g gs then(kY o g).2 else .aF a i e ah l hole
def KW(gs:List Nat)(st:iQ):iQ:=match gs with
 | []=>st
 |g::r=>{ s:=st.s.map λp=>(p.1,tpS (g::r) st.go p.2),o:=st.o.map λp=>(p.1,tpO (g::r) st.go p.1 p.2),u:=st.u }
def plB(o:Nat->TO)(g:Nat):Bool:=match m_ o g with
 |some _=>true
 |none=>false
def aiv(o:Nat->TO)(gs:List Nat):Bool:=gs.all λg=>plB o g&&(iF (o g)).all λd=>eY d gs
def ni(keep:List Nat):List Nat->iQ->List Nat×iQ
 | [],st=>([],st)
 |g::gs,st=>match Q7 (st.go g),wE st.go g with
  |some d,some ⟨a,i,e,ah,l⟩=>match !eY g keep&&!eY d keep with
   |true=>let r:=ni keep gs { st with o:=BQ st.o [(g,.aF a i e ah l none),(d,.none)] }
    (g::r.1,r.2)
   |false=>ni keep gs st
  |_,_=>ni keep gs st
def OH:List (Nat×TO)->List Nat
 | []=>[]
 |(g,x)::r=>match Q7 x with
  |some _=>g::OH r
  |none=>OH r
def zn:List (Nat×g_×Option (List Wd))->List Nat
 | []=>[]
 |(t,_,some _)::r=>t::zn r
 |(_,_,none)::r=>zn r
def fzW(o:Nat->TO):jI->TW->List Nat
 |.p _ _ _,.own g=>bif plB o g then iF (o g)++[g]else[]
 |.p _ _ _,.vw g _ _=>bif plB o g then iF (o g)++[g]else[]
 |_,_=>[]
def aiw(o:Nat->TO):List jI->List TW->List Nat
 |k::ks,x::xs=>fzW o k x++aiw o ks xs
 |_,_=>[]
def fzS(o:Nat->TO):j_->TS->List Nat
 |.one k,.v (.one x)=>fzW o k x
 |.agg ks,.v (.agg xs)=>aiw o ks xs
 |_,_=>[]
def WL(st:iQ):List (Nat×j_)->List Nat
 | []=>[]
 |(t,k)::r=>fzS st.go k (st.gs t)++WL st r
def Vf(m:Ren)(st:iQ):List (Nat×g_)->List Nat
 | []=>[]
 |(g',.box ks)::r=>(match m.lookup g' with
  |some (some g)=>match st.go g with
   |.box ws=>aiw st.go ks ws
   |_=>[]
  |_=>[])++Vf m st r
 |_::r=>Vf m st r
def aix(bC:List Nat)(j:LX)(st:iQ):List Nat:=WL st j.slots++Vf (derive bC j st) st j.aW
def Vg(gs:List Nat)(x:TS):Bool:=(S.namesT x).all λg=>!eY g gs
def Ji(gs:List Nat)(g:Nat):TO->Bool
 |.none=>true
 |.box ws=>(ws.flatMap W.namesT).all λg=>!eY g gs
 |.arr _ _ _ _ _=>!eY g gs
 |.it _ _=>true
 |.aF _ _ _ _ _ _=>!eY g gs
def abw(gs:List Nat)(s:Nat->TS):List (Nat×j_×Option (List Wd))->Bool
 | []=>true
 |(t,_,some _)::r=>Vg gs (s t)&&abw gs s r
 |(_,_,none)::r=>abw gs s r
def abx(gs:List Nat)(o:Nat->TO):List (Nat×g_×Option (List Wd))->Bool
 | []=>true
 |(t,_,some _)::r=>Ji gs t (o t)&&abx gs o r
 |(_,_,none)::r=>abx gs o r
def wG{R:Type}(bC:List Nat)(j:JF)(q:jw)(K:Tup j.tys->Prog R):Prog R:=
 let st0:=(ni (zn j.aW) (OH q.st.o) q.st).2
 let gs:=aix bC j.sh st0
 let st:=KW gs st0
 let m:=L6 j.aW++derive bC j.sh st
 match Rh q.st.s q.ds j.slots&&Ri q.st.o q.od j.aW&&keysB bC j.sh m&&aiv st0.go gs&&abw gs st0.gs j.slots&&abx gs st0.go j.aW with
 |false=>.stuck 30
 |true=>match BO j.sh m st with
  |none=>.stuck 31
  |some vs=>match Tup.ofL j.tys (j.ext vs)with
   |none=>.stuck 32
   |some x=>K x
def xU(j:JF)(x:Tup j.tys):iQ:=mkT j.sh (j.pay (Tup.lD j.tys x))
def newS:List (Nat×j_×Option (List Wd))->List Nat
 | []=>[]
 |(t,_,none)::r=>t::newS r
 |(_,_,some _)::r=>newS r
def tX:List (Nat×g_×Option (List Wd))->List Nat
 | []=>[]
 |(t,_,none)::r=>t::tX r
 |(_,_,some _)::r=>tX r
def jw.fresh(q:jw):jw:={ q with ds:=[],od:=[] }
def jw.since(q' q:jw):jw:={ q' with ds:=q'.ds++q.ds,od:=q'.od++q.od }
structure TK(R:Type) where
 n:jw->Prog R
 x:Nat->jw->Prog R
 r:jw->Prog R
inductive fU where
 |nil
 |seq (a b:fU)
 |meet (early:Bool) (j:JT) (a:fU)
 |loop (j:JT) (a:fU)
 |range (j:JT) (sg:dA) (a:fU)
def fU.fst:fU->fU
 |.seq a _=>a
 |_=>.nil
def fU.snd:fU->fU
 |.seq _ b=>b
 |_=>.nil
def aby(nw:List Nat):List (Nat×j_×Option (List Wd))->Bool
 | []=>true
 |(t,_,some _)::r=>!eY t nw&&aby nw r
 |(_,_,none)::r=>aby nw r
def abz(nw:List Nat):List (Nat×g_×Option (List Wd))->Bool
 | []=>true
 |(t,_,some _)::r=>!eY t nw&&abz nw r
 |(_,_,none)::r=>abz nw r
def jOf(st:iQ)(j:JT):Option JF:=match z_ st.gs j.slots,Jh st.go j.aW with
 |some s,some o=>match aby (newS s) s&&abz (tX o) o with
  |true=>some ⟨s,o⟩
  |false=>none
 |_,_=>none
def knT(c:Operand)(a i b:Bool)(q:jw):jw:=match c with
 |.tmp t=>q.know t a i b
 |_=>q
def WM{R:Type}(c:Operand)(q:jw)(x y:jw->Prog R):Prog R:=match q.st.bW c with
 |.v (.one (.p a i ⟨.bool,b⟩))=>.cond b (frX (knT c a i true q) x) (frX (knT c a i false q) y)
 |_=>.stuck 50
def L8{R:Type}(bC:List Nat)(early:Bool)(jt:JT)(here:Nat->Bool)(q:jw)(inner:(R':Type)->jw->TK R'->Prog R')(K:TK R):Prog R:=
 match jOf q.st jt with
 |none=>.stuck 40
 |some j=>match early with
  |false=>.join (inner (Tup j.tys) q.fresh { n:=λq'=>wG bC j q' .ret,x:=λid q'=>bif here id then wG bC j q' .ret else .stuck 41,r:=λ_=>.stuck 42 })
    λx=>frX ⟨xU j x,newS j.slots++q.ds,tX j.aW++q.od⟩ K.n
  |true=>.LW (inner (Tup j.tys ⊕ R) q.fresh { n:=λq'=>wG bC j q' λx=>.ret (.inl x),x:=λid q'=>bif here id then wG bC j q' (λx=>.ret (.inl x))else(K.x id (q'.since q)).map .inr,r:=λq'=>(K.r (q'.since q)).map .inr })
    λx=>frX ⟨xU j x,newS j.slots++q.ds,tX j.aW++q.od⟩ K.n
noncomputable def ny(T:ku)(tt:TT)(ety:TypeId->Option Ty)(N:Nat)(bC:List Nat):Code->(R:Type)->fU->jw->TK R->Prog R
 |.skip,R,_,q,K=>K.n q
 |.region _ ops draw,R,a,q,K=>match a with
  |.meet e j _=>L8 bC e j (λ_=>false) q (λ_ q K=>vH T tt ety N ops draw q K.n) K
  |_=>vH T tt ety N ops draw q K.n
 |.seq x y,R,a,q,K=>ny T tt ety N bC x R a.fst q { n:=λq'=>ny T tt ety N bC y R a.snd q' K,x:=K.x,r:=K.r }
 |.cond c x y,R,a,q,K=>match a with
  |.meet e j a=>L8 bC e j (λ_=>false) q (λR q K=>WM c q (λq=>ny T tt ety N bC x R a.fst q K) λq=>ny T tt ety N bC y R a.snd q K) K
  |a=>WM c q (λq=>ny T tt ety N bC x R a.fst q K) λq=>ny T tt ety N bC y R a.snd q K
 |.block id c,R,a,q,K=>match a with
  |.meet e j a=>L8 bC e j (Nat.beq id) q (λR q K=>ny T tt ety N bC c R a q K) K
  |a=>ny T tt ety N bC c R a.fst q { n:=K.n,x:=λid' q'=>bif Nat.beq id' id then K.n q' else K.x id' q',r:=K.r }
 |.loop c,R,a,q,K=>match a with
  |.loop jt a=>match jOf q.st jt with
   |none=>.stuck 43
   |some j=>wG bC j q.fresh λx=>.loop x λx=>
     frX ⟨xU j x,[],[]⟩ λq'=>ny T tt ety N bC c (Tup j.tys ⊕ R) a q'
      { n:=λq'=>wG bC j q' λx=>.ret (.inl x),x:=λid q'=>(K.x id (q'.since ⟨q'.st,newS j.slots++q.ds,tX j.aW++q.od⟩)).map .inr,r:=λq'=>(K.r (q'.since ⟨q'.st,newS j.slots++q.ds,tX j.aW++q.od⟩)).map .inr }
  |_=>.stuck 44
 |.exit id,R,_,q,K=>K.x id q
 |.ret,R,_,q,K=>K.r q
 |.label _,R,_,q,K=>K.n q
 |.scope c,R,a,q,K=>ny T tt ety N bC c R a q K
 |_,R,_,_,_=>.stuck 45
def WO(tt:TT)(st:iQ):ResultVar->Option TS
 |.tmp t=>some (st.gs t)
 |.cell a t=>match tt t,st.gs a with
  |some i,.v (.one (.box g off))=>match st.go g with
   |.box ws=>bif Nat.ble (off+i.size) ws.length&&Nat.blt 0 i.size then some (TV.fA i.agg ((ws.drop off).take i.size))else none
   |_=>none
  |_,_=>none
def Jj(tt:TT)(st:iQ):List ResultVar->Option (List TS)
 | []=>some []
 |r::rs=>match WO tt st r,Jj tt st rs with
  |some x,some xs=>some (x::xs)
  |_,_=>none
def Vh(n:Nat):List TS->List (Nat×TS)
 | []=>[]
 |x::xs=>(n,x)::Vh (n+1) xs
def aeR(tt:TT)(sp:dA)(ts:List ResultVar)(q:jw):Prog (Tup sp.aO.tys):=
 match Jj tt q.st ts with
 |none=>.stuck 60
 |some xs=>
  let st0:iQ:=(ni [] (OH q.st.o) { s:=Vh 0 xs,o:=q.st.o,u:=q.st.u }).2
  let gs:=aix sp.bC sp.aO st0
  let st:=KW gs st0
  let m:=derive sp.bC sp.aO st
  match keysB sp.bC sp.aO m&&aiv st0.go gs with
  |false=>.stuck 61
  |true=>match BO sp.aO m st with
   |none=>.stuck 62
   |some vs=>match Tup.ofL sp.aO.tys vs with
    |none=>.stuck 63
    |some x=>.ret x
inductive LkC where
 |yes
 |no
 |len (n m:Nat)
def Rj:TO->TO->LkC
 |.box _,.box _=>.yes
 |.arr _ _ _ e l,.arr _ _ _ e' l'=>bif Nat.beq (size e) (size e')then .len (List.length (α:=Dt e) l) (List.length (α:=Dt e') l')else .no
 |.aF _ _ e _ l _,.aF _ _ e' _ l' _=>bif Nat.beq (size e) (size e')then .len (List.length (α:=Dt e) l) (List.length (α:=Dt e') l')else .no
 |_,_=>.no
def Aa{R:Type}(a b:Nat->TO)(K:Prog R):List Nat->Prog R
 | []=>K
 |g::gs=>match Rj (a g) (b g)with
  |.yes=>Aa a b K gs
  |.no=>.stuck 90
  |.len n m=>.chk (decide (n=m)) (Aa a b K gs)
noncomputable def tfun(T:ku)(tt:TT)(ety:TypeId->Option Ty)(N:Nat)(sp:dA)(ts:List ResultVar)(c:Code)(a:fU)(x:Tup sp.pin.tys):Prog (Tup sp.aO.tys):=frX ⟨mkT sp.pin (Tup.lD sp.pin.tys x),[],[]⟩ λq=>ny T tt ety N sp.bC c (Tup sp.aO.tys) a q { n:=aeR tt sp ts,x:=λ_ _=>.stuck 64,r:=aeR tt sp ts }
noncomputable def abA(T:ku)(tt:TT)(ety:TypeId->Option Ty)(N:Nat)(sp:dA)(ts:List ResultVar)(c:Code)(a:fU)(x:Tup sp.pin.tys):Prog (Tup sp.aO.tys):=
 match sp.er.ahV with
 |true=>tfun T tt ety N sp ts c a x
 |false=>.join (tfun T tt ety N sp ts c a x) λy=>Aa (mkT sp.pin (Tup.lD sp.pin.tys x)).go (mkT sp.aO (Tup.lD sp.aO.tys y)).go (.ret y) sp.bC
end
end Go.Fg

namespace Go.Fg
open Go.Fw
theorem GL(a b:Nat):(a==b)=Nat.beq a b:=by rw[Bool.eq_iff_iff];simp
theorem xW{α:Type}(d:α):∀(l:List (Nat×α)) (t:Nat),jl d l t=match l.lookup t with|some x=>x|none=>d
 | [],t=>rfl
 |(k,v)::r,t=>by
  simp only[jl,List.lookup,GL];cases h:Nat.beq t k with
  |true=>rfl
  |false=>exact xW d r t
theorem pV{α:Type}(d:α)(k:Nat)(v:α):∀(l:List (Nat×α)) (t:Nat),jl d (xI k v l) t=bif Nat.beq t k then v else jl d l t
 | [],t=>rfl
 |(k',v')::r,t=>by
  simp only[xI];cases h:Nat.beq k k' with
  |true=>simp only[cond_true,jl];have:k=k':=Qf h;subst this;cases Nat.beq t k<;>rfl
  |false=>
   simp only[cond_false,jl,pV d k v r t];cases h1:Nat.beq t k' with
   |true=>
    have:t=k':=Qf h1;subst this;have:Nat.beq t k=false:=by
     cases h2:Nat.beq t k with
     |false=>rfl
     |true=>have:=Qf h2;subst this;simp at h
    rw[this];rfl
   |false=>rfl
theorem oP{α β:Type}(g:α->β)(t:Nat):∀(l:List (Nat×α)),(l.map λp=>(p.1,g p.2)).lookup t=(l.lookup t).map g
 | []=>rfl
 |(k,v)::r=>by
  simp only[X2,List.lookup];cases t==k with
  |true=>rfl
  |false=>exact oP g t r
section
variable [RE] {β:Type 1}
theorem OI(b:Bool)(k:Bool->β):frB b k=k b:=by cases b<;>rfl
theorem abB(x:TW)(k:TW->β):frW x k=k x:=by
 cases x with
 |p a i w=>obtain⟨t,x⟩:=w;simp only[frW,OI]
 |sp a i t x off=>simp only[frW,OI]
 |_=>rfl
theorem OJ:∀(x:List TW) (k:List TW->β),abm x k=k x
 | [],k=>rfl
 |x::xs,k=>by simp only[abm,abB,OJ xs]
theorem abC(x:TV)(k:TV->β):frV x k=k x:=by cases x<;>simp only[frV,abB,OJ]
theorem WQ:∀(x:List TV) (k:List TV->β),aeK x k=k x
 | [],k=>rfl
 |x::xs,k=>by simp only[aeK,abC,WQ xs]
theorem aiz(x:TS)(k:TS->β):frS x k=k x:=by cases x<;>simp only[frS,abC,WQ]
theorem BX:∀(t:Ty) (k:Ty->β),Oz t k=k t
 |.int ik,k=>by cases ik<;>rfl
 |.bool,k=>rfl
 |.str,k=>rfl
 |.sl e,k=>by simp only[Oz,BX e]
 |.prod a b,k=>by simp only[Oz,BX a,BX b]
 |.st n,k=>rfl
 |.opq,k=>rfl
 |.sq e,k=>by simp only[Oz,BX e]
theorem abD:∀(x:List (Nat×Ty)) (k:List (Nat×Ty)->β),frC x k=k x
 | [],k=>rfl
 |(c,t)::xs,k=>by simp only[frC,BX,abD xs]
theorem abE(x:Option (Nat×Nat×Nat))(k:Option (Nat×Nat×Nat)->β):frH x k=k x:=by
 cases x with
 |none=>rfl
 |some p=>obtain⟨n,c,d⟩:=p;rfl
theorem aiA(x:TO)(k:TO->β):frO x k=k x:=by cases x<;>simp only[frO,OJ,OI,abD,abE]
theorem WR:∀(x:List (Nat×TS)) (k:List (Nat×TS)->β),aeL x k=k x
 | [],k=>rfl
 |(t,x)::xs,k=>by simp only[aeL,aiz,WR xs]
theorem WT:∀(x:List (Nat×TO)) (k:List (Nat×TO)->β),aeM x k=k x
 | [],k=>rfl
 |(t,x)::xs,k=>by simp only[aeM,aiA,WT xs]
theorem OL:∀(x:List Nat) (k:List Nat->β),KU x k=k x
 | [],k=>rfl
 |x::xs,k=>by simp only[KU,OL xs]
theorem sD(q:jw)(k:jw->β):frX q k=k q:=by obtain⟨⟨s,o,u⟩,ds,od⟩:=q;simp only[frX,WR,WT,OL]
theorem aeS(l:List (Nat×Nat))(k:List (Nat×Nat)->β):aeO l k=k l:=by
 induction l generalizing k with
 |nil=>rfl
 |cons p r ih=>obtain⟨a,b⟩:=p;simp only[aeO,ih]
theorem aiB(f:rZ)(k:rZ->β):frF f k=k f:=by simp only[frF,OL,abE,aeS,OI]
end
section
variable [RE]
theorem tY(vs:List Wd)(n:Nat):bY (vs.getD n zX)=(vs.map bY).getD n default:=by simp only[Q2,Z3];cases vs[n]?<;>rfl
theorem BZ(vs:List Wd)(n:Nat)(k:jI):(zY vs n k).2=n+k.tys.length:=by cases k<;>simp[zY,jI.tys]
def vI(vs:List Wd)(n:Nat)(ts:List Ty):Prop :=∀(k:Nat) t,ts[k]?=some t->∃w,vs[n+k]?=some w/\w.t=t
theorem vI.left{vs:List Wd}{n:Nat}{a b:List Ty}(h:vI vs n (a++b)):vI vs n a:=λk t hk=>h k t (by rw[Wt (Q4.1 hk).1];exact hk)
theorem vI.right{vs:List Wd}{n:Nat}{a b:List Ty}(h:vI vs n (a++b)):vI vs (n+a.length) b:=λk t hk=>by obtain⟨w,h1,h2⟩:=h (a.length+k) t (by rw[Wg (by omega)];simpa using hk);exact⟨w,by rw[<-h1];congr 1;omega,h2⟩
theorem vI.of{vs:List Wd}{ts:List Ty}(h:vs.map (·.t)=ts):vI vs 0 ts:=λk t hk=>by rw[<-h,Z3,W7]at hk;obtain⟨w,h1,h2⟩:=hk;exact⟨w,by simpa using h1,h2⟩
theorem vI.get{vs:List Wd}{n k:Nat}{t:Ty}{ts:List Ty}(h:vI vs n ts)(hk:ts[k]?=some t):bY (vs.getD (n+k) zX)=bY ⟨t,(vs.getD (n+k) zX).as t⟩:=by
 obtain⟨w,h1,h2⟩:=h k t hk;have e1:vs.getD (n+k) zX=w:=by rw[Q2,h1];rfl
 rw[e1,wC h2]
theorem L9:∀(gs:List Nat),mZ (DT gs)=fO gs
 | []=>rfl
 |g::gs=>by simp only[DT,mZ,bQ,fO,L9 gs]
theorem WU{vs:List Wd}{n:Nat}{k:jI}(h:vI vs n k.tys):pG (vs.map bY) n k.er=(bQ (zY vs n k).1,(zY vs n k).2):=by
 cases k with
 |vw g=>have h0:=h.get (k:=0) (t:=.int .i64) rfl;have h1:=h.get (k:=1) (t:=.int .i64) rfl;simp only[jI.er,pG,zY,bQ,<-tY];rw[Uq]at h0;rw[h0,h1];rfl
 |ep g off=>have h0:=h.get (k:=0) (t:=.int .i64) rfl;simp only[jI.er,pG,zY,bQ,<-tY];rw[Uq]at h0;rw[h0];rfl
 |fn f gs=>simp only[jI.er,pG,zY,bQ,L9]
 |_=>simp only[jI.er,pG,zY,bQ,mZ,tY]
theorem DZ(vs:List Wd):∀(n:Nat) (ks:List jI),(tN vs n ks).2=n+(ks.flatMap jI.tys).length
 |n,[]=>rfl
 |n,k::ks=>by simp only[tN,DZ vs,BZ,W0,Z0];omega
theorem Jk{vs:List Wd}:∀{n:Nat} {ks:List jI},vI vs n (ks.flatMap jI.tys)->kH (vs.map bY) n (ks.map jI.er)=((tN vs n ks).1.map bQ,(tN vs n ks).2)
 |n,[],_=>rfl
 |n,k::ks,h=>by rw[W0]at h;have h2:=h.right;simp only[X2,kH,tN,WU h.left,BZ];rw[Jk h2]
theorem B_(vs:List Wd)(n:Nat)(k:j_):(Gn vs n k).2=n+k.tys.length:=by cases k<;>simp only[Gn,j_.tys,BZ,DZ]
theorem aeT{vs:List Wd}{n:Nat}{k:j_}(h:vI vs n k.tys):mkS (vs.map bY) n k.er=(aZ (Gn vs n k).1,(Gn vs n k).2):=by
 cases k with
 |one k=>simp only[j_.er,mkS,Gn,aZ,jv,WU h]
 |agg ks=>simp only[j_.er,mkS,Gn,aZ,jv,Jk h]
theorem E8{vs:List Wd}:∀{n:Nat} {l:List (Nat×j_)},vI vs n (l.flatMap λp=>p.2.tys)->dh (vs.map bY) n (l.map λp=>(p.1,p.2.er))=((fK vs n l).1.map λp=>(p.1,aZ p.2),(fK vs n l).2)
 |n,[],_=>rfl
 |n,(t,k)::l,h=>by rw[W0]at h;have h2:=h.right;simp only[X2,dh,fK,aeT h.left,B_];rw[E8 h2]
theorem vJ(vs:List Wd):∀(n:Nat) (l:List (Nat×j_)),(fK vs n l).2=n+(l.flatMap λp=>p.2.tys).length
 |n,[]=>rfl
 |n,(t,k)::l=>by simp only[fK,vJ vs,B_,W0,Z0];omega
theorem aeU{vs:List Wd}{n:Nat}{k:g_}(h:vI vs n k.tys):sN (vs.map bY) n k.er=(dJ (DV vs n k).1,(DV vs n k).2):=by
 cases k with
 |box ws=>simp only[g_.er,sN,DV,dJ,Jk h]
 |arr fz a i e=>
  obtain⟨w,h1,h2⟩:=h 0 (.sl e) rfl;have e1:(vs.getD n zX)=w:=by simp only[Q2];rw[show vs[n]?=some w from h1];rfl
  simp only[g_.er,sN,DV,dJ,<-tY,e1];have e2:=wC h2;have e3:(bY w).list=aC e (w.as (.sl e)):=by
   conv=>lhs;rw[<-e2]
   exact iV e _
  rw[e3]
 |it=>
  obtain⟨w1,h1,h2⟩:=h 0 .str rfl;obtain⟨w2,h3,h4⟩:=h 1 (.int .i64) rfl;have e1:(vs.getD n zX)=w1:=by simp only[Q2];rw[show vs[n]?=some w1 from h1];rfl
  have e2:(vs.getD (n+1) zX)=w2:=by simp only[Q2];rw[show vs[n+1]?=some w2 from h3];rfl
  simp only[g_.er,sN,DV,dJ,<-tY,e1,e2];have a1:=wC h2;have a2:=wC h4
  conv=>lhs;rw[<-a1,<-a2]
  rfl
 |aF a i e ah=>
  obtain⟨w,h1,h2⟩:=h 0 (.sl e) rfl;have e1:(vs.getD n zX)=w:=by simp only[Q2];rw[show vs[n]?=some w from h1];rfl
  simp only[g_.er,sN,DV,dJ,<-tY,e1];have e2:=wC h2;have e3:(bY w).list=aC e (w.as (.sl e)):=by
   conv=>lhs;rw[<-e2]
   exact iV e _
  rw[e3]
theorem Jl(vs:List Wd)(n:Nat)(k:g_):(DV vs n k).2=n+k.tys.length:=by cases k<;>simp only[DV,g_.tys,DZ]<;>rfl
theorem Jm{vs:List Wd}:∀{n:Nat} {l:List (Nat×g_)},vI vs n (l.flatMap λp=>p.2.tys)->fP (vs.map bY) n (l.map λp=>(p.1,p.2.er))=((jy vs n l).1.map λp=>(p.1,dJ p.2),(jy vs n l).2)
 |n,[],_=>rfl
 |n,(g,k)::l,h=>by rw[W0]at h;simp only[X2,fP,jy,aeU h.left,Jl];rw[Jm h.right]
theorem xX{j:LX}{vs:List Wd}(h:vs.map (·.t)=j.tys):aP (mkT j vs)=mk j.er (vs.map bY):=by
 have hs:=E8 (vs:=vs) (n:=0) (l:=j.slots) (by have:=(vI.of h);unfold LX.tys at this;exact this.left)
 have h2:vI vs (fK vs 0 j.slots).2 (j.aW.flatMap λp=>p.2.tys):=by have:=(vI.of h);unfold LX.tys at this;have:=this.right;rw[vJ];exact this
 have ho:=Jm h2;have e1:(dh (vs.map bY) 0 j.er.slots)=_:=hs;have e2:fP (vs.map bY) (fK vs 0 j.slots).2 j.er.aW=_:=ho;unfold Fw.mk;rw[e1];simp only[e2];refine St.ext' (λt=>?_) (λg=>?_) λg=>?_
 .simp only[aP,iQ.gs,mkT,xW,oP];cases (fK vs 0 j.slots).1.lookup t<;>rfl
 .simp only[aP,iQ.go,mkT,xW,oP];cases (jy vs (fK vs 0 j.slots).2 j.aW).1.lookup g<;>rfl
 .simp only[aP,mkT,bI,Shape.nms,LX.er,Uv];rfl
variable {m:Ren}
theorem Cb{a:Bool}{α:Type}{x y:α}(h:(bif a then some x else none)=some y):a=true/\x=y:=by cases a;cases h;exact⟨rfl,by simpa using h⟩
theorem Jo:∀{gs:List Nat} {caps:List TW},Gz m gs caps=rU m gs (mZ caps)
 | [],[]=>rfl
 | [],c::cs=>by cases c<;>rfl
 |g::gs,[]=>rfl
 |g::gs,c::cs=>by cases c<;>first|(simp only[Gz,mZ,bQ,rU,Jo (gs:=gs) (caps:=cs)];done)|rfl
theorem WV{k:jI}{x:TW}{us:List Wd}(h:DU m k x=some us):Kr m k.er (bQ x)=some (us.map bY)/\us.map (·.t)=k.tys:=by
 cases k<;>cases x<;>try simp only[DU,reduceCtorEq]at h
 case p.p a i t a' i' w=>
  split at h
  rotate_left
  cases h;rename_i z hz;obtain⟨h1,rfl⟩:=Cb h;have hc:((imp a' a&&imp i' i)||(bY w).flat)=true:=by simp only[K3]at h1 ⊢;exact h1.imp id YU
  refine⟨?_,by simp[jI.tys,aib hz]⟩;show (if((imp a' a&&imp i' i)||(bY w).flat)=true then some [bY w]else none)=_;rw[Qt hc];rfl
 case p.b_ a i t=>
  split at h
  .cases h;exact⟨rfl,rfl⟩
  .cases h
 case b_.b_=>cases h;exact⟨rfl,rfl⟩
 case own.own g g'=>
  split at h
  .rename_i hc;cases h;refine⟨?_,rfl⟩;show (if m.lookup g=some (some g')then some []else none)=_;rw[Qt hc];rfl
  .cases h
 case own.b_ g=>
  split at h
  .rename_i hc;cases h;refine⟨?_,rfl⟩;show (if m.lookup g=some none then some []else none)=_;rw[Qt hc];rfl
  .cases h
 case box.box g off g' off'=>
  split at h
  .rename_i hc;cases h;refine⟨?_,rfl⟩;show (if m.lookup g=some (some g')/\off=off' then some []else none)=_;rw[Qt hc];rfl
  .cases h
 case fn.clo f gs f' caps=>obtain⟨hc,rfl⟩:=Cb h;simp only[X1]at hc;refine⟨?_,rfl⟩;show (if f=f'/\rU m gs (mZ caps)=true then some []else none)=_;rw[Qt ⟨Qf hc.1,by rw[<-Jo];exact hc.2⟩];rfl
 case mO.mO g g'=>
  split at h
  .rename_i hc;cases h;refine⟨?_,rfl⟩;show (if m.lookup g=some (some g')then some []else none)=_;rw[Qt hc];rfl
  .cases h
 case vw.vw g g' lo hi=>
  split at h
  .rename_i hc;cases h;refine⟨?_,rfl⟩;show (if m.lookup g=some (some g')then some [P.int .i64 lo,P.int .i64 hi]else none)=_;rw[Qt hc];rfl
  .cases h
 case ep.ep g off g' n off'=>
  split at h
  .rename_i hc;cases h;refine⟨?_,rfl⟩;show (if m.lookup g=some (some g')/\off=off' then some [P.int .i64 n]else none)=_;rw[Qt hc];rfl
  .cases h
 all_goals (cases h;exact⟨rfl,rfl⟩)
theorem Jp:∀{ks:List jI} {xs:List TW} {us:List Wd},xP m ks xs=some us->KE m (ks.map jI.er) (xs.map bQ)=some (us.map bY)/\us.map (·.t)=ks.flatMap jI.tys
 | [],[],us,h=>by simp only[xP,Q0]at h;subst h;exact⟨rfl,rfl⟩
 | [],x::xs,us,h=>by simp[xP]at h
 |k::ks,[],us,h=>by simp[xP]at h
 |k::ks,x::xs,us,h=>by
  simp only[xP]at h;split at h
  .rename_i u v h1 h2;cases h;obtain⟨a1,a2⟩:=WV h1;obtain⟨b1,b2⟩:=Jp h2;exact⟨by simp only[X2,KE,a1,b1,Z6],by simp only[Z6,a2,b2,W0]⟩
  .cases h
theorem WW{k:j_}{x:TS}{us:List Wd}(h:aeJ m k x=some us):coS m k.er (aZ x)=some (us.map bY)/\us.map (·.t)=k.tys:=by
 unfold aeJ at h;split at h
 .exact WV h
 .exact Jp h
 .cases h
theorem WX{k:g_}{x:TO}{us:List Wd}(h:U6 m k x=some us):Z5 m k.er (dJ x)=some (us.map bY)/\us.map (·.t)=k.tys:=by
 unfold U6 at h;split at h
 .exact Jp h
 .rename_i fz a i e fz' a' i' e' l;split at h
  rotate_left
  cases h;rename_i l' hl;split at h
  rotate_left
  cases h;rename_i hc;cases h;obtain⟨ee,hl⟩:=nV hl;cases ee;subst hl;refine⟨?_,rfl⟩;show (if fz=fz'/\size e=size e/\(imp a' a&&imp i' i)=true then some [P.fG (size e) (aC e _)]else none)=_;rw[Qt ⟨hc.1,rfl,hc.2⟩];rfl
 .cases h;exact⟨rfl,rfl⟩
 .rename_i a i e ah a' i' e' gJ l hole;split at h
  rotate_left
  cases h;rename_i l' hl hcb;split at h
  rotate_left
  cases h;rename_i hc;cases h;obtain⟨ee,hl⟩:=nV hl;cases ee;subst hl;have:=nX hcb;subst this;refine⟨?_,rfl⟩;show (if size e=size e/\gY ah=gY ah/\(imp a' a&&imp i' i)=true then some [P.fG (size e) (aC e _)]else none)=_;rw[Qt ⟨rfl,rfl,hc⟩];rfl
 .cases h
theorem E_{st:iQ}:∀{l:List (Nat×j_)} {us:List Wd},ng m st.gs l=some us->qN m (aP st).s (l.map λp=>(p.1,p.2.er))=some (us.map bY)/\us.map (·.t)=l.flatMap λp=>p.2.tys
 | [],us,h=>by simp only[ng,Q0]at h;subst h;exact⟨rfl,rfl⟩
 |(t,k)::l,us,h=>by
  simp only[ng]at h;split at h
  rotate_left
  cases h;rename_i u v h1 h2;cases h;obtain⟨a1,a2⟩:=WW h1;obtain⟨b1,b2⟩:=E_ h2;refine⟨?_,by simp only[Z6,a2,b2,W0]⟩;have a1:coS m k.er ((aP st).s t)=_:=a1;simp only[X2,qN,a1,b1,Z6]
theorem Jq{st:iQ}:∀{l:List (Nat×g_)} {us:List Wd},pF m st.go l=some us->uV m (aP st).o (l.map λp=>(p.1,p.2.er))=some (us.map bY)/\us.map (·.t)=l.flatMap λp=>p.2.tys
 | [],us,h=>by simp only[pF,Q0]at h;subst h;exact⟨rfl,rfl⟩
 |(g',k)::l,us,h=>by
  simp only[pF]at h;split at h
  rotate_left
  cases h;rename_i u v h1 h2;cases h;obtain⟨b1,b2⟩:=Jq h2;cases hg:m.lookup g' with
  |none=>rw[hg]at h1;cases h1
  |some og=>
   rw[hg]at h1;cases og with
   |some g=>obtain⟨a1,a2⟩:=WX h1;have a1:Z5 m k.er ((aP st).o g)=_:=a1;refine⟨?_,by simp only[Z6,a2,b2,W0]⟩;simp only[X2,uV,hg,a1,b1,Z6]
   |none=>
    simp only at h1;split at h1
    .cases h1;refine⟨?_,by simp only[Z6,b2,W0];rfl⟩;simp only[X2,uV,hg,b1,Z6];rfl
    .cases h1;refine⟨?_,by simp only[Z6,b2,W0];rfl⟩;simp only[X2,uV,hg,b1,Z6];rfl
    .cases h1
theorem Jr{j:LX}{st:iQ}{vs:List Wd}(h:BO j m st=some vs):coerce j.er m (aP st)=some (vs.map bY)/\vs.map (·.t)=j.tys:=by
 unfold BO at h;split at h
 rotate_left
 cases h;rename_i hok;split at h
 rotate_left
 cases h;rename_i u v h1 h2;cases h;obtain⟨a1,a2⟩:=E_ h1;obtain⟨b1,b2⟩:=Jq h2;refine⟨?_,by simp only[Z6,a2,b2,LX.tys]⟩;unfold coerce;rw[Qt hok];show (match qN m (aP st).s (j.slots.map λp=>(p.1,p.2.er)),uV m (aP st).o (j.aW.map λp=>(p.1,p.2.er))with|some u,some v=>some (u++v)|_,_=>none)=_;rw[a1,b1,Z6]
end
end Go.Fg

namespace Go.Fg
open Go.Fw
section
variable [RE] {o:Nat->TO}
theorem xY:∀{gs:List Nat} {caps:List TW} {r:List (Nat×Nat)},oN gs caps=some r->mX gs (mZ caps)=some r
 | [],[],r,h=>h
 | [],_::_,r,h=>by simp[oN]at h
 |_::_,[],r,h=>by simp[oN]at h
 |g::gs,c::cs,r,h=>by
  cases c with
  |box g' off=>
   simp only[oN]at h;obtain⟨hb,h⟩:=bM h;have hb:=Qf hb;subst hb;split at h
   .rename_i r' hr;simp only[mZ,bQ,mX,xY hr];exact h
   .cases h
  |_=>simp[oN]at h
theorem Rl{k:jI}{x:TW}{us:List Wd}{c:Bool×Bool}{gs:List Nat}{r:List (Nat×Nat)}(h:LY o k x=some (us,c,gs,r)):
  fC (bT o) k.er (bQ x)=some (us.map bY,c,gs,r)/\us.map (·.t)=k.tys:=by
 unfold LY at h;split at h
 .rename_i a i t x;split at h
  .rename_i y a' i' gs' hx;cases h;exact⟨by simp only[jI.er,fC,Oj hx,X2,Kb],rfl⟩
  .cases h
 .cases h;exact⟨rfl,rfl⟩
 .rename_i g' off' g off;obtain⟨hb,h⟩:=bM h;cases h;obtain⟨h1,h2⟩:=ig hb;have h1:=Qf h1;have h2:=Qf h2;subst h1;subst h2;exact⟨rfl,rfl⟩
 .rename_i f gs0 f' caps;obtain⟨hb,h⟩:=bM h;split at h
  .rename_i r' hr;cases h;refine⟨?_,rfl⟩;simp only[jI.er,bQ,fC,xY hr];rw[Qt (Qf hb)];rfl
  .cases h
 .cases h
theorem L_:∀{ks:List jI} {xs:List TW} {us:List Wd} {c:Bool×Bool} {gs:List Nat} {r:List (Nat×Nat)},o8 o ks xs=some (us,c,gs,r)->
  jo (bT o) (ks.map jI.er) (xs.map bQ)=some (us.map bY,c,gs,r)/\us.map (·.t)=ks.flatMap jI.tys
 | [],[],us,c,gs,r,h=>by simp only[o8,Q0,QP]at h;obtain⟨rfl,rfl,rfl,rfl⟩:=h;exact⟨rfl,rfl⟩
 | [],x::xs,us,c,gs,r,h=>by simp[o8]at h
 |k::ks,[],us,c,gs,r,h=>by simp[o8]at h
 |k::ks,x::xs,us,c,gs,r,h=>by
  simp only[o8]at h;split at h
  .rename_i h1 h2;cases h;obtain⟨a1,a2⟩:=Rl h1;obtain⟨b1,b2⟩:=L_ h2;exact⟨by simp only[X2,jo,a1,b1,Z6],by simp only[Z6,a2,b2,W0]⟩
  .cases h
theorem abG{k:j_}{x:TS}{us:List Wd}{c:Bool×Bool}{gs:List Nat}{r:List (Nat×Nat)}(h:WB o k x=some (us,c,gs,r)):
  nM (bT o) k.er (aZ x)=some (us.map bY,c,gs,r)/\us.map (·.t)=k.tys:=by
 unfold WB at h;split at h
 .exact Rl h
 .exact L_ h
 .cases h
theorem Mc(args:List TS)(t:Nat):(args.map aZ).getD t .no=aZ (args.getD t .no):=by simp only[Q2,Z3];cases args[t]?<;>rfl
theorem Cc{args:List TS}:∀{l:List (Nat×j_)} {us:List Wd} {c:Bool×Bool} {gs:List Nat} {r:List (Nat×Nat)},mF o args l=some (us,c,gs,r)->
  dW (bT o) (args.map aZ) (l.map λp=>(p.1,p.2.er))=some (us.map bY,c,gs,r)/\us.map (·.t)=l.flatMap λp=>p.2.tys
 | [],us,c,gs,r,h=>by simp only[mF,Q0,QP]at h;obtain⟨rfl,rfl,rfl,rfl⟩:=h;exact⟨rfl,rfl⟩
 |(t,k)::l,us,c,gs,r,h=>by
  simp only[mF]at h;split at h
  .rename_i h1 h2;cases h;obtain⟨a1,a2⟩:=abG h1;obtain⟨b1,b2⟩:=Cc h2;rw[<-Mc]at a1;exact⟨by simp only[X2,dW,a1,b1,Z6],by simp only[Z6,a2,b2,W0]⟩
  .cases h
theorem aeV{k:jI}{x:TW}{us:List Wd}{c:Bool×Bool}{r:List (Nat×Nat)}(h:aip k x=some (us,c,r)):TM k.er (bQ x)=some (us.map bY,c,r)/\us.map (·.t)=k.tys:=by
 unfold aip at h;split at h
 .rename_i a' i' t a i w;split at h
  .rename_i y hy;cases h;rw[gu hy];exact⟨rfl,rfl⟩
  .cases h
 .split at h
  .cases h;exact⟨rfl,rfl⟩
  .cases h
 .cases h;exact⟨rfl,rfl⟩
 .rename_i g' off' g off;obtain⟨hb,h⟩:=bM h;simp only[X1]at hb;have e1:=Qf hb.1;have e2:=Qf hb.2;subst e1;subst e2;injection h with h
  injection h with h1 h
  injection h with h2 h3
  subst h1 h2 h3;exact⟨rfl,rfl⟩
 .rename_i f gs0 f' caps;obtain⟨hb,h⟩:=bM h;split at h
  .rename_i r' hr;cases h;refine⟨?_,rfl⟩;simp only[jI.er,bQ,TM,xY hr];rw[Qt (Qf hb)];rfl
  .cases h
 .cases h
theorem Rn:∀{ks:List jI} {xs:List TW} {us:List Wd} {c:Bool×Bool} {r:List (Nat×Nat)},Jc ks xs=some (us,c,r)->
  NT (ks.map jI.er) (xs.map bQ)=some (us.map bY,c,r)/\us.map (·.t)=ks.flatMap jI.tys
 | [],[],us,c,r,h=>by simp only[Jc,Q0,QP]at h;obtain⟨rfl,rfl,rfl⟩:=h;exact⟨rfl,rfl⟩
 | [],x::xs,us,c,r,h=>by simp[Jc]at h
 |k::ks,[],us,c,r,h=>by simp[Jc]at h
 |k::ks,x::xs,us,c,r,h=>by
  simp only[Jc]at h;split at h
  .rename_i h1 h2;cases h;obtain⟨a1,a2⟩:=aeV h1;obtain⟨b1,b2⟩:=Rn h2;exact⟨by simp only[X2,NT,a1,b1,Z6],by simp only[Z6,a2,b2,W0]⟩
  .cases h
theorem vK:∀{l:List (Nat×g_)} {ren ren':List (Nat×Nat)} {us:List Wd} {c:Bool×Bool},vG o ren l=some (us,c,ren')->
  ji (bT o) ren (l.map λp=>(p.1,p.2.er))=some (us.map bY,c,ren')/\us.map (·.t)=l.flatMap λp=>p.2.tys
 | [],ren,ren',us,c,h=>by simp only[vG,Q0,QP]at h;obtain⟨rfl,rfl,rfl⟩:=h;exact⟨rfl,rfl⟩
 |(g',k)::l,ren,ren',us,c,h=>by
  simp only[vG]at h;split at h
  rotate_left
  cases h;rename_i g hg;split at h
  .rename_i ks ws hog;split at h
   rotate_left
   cases h;rename_i u c1 r1 h1;split at h
   .rename_i u' c2 r2 h2;cases h;obtain⟨a1,a2⟩:=Rn h1;obtain⟨b1,b2⟩:=vK h2;have hk:(g_.box ks).er=.box (ks.map jI.er):=rfl;exact⟨by simp only[X2,ji,hg,hk,nT hog,a1,b1,Z6],by simp only[Z6,a2,b2,W0];rfl⟩
   .cases h
  .rename_i fz a0 i0 e a i e' l' hog;split at h
   rotate_left
   cases h;rename_i l2 hl;split at h
   rotate_left
   cases h;rename_i u' c2 r2 h2;cases h;obtain⟨b1,b2⟩:=vK h2;obtain⟨ee,hl⟩:=nV hl;cases ee;subst hl;refine⟨?_,by simp only[X2,b2,W0];rfl⟩;have hk:(g_.arr fz a0 i0 e).er=.arr fz a0 i0 (size e):=rfl;simp only[X2,ji,hg,hk,gI hog,if_true,b1];rfl
  .rename_i a0 i0 e ah a i e' gJ l' hole hog;split at h
   rotate_left
   cases h;rename_i l2 hl hcb;split at h
   rotate_left
   cases h;rename_i u' c2 r2 h2;cases h;obtain⟨b1,b2⟩:=vK h2;obtain⟨ee,hl⟩:=nV hl;cases ee;subst hl;have:=nX hcb;subst this;refine⟨?_,by simp only[X2,b2,W0];rfl⟩;have hk:(g_.aF a0 i0 e ah).er=.aF a0 i0 (size e) (gY ah):=rfl;have hg':bT o g=.aF a i (size e) (gY ah) (aC e l2) none:=by simp only[bT,hog,dJ]
   simp only[X2,ji,hg,hk,hg',and_self,if_true,b1];rfl
  .cases h
theorem WY{k:jI}{x:TW}{us:List Wd}{c:Bool×Bool}{gs:List Nat}{r:List (Nat×Nat)}(h:LY o k x=some (us,c,gs,r)):Pl o gs:=by
 unfold LY at h;split at h
 .split at h
  .rename_i hx;simp only[Q0,QP]at h;obtain⟨_,_,rfl,_⟩:=h;exact UO hx
  .cases h
 .simp only[Q0,QP]at h;obtain⟨_,_,rfl,_⟩:=h;exact Pl.nil
 .obtain ⟨hb,h⟩:=bM h;simp only[Q0,QP]at h;obtain⟨_,_,rfl,_⟩:=h;exact Pl.nil
 .obtain ⟨hb,h⟩:=bM h;split at h
  .simp only[Q0,QP]at h;obtain⟨_,_,rfl,_⟩:=h;exact Pl.nil
  .cases h
 .cases h
theorem Ro:∀{ks:List jI} {xs:List TW} {us:List Wd} {c:Bool×Bool} {gs:List Nat} {r:List (Nat×Nat)},o8 o ks xs=some (us,c,gs,r)->Pl o gs
 | [],[],us,c,gs,r,h=>by simp only[o8,Q0,QP]at h;obtain⟨_,_,rfl,_⟩:=h;exact Pl.nil
 | [],x::xs,us,c,gs,r,h=>by simp[o8]at h
 |k::ks,[],us,c,gs,r,h=>by simp[o8]at h
 |k::ks,x::xs,us,c,gs,r,h=>by
  simp only[o8]at h;split at h
  .rename_i h1 h2;simp only[Q0,QP]at h;obtain⟨_,_,rfl,_⟩:=h;exact(WY h1).append (Ro h2)
  .cases h
theorem Fa{args:List TS}:∀{l:List (Nat×j_)} {us:List Wd} {c:Bool×Bool} {gs:List Nat} {r:List (Nat×Nat)},mF o args l=some (us,c,gs,r)->Pl o gs
 | [],us,c,gs,r,h=>by simp only[mF,Q0,QP]at h;obtain⟨_,_,rfl,_⟩:=h;exact Pl.nil
 |(t,k)::l,us,c,gs,r,h=>by
  simp only[mF]at h;split at h
  rotate_left
  cases h;rename_i h1 h2;simp only[Q0,QP]at h;obtain⟨_,_,rfl,_⟩:=h;refine Pl.append ?_ (Fa h2);unfold WB at h1;split at h1
  .exact WY h1
  .exact Ro h1
  .cases h1
theorem Y9{s:dA}{args:List TS}{c:Gp}(h:yJ s o args=some c):Pl o c.uD:=by
 unfold yJ at h;split at h
 .rename_i h1;split at h
  .cases h;exact Fa h1
  .cases h
 .cases h
theorem Js{s:dA}{args:List TS}{c:Gp}(h:yJ s o args=some c):iq s.er (bT o) (args.map aZ)=some c.er/\c.ins.map (·.t)=s.pin.tys:=by
 unfold yJ at h;split at h
 rotate_left
 cases h;rename_i u A gs r h1;split at h
 rotate_left
 cases h;rename_i u' I r' h2;cases h;obtain⟨a1,a2⟩:=Cc h1;obtain⟨b1,b2⟩:=vK h2;refine⟨?_,by simp only[Z6,a2,b2,LX.tys]⟩;unfold iq;have a1:dW (bT o) (args.map aZ) s.er.pin.slots=_:=a1;have b1:ji (bT o) r s.er.pin.aW=_:=b1;rw[a1];simp only;rw[b1];simp only[Gp.er,Z6]
theorem Fb(f:Nat->Nat):∀(caps:List TW),mZ (xQ f caps)=jW f (mZ caps)
 | []=>rfl
 |c::cs=>by cases c<;>simp only[xQ,mZ,bQ,jW,Fb f cs]
theorem WZ(A I:Bool×Bool)(f:Nat->Nat)(x:TW):bQ (Y6 A I f x)=TN A I f (bQ x):=by cases x<;>simp only[Y6,bQ,TN,Fb]
theorem Rq(A I:Bool×Bool)(f:Nat->Nat)(xs:List TW):(xs.map (Y6 A I f)).map bQ=(xs.map bQ).map (TN A I f):=by simp only[Uv];exact W4 λx _=>WZ A I f x
theorem aeW(A I:Bool×Bool)(f:Nat->Nat)(x:TV):jv (aiq A I f x)=reV A I f (jv x):=by cases x<;>simp only[aiq,jv,reV,WZ,Rq]
theorem aeX(A I:Bool×Bool)(f:Nat->Nat)(x:TS):jv (abj A I f x)=VZ A I f (aZ x):=by
 cases x with
 |v x=>exact aeW A I f x
 |lq xs=>simp only[abj,aZ,VZ,jv,bQ]
 |no=>simp only[abj,aZ,VZ,jv,bQ]
theorem OM(A I:Bool×Bool)(f:Nat->Nat)(x:TO):dJ (Oy A I f x)=wM A I f (dJ x):=by cases x<;>simp only[Oy,dJ,wM,Rq]
theorem abH(vs:List TV):aZ (abk vs)=Yv (vs.map jv):=by
 match vs with
 | []=>rfl
 | [x]=>rfl
 |x::y::vs=>rfl
theorem W9{α β:Type}(g:α->β)(b:Bool)(x y:α):g (bif b then x else y)=if b=true then g x else g y:=by cases b<;>rfl
theorem Rt{s:dA}{d:Nat}{c:Gp}{cZ:List Wd}(h:cZ.map (·.t)=s.aO.tys)(hpl:Pl o c.uD):(tV s d o c cZ).er=jX s.er d (bT o) c.er (cZ.map bY):=by
 have hm:=xX h;have hs :∀k,aZ ((mkT s.aO cZ).gs k)=(mk s.aO.er (cZ.map bY)).s k:=λk=>by rw[<-hm];rfl
 have ho :∀k,dJ ((mkT s.aO cZ).go k)=(mk s.aO.er (cZ.map bY)).o k:=λk=>by rw[<-hm];rfl
 have e1:s.er.aO=s.aO.er:=rfl;have e2:s.er.bC=s.bC:=rfl;have e3:s.er.aQ=s.aQ:=rfl;have e4:s.er.cO=s.cO:=rfl;have c1:c.er.A=c.A:=rfl;have c2:c.er.I=c.I:=rfl;have c3:c.er.uD=c.uD:=rfl;have c4:c.er.ren=c.ren:=rfl;unfold tV jX je.er;rw[e1,e2,e3,e4,c1,c2,c3,c4];generalize mk s.aO.er (cZ.map bY)=M at hs ho;generalize mkT s.aO cZ=X at hs ho;generalize s.er.lJ=L;have k1:aZ (abk ((List.range s.cO).map λk=>abj c.A c.I (callName d s.er c.ren) (X.gs k)))=Yv ((List.range s.cO).map λk=>VZ c.A c.I (callName d s.er c.ren) (M.s k)):=by rw[abH,Uv];congr 1;refine W4 λk _=>?_;simp only[Function.comp,aeX,hs]
 have k2:gZ (bif L then c.uD.map (kY o)else[])=if L=true then c.uD.map (Fw.aN (bT o))else[]:=by rw[W9 gZ,oM hpl];rfl
 have k3:gZ (c.ren.map λp=>(p.2,bif s.bC.contains p.1 then Oy c.A c.I (callName d s.er c.ren) (X.go p.1)else .none))=c.ren.map λp=>(p.2,if s.bC.contains p.1=true then wM c.A c.I (callName d s.er c.ren) (M.o p.1)else .none):=by simp only[gZ,Uv];refine W4 λp _=>?_;simp only[Function.comp,W9 dJ,OM,ho];rfl
 have k4:gZ (s.aQ.map λg=>(callName d s.er c.ren g,Oy c.A c.I (callName d s.er c.ren) (X.go g)))=s.aQ.map λg=>(callName d s.er c.ren g,wM c.A c.I (callName d s.er c.ren) (M.o g)):=by simp only[gZ,Uv];refine W4 λp _=>?_;simp only[Function.comp,OM,ho]
 simp only[kQ,k1,k2,k3,k4]
theorem GN(ts:List Ty):∀{ws:List Wd} {x:Tup ts},Tup.ofL ts ws=some x->Tup.lD ts x=ws:=by
 induction ts with
 |nil=>
  intro ws x h;cases ws with
  |nil=>rfl
  |cons w ws=>cases h
 |cons t ts ih=>
  cases ts with
  |nil=>
   intro ws x h;cases ws with
   |nil=>cases h
   |cons w ws=>
    cases ws with
    |nil=>have h:w.Ar t=some x:=h;rw[gu h];rfl
    |cons u ws=>cases h
  |cons u ts=>
   intro ws x h;cases ws with
   |nil=>cases h
   |cons w ws=>
    have h:(match w.Ar t,Tup.ofL (u::ts) ws with|some x,some xs=>some (x,xs)|_,_=>none)=some x:=h;split at h
    .rename_i y ys h1 h2;cases h;show (⟨t,y⟩:Wd)::Tup.lD (u::ts) ys=w::ws;rw[ih h2,gu h1]
    .cases h
theorem vM:∀(ts:List Ty) (x:Tup ts),(Tup.lD ts x).map (·.t)=ts
 | [],x=>rfl
 | [t],x=>rfl
 |t::u::ts,x=>by simp only[Tup.lD,X2,vM (u::ts)]
def aS.er(s:aS):Fw.Spec:={ sig:=s.sig.er,R:=λins cZ=>∃x y,s.ff x=some y/\ins=(Tup.lD s.sig.pin.tys x).map bY/\cZ=(Tup.lD s.sig.aO.tys y).map bY }
theorem Ru{A R:Type}{x y:A}{r:Option R}{z:R}(h:wO x y r=some z):x=y/\r=some z:=by
 unfold wO at h;split at h
 .rename_i e;exact⟨e,h⟩
 .cases h
theorem Ac{R:Type}{a b:Nat->TO}{r z:R}:∀{gs:List Nat},Jb a b r gs=some z->r=z/\∀g∈gs,qP (dJ (b g))=qP (dJ (a g))
 | [],h=>by simp only[Jb,Q0]at h;exact⟨h,λg hg=>by cases hg⟩
 |g::gs,h=>by
  simp only[Jb]at h;split at h
  .rename_i e l _ _ e' l' h1 h2;split at h
   rotate_left
   cases h;rename_i l'' hl;obtain⟨e1,h⟩:=Ru h;obtain⟨q1,q2⟩:=Ac h;refine⟨q1,λg' hg=>?_⟩;rcases Xs.1 hg with rfl|hg
   .rw [h1,h2];subst e1;obtain⟨ee,hl⟩:=nV hl;cases ee;subst hl;rfl
   .exact q2 g' hg
  .rename_i e ah l _ _ e' gJ l' h1 h2;split at h
   rotate_left
   cases h;rename_i l'' hl hcb;obtain⟨e1,h⟩:=Ru h;obtain⟨q1,q2⟩:=Ac h;refine⟨q1,λg' hg=>?_⟩;rcases Xs.1 hg with rfl|hg
   rotate_left
   exact q2 g' hg;rw[h1,h2];subst e1;obtain⟨ee,hl⟩:=nV hl;cases ee;subst hl;have:=nX hcb;subst this;rfl
  .cases h
theorem OO{s:aS}{x:Tup s.sig.pin.tys}{y:Tup s.sig.aO.tys}(h:s.ff x=some y):s.f x=some y/\∀g∈s.sig.kept,qP (dJ ((mkT s.sig.aO (Tup.lD s.sig.aO.tys y)).go g))=qP (dJ ((mkT s.sig.pin (Tup.lD s.sig.pin.tys x)).go g)):=by
 obtain⟨⟨na,pin,aO,nr,bC,aQ,kept⟩,f⟩:=s;cases kept with
 |nil=>exact⟨h,λg hg=>by cases hg⟩
 |cons g0 gs=>
  have h:(f x).bind (λy=>Jb (mkT pin (Tup.lD pin.tys x)).go (mkT aO (Tup.lD aO.tys y)).go y (g0::gs))=some y:=h;cases hf:f x with
  |none=>rw[hf]at h;cases h
  |some z=>rw[hf]at h;obtain⟨e,h2⟩:=Ac h;subst e;exact⟨hf,h2⟩
theorem Me(same:List Nat):∀(l:List (Nat×TO)),gZ (LZ same l)=(gZ l).filter λp=>!same.contains p.1
 | []=>rfl
 |(g,x)::r=>by
  have ih:=Me same r;simp only[LZ];have e:gZ ((g,x)::r)=(g,dJ x)::gZ r:=rfl;rw[e,zb,<-bI];cases h:eY g same with
  |true=>simp only[Bool.not_true,Wa,if_false];exact ih
  |false=>simp only[vR,if_true];show (g,dJ x)::gZ (LZ same r)=_;rw[ih]
def Jt(s:dA)(d:Nat)(o:Nat->TO)(c:Gp)(cZ:List Wd):List Nat:=match s.kept with
 | []=>[]
 |_::_=>BP s o (λg'=>Oy c.A c.I (callName d s.er c.ren) ((mkT s.aO cZ).go g')) c.ren
theorem OQ{s:dA}{d:Nat}{o:Nat->TO}{c:Gp}{cZ:List Wd}:(yK s d o c cZ).er=Bc (Jt s d o c cZ) (tV s d o c cZ).er:=by
 obtain⟨na,pin,aO,nr,bC,aQ,kept⟩:=s;cases kept with
 |nil=>
  show (tV _ d o c cZ).er=Bc [] _;have :∀(e:Eff),e=Bc [] e:=λe=>by unfold Bc;have:e.aB.filter (λp=>!([]:List Nat).contains p.1)=e.aB:=List.filter_eq_self.2 λp _=>rfl;rw[this]
  exact this _
 |cons g0 gs=>unfold yK Bc Jt je.er;simp only[Me]
theorem MB{a b:Bool}(h:air a b=true):a=b:=by cases a<;>cases b<;>first|rfl|cases h
theorem Fh{x:TO}{a i:Bool}(h:U7 x=some (a,i)):rX (dJ x)=(a,i)/\Un (dJ x)=true:=by
 cases x with
 |arr fz a' i' e l=>cases fz<;>cases h;exact⟨rfl,rfl⟩
 |aF a' i' e ah l hole=>cases hole<;>cases h;exact⟨rfl,rfl⟩
 |_=>cases h
theorem Ju{s:dA}{o f:Nat->TO}{g:Nat}:∀{r:List (Nat×Nat)},g∈BP s o f r->∃g',(g',g)∈r/\g'∈s.kept/\s.bC.contains g'=true/\rX (dJ (f g'))=rX (dJ (o g))/\Un (dJ (o g))=true
 | [],h=>by cases h
 |(g1',g1)::r,h=>by
  simp only[BP]at h;have old:g∈BP s o f r->∃g',(g',g)∈(g1',g1)::r/\g'∈s.kept/\s.bC.contains g'=true/\rX (dJ (f g'))=rX (dJ (o g))/\Un (dJ (o g))=true:=λh=>
   let ⟨g',h1,h2⟩:=Ju h
   ⟨g',WK _ h1,h2⟩
  split at h
  rotate_left
  exact old h;rename_i a i a' i' k1 k2 k3;split at h
  rotate_left
  exact old h;rename_i k4;rcases Xs.1 h with rfl|h
  rotate_left
  exact old h;obtain⟨e1,e2⟩:=ig k4;have e1:=MB e1;have e2:=MB e2;subst e1;subst e2;obtain⟨m1,m2⟩:=ig k1;obtain⟨f1,f2⟩:=Fh k2;obtain⟨f3,_⟩:=Fh k3;rw[bI]at m1;exact⟨g1',by simp,by simpa using m1,m2,by rw[f1,f3],f2⟩
theorem Rw{sp:aS}(hok:sp.sig.er.ok=true){d:Nat}{o:Nat->TO}{args:List S}{c:Gp}(hc:iq sp.sig.er (bT o) args=some c.er)(hf:c.er.fine sp.sig.er=true){x:Tup sp.sig.pin.tys}{y:Tup sp.sig.aO.tys}(hx:Tup.lD sp.sig.pin.tys x=c.ins)(hy:sp.ff x=some y):
  ∀g∈Jt sp.sig d o c (Tup.lD sp.sig.aO.tys y),g∈c.er.ren.map (·.2)/\(jX sp.sig.er d (bT o) c.er ((Tup.lD sp.sig.aO.tys y).map bY)).aB.lookup g=some (bT o g):=by
 intro g hg;have hg:g∈BP sp.sig o (λg'=>Oy c.A c.I (callName d sp.sig.er c.ren) ((mkT sp.sig.aO (Tup.lD sp.sig.aO.tys y)).go g')) c.ren:=by
  unfold Jt at hg;split at hg
  .cases hg
  .exact hg
 obtain⟨g',h1,h2,h3,h4,h5⟩:=Ju hg;have hp:(g',g)∈c.er.ren:=h1;refine⟨XN.2 ⟨(g',g),hp,rfl⟩,?_⟩;have e1:dJ ((mkT sp.sig.aO (Tup.lD sp.sig.aO.tys y)).go g')=(Fw.mk sp.sig.er.aO ((Tup.lD sp.sig.aO.tys y).map bY)).o g':=ZS (λs=>s.o g') (xX (vM _ y));have e2:dJ ((mkT sp.sig.pin (Tup.lD sp.sig.pin.tys x)).go g')=(Fw.mk sp.sig.er.pin c.er.ins).o g':=by have:=ZS (λs=>s.o g') (xX (vM _ x));rw[hx]at this ⊢;exact this
 refine YD hok hc hf hp h3 ?_ h5 ?_
 .rw [<-e1,<-e2];exact(OO hy).2 g' h2
 .rw [OM]at h4;rw[<-e1];exact h4
def lN(T:ku):Tab:=λf=>(T f).map aS.er
theorem xZ(l:List (Nat×TO)):∀(u:List (Nat×TO)) (g:Nat),jl .none (BQ l u) g=match u.lookup g with|some x=>x|none=>jl .none l g
 | [],g=>rfl
 |(k,x)::u,g=>by simp only[BQ,pV,List.lookup,GL,xZ l u g];cases h:Nat.beq g k<;>rfl
theorem MC(q:jw)(dst:Option Tmp)(e:je):aP (q.eff dst e).st=(aP q.st).eff dst e.er:=by
 have ho :∀g,dJ (jl .none (BQ q.st.o e.aB) g)=match (gZ e.aB).lookup g with|some x=>x|none=>dJ (jl .none q.st.o g):=λg=>by rw[xZ];have:(gZ e.aB).lookup g=(e.aB.lookup g).map dJ:=oP dJ g e.aB;rw[this];cases e.aB.lookup g<;>rfl
 have hu :∀g,eY g (e.new++q.st.u)=(e.new.contains g||eY g q.st.u):=λg=>by simp[bI]
 cases dst with
 |none=>
  refine St.ext' (λt=>rfl) (λg=>?_) λg=>?_
  .exact ho g
  .exact hu g
 |some d=>
  refine St.ext' (λt=>?_) (λg=>?_) λg=>?_
  .show aZ (jl .no (xI d e.x q.st.s) t)=bif Nat.beq t d then aZ e.x else aZ (jl .no q.st.s t)
   rw[pV];cases Nat.beq t d<;>rfl
  .exact ho g
  .exact hu g
end
end Go.Fg

