/-
  The framework (a machine on plain data that answers as the program does), part 3.
-/
import Derived.RangeFuncLeaves
import Derived.RangeFuncCalls
import Derived.OrdersIn
import Derived.LoopNIn
import Derived.LoopN
import Derived.Tactics
import Derived.Laws.Strings
import Derived.Test.YtoipcimfapppmaaGreatDoorZb
set_option linter.unusedSimpArgs false
set_option linter.unusedVariables false
set_option linter.unusedSectionVars false
open Option renaming some->zw,none->zz
open Bool renaming true->zj,false->zv
variable{B a i:Bool}{c:Bool×Bool}{e:Go.Fw.Eff}{K:Go.Fw.Eff->Prop}{v:Int}{k:Go.IntKind}{r:List (Nat×Nat)}{b:List Nat}{d g n:Nat}{u:Nat->Go.Fw.Gh}{s:Nat->Go.Fw.O}{x:Go.Oper}{q:Go.Operand}{H:Go.Fw.St}{G:Go.Fw.TI}{j:Go.Tmp}{R:Type}{t:Go.TypeId}{w:Go.World}
namespace Go.Fw
variable [fO]
theorem O6(st:St)(dst:Option Tmp)(e:Eff)(t:Nat):(st.eff dst e).s t=if dst=zw t then e.x else st.s t:=by
 cases dst with
 |none=>simp[St.eff,St.put,St.aJ]
 |some d=>
  simp only[St.eff,St.put,St.aJ,Q0];by_cases h:t=d
  .subst h;simp
  .have b:Nat.beq t d=zv:=by cases c:Nat.beq t d with|false=>rfl|true=>exact absurd (Q6 c) h
   rw[b,Qt (λe=>h e.symm)];rfl
theorem zo(st:St)(dst:Option Tmp)(e:Eff)(g:Nat):(st.eff dst e).o g=match e.aJ.lookup g with|some x=>x|none=>st.o g:=by cases dst<;>rfl
theorem vN(st:St)(dst:Option Tmp)(e:Eff)(g:Nat):(st.eff dst e).used g=(e.new.contains g||st.used g):=by cases dst<;>rfl
theorem kT{α:Type}{g:Nat}:∀{l:List (Nat×α)},g∉l.map (·.1)->l.lookup g=zz
 | [],_=>rfl
 |(k,v)::l,h=>by
  simp only[Qf,Xs,not_or]at h;have:(g==k)=zv:=by simpa using h.1
  simp only[List.lookup,this];exact kT h.2
theorem St.ext'{h:St}(c :∀t,h.s t=H.s t)(d :∀g,h.o g=H.o g)(b :∀g,h.used g=H.used g):h=H:=by obtain⟨s,o,u⟩:=h;obtain⟨j,o',m⟩:=H;simp only at c d b;rw[funext c,funext d,funext b]
section
variable {ops:Array Oper} {es es':Nat->Eff} {st:St} {D D':Nat->Bool}
def SD(ops:Array Oper)(es:Nat->Eff)(st:St)(D:Nat->Bool):Nat->St
 |0=>st
 |k+1=>if D k=zj then(SD ops es st D k).eff ((ops[k]?).bind (·.dst)) (es k)else SD ops es st D k
theorem Lc:∀{n:Nat},(∀k<n,es k=es' k)->SD ops es st D n=SD ops es' st D n
 |0,_=>rfl
 |n+1,h=>by simp only[SD];rw[Lc λk b=>h k (by omega),h n (by omega)]
theorem FV:∀{n:Nat},(∀k<n,D k=D' k)->SD ops es st D n=SD ops es st D' n
 |0,_=>rfl
 |n+1,h=>by simp only[SD];rw[FV λk b=>h k (by omega),h n (by omega)]
theorem amW{t:Nat}:∀{n:Nat},(∀k<n,D k≠D' k->(ops[k]?).bind (·.dst)≠zw t)->(SD ops es st D n).s t=(SD ops es st D' n).s t
 |0,_=>rfl
 |n+1,h=>by
  have b:=amW (n:=n) λk g=>h k (by omega);have hn:=h n (by omega);simp only[SD];cases c:D n<;>cases d:D' n
  .simpa using b
  .have:=hn (by rw[c,d];simp);simp only[if_true,O6,Qt this];simpa using b
  .have:=hn (by rw[c,d];simp);simp only[if_true,O6,Qt this];simpa using b
  .simp only[if_true,O6,b]
theorem amX{g:Nat}:∀{n:Nat},(∀k<n,D k≠D' k->g∉(es k).aJ.map (·.1))->(SD ops es st D n).o g=(SD ops es st D' n).o g
 |0,_=>rfl
 |n+1,h=>by
  have b:=amX (n:=n) λk j=>h k (by omega);have hn:=h n (by omega);simp only[SD];cases c:D n<;>cases d:D' n
  .simpa using b
  .have:=kT (hn (by rw[c,d];simp));simp only[if_true,zo,this];simpa using b
  .have:=kT (hn (by rw[c,d];simp));simp only[if_true,zo,this];simpa using b
  .simp only[if_true,zo,b]
theorem Q8{g:Nat}:∀{n:Nat},(∀k<n,D k≠D' k->g∉(es k).new)->(SD ops es st D n).used g=(SD ops es st D' n).used g
 |0,_=>rfl
 |n+1,h=>by
  have b:=Q8 (n:=n) λk j=>h k (by omega);have hn:=h n (by omega);simp only[SD];cases c:D n<;>cases d:D' n
  .simpa using b
  .have:=hn (by rw[c,d];simp);have:(es n).new.contains g=zv:=by simpa using this
   simp only[if_true,vN,this,Ka];simpa using b
  .have:=hn (by rw[c,d];simp);have:(es n).new.contains g=zv:=by simpa using this
   simp only[if_true,vN,this,Ka];simpa using b
  .simp only[if_true,vN,b]
theorem O7{t i:Nat}(hi:D i=zj)(hd:(ops[i]?).bind (·.dst)=zw t):∀{n:Nat},i<n->(∀k,i<k->k<n->D k=zj->(ops[k]?).bind (·.dst)≠zw t)->(SD ops es st D n).s t=(es i).x
 |0,h,_=>by omega
 |n+1,c,h=>by
  simp only[SD];by_cases e:n=i
  .subst e;simp[hi,O6,hd]
  .have b:=O7 hi hd (n:=n) (by omega) λk d g=>h k d (by omega);cases hn:D n with
   |false=>simpa using b
   |true=>have:=h n (by omega) (by omega) hn;simp only[if_true,O6,Qt this,b]
theorem O8{g i:Nat}{x:O}(hi:D i=zj)(hd:(es i).aJ.lookup g=zw x):∀{n:Nat},i<n->(∀k,i<k->k<n->D k=zj->g∉(es k).aJ.map (·.1))->(SD ops es st D n).o g=x
 |0,h,_=>by omega
 |n+1,c,h=>by
  simp only[SD];by_cases e:n=i
  .subst e;simp[hi,zo,hd]
  .have b:=O8 hi hd (n:=n) (by omega) λk d j=>h k d (by omega);cases hn:D n with
   |false=>simpa using b
   |true=>have:=kT (h n (by omega) (by omega) hn);simp only[if_true,zo,this,b]
theorem Io{g i:Nat}(hi:D i=zj)(hd:g∈(es i).new):∀{n:Nat},i<n->(SD ops es st D n).used g=zj
 |0,h=>by omega
 |n+1,c=>by
  simp only[SD];by_cases e:n=i
  .subst e;simp[hi,vN,hd]
  .have b:=Io hi hd (n:=n) (by omega);cases hn:D n with
   |false=>simpa using b
   |true=>simp only[if_true,vN,b,Bool.or_true]
structure Apart(ops:Array Oper)(x y:Oper)(fx fy:uS):Prop where
 dy :∀t,x.dst=zw t->t∉y.looksAt ops
 dx :∀t,y.dst=zw t->t∉x.looksAt ops
 dd :∀t,x.dst=zw t->y.dst≠zw t
 wr:(∀g∈fx.wr,g∉fy.rd)\/Il fx fy=zj
 rw:(∀g∈fy.wr,g∉fx.rd)\/Il fy fx=zj
 ww :∀g∈fx.wr,g∉fy.wr
 nn :∀g∈fx.new,g∉fy.new
theorem zq{x:Option Tmp}{ts:List Tmp}(h:La x ts=zj):∀t,x=zw t->t∉ts:=by intro t e;subst e;simpa[La]using h
theorem Au{xs:List Nat}(h:QK b xs=zj):∀x∈b,x∉xs:=by intro x c;have:=(Z3.1 h) x c;simpa using this
theorem XH{y:Oper}{b c:uS}(h:aeE ops x y b c=zj):Apart ops x y b c:=by simp only[aeE,QR,Kb]at h;obtain⟨⟨⟨⟨⟨⟨d,g⟩,j⟩,m⟩,q⟩,z⟩,B⟩:=h;exact⟨zq d,zq g,λt e H=>zq j t e (by simp[H]),m.imp Au id,q.imp Au id,Au z,Au B⟩
theorem O9{acc:List Nat}{i:Nat}:∀{l:List Edge} {s:Nat},(l.foldl (λs e=>if Region.binds .any e=zj then s ||| (2 ^ e.on) ||| acc.getD e.on 0 else s) s).testBit i=zj↔
  s.testBit i=zj\/∃e∈l,Region.binds .any e=zj/\(e.on=i\/(acc.getD e.on 0).testBit i=zj)
 | [],s=>by simp
 |e::l,s=>by
  simp only[vn];rw[O9];by_cases d:Region.binds .any e=zj
  .simp only[d,if_true,Nat.testBit_or,Kb,Nat.testBit_two_pow,Wa,Xs];constructor
   .rintro (((h|h)|h)|⟨c,h1,b⟩)
    .exact .inl h
    .exact .inr ⟨e,.inl rfl,d,.inl h⟩
    .exact .inr ⟨e,.inl rfl,d,.inr h⟩
    .exact .inr ⟨c,.inr h1,b⟩
   .rintro (h|⟨c,h1|h1,b,h3|h3⟩)
    .exact .inl (.inl (.inl h))
    .subst h1;exact .inl (.inl (.inr h3))
    .subst h1;exact .inl (.inr h3)
    .exact .inr ⟨c,h1,b,.inl h3⟩
    .exact .inr ⟨c,h1,b,.inr h3⟩
  .simp only[d,Xs];constructor
   .rintro (h|⟨c,h1,b⟩)
    .exact .inl (by simpa using h)
    .exact .inr ⟨c,.inr h1,b⟩
   .rintro (h|⟨c,h1|h1,b,h3⟩)
    .exact .inl (by simpa using h)
    .subst h1;exact absurd b d
    .exact .inr ⟨c,h1,b,h3⟩
theorem Ld:∀{os:List Oper} {acc:List Nat},∃t,pR os acc=acc++t
 | [],acc=>⟨[],by simp[pR]⟩
 |o::os,acc=>by obtain⟨t,h⟩:=Ld (os:=os) (acc:=acc++[mW acc o]);exact⟨mW acc o::t,by simp[pR,h]⟩
theorem Le:∀{os:List Oper} {acc:List Nat} {j:Nat} {o:Oper},os[j]?=zw o->∃b,(∃t,pR os acc=b++mW b o::t)/\b.length=acc.length+j
 | [],acc,j,o,h=>by simp at h
 |o'::os,acc,0,o,h=>by simp only[K4,Q0]at h;subst h;obtain⟨t,h⟩:=Ld (os:=os) (acc:=acc++[mW acc o']);exact⟨acc,⟨t,by simp[pR,h]⟩,rfl⟩
 |o'::os,acc,j+1,o,h=>by simp only[J0]at h;obtain⟨b,c,d⟩:=Le (acc:=acc++[mW acc o']) h;exact⟨b,c,by simp at d;omega⟩
def Down(ops:Array Oper)(D:Nat->Bool):Prop :=∀(j:Nat) o,ops[j]?=zw o->D j=zj->∀e∈o.after,Region.binds .any e=zj->D e.on=zj
theorem Lh(o:ops[g]?=zw x){i:Nat}:((pR ops.toList []).getD g 0).testBit i=zj↔
  ∃e∈x.after,Region.binds .any e=zj/\(e.on=i\/(e.on<g/\((pR ops.toList []).getD e.on 0).testBit i=zj)):=by
 have h:ops.toList[g]?=zw x:=by simpa using o
 obtain⟨acc,⟨t,m⟩,c⟩:=Le (acc:=[]) h;simp only[Ke,Vi]at c;rw[m];have y:(acc++mW acc x::t).getD g 0=mW acc x:=by rw[Q1,Wc (by omega),c];simp
 have d :∀k,(acc++mW acc x::t).getD k 0=if k<g then acc.getD k 0 else(acc++mW acc x::t).getD k 0:=by
  intro k;split
  .rename_i b;rw[Q1,Wf (by omega),<-Q1]
  .rfl
 rw[y];unfold mW;rw[O9];simp only[Nat.zero_testBit,Wb,false_or,Array.mem_toList_iff];constructor
 .rintro ⟨e,q1,q2,q3⟩;refine⟨e,q1,q2,q3.imp id λq=>?_⟩;by_cases b:e.on<g
  .refine ⟨b,?_⟩;have:=d e.on;rw[QQ b]at this;unfold mW at this;rw[this];exact q
  .have:acc.getD e.on 0=0:=by rw[Q1,Vv (by omega)];rfl
   rw[this]at q;simp at q
 .rintro ⟨e,q1,q2,q3⟩;refine⟨e,q1,q2,q3.imp id λ⟨b,q⟩=>?_⟩;have:=d e.on;rw[QQ b]at this;unfold mW at this;rw[this]at q;exact q
theorem zu(g:Down ops D):∀(j:Nat) {o:Oper},ops[j]?=zw o->D j=zj->∀i,((pR ops.toList []).getD j 0).testBit i=zj->D i=zj:=by
 intro j
 induction j using Nat.strongRecOn with
 |_ j y=>
  intro o c h i z;obtain⟨e,m,q,d|⟨d,B⟩⟩:=(Lh c).1 z
  .rw [<-d];exact g j o c h e m q
  .have H:j<ops.size:=(US.1 c).1;have b:e.on<ops.size:=by omega
   exact y e.on d (qt b) (g j o c h e m q) i B
theorem UY(b:ops[g]?=zw x)(h:(pR ops.toList []).getD g 0<2 ^ g){e:Edge}(c:e∈x.after)(d:Region.binds .any e=zj):e.on<g:=by have:=(Lh b (i:=e.on)).2 ⟨e,c,d,.inl rfl⟩;by_cases o:e.on<g;exact o;rw[Nat.testBit_lt_two_pow (Up h (Nat.pow_le_pow_right (by omega) (by omega)))]at this;cases this
end
section
variable {E:Env} {N:Nat} {bH:List Nat} {yP:Nat->Gh} {st:St} {a:Act} {w:World} {Pg:Program} {T:Tab} {tt:TT} {ops:Array Oper} {Q:Exit->Act->World->Prop}
theorem UZ(h:Rel E st u (λt=>a.tmps.getD t undef) w){x:S}{v:Value}(m:dU E st u w x v)(L:qQ Pg t G){c:Value}{p:Bool->Prop}(d:zn st.o x G.k c=zw p):
  ∃b,(Op.equal t v c).run Pg w=.ok b w/\p b:=by
 unfold zn at d;split at d
 .rename_i e H;have hu:=L.kind;rw[H]at hu;have hu:Pg.underlying t=zw (.slice e):=hu;have eqs :∀j n cap,(Op.equal t (.slice j n cap) (.slice zz 0 0)).run Pg w=.ok j.isNone w:=by intro j n cap;unfold Op.equal Op.maxDepth;show (Op.equalIn (9999+1) t _ _).run Pg w=_;unfold Op.equalIn;cases j<;>simp[fB hu]
  unfold O4 at d;split at d
  .cases d;have r:=m.gB;generalize z:(P.sl _ _)=y at r;cases r with
   |nil M j cap=>cases z;exact⟨_,eqs _ _ _,λh=>absurd rfl h⟩
   |sl M l ad cap f _ _ _ _ _ _=>cases z;exact⟨_,eqs _ _ _,λ_=>rfl⟩
   |_=>cases z
  .rename_i g;split at d
   rotate_left
   cases d;rename_i M l B;cases d;cases m.dW with
   |own _ _ _ J=>rw[J _ _ B];refine⟨_,eqs _ _ _,λz=>?_⟩;obtain⟨ad,K,_⟩:=(wW (h.bI g) B).2 (by omega);rw[K];rfl
  .cases d;cases m.dW;exact⟨_,eqs _ _ _,rfl⟩
  .cases d
 .rename_i H;have hu:=L.kind;rw[H]at hu;obtain⟨e,hu⟩:=(hu :∃e,Pg.underlying t=zw (.pointer e));have q :∀j,(Op.equal t (.pointer j) (.pointer zz)).run Pg w=.ok j.isNone w:=by intro j;unfold Op.equal Op.maxDepth;show (Op.equalIn (9999+1) t _ _).run Pg w=_;unfold Op.equalIn;cases j<;>simp[fB hu]
  unfold Ik at d;split at d
  .rename_i g off;split at d
   .rename_i U B;cases d;cases m.dW with
    |box _ _ _ _ J=>obtain⟨ad,_,rfl⟩:=J U B;exact⟨_,q _,rfl⟩
   .cases d
  .cases d;cases m.gB with
   |opq _ _=>exact⟨_,q _,rfl⟩
  .cases d
 .cases d
variable{o:Oper}
theorem U0(hT :∀f sp,T f=zw sp->Sound Pg (f % 1000000) sp)(htt:jv Pg tt)(hi:ops[g]?=zw o)(hg:Good E N bH yP st a w)(h:Ed T tt N ops o st K)
  {i:Act->World->Prop} (hK :∀e a' U,K e->Good E N bH yP (st.eff o.dst e) a' U->i a' U):wpOp Pg ops Q g i a w:=by
 unfold Ed at h;split at h
 .rename_i pos p hn;obtain⟨hd,h⟩:=h;have hd :∀d,o.dst=zw d->d<a.tmps.size:=by intro d e;rw[e]at hd;rw[hg.size];simpa using hd
  unfold QZ at hn;split at hn;cases hn;rename_i hgd;split at hn
  rotate_left
  cases hn;rename_i op t x c u Z;split at hn
  rotate_left
  cases hn;rename_i ti ht;obtain⟨gh,hR,NR⟩:=hg.ex;have B:=su hR x;have key :∀p',zn st.o (st.dK x) ti.k c=zw p'->∃b,(Op.equal t (a.eval x) c).run Pg w=.ok b w/\p' b:=λp' L=>UZ hR B (htt _ _ ht) L;have fin :∀b,(execOp a.eval o).run Pg w=.ok (.value (.bool (bif pos then b else !b))) w->p b->wpOp Pg ops Q g i a w:=by
   intro b q M;unfold wpOp;rw[hi];simp only;have:Region.wanted o (yielded ops a.tmps)=zj:=by simp[Region.wanted,hgd]
   rw[QQ this];left;show o.upon Pg a i Q ((execOp a.eval o).run Pg w);rw[q];refine hK _ _ _ (h b M) ⟨⟨gh,?_,λK' m=>?_⟩,by rw[Ea];exact hg.size,hg.defers.put _ _⟩
   .rw [D_ _ _ hd];unfold St.eff;simp only[Js];exact hR.put o.dst (dU.ofP (.bool _)) (by simp[scalar,S.names,V.names,W.names])
   .have ho:(st.eff o.dst { x:=scalar (.bool (bif pos then b else !b)),aJ:=[],new:=[] }).o K'=st.o K':=by unfold St.eff St.put;cases o.dst<;>simp[St.aJ]
    have hu:(st.eff o.dst { x:=scalar (.bool (bif pos then b else !b)),aJ:=[],new:=[] }).used K'=st.used K':=by unfold St.eff St.put;cases o.dst<;>simp[St.aJ]
    rw[ho,hu];exact NR K' m
  have hcv :∀b,(Op.equal t (a.eval x) c).run Pg w=.ok b w->(c=.slice zz 0 0\/c=.pointer zz)/\True->(eqGuard op t x (.const c) (a.eval x) c).run Pg w=.ok () w:=by
   intro b _ hc;unfold eqGuard;rcases hc.1 with rfl|rfl
   .cases op<;>first|rfl|(simp only;split<;>first|rfl|simp_all)
   .cases op<;>first|rfl|(simp only;split<;>first|rfl|simp_all)
  have hcc :∀p',zn st.o (st.dK x) ti.k c=zw p'->c=.slice zz 0 0\/c=.pointer zz:=by
   intro p' L;unfold zn at L;split at L
   .exact .inl rfl
   .exact .inr rfl
   .cases L
  split at hn
  .rename_i p' L;cases hn;obtain⟨b,X,hb2⟩:=key _ L;refine fin b ?_ hb2;have hge:=hcv b X ⟨hcc _ L,trivial⟩;unfold execOp;rw[Z];refine iE ?_;show (eqGuard _ t x (.const c) (a.eval x) c >>= λ_=>binOp _ t (a.eval x) c).run Pg w=_;rw[Sem.run_bind,hge];rcases hcc _ L with rfl|rfl<;>simp[binOp,X]
  .rename_i p' L;cases hn;obtain⟨b,X,hb2⟩:=key _ L;refine fin b ?_ hb2;have hge:=hcv b X ⟨hcc _ L,trivial⟩;unfold execOp;rw[Z];refine iE ?_;show (eqGuard _ t x (.const c) (a.eval x) c >>= λ_=>binOp _ t (a.eval x) c).run Pg w=_;rw[Sem.run_bind,hge];rcases hcc _ L with rfl|rfl<;>simp[binOp,X]
  .cases hn
 .split at h
  .rename_i K' s n hn;obtain⟨hd,h1,h2⟩:=h;have hd :∀d,o.dst=zw d->d<a.tmps.size:=by intro d e;rw[e]at hd;rw[hg.size];simpa using hd
   unfold Q5 at hn;split at hn;cases hn;rename_i hgd;split at hn
   rotate_left
   cases hn;rename_i x Z;split at hn
   rotate_left
   cases hn;rename_i g' B;split at hn
   rotate_left
   cases hn;rename_i s' n' H;simp only[Q0,QP]at hn;obtain⟨rfl,rfl,rfl⟩:=hn;obtain⟨gh,hR,NR⟩:=hg.ex;have hrx:=su hR x;rw[B]at hrx;obtain⟨ad,had,J⟩ :∃ad,(gh g').ad=zw ad/\a.eval x=.pointer (zw ⟨ad.block,0,zz⟩):=by have:=hrx.dW;generalize a.eval x=z at this;cases this with|oI _ _ _ M=>exact M _ _ H
   have hO:=hR.bI g';rw[H]at hO;obtain⟨ad',y,k,q1,rfl,rfl,q4⟩:=hO;rw[had]at q1;cases q1;have hlt:ad.block<w.heap.size:=(hR.wr g' ad.block (by rw[H];rfl) (Gh.kN had)).2;have Y:(P.int .i64 (k:Int)).nat=k:=by simp[P.nat,P.num]
   have hget:(getObj ad.block).run Pg w=.ok (.stringIter y k) w:=by simp[getObj,Sem.run,q4]
   have fin :∀(v:Value) (U:World) (e:Eff),(∀b,b≠ad.block->U.heap[b]?=w.heap[b]?)->(Instr.next (a.eval x) zj o.type).run Pg w=.ok v U->K e->Rel E (st.aJ e.aJ e.new) gh (λt=>a.tmps.getD t undef) U->dU E (st.aJ e.aJ e.new) gh U e.x v->(∀K'∈e.x.names,(st.aJ e.aJ e.new).used K'=zj)->
     (∀K',st.used K'=zj->(st.aJ e.aJ e.new).used K'=zj)->(∀K',((st.aJ e.aJ e.new).o K'=.none\/True)/\(st.o K'=.none->(st.aJ e.aJ e.new).o K'=.none))->wpOp Pg ops Q g i a w:=by
    intro v U e hmm q hke hR' hx' hn' hu' ho';unfold wpOp;rw[hi];simp only;have:Region.wanted o (yielded ops a.tmps)=zj:=by simp[Region.wanted,hgd]
    rw[QQ this];left;show o.upon Pg a i Q ((execOp a.eval o).run Pg w);have:(execOp a.eval o).run Pg w=.ok (.value v) U:=by unfold execOp;rw[Z];exact iE q
    rw[this];refine hK e _ _ hke ⟨⟨gh,?_,λK' m=>?_⟩,by rw[Ea];exact hg.size,hg.defers.same (λD _ h3=>hmm D λe'=>by rw[e',q4]at h3;cases h3) _ _⟩
    .rw [D_ _ _ hd];exact hR'.put o.dst hx' hn'
    .obtain ⟨p1,p2⟩:=NR K' m;have ho2:(st.eff o.dst e).o K'=(st.aJ e.aJ e.new).o K':=by unfold St.eff St.put;cases o.dst<;>rfl
     have hu2:(st.eff o.dst e).used K'=(st.aJ e.aJ e.new).used K':=by unfold St.eff St.put;cases o.dst<;>rfl
     refine⟨by rw[hu2];exact hu' K' p1,?_⟩;rw[ho2];rcases p2 with p2|p2
     .exact .inl ((ho' K').2 p2)
     .exact .inr p2
   cases M:UU (.str y) (.int .i64 k)with
   |true=>
    have hkb:k<y.size:=by have:=Zs M;rw[Y]at this;exact this
    have q:(Instr.next (a.eval x) zj o.type).run Pg w=.ok (.tuple #[.bool zj,.int .i64 k,.int .i32 (Utf8.decode y k).1]) { w with heap:=w.heap.setIfInBounds ad.block (.stringIter y (k+(Utf8.decode y k).2)) }:=by
     rw[J];simp only[Instr.next,Sem.run_bind,hget,Result.andThen_ok];rw[QQ hkb];have hset:(setObj ad.block (.stringIter y (k+(Utf8.decode y k).2))).run Pg w=.ok () { w with heap:=w.heap.setIfInBounds ad.block (.stringIter y (k+(Utf8.decode y k).2)) }:=by simp[setObj,Sem.run,q4]
     simp only[Sem.run_bind,hset,Result.andThen_ok,Sem.run_pure];rfl
    obtain⟨w1,w2⟩:=hR.write g' ad (by rw[H];rfl) had (.it (.str y) (XF (.str y) (.int .i64 k))) (by rw[H];trivial) { w with heap:=w.heap.setIfInBounds ad.block (.stringIter y (k+(Utf8.decode y k).2)) }
     (λb M=>by simp[qb,Ne.symm M]) (by simp) rfl rfl rfl rfl (λ_ e=>by cases e) (λ_=>by rw[H];rfl)
     (λ_=>⟨ad,y,k+(Utf8.decode y k).2,had,rfl,by simp only[XF,lV,Y];rfl,by simp[hlt]⟩) (λK' hg=>by simp[O.names]at hg)
    have hold :∀K',K'≠g'->(st.aJ (KZ g' (.str y) (.int .i64 k)).aJ (KZ g' (.str y) (.int .i64 k)).new).o K'=st.o K':=by
     intro K' hne;have:(K'==g')=zv:=by simpa using hne
     simp[KZ,St.aJ,List.lookup,this]
    refine fin _ _ (KZ g' (.str y) (.int .i64 k)) (λb M=>by simp[qb,Ne.symm M]) q (h1 M) w1 ?_ ?_ ?_ ?_
    .refine .jy _ _ rfl λj x v B J=>?_
     match j,B,J with
     |0,B,J=>cases B;cases J;exact .one _ _ (.p _ _ _ _ (.bool _))
     |1,B,J=>cases B;cases J;exact .one _ _ (.p _ _ _ _ (by rw[Y];exact .int _ _))
     |2,B,J=>cases B;cases J;exact .one _ _ (.p _ _ _ _ (by simp only[aeC,Y];exact .int _ _))
     |j+3,B,_=>cases B
    .intro K' m;simp[KZ,S.names,V.names,W.names]at m
    .intro K' m;simp[St.aJ,m]
    .intro K';refine⟨.inr trivial,λh0=>?_⟩;by_cases e:K'=g'
     .subst e;rw[H]at h0;cases h0
     .rw [hold K' e];exact h0
   |false=>
    have hkb:¬ k<y.size:=by have:=ZD M;rw[Y]at this;exact this
    have q:(Instr.next (a.eval x) zj o.type).run Pg w=.ok (.tuple #[.bool zv]) w:=by rw[J];simp only[Instr.next,Sem.run_bind,hget,Result.andThen_ok];rw[Qt hkb];rfl
    refine fin _ _ O5 (λ_ _=>rfl) q (h2 M) (by rw[show O5.aJ=[] from rfl,show O5.new=[] from rfl,Js];exact hR) ?_ ?_ ?_ ?_
    .refine .jy _ _ rfl λj x v B J=>?_
     match j,B,J with
     |0,B,J=>cases B;cases J;exact .one _ _ (.p _ _ _ _ (.bool _))
     |j+1,B,_=>cases B
    .intro K' m;simp[O5,S.names,V.names,W.names]at m
    .intro K' m;simp[St.aJ,m]
    .intro K';exact⟨.inr trivial,λh0=>by simpa[O5,St.aJ]using h0⟩
  .obtain ⟨e,hc,h⟩:=UM h;exact KU hT htt hi hg hc λa' U m=>hK e a' U h m
theorem Ef(m :∀f sp,T f=zw sp->Sound Pg (f % 1000000) sp)(b:jv Pg tt){K:St->Prop}(q :∀st' d g,K st'->Good E N bH yP st' d g->Q .normal d g):
  ∀(c:List Nat) {st:St} {a:Act} {w:World},xG T tt N ops c st K->Good E N bH yP st a w->wpOps Pg ops Q c a w
 | [],st,a,w,h,hg=>q st a w h hg
 |i::c,st,a,w,h,hg=>by
  simp only[xG]at h;split at h
  .rename_i o y;rw[wpOps_cons];exact U0 m b y hg h λe d g h j=>Ef m b q c h j
  .cases h
theorem Ip{K:St->List uS->Prop}:∀(m k:Nat) (es:Nat->Eff) (fs:List uS),fs.length=k->qo T tt N ops (List.range' k m) (SD ops es st (λ_=>zj) k) fs K->
  ∃(es':Nat->Eff) (c:List uS),(∀i<k,es' i=es i)/\(∀i<k,c[i]?=fs[i]?)/\K (SD ops es' st (λ_=>zj) (k+m)) c/\
   ∀i,k<=i->i<k+m->∃o,ops[i]?=zw o/\Can T tt N ops (SD ops es' st (λ_=>zj) i) o (es' i)/\c[i]?=zw { rd:=uQ T (SD ops es' st (λ_=>zj) i) o,wr:=(es' i).aJ.map (·.1),new:=(es' i).new,ld:=Ol tt (SD ops es' st (λ_=>zj) i) o,kp:=Q7 (SD ops es' st (λ_=>zj) i) o (es' i),pk:=nY o.op,kd:=XG (SD ops es' st (λ_=>zj) i) (es' i) }
 |0,k,es,fs,g,h=>⟨es,fs,λ_ _=>rfl,λ_ _=>rfl,h,λi B H=>by omega⟩
 |m+1,k,es,fs,g,h=>by
  simp only[qv,qo]at h;split at h
  rotate_left
  cases h;rename_i o q;obtain⟨e,J,h⟩:=UM h
  let b:Nat->Eff:=λi=>if i=k then e else es i
  have y:SD ops b st (λ_=>zj) k=SD ops es st (λ_=>zj) k:=Lc λi j=>by simp only[b];rw[Qt (by omega)]
  have L:SD ops b st (λ_=>zj) (k+1)=(SD ops es st (λ_=>zj) k).eff o.dst e:=by simp only[SD,if_true];rw[y,q];simp[b]
  rw[<-L]at h;obtain⟨es',c,q1,q2,q3,q4⟩:=Ip m (k+1) b _ (by simp[g]) h;have z:SD ops es' st (λ_=>zj) k=SD ops es st (λ_=>zj) k:=(Lc λi j=>q1 i (by omega)).trans y;refine⟨es',c,λi j=>?_,λi j=>?_,by rw[show k+(m+1)=k+1+m by omega];exact q3,λi B H=>?_⟩
  .rw [q1 i (by omega)];simp only[b];rw[Qt (by omega)]
  .rw [q2 i (by omega),Wf (by omega)]
  .by_cases e:i=k
   .subst e;have d:es' i=e:=by rw[q1 i (by omega)];simp[b]
    refine⟨o,q,by rw[z,d];exact J,?_⟩;rw[q2 i (by omega),Wc (by omega),z,d];simp[g]
   .exact q4 i (by omega) (by omega)
def Rng(ws:List W)(off n:Nat)(x:O):Prop :=∃c,x=.box c/\c.length=ws.length/\∀b,off<=b->b<off+n->c[b]?=ws[b]?
theorem Lj{g:Nat}:∀{j:Nat} {xs b:List W} {r:List (Nat×Nat)},Ee g j xs b=zw r->xs.length=b.length/\∀p∈r,p.1=g/\j<=p.2/\xs[p.2-j]?=b[p.2-j]?
 |j,[],[],r,h=>by simp only[Ee,Q0]at h;subst h;exact⟨rfl,λp hp=>by cases hp⟩
 |j,[],y::b,r,h=>by simp[Ee]at h
 |j,x::xs,[],r,h=>by simp[Ee]at h
 |j,x::xs,y::b,r,h=>by
  simp only[Ee]at h;split at h
  rotate_left
  cases h;rename_i m q;obtain⟨z,B⟩:=Lj q;have d :∀p∈m,p.1=g/\j<=p.2/\(x::xs)[p.2-j]?=(y::b)[p.2-j]?:=λp hp=>by obtain⟨H,a2,a3⟩:=B p hp;refine⟨H,by omega,?_⟩;rw[show p.2-j=(p.2-(j+1))+1 by omega,J0,J0];exact a3
  simp only[Q0]at h;refine⟨by simp[z],λp hp=>?_⟩;rw[<-h]at hp;split at hp
  rotate_left
  exact d p hp;rename_i c;rcases Xs.1 hp with rfl|hp
  rotate_left
  exact d p hp;refine⟨rfl,YY _,?_⟩;have:x=y:=by
   cases x<;>cases y<;>simp only[aeD]at c<;>first|(cases c)|skip
   .rw [Q6 c]
   .simp only[QR]at c;rw[Q6 c.1,Q6 c.2]
  simp[this]
theorem Cj{st:St}{off:Nat}(h:Ol tt st x=zw (g,off,d)):(∃t n i,x.op=.load t n/\tt t=zw i/\i.size=d/\st.dK n=.v (.one (.box g off)))\/
  ((off=5000000/\d=1)/\∃t n i m b a0 i0 sz au l hole,x.op=.load t n/\tt t=zw i/\st.dK n=.v (.one (.ep g m b))/\st.o g=.aO a0 i0 sz au l hole/\jH au b i.size=[]):=by
 unfold Ol at h;split at h
 rotate_left
 cases h;rename_i t n c;split at h
 .rename_i i g' b o j;cases h;exact .inl ⟨t,n,i,c,o,rfl,j⟩
 .rename_i i g' m b o j;split at h
  rotate_left
  cases h;rename_i a0 i0 sz au l hole z;cases y:jH au b i.size with
  |nil=>rw[y]at h;have h:zw (g',5000000,1)=zw (g,off,d):=h;cases h;exact .inr ⟨⟨rfl,rfl⟩,t,n,i,m,b,a0,i0,sz,au,l,hole,c,o,j,z,y⟩
  |cons q B=>rw[y]at h;have h:(zz:Option (Nat×Nat×Nat))=zw (g,off,d):=h;cases h
 .cases h
theorem rG{st:St}(h:K_ x.op=zj\/nY x.op=zj):jJ st x=[]:=by
 refine Xr ?_;unfold argNames;split
 .rename_i f args ts b;rw[b]at h;rcases h with h|h<;>cases h
 .rename_i b;rw[b]at h;rcases h with h|h<;>cases h
 .rfl
theorem ab8{st:St}{off:Nat}(h:Ol tt st x=zw (g,off,d)):g∈uQ T st x:=by
 rcases Cj h with⟨t,n,i,b,_,_,c⟩|⟨_,t,n,i,m,o,a0,i0,q,y,l,j,b,_,c,_⟩
 all_goals
  refine W6 _ ?_;rw[rG (.inl (by rw[b];rfl))];unfold Ec;rw[b];show g∈(bif _ then _ else _)++_;refine W6 _ (Z2.2 ⟨n,by simp[Op.operands],Z2.2 ⟨g,?_,by simp⟩⟩);show g∈(st.dK n).names;rw[c];simp[S.names,V.names,W.names]
theorem U1{es:Nat->Eff}{D:Nat->Bool}{g:Nat}:∀(n:Nat),∃m,(∀k,m<=k->k<n->D k=zj->g∉(es k).aJ.map (·.1))/\(SD ops es st D n).o g=(SD ops es st (λ_=>zj) m).o g/\(m=0\/∃k,m=k+1/\k<n/\D k=zj/\g∈(es k).aJ.map (·.1))
 |0=>⟨0,λk _ h=>by omega,rfl,.inl rfl⟩
 |n+1=>by
  obtain⟨m,y,j,z⟩:=U1 (D:=D) (g:=g) n;by_cases d:D n=zj/\g∈(es n).aJ.map (·.1)
  .obtain ⟨hd,hg⟩:=d;refine⟨n+1,λk a b=>by omega,?_,.inr ⟨n,rfl,by omega,hd,hg⟩⟩;simp only[SD,hd,if_true,zo];cases B:(es n).aJ.lookup g with
   |some x=>rfl
   |none=>
    exfalso;obtain⟨p,H,e⟩:=XN.1 hg;have :∀{l:List (Nat×O)},p∈l->l.lookup p.1≠zz:=by
     intro l
     induction l with
     |nil=>intro h;cases h
     |cons q l J=>
      intro h hn;simp only[List.lookup]at hn;split at hn;cases hn;rename_i K;rcases Xs.1 h with h|h
      .subst h;simp at K
      .exact J h hn
    exact this H (by rw[e];exact B)
  .refine ⟨m,λk a b hd hg=>?_,?_,z.imp id λ⟨k,a,b,c⟩=>⟨k,a,by omega,c⟩⟩
   .by_cases e:k=n
    .subst e;exact d ⟨hd,hg⟩
    .exact y k a (by omega) hd hg
   .cases hd:D n with
    |false=>simp only[SD,hd,Wb,if_false];exact j
    |true=>have hg:g∉(es n).aJ.map (·.1):=λhg=>d ⟨hd,hg⟩;simp only[SD,hd,if_true,zo,kT hg];exact j
variable{x:Operand}
theorem Cm{st:St}{off:Nat}(y:o.op=.load t x)(z:tt t=zw G)(B:st.dK x=.v (.one (.box n off))):
  jK T tt g st o K↔∃b,st.o n=.box b/\(off+G.size<=b.length/\0<G.size)/\K { x:=V.gI G.agg ((b.drop off).take G.size),aJ:=[],new:=[] }:=by
 have H :∀q,dY tt q g st.o st.dK (.load t x) o.type=zz:=λq=>by simp only[dY,uJ,z,B];cases Us q<;>rfl
 have e:jK T tt g st o K↔(match kernel tt g st.o st.dK (.load t x) o.type with
   |some r=>r.pre/\K { x:=r.dst r.val,aJ:=r.aJ r.val,new:=r.new }
   |none=>False):=by
  rw[tJ (rG (.inl (by rw[y];rfl)))];unfold lq;rw[y];simp only[H,reduceCtorEq,false_and,exists_false,false_or,H_,cond_false];cases kernel tt g st.o st.dK (.load t x) o.type<;>rfl
 rw[e];simp only[kernel,z,B];cases J:st.o n with
 |box b=>
  simp only;by_cases m:off+G.size<=b.length/\0<G.size
  .rw [QQ m];simp only[Fj.pure,true_and];constructor
   .intro h;exact⟨b,rfl,m,h⟩
   .rintro ⟨c,j,_,h⟩;cases j;exact h
  .rw [Qt m];simp only[false_iff];rintro ⟨c,j,h,_⟩;cases j;exact m h
 |_=>simp only[false_iff];rintro ⟨c,j,_⟩;cases j
theorem Zk{st:St}{x:Oper}(c:Can T tt N ops st x e){Q:Eff->Prop}(hs:Q Eff.skip)(key :∀{d:Nat},(jK T tt d st x λh=>h.new.all (λg=>!st.used g)=zj/\h=e)->Q e):Q e:=by
 unfold Can stepW at c;obtain⟨_,c⟩:=c;split at c;exact key c;split at c
 .rename_i b _;cases b with
  |true=>exact key c
  |false=>have c:Eff.skip=e:=c;rw[<-c];exact hs
 .cases c
variable{l:List (List P)}
theorem Ll{st:St}{off sz:Nat}{m:P}{a0 i0:Bool}{hole:Option (Nat×Nat×Nat)}(X:o.op=.load t x)(y:tt t=zw G)(z:st.dK x=.v (.one (.ep n m off)))
  (B:st.o n=.aO a0 i0 sz r l hole) (J:jH r off G.size=[])  :
  jK T tt g st o K↔(off+G.size<=sz/\0<G.size)/\K { x:=V.gI G.agg ((List.range G.size).map λj=>.p a0 i0 ((l.getD m.nat []).getD (off+j) (Ub G.zero j))),aJ:=[],new:=[] }:=by
 have Y:kernel tt g st.o st.dK (.load t x) o.type=zz:=by simp only[kernel,y,z,B]
 have Z:uJ tt st.o st.dK t x=zz:=by
  unfold uJ;simp only[y,z];cases b:jI st.o n with
  |none=>rfl
  |some q=>
   obtain⟨a,i',sz',H,l'⟩:=q;simp only;have h:H=r:=by
    unfold jI at b;rw[B]at b;simp only at b;split at b
    .simp only[Q0,QP]at b;exact b.2.2.2.1.symm
    .split at b
     .split at b
      .simp only[Q0,QP]at b;exact b.2.2.2.1.symm
      .cases b
     .cases b
   subst h;cases hl:H.lookup off with
   |none=>rfl
   |some s=>
    simp only;rw[Qt];rintro ⟨_,L,_⟩;have hm:(off,s)∈H:=ku hl;have:(off,s)∈jH H off G.size:=by unfold jH;rw[v8];exact⟨hm,by rw[L];simp⟩
    rw[J]at this;cases this
 rw[tJ (rG (.inl (by rw[X];rfl)))];unfold lq;rw[X];simp only[Y,or_false];constructor
 .rintro ⟨dc,i,c,hp,hb⟩;simp only[dY]at c;cases hd:Us dc with
  |true=>rw[hd]at c;simp only[cond_true,Z]at c;cases c
  |false=>
   rw[hd]at c;simp only[cond_false,y,z,B,J]at c;split at c
   .rename_i M;cases c;exact⟨M,Oe.iff.1 hb⟩
   .cases c
 .rintro ⟨M,U⟩;refine⟨[],.pure (V.gI G.agg ((List.range G.size).map λj=>.p a0 i0 ((l.getD m.nat []).getD (off+j) (Ub G.zero j)))),?_,trivial,Oe.iff.2 U⟩;simp only[dY,Us,cond_false,y,z,B,J];rw[QQ M]
theorem U2{st:St}{x:Oper}{off:Nat}(z:Can T tt N ops st x e)(B:Ol tt st x=zw (g,off,d)):e.aJ=[]:=by
 refine Zk (Q:=λe=>e.aJ=[]) z rfl λ{o} h=>?_;rcases Cj B with⟨t,n,i,b,c,K,j⟩|⟨_,t,n,i,m,q,a0,i0,L,M,l,y,b,c,j,H,J⟩
 .obtain ⟨U,_,_,_,rfl⟩:=(Cm b c j).1 h;rfl
 .obtain ⟨_,_,rfl⟩:=(Ll b c j H J).1 h;rfl
theorem ab9{st:St}{a:Bool}(hc:Can T tt N ops st o e)(X:o.op=.load t x)(Y:st.o g=.aO a i n r l zz){H:Bool}{J:List (Nat×Nat)}{K:List (List P)}{iG:Option (Nat×Nat×Nat)}
  (j:e.aJ.lookup g=zw (.aO B H d J K iG)):(O.aO B H d J K iG).core=(O.aO a i n r l zz).core:=by
 refine Zk (Q:=λe=>e.aJ.lookup g=zw (.aO B H d J K iG)->_) hc (λh=>by cases h) (λ{sz} h j=>?_) j;rw[tJ (rG (.inl (by rw[X];rfl)))]at h;unfold lq at h;rw[X]at h;simp only at h;rcases h with⟨dc,m,b,hp,M⟩|h
 .have M:=(Oe.iff.1 M).2;rw[<-M]at j;simp only at j;simp only[dY]at b;cases hd:Us dc with
  |true=>
   rw[hd]at b;simp only[cond_true]at b;unfold uJ at b
   repeat' split at b
   all_goals first|(cases b;done)|skip
   cases b;simp[Fj.pure,rV]at j
  |false=>
   rw[hd]at b;simp only[cond_false]at b;split at b
   rotate_left
   cases b;rename_i i1 g1 n1 Z _ _;split at b
   rotate_left
   cases b;rename_i a1 i2 sz1 ax_ l1 aya y;split at b
   rotate_left
   cases b;split at b
   .cases b;simp[Fj.pure,rV]at j
   .rename_i c s _;split at b
    rotate_left
    cases b;rename_i a2 i3 sz2 ap0 l2 U;cases b;simp only[List.lookup]at j;cases hg:g==g1 with
    |true=>
     have e1:g=g1:=by simpa using hg
     subst e1;rw[hg]at j;simp only[Q0]at j;rw[Y]at y;cases y;unfold jI at U;rw[Y]at U;cases U;rw[<-j];rfl
    |false=>
     rw[hg]at j;simp only at j;cases z:g==sz with
     |true=>rw[z]at j;cases j
     |false=>
      rw[z]at j;simp only at j;exfalso;have :∀gs:List Nat,(kills gs).lookup g≠zw (.aO B H d J K iG):=λgs=>by
       induction gs with
       |nil=>intro h;cases h
       |cons q qs ih=>
        intro h;simp only[kills,Qf,List.lookup]at h;split at h
        .cases h
        .exact ih h
      exact this _ j
   .cases b
 .split at h
  rotate_left
  cases h;rename_i m L;obtain⟨_,h⟩:=h;have h:(_:Prop)/\({ x:=m.dst m.val,aJ:=m.aJ m.val,new:=m.new }:Eff)=e:=h;rw[<-h.2]at j;have:m.aJ m.val=[]:=by
   simp only[kernel]at L
   repeat' split at L
   all_goals first|(cases L;done)|(cases L;rfl)
  simp only[this]at j;cases j
theorem FW{st:St}{x:Oper}{p:Nat×Nat}(B:Can T tt N ops st x e)(h:p∈Q7 st x e):nY x.op=zj\/(∃m wb,st.o p.1=.box m/\e.aJ.lookup p.1=zw (.box wb)/\m.length=wb.length/\m[p.2]?=wb[p.2]?)\/
  ∃o,e.aJ.lookup p.1=zw o/\o.core=(st.o p.1).core/\(st.o p.1).core≠zz:=by
 unfold Q7 at h;rcases Ys.1 h with h|h
 .cases hp:nY x.op with
  |true=>exact .inl rfl
  |false=>rw[hp]at h;cases h
 obtain⟨g,_,hp⟩:=Z2.1 h;rcases Ys.1 hp with hp|hp
 .refine .inr (.inl ?_);cases b:st.o g with
  |box H=>
   cases c:e.aJ.lookup g with
   |none=>rw[b,c]at hp;cases hp
   |some o=>
    cases o with
    |box z=>
     rw[b,c]at hp;simp only[UW]at hp;split at hp
     .rename_i r J;obtain⟨K,L⟩:=Lj J;obtain⟨rfl,_,a3⟩:=L p hp;exact⟨H,z,b,c,K,by simpa using a3⟩
     .cases hp
    |_=>rw[b,c]at hp;cases hp
  |_=>rw[b]at hp;cases hp
 .refine .inr (.inr ?_);cases d:x.op with
  |load t o=>
   rw[d]at hp;simp only[K_,cond_true]at hp;cases b:st.o g with
   |aO a i U X l j=>
    cases j with
    |some q=>rw[b]at hp;revert hp;cases e.aJ.lookup g with
     |none=>intro hp;cases hp
     |some y=>cases y<;>intro hp<;>cases hp
    |none=>
     cases c:e.aJ.lookup g with
     |none=>rw[b,c]at hp;cases hp
     |some y=>
      cases y with
      |aO Y Z M iZ l' iG=>rw[b,c]at hp;have hp:p∈[(g,5000000)]:=hp;rw[X1]at hp;subst hp;exact⟨_,c,by rw[b];exact ab9 B d b c,by rw[b];simp[O.core]⟩
      |_=>rw[b,c]at hp;cases hp
   |_=>rw[b]at hp;cases hp
  |_=>rw[d]at hp;cases hp
theorem ab_{st:St}(h:g∈XG st e):∃x,e.aJ.lookup g=zw x/\kindOf x=kindOf (st.o g):=by
 unfold XG at h;obtain⟨g',_,b⟩:=qi.1 h;cases c:e.aJ.lookup g' with
 |none=>rw[c]at b;cases b
 |some x=>
  rw[c]at b;simp only at b;cases d:Nat.beq (kindOf x) (kindOf (st.o g'))with
  |false=>rw[d]at b;cases b
  |true=>rw[d]at b;cases b;exact⟨x,c,Q6 d⟩
theorem O_{o':Nat->O}{x:W}(h :∀g∈x.names,kindOf (s g)=kindOf (o' g)):x.live s=x.live o':=by
 cases x<;>simp only[W.live]<;>first|rfl|skip
 .rename_i g off;have:=h g (by simp[W.names]);cases b:s g<;>cases c:o' g<;>rw[b,c]at this<;>first|rfl|cases this
 .rename_i g n off;have:=h g (by simp[W.names]);cases b:s g<;>cases c:o' g<;>rw[b,c]at this<;>first|rfl|cases this
theorem U3{o':Nat->O}{F F':Operand->S}{op:Op}(m:nY op=zj)(h :∀x∈op.operands.toList,F x=F' x)(j :∀x∈op.operands.toList,∀ty∈(F x).names,kindOf (s ty)=kindOf (o' ty)):
  kernel tt g s F op t=kernel tt g o' F' op t:=by
 cases op<;>first|(cases m;done)|skip
 .rename_i x;have c:=h x (by simp[Op.operands]);have b:=j x (by simp[Op.operands]);simp only[kernel,<-c];generalize F x=z at b;split
  .rename_i x;rw[O_ (o':=o') λty hg=>b ty (by simpa[S.names,V.names]using hg)]
  .rfl
 .rename_i o x n;have c:=h x (by simp[Op.operands]);have b:=j x (by simp[Op.operands]);simp only[kernel,<-c];generalize F x=z at b;split
  .rename_i x _ _;rw[O_ (o':=o') λty hg=>b ty (by simpa[S.names,V.names]using hg)]
  .rfl
theorem CB{st:St}(b:nY o.op=zj):
  jK T tt g st o K↔(match kernel tt g st.o st.dK o.op o.type with
   |some r=>r.pre/\K { x:=r.dst r.val,aJ:=r.aJ r.val,new:=r.new }
   |none=>False):=by
 rw[tJ (rG (.inr b))];unfold lq;cases c:o.op<;>rw[c]at b<;>first|(cases b;done)|skip
 all_goals
  simp only[dY,reduceCtorEq,false_and,exists_false,false_or,H_,cond_false];generalize kernel tt g st.o st.dK _ o.type=z;cases z<;>rfl
theorem acd{F:Operand->S}{op:Op}{r:Fj}(b:nY op=zj)(h:kernel tt g s F op t=zw r):r.aJ r.val=[]:=by
 cases op<;>first|(cases b;done)|skip
 all_goals
  simp only[kernel]at h;split at h
  .split at h
   .cases h;rfl
   .cases h
  .cases h
theorem Eh{st:St}{x:Oper}(c:Can T tt N ops st x e)(j:nY x.op=zj):e.aJ=[]:=by
 have key :∀{d:Nat},(jK T tt d st x λm=>m.new.all (λg=>!st.used g)=zj/\m=e)->e.aJ=[]:=by
  intro d h;have h:=(CB j).1 h;split at h
  .rename_i r q;obtain⟨_,_,rfl⟩:=h;exact acd j q
  .cases h
 unfold Can stepW at c;obtain⟨_,c⟩:=c;split at c;exact key c;split at c
 .rename_i b _;cases b with
  |true=>exact key c
  |false=>have c:Eff.skip=e:=c;rw[<-c];rfl
 .cases c
theorem aeF{st:St}{x:Oper}(c:Can T tt N ops st x e)(m:nY x.op=zj)(hs :∀t∈x.looksAt ops,st.s t=H.s t)(q :∀o∈x.op.operands.toList,∀g∈(st.dK o).names,kindOf (st.o g)=kindOf (H.o g))(hu :∀g∈e.new,st.used g=H.used g):Can T tt N ops H x e:=by
 have y :∀o∈x.op.operands.toList,st.dK o=H.dK o:=by
  intro o z;cases o with
  |tmp t=>exact hs t (W6 _ (qi.2 ⟨_,z,rfl⟩))
  |_=>rfl
 have B:kernel tt (x.dst.getD 0) st.o st.dK x.op x.type=kernel tt (x.dst.getD 0) H.o H.dK x.op x.type:=U3 m y q
 have eff:(jK T tt (x.dst.getD 0) st x λd=>d.new.all (λg=>!st.used g)=zj/\d=e)->(jK T tt (x.dst.getD 0) H x λd=>d.new.all (λg=>!H.used g)=zj/\d=e):=by
  intro h;have h:=(CB m).1 h;refine(CB m).2 ?_;rw[<-B];split at h
  .obtain ⟨q1,q2,rfl⟩:=h;refine⟨q1,?_,rfl⟩;rw[Z3]at q2 ⊢;intro g hg;rw[<-hu g hg];exact q2 g hg
  .cases h
 unfold Can stepW at *;refine⟨c.1,?_⟩;have c:=c.2;cases hg:x.guard with
 |none=>rw[hg]at c;exact eff c
 |some p=>
  obtain⟨j,want⟩:=p;rw[hg]at c;simp only at c ⊢;have:guardOf ops st j want=guardOf ops H j want:=by
   unfold guardOf;cases hd:(ops[j]?).bind (·.dst)with
   |none=>rfl
   |some t=>simp only;rw[hs t (UV _ (by simp[hg,hd]))]
  rw[<-this];split at c
  .rename_i b st';cases b with
   |true=>exact eff c
   |false=>exact c
  .cases c
theorem aeG{st:St}{x:Oper}{off:Nat}(c:Can T tt N ops st x e)(hs :∀t∈x.looksAt ops,st.s t=H.s t)(n:x.op=.load t q)(y:tt t=zw G)(U:G.size=d)(z:st.dK q=.v (.one (.box g off)))
  (st':0<d->∀o,st.o g=.box o->Rng o off d (H.o g)) (hu :∀g∈e.new,st.used g=H.used g):Can T tt N ops H x e:=by
 have J:H.dK q=.v (.one (.box g off)):=by
  rw[<-z];cases q with
  |tmp t=>exact(hs t (W6 _ (qi.2 ⟨.tmp t,by simp[n,Op.operands],rfl⟩))).symm
  |_=>rfl
 have eff:(jK T tt (x.dst.getD 0) st x λm=>m.new.all (λg=>!st.used g)=zj/\m=e)->(jK T tt (x.dst.getD 0) H x λm=>m.new.all (λg=>!H.used g)=zj/\m=e):=by
  intro h;obtain⟨o,K,⟨q1,q2⟩,q3,rfl⟩:=(Cm n y z).1 h;obtain⟨B,L,X,M⟩:=st' (by omega) o K;refine(Cm n y J).2 ⟨B,L,⟨by omega,q2⟩,rfl,?_⟩;have key:(B.drop off).take G.size=(o.drop off).take G.size:=by
   refine qn λk=>?_;rw[ZZ,ZZ];split
   .rw [Wo,Wo];exact M _ (by omega) (by omega)
   .rfl
  rw[key]
 unfold Can stepW at *;refine⟨c.1,?_⟩;have c:=c.2;cases hg:x.guard with
 |none=>rw[hg]at c;exact eff c
 |some p=>
  obtain⟨j,want⟩:=p;rw[hg]at c;simp only at c ⊢;have:guardOf ops st j want=guardOf ops H j want:=by
   unfold guardOf;cases hd:(ops[j]?).bind (·.dst)with
   |none=>rfl
   |some t=>simp only;rw[hs t (UV _ (by simp[hg,hd]))]
  rw[<-this];split at c
  .rename_i b Y;cases b with
   |true=>exact eff c
   |false=>exact c
  .cases c
theorem amY{st:St}{x:Oper}{off:Nat}(c:Can T tt N ops st x e)(hs :∀t∈x.looksAt ops,st.s t=H.s t){m:P}{a0 i0:Bool}{hole:Option (Nat×Nat×Nat)}(o:x.op=.load t q)(z:tt t=zw G)(B:st.dK q=.v (.one (.ep g m off)))
  (J:st.o g=.aO a0 i0 d r l hole) (K:jH r off G.size=[]) (sz:(H.o g).core=(st.o g).core) (hu :∀g∈e.new,st.used g=H.used g):Can T tt N ops H x e:=by
 have U:H.dK q=.v (.one (.ep g m off)):=by
  rw[<-B];cases q with
  |tmp t=>exact(hs t (W6 _ (qi.2 ⟨.tmp t,by simp[o,Op.operands],rfl⟩))).symm
  |_=>rfl
 have eff:(jK T tt (x.dst.getD 0) st x λst'=>st'.new.all (λg=>!st.used g)=zj/\st'=e)->(jK T tt (x.dst.getD 0) H x λst'=>st'.new.all (λg=>!H.used g)=zj/\st'=e):=by
  intro h;obtain⟨q1,_,rfl⟩:=(Ll o z B J K).1 h;rw[J]at sz;obtain⟨L,y⟩ :∃L,H.o g=.aO a0 i0 d r l L:=by
   cases M:H.o g with
   |aO a i2 X Y l2 Z=>rw[M]at sz;simp only[O.core,Q0,QP]at sz;obtain⟨rfl,rfl,rfl,rfl,rfl⟩:=sz;exact⟨_,rfl⟩
   |_=>rw[M]at sz;cases sz
  exact(Ll o z U y K).2 ⟨q1,rfl,rfl⟩
 unfold Can stepW at *;refine⟨c.1,?_⟩;have c:=c.2;cases hg:x.guard with
 |none=>rw[hg]at c;exact eff c
 |some p=>
  obtain⟨j,want⟩:=p;rw[hg]at c;simp only at c ⊢;have:guardOf ops st j want=guardOf ops H j want:=by
   unfold guardOf;cases hd:(ops[j]?).bind (·.dst)with
   |none=>rfl
   |some t=>simp only;rw[hs t (UV _ (by simp[hg,hd]))]
  rw[<-this];split at c
  .rename_i b hb;cases b with
   |true=>exact eff c
   |false=>exact c
  .cases c
theorem ace(hT :∀f sp,T f=zw sp->Sound Pg (f % 1000000) sp)(htt:jv Pg tt){es:Nat->Eff}{fs:List uS}(hfree:Zj ops fs=zj)
  (U :∀i,i<ops.size->∃o,ops[i]?=zw o/\Can T tt N ops (SD ops es st (λ_=>zj) i) o (es i)/\fs[i]?=zw { rd:=uQ T (SD ops es st (λ_=>zj) i) o,wr:=(es i).aJ.map (·.1),new:=(es i).new,ld:=Ol tt (SD ops es st (λ_=>zj) i) o,kp:=Q7 (SD ops es st (λ_=>zj) i) o (es i),pk:=nY o.op,kd:=XG (SD ops es st (λ_=>zj) i) (es i) })
  (hQ :∀a' w',Good E N bH yP (SD ops es st (λ_=>zj) ops.size) a' w'->Q .normal a' w') :
  ∀(fuel:Nat) (listed:Array Bool) (a:Act) (w:World),listed.size=ops.size->Down ops (λk=>listed.getD k zv)->(List.range ops.size).countP (λk=>!listed.getD k zv)<=fuel->
   Good E N bH yP (SD ops es st (λk=>listed.getD k zv) ops.size) a w->wpAny Pg .any ops Q fuel listed a w:=by
 have hf :∀j,j<ops.size->(pR ops.toList []).getD j 0<2 ^ j/\∀i,i<j->((pR ops.toList []).getD j 0).testBit i=zj\/∃x y fx X,ops[i]?=zw x/\ops[j]?=zw y/\fs[i]?=zw fx/\fs[j]?=zw X/\Apart ops x y fx X:=by
  intro j hj;have:=(Z3.1 hfree) j (Uq.2 hj);simp only[QR,Wa,Z3,Uq,Kb]at this;refine⟨this.1,λi hi=>?_⟩;rcases this.2 i hi with h|h;exact .inl h;right;split at h
  .rename_i x y fx X K L M J;exact⟨x,y,fx,X,K,L,M,J,XH h⟩
  .cases h
 have done :∀(listed:Array Bool),listed.size=ops.size->Down ops (λk=>listed.getD k zv)->Region.ready .any ops listed=[]->∀k,k<ops.size->listed.getD k zv=zj:=by
  intro listed hsz hD hr k
  induction k using Nat.strongRecOn with
  |_ k ih=>
   intro z;obtain⟨o,ho,_,_⟩:=U k z;by_cases hl:listed.getD k zv=zj;exact hl;exfalso;have:k∈Region.ready .any ops listed:=mem_ready.2 ⟨by
    have hl:listed.getD k zv=zv:=by simpa using hl
    rw[WP]at hl ⊢;rw[qt (by omega)]at hl ⊢;exact hl,o,ho,λe he hb=>ih e.on (UY ho (hf k z).1 he hb) (by have:=UY ho (hf k z).1 he hb;omega)⟩
   rw[hr]at this;cases this
 have final :∀(listed:Array Bool) (a:Act) (w:World),listed.size=ops.size->Down ops (λk=>listed.getD k zv)->Region.ready .any ops listed=[]->Good E N bH yP (SD ops es st (λk=>listed.getD k zv) ops.size) a w->Q .normal a w:=by intro listed a w hsz hD hr hg;have h:=done listed hsz hD hr;rw[FV (D':=λ_=>zj) λk z=>h k z]at hg;exact hQ a w hg
 intro fuel
 induction fuel with
 |zero=>
  intro listed a w hsz hD hcnt hg;have hr:Region.ready .any ops listed=[]:=by
   cases hr:Region.ready .any ops listed with
   |nil=>rfl
   |cons k ks=>
    exfalso;have z:k∈Region.ready .any ops listed:=by rw[hr];simp
    obtain⟨K,o,ho,_⟩:=mem_ready.1 z;have hlt:=(US.1 ho).1;have:0<(List.range ops.size).countP (λk=>!listed.getD k zv):=by rw[List.countP_pos_iff];refine⟨k,Uq.2 hlt,?_⟩;rw[WP]at K ⊢;rw[qt (by omega)]at K ⊢;simpa using K
    omega
  exact⟨hr,final listed a w hsz hD hr hg⟩
 |succ fuel ih=>
  intro listed a w hsz hD hcnt hg;refine⟨λhr=>final listed a w hsz hD hr hg,λi hi=>?_⟩;obtain⟨hni,oi,Z,hpre⟩:=mem_ready.1 hi;have hlt:i<ops.size:=(US.1 Z).1;have hDi:listed.getD i zv=zv:=by rw[WP]at hni ⊢;rw[qt (by omega)]at hni ⊢;exact hni
  obtain⟨o,ho,hc,hfi⟩:=U i hlt;rw[Z]at ho;cases ho;have H :∀k,(listed.setIfInBounds i zj).getD k zv=if k=i then zj else listed.getD k zv:=by
   intro k;by_cases e:k=i
   .subst e;rw[QQ rfl,WP,Array.getElem?_setIfInBounds_self];simp[show k<listed.size by omega]
   .rw [Qt e,WP,Array.getElem?_setIfInBounds_ne (Ne.symm e),<-WP]
  have hD':Down ops (λk=>(listed.setIfInBounds i zj).getD k zv):=by
   intro j o' ho' hj e he hb;simp only[H]at hj ⊢;by_cases ej:j=i
   .subst ej;rw[Z]at ho';cases ho';have:=hpre e he hb;rw[this];simp
   .rw [Qt ej]at hj;have:=hD j o' ho' hj e he hb;simp only at this;rw[this];simp
  have hap :∀k,k<ops.size->k≠i->((k<i/\listed.getD k zv=zv)\/(i<k/\listed.getD k zv=zj))->∃y X,ops[k]?=zw y/\fs[k]?=zw X/\
    (∀t,y.dst=zw t->t∉oi.looksAt ops)/\(∀t,oi.dst=zw t->y.dst≠zw t)/\((∀g∈X.wr,g∉uQ T (SD ops es st (λ_=>zj) i) oi)\/∃fi,fs[i]?=zw fi/\Il X fi=zj)/\(∀g∈X.wr,g∉(es i).aJ.map (·.1))/\(∀g∈X.new,g∉(es i).new)/\X.wr=(es k).aJ.map (·.1)/\X.new=(es k).new:=by
   intro k z c B;obtain⟨y0,hy0,_,Y⟩:=U k z;rcases B with⟨hlt',hfalse⟩|⟨hlt',ap1⟩
   .rcases (hf i hlt).2 k hlt' with hb|⟨x,y,fx,X,K,L,M,J,ap⟩
    .have:=zu hD' i Z (by simp[H]) k hb;simp only[H,Qt c]at this;rw[hfalse]at this;cases this
    .rw [Z]at L;cases L;rw[hfi]at J;cases J;rw[Y]at M;cases M;exact⟨x,_,K,Y,ap.dy,λt e e'=>ap.dd t e' e,ap.wr.imp id (λh=>⟨_,hfi,h⟩),ap.ww,ap.nn,rfl,rfl⟩
   .rcases (hf k z).2 i hlt' with hb|⟨x,y,fx,X,K,L,M,J,ap⟩
    .have:=zu hD k hy0 ap1 i hb;rw[hDi]at this;cases this
    .rw [Z]at K;cases K;rw[hfi]at M;cases M;rw[Y]at J;cases J;exact⟨y,_,L,Y,ap.dx,ap.dd,ap.rw.imp id (λh=>⟨_,hfi,h⟩),λg hg hg'=>ap.ww g hg' hg,λg hg hg'=>ap.nn g hg' hg,rfl,rfl⟩
  have Q9:SD ops es st (λ_=>zj) i=SD ops es st (λk=>decide (k<i)) ops.size:=by
   have :∀m,i+m<=ops.size->SD ops es st (λk=>decide (k<i)) (i+m)=SD ops es st (λ_=>zj) i:=by
    intro m
    induction m with
    |zero=>intro _;exact FV λk z=>by simp[show k<i by omega]
    |succ m ih=>intro hm;rw[<-J1];simp only[SD,show ¬ (i+m<i) by omega,decide_false,Wb,if_false];exact ih (by omega)
   have:=this (ops.size-i) (by omega);rw[show i+(ops.size-i)=ops.size by omega]at this;exact this.symm
  have hdiff :∀k,k<ops.size->decide (k<i)≠listed.getD k zv->k≠i/\((k<i/\listed.getD k zv=zv)\/(i<k/\listed.getD k zv=zj)):=by
   intro k z c;by_cases e:k=i
   .subst e;rw[hDi]at c;simp at c
   .refine ⟨e,?_⟩;by_cases hki:k<i
    .exact .inl ⟨hki,by simpa[hki]using c⟩
    .refine .inr ⟨by omega,?_⟩;cases hl:listed.getD k zv with
     |true=>rfl
     |false=>rw[hl]at c;simp[hki]at c
  have hdst :∀(k:Nat) (y:Oper),ops[k]?=zw y->(ops[k]?).bind (·.dst)=y.dst:=λk y h=>by rw[h];rfl
  have hc':Can T tt N ops (SD ops es st (λk=>listed.getD k zv) ops.size) oi (es i):=by
   have rZ :∀t∈oi.looksAt ops,(SD ops es st (λ_=>zj) i).s t=(SD ops es st (λk=>listed.getD k zv) ops.size).s t:=λt ht=>by rw[Q9];refine amW λk z c=>?_;obtain⟨K,L⟩:=hdiff k z c;obtain⟨y,X,M,_,J,_⟩:=hap k z K L;rw[hdst k y M];exact λe=>J t e ht
   have OI :∀g∈(es i).new,(SD ops es st (λ_=>zj) i).used g=(SD ops es st (λk=>listed.getD k zv) ops.size).used g:=λg hg=>by rw[Q9];refine Q8 λk z c=>?_;obtain⟨K,L⟩:=hdiff k z c;obtain⟨y,X,M,_,_,_,_,_,J,_,h5⟩:=hap k z K L;rw[<-h5];exact λe=>J g e hg
   have travel :∀(g:Nat) (Pr:O->Prop),g∉(es i).aJ.map (·.1)->(∀k,k<ops.size->k≠i->((k<i/\listed.getD k zv=zv)\/(i<k/\listed.getD k zv=zj))->g∈(es k).aJ.map (·.1)->
     (Pr ((SD ops es st (λ_=>zj) k).o g)↔Pr ((SD ops es st (λ_=>zj) (k+1)).o g)))->Pr ((SD ops es st (λ_=>zj) i).o g)->Pr ((SD ops es st (λk=>listed.getD k zv) ops.size).o g):=by
    intro g Pr hgi hkeep hP0;have hstep :∀k,k<ops.size->(g∈(es k).aJ.map (·.1)->(Pr ((SD ops es st (λ_=>zj) k).o g)↔Pr ((SD ops es st (λ_=>zj) (k+1)).o g)))->
      (Pr ((SD ops es st (λ_=>zj) k).o g)↔Pr ((SD ops es st (λ_=>zj) (k+1)).o g)):=by
     intro k z hw;by_cases hg:g∈(es k).aJ.map (·.1);exact hw hg;have:(SD ops es st (λ_=>zj) (k+1)).o g=(SD ops es st (λ_=>zj) k).o g:=by simp only[SD,if_true,zo,kT hg]
     rw[this]
    obtain⟨m',hm',hlast,hafter⟩:=U1 (ops:=ops) (es:=es) (st:=st) (D:=λk=>listed.getD k zv) (g:=g) ops.size;rw[hlast];rcases ze i m' with him|him
    .-- forward
     have :∀d,i+d<=m'->Pr ((SD ops es st (λ_=>zj) (i+d)).o g):=by
      intro d
      induction d with
      |zero=>intro _;exact hP0
      |succ d ihd=>
       intro hd;have z:i+d<ops.size:=by rcases hafter with e|⟨k1,e,L,_⟩<;>omega
       rw[<-J1];refine(hstep (i+d) z (λhg=>?_)).1 (ihd (by omega));by_cases e0:d=0
       .exfalso;subst e0;exact hgi hg
       .have hin:listed.getD (i+d) zv=zj:=by
         rcases hafter with e|⟨k1,rfl,ap2,hk1,hg1⟩;omega;by_cases e1:i+d=k1
         .rw [e1];exact hk1
         .obtain ⟨y1,hy1,_,hf1⟩:=U k1 ap2;rcases (hf k1 ap2).2 (i+d) (by omega)with hb|⟨x2,y2,fx,X,K,L,M,J,ap⟩;exact zu hD k1 hy1 hk1 _ hb;exfalso;obtain⟨y0,_,_,Y⟩:=U (i+d) z;rw[Y]at M;cases M;rw[hf1]at J;cases J;exact ap.ww g hg hg1
        exact hkeep (i+d) z (by omega) (.inr ⟨by omega,hin⟩) hg
     have:=this (m'-i) (by omega)
     rwa [show i+(m'-i)=m' by omega]at this
    .-- backward
     have :∀d,d<=i-m'->Pr ((SD ops es st (λ_=>zj) (i-d)).o g):=by
      intro d
      induction d with
      |zero=>intro _;exact hP0
      |succ d ihd=>
       intro hd;have z:i-(d+1)<ops.size:=by omega
       have e1:i-(d+1)+1=i-d:=by omega
       refine(hstep (i-(d+1)) z (λhg=>?_)).2 (by rw[e1];exact ihd (by omega));have hout:listed.getD (i-(d+1)) zv=zv:=by
        cases hl:listed.getD (i-(d+1)) zv with
        |false=>rfl
        |true=>exact absurd hg (hm' (i-(d+1)) (by omega) z hl)
       exact hkeep (i-(d+1)) z (by omega) (.inl ⟨by omega,hout⟩) hg
     have:=this (i-m') (YY _)
     rwa [show i-(i-m')=m' by omega]at this
   cases hld:Ol tt (SD ops es st (λ_=>zj) i) oi with
   |none=>
    by_cases hpk:nY oi.op=zj
    .refine aeF hc hpk rZ (λx0 hx0 g hg=>?_) OI;have hgf:g∈uQ T (SD ops es st (λ_=>zj) i) oi:=by
      have hl:looks oi.op=zj:=by cases hop:oi.op<;>rw[hop]at hpk<;>first|rfl|cases hpk
      refine W6 _ ?_;rw[rG (.inr hpk)];exact W6 _ (by rw[hl];exact Z2.2 ⟨x0,hx0,Z2.2 ⟨g,hg,by simp⟩⟩)
     have aur:(g,0)∈Q7 (SD ops es st (λ_=>zj) i) oi (es i):=W6 _ (by rw[hpk];exact XN.2 ⟨g,Z2.2 ⟨x0,hx0,hg⟩,rfl⟩);refine(travel g (λx=>kindOf ((SD ops es st (λ_=>zj) i).o g)=kindOf x) (by rw[Eh hc hpk];simp) (λk z c B hgk=>?_) rfl);obtain⟨y,X,M,Y,_,_,J,_,_,h5,_⟩:=hap k z c B;rcases J with J|⟨fi,U4,hs⟩
     .exfalso;rw[<-h5]at hgk;exact J g hgk hgf
     .rw [hfi]at U4;cases U4;simp only[Il,hld,hpk,Bool.true_and,Z3,Kb,V0,V2,Wa,decide_eq_false_iff_not]at hs;rw[h5]at hs;rcases hs (g,0) aur with hs|hs;exact absurd hgk hs;obtain⟨o',ho',_,aeH⟩:=U k z;rw[Y]at aeH;cases aeH;obtain⟨x,q1,q2⟩:=ab_ hs;have:(SD ops es st (λ_=>zj) (k+1)).o g=x:=by simp only[SD,if_true,zo,q1]
      rw[this,q2]
    .refine ab7 hc rZ (λg hg=>?_) OI;rw[Q9]at hg ⊢;refine amX λk z c=>?_;obtain⟨K,L⟩:=hdiff k z c;obtain⟨y,X,M,_,_,_,J,_,_,h5,_⟩:=hap k z K L;rw[<-h5];rcases J with J|⟨fi,U4,hs⟩
     .rw [Q9]at J;exact λe=>J g e hg
     .rw [hfi]at U4;cases U4;simp only[Il,hld,hpk,Bool.false_and]at hs;cases hs
   |some q=>
    obtain⟨g,off,n⟩:=q;have alj :∀k,k<ops.size->k≠i->((k<i/\listed.getD k zv=zv)\/(i<k/\listed.getD k zv=zj))->g∈(es k).aJ.map (·.1)->∃o',Can T tt N ops (SD ops es st (λ_=>zj) k) o' (es k)/\
      ∀b,off<=b->b<off+n->(g,b)∈Q7 (SD ops es st (λ_=>zj) k) o' (es k):=by
     intro k z c B hg;obtain⟨y,X,M,Y,_,_,J,_,_,h5,_⟩:=hap k z c B;rcases J with J|⟨fi,U4,hs⟩
     .exfalso;rw[<-h5]at hg;exact J g hg (ab8 hld)
     .rw [hfi]at U4;cases U4;simp only[Il,hld,Z3,Uq]at hs;obtain⟨o',ho',hck,aeH⟩:=U k z;rw[Y]at aeH;cases aeH;refine⟨o',hck,λb h1' h2'=>?_⟩;obtain⟨p,hp,he⟩:=qa.1 (hs (b-off) (by omega));simp only[QR]at he;have e1:=Q6 he.1;have e2:=Q6 he.2;have:p=(g,b):=Prod.ext e1 (by simp only;omega)
      rwa [this]at hp
    have Uw :∀{k x},(es k).aJ.lookup g=zw x->(SD ops es st (λ_=>zj) (k+1)).o g=x:=λh=>by simp only[SD,if_true,zo,h]
    rcases Cj hld with⟨t,x,ti,K,L,M,J⟩|⟨⟨rfl,rfl⟩,t,x,ti,m,b,a0,i0,sz,au,l,hole,K,L,J,h5,h6⟩
    .refine aeG hc rZ K L M J (λhn ws hws=>?_) OI;refine travel g (Rng ws off n) (by rw[U2 hc hld];simp) (λk z c B hg=>?_) ⟨ws,hws,rfl,λ_ _ _=>rfl⟩;obtain⟨o',hck,hs⟩:=alj k z c B hg;have alk :∀{y:O},y.core≠zz->¬ Rng ws off n y:=λhy ⟨wc,e,_⟩=>by subst e;exact hy rfl
     rcases FW hck (hs off (YY _) (by omega))with hp|⟨wa,wb,q1,q2,q3,_⟩|⟨y,q1,q2,q3⟩
     .rw [Eh hck hp]at hg;cases hg
     .simp only at q1 q2;rw[Uw q2,q1];have hall :∀b,off<=b->b<off+n->wa[b]?=wb[b]?:=λb a1 a2=>by
       rcases FW hck (hs b a1 a2)with hp|⟨wa',wb',r1,r2,_,r4⟩|⟨y,r1,r2,r3⟩
       .rw [Eh hck hp]at hg;cases hg
       .simp only at r1 r2;rw[q1]at r1;rw[q2]at r2;cases r1;cases r2;exact r4
       .simp only at r3;rw[q1]at r3;exact absurd rfl r3
      constructor
      .rintro ⟨wc,hc,hl,hr⟩;cases hc;exact⟨wb,rfl,by omega,λb a1 a2=>by rw[<-hall b a1 a2];exact hr b a1 a2⟩
      .rintro ⟨wc,hc,hl,hr⟩;cases hc;exact⟨wa,rfl,by omega,λb a1 a2=>by rw[hall b a1 a2];exact hr b a1 a2⟩
     .simp only at q1 q2 q3;rw[Uw q1];exact⟨λh=>absurd h (alk q3),λh=>absurd h (alk (by rw[q2];exact q3))⟩
    .refine amY hc rZ K L J h5 h6 ?_ OI;refine travel g (λy=>y.core=((SD ops es st (λ_=>zj) i).o g).core) (by rw[U2 hc hld];simp) (λk z c B hg=>?_) rfl;obtain⟨o',hck,hs⟩:=alj k z c B hg;rcases FW hck (hs _ (YY _) (by omega))with hp|⟨wa,wb,q1,q2,q3,_⟩|⟨y,q1,q2,q3⟩
     .rw [Eh hck hp]at hg;cases hg
     .simp only at q1 q2;rw[Uw q2,q1];exact⟨λh=>h,λh=>h⟩
     .simp only at q1 q2;rw[Uw q1,q2]
  have hins:SD ops es st (λk=>(listed.setIfInBounds i zj).getD k zv) ops.size=(SD ops es st (λk=>listed.getD k zv) ops.size).eff oi.dst (es i):=by
   have hDs :∀k,(λk=>(listed.setIfInBounds i zj).getD k zv) k=if k=i then zj else listed.getD k zv:=H
   have c :∀k,(λk=>(listed.setIfInBounds i zj).getD k zv) k≠(λk=>listed.getD k zv) k->k=i:=by intro k h;simp only[H]at h;by_cases e:k=i;exact e;rw[Qt e]at h;exact absurd rfl h
   have aeI :∀k,i<k->k<ops.size->(λk=>(listed.setIfInBounds i zj).getD k zv) k=zj->listed.getD k zv=zj:=by intro k K L M;simp only[H,Qt (show k≠i by omega)]at M;exact M
   refine St.ext' (λt=>?_) (λg=>?_) (λg=>?_)
   .rw [O6];by_cases hd:oi.dst=zw t
    .rw [QQ hd];refine O7 (by simp[H]) ((hdst i oi Z).trans hd) hlt λk K L M=>?_;obtain⟨y,X,q1,_,_,q2,_⟩:=hap k L (by omega) (.inr ⟨K,aeI k K L M⟩);rw[hdst k y q1];exact q2 t hd
    .rw [Qt hd];refine amW λk z hk'=>?_;rw[c k hk',hdst i oi Z];exact hd
   .rw [zo];cases hu:(es i).aJ.lookup g with
    |some x=>refine O8 (by simp[H]) hu hlt λk K L M=>?_;obtain⟨y,X,q1,_,_,_,_,q2,_,q3,_⟩:=hap k L (by omega) (.inr ⟨K,aeI k K L M⟩);rw[<-q3];exact λe=>q2 g e (XN.2 ⟨(g,x),ku hu,rfl⟩)
    |none=>
     refine amX λk z hk'=>?_;rw[c k hk'];intro hm;obtain⟨p,hp,rfl⟩:=XN.1 hm;have :∀{l:List (Nat×O)},p∈l->l.lookup p.1≠zz:=by
      intro l
      induction l with
      |nil=>intro h;cases h
      |cons q l ih=>
       intro h hn;simp only[List.lookup]at hn;split at hn;cases hn;rename_i hb;rcases Xs.1 h with h|h
       .subst h;simp at hb
       .exact ih h hn
     exact this hp hu
   .rw [vN];by_cases hn:g∈(es i).new
    .rw [Io (by simp[H]) hn hlt];simp[hn]
    .have:(es i).new.contains g=zv:=by simpa using hn
     rw[this,Ka];refine Q8 λk z hk'=>?_;rw[c k hk'];exact hn
  refine KU hT htt Z hg hc' λa' w' hg'=>ih _ a' w' (by simp[hsz]) hD' ?_ (by rw[hins];exact hg');have hlt2:(List.range ops.size).countP (λk=>!(listed.setIfInBounds i zj).getD k zv)<(List.range ops.size).countP (λk=>!listed.getD k zv):=by
   have gen :∀l:List Nat,i∈l->l.countP (λk=>!(listed.setIfInBounds i zj).getD k zv)<l.countP (λk=>!listed.getD k zv):=by
    intro l;have hle :∀l:List Nat,l.countP (λk=>!(listed.setIfInBounds i zj).getD k zv)<=l.countP (λk=>!listed.getD k zv):=λl=>List.countP_mono_left λk _ h=>by
     simp only[H]at h;by_cases e:k=i
     .simp [e]at h
     .simpa [e]using h
    induction l with
    |nil=>intro h;cases h
    |cons k l ihl=>
     intro h;simp only[List.countP_cons];by_cases e:k=i
     .subst e;have K:(!(listed.setIfInBounds k zj).getD k zv)=zv:=by simp[H]
      have L:(!listed.getD k zv)=zj:=by simp[hDi]
      rw[K,L];exact Nat.lt_succ_of_le (hle l)
     .have:=ihl (by rcases Xs.1 h with h|h;exact absurd h.symm e;exact h);have e1:(!(listed.setIfInBounds i zj).getD k zv)=(!listed.getD k zv):=by rw[H,Qt e]
      rw[e1];omega
   exact gen _ (Uq.2 hlt)
  omega
theorem XI(z :∀f sp,T f=zw sp->Sound Pg (f % 1000000) sp)(b:jv Pg tt){draw:Bool}{K:St->Prop}(h:tX T tt N ops draw st K)(hg:Good E N bH yP st a w)
  (B :∀st' c d,K st'->Good E N bH yP st' c d->Q .normal c d):(draw=zv/\wpOps Pg ops Q (List.range ops.size) a w)\/(draw=zj/\wpAny Pg .any ops Q ops.size (Array.replicate ops.size zv) a { w with drawn:=w.drawn+1 }):=by
 cases draw with
 |false=>exact .inl ⟨rfl,Ef z b B _ h hg⟩
 |true=>
  have h:qo T tt N ops (List.range ops.size) st [] (λst' H=>Zj ops H=zj/\K st'):=h;rw[vi]at h;obtain⟨es,H,_,_,⟨L,J⟩,M⟩:=Ip (st:=st) ops.size 0 (λ_=>Eff.skip) [] rfl h;rw[Vi]at J;refine .inr ⟨rfl,?_⟩;refine ace z b L (λi hi=>M i (by omega) (by omega)) (λc d m=>B _ c d J m) ops.size _ a _ (by simp) ?_ ?_ ?_
  .intro j o _ g;simp only[WP]at g;rw[vu]at g;split at g<;>cases g
  .refine K0 List.countP_le_length ?_;simp
  .obtain ⟨⟨U,X,Y⟩,q,y⟩:=hg;have e:SD ops es st (λk=>(Array.replicate ops.size zv).getD k zv) ops.size=st:=by
    have :∀n,SD ops es st (λk=>(Array.replicate ops.size zv).getD k zv) n=st:=by
     intro n
     induction n with
     |zero=>rfl
     |succ n Z=>
      have:(Array.replicate ops.size zv).getD n zv=zv:=by rw[WP,vu];split<;>rfl
      simp only[SD,this,Wb,if_false];exact Z
    exact this _
   rw[e];exact⟨⟨U,X.drew _,Y⟩,q,y⟩
theorem Q_(j :∀f sp,T f=zw sp->Sound Pg (f % 1000000) sp)(b:jv Pg tt)(m:Pg.follows .mixedOrders=zj){id:Nat}{draw:Bool}{K:St->Prop}(h:tX T tt N ops draw st K)(hg:Good E N bH yP st a w)
  (q :∀st' d g,K st'->Good E N bH yP st' d g->Q .normal d g):(Code.region id ops draw).wp Pg Q a w:=by
 rcases XI j b h hg q with⟨e,c⟩|⟨e,c⟩
 .rw [e];exact wp_region c
 .rw [e];exact wp_region_any m c
end
end Go.Fw

namespace Go.Fw
variable [fO]
def Zl(gs:List Nat)(o:Nat->O):W->W
 |.own g=>if gs.contains g=zj then match plainO o g with
  |some (a,i,b,l)=>.p a i (P.gV b l)
  |none=>.own g
  else .own g
 |.vw g lo c=>if gs.contains g=zj then match plainO o g with
  |some (a,i,b,l)=>.p a i (P.gV b ((l.take c.nat).drop lo.nat))
  |none=>.vw g lo c
  else .vw g lo c
 |x=>x
def plV(gs:List Nat)(o:Nat->O):V->V
 |.one x=>.one (Zl gs o x)
 |.agg xs=>.agg (xs.map (Zl gs o))
def plS(gs:List Nat)(o:Nat->O):S->S
 |.v x=>.v (plV gs o x)
 |.jy xs=>.jy (xs.map (plV gs o))
 |.no=>.no
def plO(gs:List Nat)(o:Nat->O)(g:Nat):O:=match o g with
 |.box b=>.box (b.map (Zl gs o))
 |x=>if gs.contains g=zj then(Fw.bC o g).2 else x
def fU(gs:List Nat)(st:St):St:={ s:=λt=>plS gs st.o (st.s t),o:=λg=>plO gs st.o g,used:=st.used }
def aiB(o:Nat->O)(gs:List Nat):Bool:=gs.all λg=>(plainO o g).isSome&&(o g).names.all λd=>gs.contains d
theorem acf{gs:List Nat}(h:aiB s gs=zj):yR s gs:=λg hg=>by have:=(Z3.1 h) g hg;simp only[QR,Z3,V2,Wa]at this;exact this
section
variable {E:Env} {st:St} {gh:Nat->Gh} {w:World} {val:Nat->Value}
theorem FX{gs:List Nat}{x:W}(h:g∈(Zl gs s x).names):g∈x.names:=by
 unfold Zl at h;split at h
 .split at h
  .split at h
   .simp [W.names]at h
   .exact h
  .exact h
 .split at h
  .split at h
   .simp [W.names]at h
   .exact h
  .exact h
 .exact h
theorem Ph{gs:List Nat}{x:V}(h:g∈(plV gs s x).names):g∈x.names:=by
 cases x with
 |one x=>exact FX h
 |agg xs=>simp only[plV,V.names,Z2,XN]at h ⊢;obtain⟨_,⟨x,b,rfl⟩,hg⟩:=h;exact⟨x,b,FX hg⟩
theorem acg{gs:List Nat}{x:S}(h:g∈(plS gs s x).names):g∈x.names:=by
 cases x with
 |v x=>exact Ph h
 |jy xs=>simp only[plS,S.names,Z2,XN]at h ⊢;obtain⟨_,⟨x,b,rfl⟩,hg⟩:=h;exact⟨x,b,Ph hg⟩
 |no=>exact h
theorem Lm(gs:List Nat)(st:St)(g:Nat):((fU gs st).o g=(st.aJ (gs.map (Fw.bC st.o)) []).o g/\∀b,st.o g≠.box b)\/
  ∃b,st.o g=.box b/\(st.aJ (gs.map (Fw.bC st.o)) []).o g=.box b/\(fU gs st).o g=.box (b.map (Zl gs st.o)):=by
 rw[ig];cases c:st.o g with
 |box b=>
  refine .inr ⟨b,rfl,?_,by simp only[fU,plO,c]⟩;split
  .simp [Fw.bC,plainO,c]
  .rfl
 |_=>refine .inl ⟨?_,λb e=>by cases e⟩;simp only[fU,plO,c];simp only[V2,Wa]
theorem BD{gs:List Nat}{st:St}(h:st.o g=.none):(fU gs st).o g=.none:=by
 simp only[fU,plO,h];split
 .simp [Fw.bC,plainO,h]
 .rfl
theorem Rel.plain(h:Rel E st gh val w)(gs:List Nat)(hgs:yR st.o gs):Rel E (fU gs st) gh val w:=by
 have L:=(h.freezes gs hgs).1;have hss:(st.aJ (gs.map (Fw.bC st.o)) []).s=st.s:=rfl;have hun :∀g,(st.aJ (gs.map (Fw.bC st.o)) []).used g=st.used g:=λg=>by simp[St.aJ]
 have key:=Lm gs st;have hfr:=λg=>ig (st:=st) gs g;generalize hst1:st.aJ (gs.map (Fw.bC st.o)) []=z at L hss hun key hfr;have own :∀g,((fU gs st).o g).cO=(z.o g).cO:=λg=>by
  rcases key g with⟨e,_⟩|⟨Z,_,T,M⟩
  .rw [e]
  .rw [T,M];rfl
 have dim :∀g,((fU gs st).o g).dim=(z.o g).dim:=λg=>by
  rcases key g with⟨e,_⟩|⟨Z,_,T,M⟩
  .rw [e]
  .rw [T,M];rfl
 have inner :∀g,((fU gs st).o g).inner=(z.o g).inner:=λg=>by
  rcases key g with⟨e,_⟩|⟨Z,_,T,M⟩
  .rw [e]
  .rw [T,M];rfl
 have isd :∀g,((fU gs st).o g).pz=(z.o g).pz:=λg=>by
  rcases key g with⟨e,_⟩|⟨Z,_,T,M⟩
  .rw [e]
  .rw [T,M];rfl
 have aus :∀g Z,(fU gs st).o g=.box Z->∃H,z.o g=.box H:=λg Z hg=>by
  rcases key g with⟨e,_⟩|⟨H,_,T,M⟩
  .rw [e]at hg;exact⟨Z,hg⟩
  .exact ⟨H,T⟩
 have oit :∀g s n,(fU gs st).o g=.it s n->z.o g=.it s n:=λg s n hg=>by
  rcases key g with⟨e,_⟩|⟨H,_,T,M⟩
  .rw [e]at hg;exact hg
  .rw [M]at hg;cases hg
 have J:E.ok (fU gs st) gh w=E.ok z gh w:=by funext a i b;simp only[Env.ok,own]
 have hp :∀{g a i K l},gs.contains g=zj->plainO st.o g=zw (a,i,K,l)->z.o g=.arr zj a i K l:=λ{g a i K l} hc X=>by rw[hfr,QQ (by simpa using hc),n_ X]
 have same :∀{x:W} {v:Value},f_ E z gh w x v->f_ E (fU gs st) gh w x v:=by
  intro x v r
  induction r with
  |p a i x v q=>exact .p a i x v (by rw[J];exact q)
  |dD=>exact .dD
  |own g v B q=>exact .own g v B λK len hg=>q K len (by rw[<-dim];exact hg)
  |vw g lo hi v B q=>exact .vw g lo hi v B λK len hg=>q K len (by rw[<-dim];exact hg)
  |box g off v B q=>exact .box g off v B λZ hg=>by obtain⟨H,e⟩:=aus g Z hg;exact q H e
  |ep g n off v B q=>exact .ep g n off v B λK len hg=>q K len (by rw[<-dim];exact hg)
  |sp a i row off b o hb q=>exact .sp a i row off b o (by rw[J];exact hb) (by rw[J];exact q)
  |gl g=>exact .gl g
  |oI g v B q=>exact .oI g v B λs n hg=>q s n (oit g s n hg)
  |gd b x v q ih=>exact .gd b x v ih
  |clo f caps vs hl q ih=>exact .clo f caps vs hl ih
  |no v=>exact .no v
 have alm :∀{a i:Bool} {K:Nat} {l:List (List P)} {G:Gh},jq E z gh w a i K l G->jq E (fU gs st) gh w a i K l G:=by intro a i K l G r;simpa only[jq,J]using r
 have wd :∀{x:W} {v:Value},f_ E z gh w x v->f_ E (fU gs st) gh w (Zl gs st.o x) v:=by
  intro x v r;unfold Zl;split
  .rename_i g;split
   rotate_left
   exact same r;rename_i hc;split
   rotate_left
   exact same r;rename_i a i K l X;have Y:=hp hc X;cases r with
   |own _ _ B q=>have B:=q _ _ (O.kZ Y);have N:=L.bI g;rw[Y]at N;rw[B];exact .p a i _ _ (by rw[J];exact dH.gV N)
  .rename_i g lo hi;split
   rotate_left
   exact same r;rename_i hc;split
   rotate_left
   exact same r;rename_i a i K l X;have Y:=hp hc X;cases r with
   |vw _ _ _ _ B q=>
    obtain⟨n,m,c,rfl,rfl,q1,q2,qc,he⟩:=q _ _ (O.kZ Y);have N:=L.bI g;rw[Y]at N;rw[he];have T:(P.int .i64 (n:Int)).nat=n:=by simp[P.nat,P.num]
    have M:(P.int .i64 (m:Int)).nat=m:=by simp[P.nat,P.num]
    rw[T,M];exact .p a i _ _ (by rw[J];exact dH.gV ((dH.sub N q1 q2).ak9 (by simp;omega)))
  .exact same r
 have wV :∀{x:V} {v:Value},sV E z gh w x v->sV E (fU gs st) gh w (plV gs st.o x) v:=by
  intro x v r;cases r with
  |one x v r=>exact .one _ _ (wd r)
  |agg xs cs hl B U=>refine .agg _ cs (by simpa using hl) B λj x v q B=>?_;simp only[Z0,Wg]at q;obtain⟨y,hy,rfl⟩:=q;exact wd (U j y v hy B)
 refine⟨λt=>?_,λg=>?_,?_,?_,?_,?_,L.wb,L.frame,L.size,L.os,L.tape,L.output,?_,?_,?_⟩
 .have hs:=L.slots t;rw[hss]at hs;show dU E _ gh w (plS gs st.o (st.s t)) (val t);cases hs':st.s t with
  |v x=>rw[hs']at hs;cases hs with|v _ _ r=>exact .v _ _ (wV r)
  |jy xs=>
   rw[hs']at hs;generalize hval:val t=vt at hs;cases hs with
   |jy _ vs hl U=>refine .jy _ vs (by simpa using hl) λj x v q B=>?_;simp only[Z0,Wg]at q;obtain⟨y,hy,rfl⟩:=q;exact wV (U j y v hy B)
  |no=>exact .no _
 .have N:=L.bI g;rcases key g with⟨e,_⟩|⟨H,_,T,M⟩
  .rw [e];generalize z.o g=x at N;cases x with
   |none=>trivial
   |box Z=>obtain⟨ad,c,ty,a1,a2,a3,a4,a5⟩:=N;exact⟨ad,c,ty,a1,a2,a3,a4,λj x q=>let ⟨v,b1,b2,b3⟩:=a5 j x q;⟨v,b1,b2,same b3⟩⟩
   |arr fz a i K l=>
    cases fz with
    |false=>exact alm N
    |true=>simpa only[nG,J]using N
   |aO a i K au l hole=>
    rcases N with N|⟨ad,c,ty,a1,a2,a3,a4,a5,a6,a7,a8⟩;exact .inl N;refine .inr ⟨ad,c,ty,a1,a2,a3,a4,a5,a6,a7,λn x q j y hy=>?_⟩;obtain⟨v,B,U⟩:=a8 n x q j y hy;refine⟨v,B,?_⟩;unfold jr at *;cases hcj:au.lookup j with
    |none=>rw[hcj]at U;exact(by rw[J];exact U:dH w (E.ok (fU gs st) gh w a i) y v)
    |some sz'=>
     rw[hcj]at U;simp only at *;cases hh:iT hole n j with
     |some d=>rw[hh]at U;exact⟨U.1,same U.2⟩
     |none=>rw[hh]at U;obtain⟨l',ao,k,q1,q2,q3,q4⟩:=U;exact⟨l',ao,k,q1,q2,alm q3,q4⟩
   |it s n=>exact N
  .rw [M];rw[T]at N;obtain⟨ad,c,ty,a1,a2,a3,a4,a5⟩:=N;refine⟨ad,c,ty,a1,a2,a3,by simpa using a4,λj x q=>?_⟩;simp only[Z0,Wg]at q;obtain⟨y,hy,rfl⟩:=q;obtain⟨v,b1,b2,b3⟩:=a5 j y hy;exact⟨v,b1,b2,wd b3⟩
 .intro g g' b ha ha';rw[own]at ha ha';exact L.inj g g' b ha ha'
 .intro g b ha;rw[own]at ha;exact L.wr g b ha
 .intro g i b hg;rw[inner]at hg;exact L.wi g i b hg
 .intro g ho hd;rw[own]at ho;rw[isd]at hd;exact L.ns g ho hd
 .intro t g hg;exact h.us t g (acg hg)
 .intro g g' hg;rcases key g with⟨e,_⟩|⟨H,e0,T,M⟩
  .rw [e]at hg;have:=L.uo g g' hg;rw[hun]at this;exact this
  .rw [M]at hg;simp only[O.names,Z2,XN]at hg;obtain⟨_,⟨x,q,rfl⟩,hg⟩:=hg;exact h.uo g g' (by rw[e0];simp only[O.names,Z2];exact⟨x,q,FX hg⟩)
 .intro g hg;exact h.ul g λe=>hg (BD e)
theorem aeL{gs:List Nat}{w:World}{gh:Nat->Gh}{st:St}{E:Env}(h:E.ok st gh w a i g):E.ok (fU gs st) gh w a i g:=by
 refine⟨h.1,h.2.1,λb c d=>h.2.2 b ?_ d⟩;rcases Lm gs st b with⟨e,_⟩|⟨m,e,_⟩
 .rw [e,ig]at c;split at c
  .cases j:plainO st.o b with
   |none=>simpa[Fw.bC,j]using c
   |some x=>obtain⟨a,i,q,l⟩:=x;rw[n_ j]at c;cases c
  .exact c
 .rw [e];rfl
theorem Rel.norm(h:Rel E st gh val w)(hs gs:List Nat)(d:aiB (Fw.shuts hs st).o gs=zj):
  ∃c,Rel E (fU gs (Fw.shuts hs st)) c val w/\(∀x,(c x).ad=(gh x).ad/\(c x).cap=(gh x).cap)/\(∀a i b,E.ok st gh w a i b->E.ok (fU gs (Fw.shuts hs st)) c w a i b)/\
   ∀g,st.o g=.none->(fU gs (Fw.shuts hs st)).o g=.none:=by
 obtain⟨c,j,m,q⟩:=h.shuts hs;exact⟨c,j.plain gs (acf d),q,λa i b y=>aeL (m.ok a i b y).1,λg hg=>BD (KC hs hg)⟩
end
end Go.Fw

namespace Go.Fw
open Go.RowKit
variable [fO]
def FR(ro:Option Nat):Fence:={ Fence.wide with round:=ro }
section
variable {Pg:Program} {ro:Option Nat} {n:Nat} {ops:Array Oper} {Q:Exit->Act->World->Prop}
theorem XJ{f:FuncId}{args:Array Value}{R:Ending->World->Prop}(h:Calls Pg f args w R):CallsIn (FR ro) n Pg f args w R:=callsIn_wide.2 h
theorem ach{row:String}{args:Array Value}{R:Value->World->Prop}(h:Rows Pg row args w R):RowsIn (FR ro) n Pg row args w R:=by intro c b _;obtain⟨v,d,g,j⟩:=h c b;exact⟨v,d,g,stepsIn_wide.2 j⟩
theorem aut(m :∀c,x.op≠.defer c){a:Act}{K j:Act->World->Prop}(d :∀a w,K a w->j a w)(h:x.wp Pg a w K Q):x.wpIn (FR ro) n Pg a w j Q:=by
 refine⟨λ_ _=>trivial,?_⟩;rw[Oper.semAt_eq _ _ _ m];unfold Oper.wp at h;have hd:(FR ro).depth.isSome=zj->1<=n:=λe=>absurd e (by simp[FR,Fence.wide]);generalize (execOp a.eval x).run Pg w=r at *;cases r with
 |ok o q=>
  cases o<;>simp only[Oper.upon]at h<;>simp only[Oper.uponIn]
  all_goals first
   |exact d _ _ h
   |exact⟨hd,XJ (Calls.mono h λe g b=>by cases e<;>first|exact d _ _ b|exact b)⟩
   |exact⟨hd,ach (Rows.mono h λv g b=>d _ _ b)⟩
 |halt o q=>cases o<;>simp only[Oper.upon]at h<;>simp only[Oper.uponIn]<;>exact h
theorem aeM(q :∀o∈ops.toList,∀c,o.op≠.defer c)(b:¬ LetsOut Q){a:Act}{K m:Act->World->Prop}(d :∀a w,K a w->m a w)(h:wpOp Pg ops Q g K a w):wpOpIn (FR ro) n Pg ops Q g m a w:=by
 unfold wpOp at h;unfold wpOpIn;cases i:ops[g]? with
 |none=>rw[i]at h;exact d _ _ h
 |some o=>
  rw[i]at h;simp only at h ⊢;split
  .rename_i j;rw[QQ j]at h;rcases h with h|h
   .exact aut (q o (by have:=(US.1 i).2;rw[<-this];simp)) d h
   .exact absurd h.2 b
  .rename_i j;rw[Qt j]at h;exact⟨λ_ _=>trivial,d _ _ h⟩
theorem ap3(g :∀o∈ops.toList,∀c,o.op≠.defer c)(b:¬ LetsOut Q):∀(d:List Nat) (a:Act) (w:World),wpOps Pg ops Q d a w->wpOpsIn (FR ro) n Pg ops Q d a w
 | [],a,w,h=>h
 |i::d,a,w,h=>by rw[wpOps_cons]at h;rw[wpOpsIn_cons];exact aeM g b (λa w=>ap3 g b d a w) h
theorem ap4{md:Region.Mode}(d :∀o∈ops.toList,∀c,o.op≠.defer c)(b:¬ LetsOut Q):∀(fuel:Nat) (listed:Array Bool) (a:Act) (w:World),wpAny Pg md ops Q fuel listed a w->wpAnyIn (FR ro) n Pg md ops Q fuel listed a w
 |0,listed,a,w,h=>h
 |fuel+1,listed,a,w,h=>⟨h.1,λi g=>aeM d b (λa w=>ap4 d b fuel _ a w) (h.2 i g)⟩
end
omit [fO] in
def P.lv:P->Value
 |.int k n=>.int k n
 |.bool b=>.bool b
 |.str s=>.string s
 |_=>undef
def P.lit:P->Bool
 |.int _ _=>zj
 |.bool _=>zj
 |.str _=>zj
 |_=>zv
theorem P.atm{ok:Nat->Prop}{x:P}(h:x.lit=zj):dH w ok x x.lv:=by cases x<;>first|exact .int _ _|exact .bool _|exact .str _|cases h
omit [fO] in
def aeN(Pg:Program)(w:World)(S:List Nat)(rows:List (List P))(v:Value):Prop:=
 ∃c d,v=.func (.func c) #[] d/\(∀(args:Array Value) (w:World),(callFunc c args).run Pg w=.ok (.enter c args) w)/\
  ∀(l:Nat) (J:Nat->List Nat->World->Prop) (W:World),(∀k D A,J k D A->∀b∈S,A.heap[b]?=w.heap[b]?)->(∀k D A B g,J k D A->D9 A B->(∀b∈g,b∈D\/(A.heap.size<=b/\b<B.heap.size))->J k g B)->
   (∀k row D A,rows[k]?=zw row->J k D A->YieldAt Fence.wide 0 Pg l (row.map P.lv).toArray A λe B=>e=.returned (.bool zj)/\J (k+1) D B/\∀b∈D,B.heap[b]?=A.heap[b]?)->
   J 0 [] W->Calls Pg c (#[.func (.yield l) #[] #[]]++d) W λe B=>(∃v,e=.returned v)/\∃D,J rows.length D B
section
variable {Pg:Program}
theorem ap5{ps:Array Tmp}{x y:Code}{Q:Exit->Act->World->Prop}{a:Act}{S:List Nat}{rows:List (List P)}(hit:aeN Pg w S rows (a.eval q))(Y :∀row∈rows,row.length=ps.size)
  (J:Nat->List Nat->World->Prop) (hS :∀k D A,J k D A->∀b∈S,A.heap[b]?=w.heap[b]?) (d :∀k D A B D',J k D A->D9 A B->(∀b∈D',b∈D\/(A.heap.size<=b/\b<B.heap.size))->J k D' B)
  (j :∀k D A b o o',w.heap.size<=b->b∉D->J k D A->A.heap[b]?=zw o->quiet o=zj->J k D (A.putObj b o')) (h0:J 0 [] w)
  (amZ :∀k row D A,rows[k]?=zw row->J k D A->∀l,∃a₁,(∀(K:Act->World->Prop) W,K a₁ W->x.wpIn (FR (zw l)) 0 Pg (Exit.then K (λ_ _ _=>False)) { tmps:=(ps.zip (row.map P.lv).toArray).foldl (λt (p,v)=>t.setIfInBounds p v) a.tmps,defers:=[] } W)/\
   y.wpIn (FR (zw l)) 0 Pg (λe _ B=>e=.normal/\J (k+1) D B/\(∀b∈D,B.heap[b]?=A.heap[b]?)/\∀b o,A.heap[b]?=zw o->quiet o=zj->w.heap.size<=b->B.heap[b]?=zw o) a₁ A)
  (M :∀D B D',w.heap.size<=D->J rows.length D' B->B.heap[D]?=zw (.deferred (zw []))->Q .normal { a with defers:={ target:=.collected D,args:=#[] }::a.defers } B) :
  (Code.rangeFunc q ps x y).wp Pg Q a w:=by
 obtain⟨gf,lb,hg,eg,Z⟩:=hit;rw[<-wpIn_wide (n:=1)];refine wpIn_rangeFunc ?_;intro fn hfn;obtain⟨rec,c⟩ :∃rec:LoopState->Option Code->Loop,rec=λst pe=>{ state:=st,pending:=pe,fn,tmps:=a.tmps,params:=ps,assign:=x,body:=y,defers:=w.heap.size }:=⟨_,rfl⟩;obtain⟨z,H⟩ :∃z,(w.alloc (.deferred (zw []))).alloc (.loop (rec .ready zz))=z:=⟨_,rfl⟩;have hL1:z.heap[w.heap.size+1]?=zw (.loop (rec .ready zz)):=by rw[<-H];have:=World.alloc_heap_new (w.alloc (.deferred (zw []))) (.loop (rec .ready zz));rwa [World.size_alloc]at this
 have hK1:z.heap[w.heap.size]?=zw (.deferred (zw [])):=by rw[<-H];exact(Below.heap_alloc _ _ _ (by simp)).trans (World.alloc_heap_new w _)
 have hJ1:J 0 [] z:=by rw[<-H];exact d _ _ _ _ [] (d _ _ _ _ [] h0 (D9.alloc _ _) (λb hb=>by cases hb)) (D9.alloc _ _) (λb hb=>by cases hb)
 refine⟨w.heap.size+1,[{ target:=.collected w.heap.size,args:=#[] }],z,{ target:=.fn (.func gf) lb,args:=#[.func (.yield (w.heap.size+1)) #[] #[]] },z,gf,
  #[.func (.yield (w.heap.size+1)) #[] #[]]++lb,z,?_,?_,λ_ _=>trivial,?_,λ_=>YY _,?_⟩
 .rw [<-H,c];exact run_enterLoop_outer _ _ _ _ _
 .simp only[resolve,hg];simp[go_sem]
 .simp [invoke,go_sem,eg]
 refine callsIn_wide.2 (Calls.mono (Z (w.heap.size+1)
   (λk D A=>J k D A/\A.heap[w.heap.size+1]?=zw (.loop (rec .ready zz))/\A.heap[w.heap.size]?=zw (.deferred (zw []))/\∀b∈D,w.heap.size+1<b)
   z (λk D A h=>hS k D A h.1) (λk D A B D' h hg N=>?_) ?_ ⟨hJ1,hL1,hK1,λb hb=>by cases hb⟩) ?_)
 .have lt :∀{i o},A.heap[i]?=zw o->i<A.heap.size:=λh=>(US.1 h).1;refine⟨d k D A B D' h.1 hg N,(hg.same _ (lt h.2.1)).trans h.2.1,(hg.same _ (lt h.2.2.1)).trans h.2.2.1,λb hb=>?_⟩;rcases N b hb with hb|hb
  .exact h.2.2.2 b hb
  .exact Up (lt h.2.1) hb.1
 .rintro k row D A L ⟨hj,T,hk,N⟩;have hy:=run_yield (P:=Pg) (args:=(row.map P.lv).toArray) T (by rw[c];simpa using Y row (Z1 L));rw[c]at hy;have hlt:w.heap.size+1<A.heap.size:=(US.1 T).1;have m:w.heap.size+1∉D:=λhm=>KV _ (N _ hm);have ap6 :∀b∈D,b≠w.heap.size+1:=λb hb e=>m (e▸hb);have hj2:J k D (A.putObj (w.heap.size+1) (.loop { rec .ready zz with state:=.busy })):=j _ _ _ _ _ _ (by omega) m hj T rfl;obtain⟨a₁,hx,U⟩:=amZ k row D _ L hj2 (w.heap.size+1);refine⟨fn,_,x,y,hy,roundIn_of_wpIn hfn (hx _ _ ⟨_,run_beginRound T (by rw[c]),wpIn_mono U ?_⟩)⟩;rintro e a3 B ⟨rfl,hj3,hkD,g⟩;have hl2:(A.putObj (w.heap.size+1) (.loop { rec .ready zz with state:=.busy })).heap[w.heap.size+1]?=zw (.loop { rec .ready zz with state:=.busy }):=World.putObj_heap_same hlt;have hk2:(A.putObj (w.heap.size+1) (.loop { rec .ready zz with state:=.busy })).heap[w.heap.size]?=zw (.deferred (zw [])):=(World.putObj_heap_other (by omega)).trans hk;have X:=g _ _ hl2 rfl (by omega);have hk3:=g _ _ hk2 rfl (by omega);have hr:=run_endRound (P:=Pg) zz X;refine⟨_,_,hr,rfl,⟨j _ _ _ _ _ _ (by omega) m hj3 X rfl,?_,(World.putObj_heap_other (by omega)).trans hk3,N⟩,λb hb=>?_⟩
  .rw [World.putObj_heap_same (US.1 X).1,c];rfl
  .rw [World.putObj_heap_other (ap6 b hb),hkD b hb,World.putObj_heap_other (ap6 b hb)]
 .rintro e B ⟨⟨v,rfl⟩,D,hj,T,hk,N⟩;have m:w.heap.size+1∉D:=λhm=>KV _ (N _ hm);refine⟨zz,_,by have:=run_endLoop (P:=Pg) T (by rw[c];simp);rw[c]at this;exact this,M _ _ D (YY _) (j _ _ _ _ _ _ (by omega) m hj T rfl) ((World.putObj_heap_other (by omega)).trans hk)⟩
end
end Go.Fw

namespace Go.Fw
open Go.RowKit
variable [fO]
structure Ei where
 n:St->Prop
 x:Nat->St->Prop
 r:St->Prop
def keeps(bH:List Nat)(j:Shape)(m:Ren):Bool:=bH.all λg=>j.nms.contains g&&(match m.lookup g with
 |some (zw g')=>Nat.beq g' g
 |_=>zv)
inductive Back(bH:List Nat)(j:Shape)(st:St)(G:List P->Prop):Prop where
 |mk (hs gs:List Nat) (m:Ren) (vs:List P) (hgs:aiB (Fw.shuts hs st).o gs=zj) (hm:keeps bH j m=zj) (h:coerce j m (fU gs (Fw.shuts hs st))=zw vs) (hG:G vs)
inductive aln(bH:List Nat)(body:St->Ei->Prop)(st:St)(K:Ei):Prop where
 |mk (j:Shape) (I:List P->Prop) (μ:List P->Nat) (h0:Back bH j st I) (round :∀us,I us->body (Fw.mk j us) { n:=λst'=>Back bH j st' λvs=>I vs/\μ vs<μ us,x:=K.x,r:=K.r })
inductive Wk(bH:List Nat)(K:St->Prop)(st:St):Prop where
 |now (h:K st)
 |back (j:Shape) (h:Back bH j st λvs=>K (Fw.mk j vs))
def exec(T:Tab)(tt:TT)(N:Nat)(bH:List Nat):Code->St->Ei->Prop
 |.skip,st,K=>K.n st
 |.region _ ops draw,st,K=>tX T tt N ops draw st (Wk bH K.n)
 |.seq x y,st,K=>exec T tt N bH x st { n:=λd=>exec T tt N bH y d K,x:=K.x,r:=K.r }
 |.cond c x y,st,K=>match st.dK c with
  |.v (.one (.p _ _ (.bool b)))=>bif b then exec T tt N bH x st { n:=Wk bH K.n,x:=K.x,r:=K.r } else exec T tt N bH y st { n:=Wk bH K.n,x:=K.x,r:=K.r }
  |_=>False
 |.block id c,st,K=>exec T tt N bH c st { n:=Wk bH K.n,x:=λg d=>bif Nat.beq g id then Wk bH K.n d else K.x g d,r:=K.r }
 |.loop c,st,K=>aln bH (exec T tt N bH c) st K
 |.exit id,st,K=>K.x id st
 |.ret,st,K=>K.r st
 |.label _,st,K=>K.n st
 |.scope c,st,K=>exec T tt N bH c st K
 |_,_,_=>False
structure Fit(Pg:Program):Prop where
 mixed:Pg.follows .mixedOrders=zj
 sq :∀w S l v,fO.sq w S l v->aeN Pg w S l v
section
variable {E:Env} {N:Nat} {bH:List Nat} {yP:Nat->Gh} {Pg:Program} {T:Tab} {tt:TT}
structure Knt(E:Env)(N:Nat)(bH:List Nat)(yP:Nat->Gh)(K:Ei)(Q:Exit->Act->World->Prop):Prop where
 n :∀st a w,K.n st->Good E N bH yP st a w->Q .normal a w
 x :∀id st a w,K.x id st->Good E N bH yP st a w->Q (.exit id) a w
 r :∀st a w,K.r st->Good E N bH yP st a w->Q .ret a w
variable{a:Act}
theorem Back.good{j:Shape}{st:St}{G:List P->Prop}(h:Back bH j st G)(hg:Good E N bH yP st a w):∃vs,G vs/\Good E N bH yP (Fw.mk j vs) a w:=by
 obtain⟨M,gs,m,vs,b,U,h,X⟩:=h;obtain⟨⟨gh,c,Y⟩,d,q⟩:=hg;obtain⟨Z,c,H,_,e3⟩:=c.norm M gs b;have J:=Bq h;refine⟨vs,X,⟨kP Z (KG j m),c.aeo J,λg hg=>?_⟩,d,q⟩;have:=(Z3.1 U) g hg;simp only[QR]at this;obtain⟨K,y⟩:=this;refine⟨K,?_⟩;have L:KG j m g=zw g:=by
  unfold KG;rw[QQ K];split at y
  .rename_i g' hl;rw[hl,Q6 y];rfl
  .cases y
 have B:=J.bI g g L;rcases (Y g hg).2 with e|e
 .have e:=e3 g e;rw[e]at B;generalize (Fw.mk j vs).o g=z at B;cases B;exact .inl rfl
 .exact .inr (by simp only[kP,L];exact⟨(H g).1.trans e.1,(H g).2.trans e.2⟩)
theorem Wk.good{K:St->Prop}{st:St}(h:Wk bH K st)(hg:Good E N bH yP st a w):∃st',K st'/\Good E N bH yP st' a w:=by
 cases h with
 |now h=>exact⟨st,h,hg⟩
 |back j h=>obtain⟨vs,b,c⟩:=h.good hg;exact⟨_,b,c⟩
theorem Knt.wk{K:Ei}{Q:Exit->Act->World->Prop}(h:Knt E N bH yP K Q):Knt E N bH yP { n:=Wk bH K.n,x:=K.x,r:=K.r } Q:=⟨λst a w c hg=>let ⟨b,d,g⟩:=c.good hg;h.n b a w d g,h.x,h.r⟩
theorem aeO{sp:Bv}{st:St}{dR:List P}{L:Nat->Value}(b:Rel E st u L w)(q :∀g∈sp.bH,st.used g=zj/\(st.o g=.none\/((u g).ad=(yP g).ad/\(u g).cap=(yP g).cap)))
  (j:Back sp.bH sp.aU st λvs=>vs=dR) :∃y,Rel E (Fw.mk sp.aU dR) y L w/\∀g∈sp.bH,(y g).ad=(yP g).ad/\(y g).cap=(yP g).cap:=by
 obtain⟨hs,gs,m,vs,B,H,J,rfl⟩:=j;obtain⟨Bh,b,U,_,e3⟩:=b.norm hs gs B;have X:=Bq J;refine⟨kP Bh (KG sp.aU m),b.aeo X,λg hg=>?_⟩;have:=(Z3.1 H) g hg;simp only[QR]at this;obtain⟨Y,d⟩:=this;have Z:KG sp.aU m g=zw g:=by
  unfold KG;rw[QQ Y];split at d
  .rename_i g' hl;rw[hl,Q6 d];rfl
  .cases d
 have K:=X.bI g g Z;have c:(Fw.mk sp.aU vs).o g≠.none:=by
  have hm:g∈sp.aU.bI.map (·.1):=by simpa[Shape.nms]using Y
  obtain⟨x,h⟩:=xC (vs:=vs) (n:=(dV vs 0 sp.aU.slots).2) hm;have e:(Fw.mk sp.aU vs).o g=x:=by show (match (iD vs (dV vs 0 sp.aU.slots).2 sp.aU.bI).1.lookup g with|some x=>x|none=>O.none)=x;rw[h]
  obtain⟨k,n',_,d⟩:=lZ h;rw[e,d];cases k<;>simp[vG]
 rcases (q g hg).2 with e|e
 .exfalso;have e:=e3 g e;rw[e]at K;generalize (Fw.mk sp.aU vs).o g=z at K c;cases K;exact c rfl
 .simp only[kP,Z];exact⟨(U g).1.trans e.1,(U g).2.trans e.2⟩
theorem XK(hT :∀f sp,T f=zw sp->Sound Pg (f % 1000000) sp)(X:jv Pg tt)(hm:Fit Pg):∀(c:Code) {st:St} {K:Ei} {Q:Exit->Act->World->Prop} {a:Act} {w:World},
  exec T tt N bH c st K->Good E N bH yP st a w->Knt E N bH yP K Q->c.wp Pg Q a w:=by
 intro c
 induction c with
 |skip=>intro st K Q a w h hg g;exact wp_skip (g.n _ _ _ h hg)
 |region id ops draw=>intro st K Q a w h hg g;exact Q_ hT X hm.mixed h hg λm z B q d=>g.wk.n _ _ _ q d
 |seq x y Y J=>intro st K Q a w h hg g;refine wp_seq (Y h hg ⟨λm z B q d=>J q d g,λid m z B q d=>g.x _ _ _ _ q d,λm z B q d=>g.r _ _ _ q d⟩)
 |cond c x y Y J=>
  intro st K Q a w h hg g;simp only[exec]at h;split at h
  rotate_left
  cases h;rename_i a1 i1 b hc;obtain⟨gh,hR,_⟩:=hg.ex;have U:=su hR c;rw[hc]at U;have U:=U.gB.oM;refine wp_cond_split U (λL=>?_) (λL=>?_)
  .subst L;exact Y h hg g.wk
  .subst L;exact J h hg g.wk
 |block id c M=>
  intro st K Q a w h hg g;refine wp_block (M h hg ⟨λm z B q d=>g.wk.n _ _ _ q d,λH m z B q d=>?_,λm z B q d=>g.r _ _ _ q d⟩);simp only[Exit.inBlock];by_cases e:H=id
  .subst e;rw[QQ rfl];have:Nat.beq H H=zj:=by simp
   simp only[this]at q;exact g.wk.n _ _ _ q d
  .rw [Qt e];have:Nat.beq H id=zv:=by cases L:Nat.beq H id with|false=>rfl|true=>exact absurd (Q6 L) e
   simp only[this]at q;exact g.x _ _ _ _ q d
 |loop c M=>
  intro st K Q a w h hg g;obtain⟨j,I,μ,h0,round⟩:=(show aln bH (exec T tt N bH c) st K from h);obtain⟨us,Z,hg0⟩:=h0.good hg;refine wp_loop_rounds (μ us+1) ?_;have key :∀n us,I us->μ us<n->∀a w,Good E N bH yP (Fw.mk j us) a w->Code.rounds Pg c Q n a w:=by
   intro n
   induction n with
   |zero=>intro us _ h;omega
   |succ n ihn=>intro us Z hlt a w hg;refine M (round us Z) hg ⟨λm z B q d=>?_,λid m z B q d=>g.x _ _ _ _ q d,λm z B q d=>g.r _ _ _ q d⟩;obtain⟨vs,⟨h1,h2⟩,h3⟩:=Back.good q d;exact ihn vs h1 (by omega) _ _ h3
  exact key _ us Z (by omega) a w hg0
 |exit id=>intro st K Q a w h hg g;exact wp_exit (g.x _ _ _ _ h hg)
 |ret=>intro st K Q a w h hg g;exact wp_ret (g.r _ _ _ h hg)
 |label l=>intro st K Q a w h hg g;exact wp_label (g.n _ _ _ h hg)
 |scope c M=>intro st K Q a w h hg g;exact wp_scope_straight (M h hg ⟨λm z B q d=>g.n _ _ _ q d,λid m z B q d=>g.x _ _ _ _ q d,λm z B q d=>g.r _ _ _ q d⟩)
 |_=>intro st K Q a w h;exact absurd h (by simp[exec])
def aci(tt:TT)(st:St):ResultVar->Option S
 |.tmp t=>zw (st.s t)
 |.cell a t=>match tt t,st.s a with
  |some i,.v (.one (.box g off))=>match st.o g with
   |.box b=>if off+i.size<=b.length/\0<i.size then zw (V.gI i.agg ((b.drop off).take i.size))else zz
   |_=>zz
  |_,_=>zz
def Iq(tt:TT)(st:St):List ResultVar->Option (List S)
 | []=>zw []
 |r::b=>match aci tt st r,Iq tt st b with
  |some x,zw xs=>zw (x::xs)
  |_,_=>zz
def U5(xs:List S)(st:St):St:={ s:=λk=>xs.getD k .no,o:=st.o,used:=st.used }
def Fin(tt:TT)(sp:Bv)(ts:List ResultVar)(dR:List P)(st:St):Prop:=match Iq tt st ts with
 |some xs=>Back sp.bH sp.aU (U5 xs st) λvs=>vs=dR
 |none=>False
def am1(tt:TT)(sp:Bv)(ts:List ResultVar)(dR:List P):Ei:={ n:=Fin tt sp ts dR,x:=λ_ _=>False,r:=Fin tt sp ts dR }
def FY(tmps:Array Value)(r:ResultVar):Sem Value:=match r with
 |.tmp t=>pure (tmps.getD t undef)
 |.cell a t=>do loadVar t (<-asAddr (tmps.getD a undef))
theorem XL{fn:Func}{ts:List ResultVar}(b:fn.results=ts.toArray)(tmps:Array Value):results fn tmps=(do
  let vs <-List.toArray <$> ts.mapM (FY tmps)
  pure (if h:vs.size=1 then vs[0]else .tuple vs)):=by
 unfold results;rw[b,List.mapM_toArray];have :∀F:ResultVar->Sem Value,(∀r,F r=FY tmps r)->ts.mapM F=ts.mapM (FY tmps):=λF c=>by rw[funext c]
 rw[this _ λr=>by cases r<;>rfl]
theorem XM(L:jv Pg tt){st:St}(h:Rel E st u (λt=>a.tmps.getD t undef) w){r:ResultVar}{x:S}(d:aci tt st r=zw x):
  ∃v,(FY a.tmps r).run Pg w=.ok v w/\dU E st u w x v/\∀g∈x.names,st.used g=zj:=by
 cases r with
 |tmp t=>simp only[aci,Q0]at d;subst d;exact⟨_,rfl,h.slots t,h.us t⟩
 |cell ad t=>
  simp only[aci]at d;split at d
  rotate_left
  cases d;rename_i i g off ht hs;have rx:=h.slots ad;rw[hs]at rx;split at d
  rotate_left
  cases d;rename_i ws m;split at d
  rotate_left
  cases d;rename_i M;cases d;have Z:=h.bI g;rw[m]at Z;obtain⟨b,U,cs,hl,B,q,H⟩:=Ba.cells Z;obtain⟨ay9,Qw,hv⟩:=(by cases rx.dW with|box _ _ _ _ hb=>exact hb ws m :∃b,(u g).ad=zw b/\a.tmps.getD ad undef=.pointer (zw ⟨b.block,b.off+off,zz⟩));rw[U]at Qw;cases Qw;have X:((cs.drop off).take i.size).length=i.size:=by simp;omega
  obtain⟨v,J,K⟩:=lg (Pg:=Pg) (w:=w) (L _ _ ht) b.block (b.off+off) ((cs.drop off).take i.size) X (λj gh hu=>by
   have Y:j<i.size:=by have:=(Q3.1 hu).1;omega
   rw[ZZ,QQ Y,Wo]at hu;rw[J1];exact q _ _ hu) (λ_=>M.2)
  refine⟨v,by simp only[FY];rw[hv];simpa[asAddr]using J,lX (cs:=(cs.drop off).take i.size) (by simp;omega) (λc hc=>B c (UB (Wl hc)))
   (λj y gh hy hu=>?_) v K,λg' z=>?_⟩
  .have Y:j<i.size:=by have:=(Q3.1 hu).1;omega
   rw[ZZ,QQ Y,Wo]at hy hu;exact H _ _ _ hy hu
  .obtain ⟨x,d,z⟩:=jZ z;exact h.uo g g' (by rw[m];simp only[O.names,Z2];exact⟨x,UB (Wl d),z⟩)
theorem Ir(c:jv Pg tt){st:St}{gh:Nat->Gh}{a:Act}{w:World}(h:Rel E st gh (λt=>a.tmps.getD t undef) w):∀{d:List ResultVar} {xs:List S},Iq tt st d=zw xs->
  ∃vs:List Value,(d.mapM (FY a.tmps)).run Pg w=.ok vs w/\vs.length=d.length/\
   ∀k,dU E st gh w (xs.getD k .no) (vs.getD k undef)/\∀g∈(xs.getD k .no).names,st.used g=zj
 | [],xs,b=>by simp only[Iq,Q0]at b;subst b;exact⟨[],rfl,rfl,λk=>⟨.no _,by simp[S.names]⟩⟩
 |r::d,xs,b=>by
  simp only[Iq]at b;split at b
  rotate_left
  cases b;rename_i x xs j m;cases b;obtain⟨v,q1,q2,q3⟩:=XM c h j;obtain⟨vs,q,y,z⟩:=Ir c h m;refine⟨v::vs,?_,by simp[y],λk=>?_⟩
  .rw [vv,Sem.run_bind,q1];show Sem.run Pg _ w=_;rw[Sem.run_bind,q];rfl
  .cases k with
   |zero=>exact⟨q2,q3⟩
   |succ k=>simpa using z k
theorem Om(b:jv Pg tt){st:St}(h:Rel E st u (λt=>a.tmps.getD t undef) w){fn:Func}{ts:List ResultVar}(c:fn.results=ts.toArray){xs:List S}(d:Iq tt st ts=zw xs):
  ∃vs:List Value,(results fn a.tmps).run Pg w=.ok (abS vs) w/\vs.length=ts.length/\∀k,dU E st u w (xs.getD k .no) (vs.getD k undef)/\∀g∈(xs.getD k .no).names,st.used g=zj:=by
 obtain⟨vs,q1,q2,q3⟩:=Ir b h d;refine⟨vs,?_,q2,q3⟩;rw[XL c,Sem.run_bind,Sem.run_map,q1]
 match vs with
 | []=>rfl
 | [v]=>rfl
 |v::gh::vs=>simp[abS]
theorem aeP{f:FuncId}{fn:Func}{c:Code}{sp:Spec}(ts:List ResultVar)(hf:Pg.funcs[f]?=some fn)(hb:fn.body=some c)(hname:(fn.name == "runtime.NumGoroutine")=false)(hres:fn.results=ts.toArray)
  (hok:sp.sig.ok=zj) (NR:(sp.sig.bH.all λg=>sp.sig.pin.nms.contains g)=zj) (hlk :∀ins dR,sp.R ins dR->∀g∈sp.sig.bH,((Fw.mk sp.sig.pin ins).o g).like ((Fw.mk sp.sig.aU dR).o g)) (hn:sp.sig.bg<=fn.ntmps) (hnr:ts.length=sp.sig.bV)
  (hT :∀f sp,T f=zw sp->Sound Pg (f % 1000000) sp) (htt:jv Pg tt) (hm:Fit Pg)
  (h :∀ins dR,sp.R ins dR->exec T tt fn.ntmps sp.sig.bH c (Fw.mk sp.sig.pin ins) (am1 tt sp.sig ts dR)):Sound Pg f sp:=by
 refine⟨hok,λargs w=>?_,λE w vals gh ins dR hR hB hw0 Oh hlen=>?_⟩
 .have hname':¬ fn.name = "runtime.NumGoroutine" :=by simpa using hname
  simp[callFunc,hf,hname',hb]
 .have hsz:vals.toArray.size<=fn.ntmps:=by simp;omega
  refine callsIn_wide.1 (callsIn_of_wp_marks (n:=0) hf hb trivial (wpIn_wide.2 (XK (E:=E) (N:=fn.ntmps) (bH:=sp.sig.bH) (yP:=gh) hT htt hm c (h ins dR hR) ⟨⟨gh,?_,λg hg=>⟨?_,.inr ⟨rfl,rfl⟩⟩⟩,by simp;omega,Marks.nil rfl⟩ ?_)) rfl)
  .have e:(λt=>(vals.toArray++Array.replicate (fn.ntmps-vals.toArray.size) undef).getD t undef)=λk=>vals.getD k undef:=by
    funext t;rw[WP,Q1,Array.getElem?_append];split;simp;rename_i ht;have ht:vals.length<=t:=by simpa using ht
    rw[Vv ht,vu];split<;>rfl
   rw[e];exact Oh
  .exact (Z3.1 NR) g hg
  .have fin :∀st a w',Fin tt sp.sig ts dR st->Good E fn.ntmps sp.sig.bH gh st a w'->LeavesInM Fence.wide 0 Pg fn a.tmps (λe w'=>∃(rs:List Value) (bU:Nat->Gh),rs.length=sp.sig.bV/\e=.returned (abS rs)/\Rel E (Fw.mk sp.sig.aU dR) bU (λk=>rs.getD k undef) w'/\∀g∈sp.sig.bH,((bU g).ad=(gh g).ad/\(bU g).cap=(gh g).cap)/\((Fw.mk sp.sig.pin ins).o g).like ((Fw.mk sp.sig.aU dR).o g)) a.defers .returning w':=by
    intro st a w' hBk hg;unfold Fin at hBk;split at hBk
    rotate_left
    .cases hBk
    rename_i xs hxs;obtain⟨⟨oh,hR1,am0⟩,_,Ds,hd1,hd2,hd3⟩:=hg;rw[hd1];clear hd1
    induction Ds generalizing w' with
    |nil=>
     obtain⟨rs,hrun,hrl,hrs⟩:=Om htt hR1 hres hxs;refine⟨_,hrun,rs,?_⟩;have hfin:Rel E (U5 xs st) oh (λk=>rs.getD k undef) w':=by refine⟨λk=>?_,λg=>nG.congr (st:=st) (st':=U5 xs st) rfl (hR1.bI g),hR1.inj,hR1.wr,hR1.wi,hR1.ns,hR1.wb,hR1.frame,hR1.size,hR1.os,hR1.tape,hR1.output,λk g hg=>(hrs k).2 g hg,hR1.uo,hR1.ul⟩;exact dU.congr (st:=st) (st':=U5 xs st) rfl (hrs k).1
     obtain⟨bU,r1,r2⟩:=aeO hfin am0 hBk;exact⟨bU,by omega,rfl,r1,λg hg=>⟨r2 g hg,hlk ins dR hR g hg⟩⟩
    |cons D Ds ih=>obtain⟨h1,h2⟩:=hd3 D (by simp);have hnd:=K5.1 hd2;refine⟨by simp,.inl ⟨D,_,rfl,run_takeDeferred h2,ih _ (hR1.turn h2 rfl h1 _) hnd.2 λD' hD'=>?_⟩⟩;obtain⟨q1,q2⟩:=hd3 D' (by simp[hD']);exact⟨q1,(World.putObj_heap_other (λe:D'=D=>hnd.1 (by rw[<-e];exact hD'))).trans q2⟩
   exact⟨λst a w' hk hg=>fin st a w' hk hg,λid st a w' hk=>hk.elim,λst a w' hk hg=>fin st a w' hk hg⟩
end
end Go.Fw

namespace Go.Fg
open Go.Fw
inductive Ty where
 |int (k:IntKind)
 |bool
 |str
 |sl (e:Ty)
 |prod (a b:Ty)
 |st (n:Nat)
 |opq
 |sq (e:Ty)
def aeQ:(a b:IntKind)->Option (PLift (a=b))
 |.i8,.i8=>zw ⟨rfl⟩
 |.i16,.i16=>zw ⟨rfl⟩
 |.i32,.i32=>zw ⟨rfl⟩
 |.i64,.i64=>zw ⟨rfl⟩
 |.u8,.u8=>zw ⟨rfl⟩
 |.u16,.u16=>zw ⟨rfl⟩
 |.u32,.u32=>zw ⟨rfl⟩
 |.u64,.u64=>zw ⟨rfl⟩
 |_,_=>zz
def aeR(a b:Nat):Option (PLift (a=b)):=match h:Nat.beq a b with
 |true=>zw ⟨Q6 h⟩
 |false=>zz
def Ty.eq:(a b:Ty)->Option (PLift (a=b))
 |.int k,.int c=>match aeQ k c with
  |some ⟨h⟩=>zw ⟨h▸rfl⟩
  |none=>zz
 |.bool,.bool=>zw ⟨rfl⟩
 |.str,.str=>zw ⟨rfl⟩
 |.opq,.opq=>zw ⟨rfl⟩
 |.sl a,.sl b=>match Ty.eq a b with
  |some ⟨h⟩=>zw ⟨h▸rfl⟩
  |none=>zz
 |.sq a,.sq b=>match Ty.eq a b with
  |some ⟨h⟩=>zw ⟨h▸rfl⟩
  |none=>zz
 |.prod a b,.prod d g=>match Ty.eq a d,Ty.eq b g with
  |some ⟨h⟩,zw ⟨j⟩=>zw ⟨h▸j▸rfl⟩
  |_,_=>zz
 |.st n,.st m=>match aeR n m with
  |some ⟨h⟩=>zw ⟨h▸rfl⟩
  |none=>zz
 |_,_=>zz
def Ty.word:Ty->Bool
 |.prod _ _=>zv
 |.st _=>zv
 |_=>zj
def Ty.flat:Ty->Bool
 |.int _=>zj
 |.bool=>zj
 |.str=>zj
 |.opq=>zj
 |_=>zv
def D(C:Nat->Type):Ty->Type
 |.int _=>Int
 |.bool=>Bool
 |.str=>List UInt8
 |.sl e=>List (D C e)
 |.prod a b=>D C a×D C b
 |.st n=>C n
 |.opq=>Value
 |.sq e=>List (D C e)
structure TP(C:Nat->Type) where
 t:Ty
 x:D C t
def TP.get{C:Nat->Type}(t:Ty)(d:D C t)(ws:List (TP C))(n:Nat):D C t:=match ws[n]? with
 |some w=>match Ty.eq w.t t with
  |some ⟨h⟩=>h▸w.x
  |none=>d
 |none=>d
variable{t:Ty}
theorem aP{C:Nat->Type}{b:List (TP C)}{ts:List Ty}(h:b.map (·.t)=t::ts):∃x c,b=⟨t,x⟩::c/\c.map (·.t)=ts:=by
 cases b with
 |nil=>cases h
 |cons w b=>obtain⟨d,x⟩:=w;simp only[Qf,List.cons.injEq]at h;obtain⟨rfl,h⟩:=h;exact⟨x,b,rfl,h⟩
theorem dX{C:Nat->Type}{b:List (TP C)}(h:b.map (·.t)=[]):b=[]:=by simpa using h
def Lp{C:Nat->Type}(size:Ty->Nat)(mD:(t:Ty)->D C t->List P):(t:Ty)->D C t->P
 |.int k,x=>.int k x
 |.bool,b=>.bool b
 |.str,s=>.str ⟨s.toArray⟩
 |.sl e,l=>P.gV (size e) (List.map (mD e) l)
 |.opq,v=>.opq v
 |.sq e,l=>.seq (List.map (mD e) l)
 |.prod _ _,_=>default
 |.st _,_=>default
def qG{C:Nat->Type}(F:Nat->List Ty)(er:(n:Nat)->C n->List P)(size:Ty->Nat):(t:Ty)->D C t->List P
 |.int k,x=>[.int k x]
 |.bool,b=>[.bool b]
 |.str,s=>[.str ⟨s.toArray⟩]
 |.sl e,l=>[P.gV (size e) (List.map (qG F er size e) l)]
 |.opq,v=>[.opq v]
 |.sq e,l=>[.seq (List.map (qG F er size e) l)]
 |.prod a b,x=>qG F er size a x.1++qG F er size b x.2
 |.st n,x=>er n x
def jT(F:Nat->List Ty):Ty->Nat
 |.prod a b=>jT F a+jT F b
 |.st n=>(F n).length
 |_=>1
class RE where
 C:Nat->Type
 F:Nat->List Ty
 dflt:(n:Nat)->C n
 un:(n:Nat)->C n->List (TP C)
 ro:(n:Nat)->List (TP C)->C n
 er:(n:Nat)->C n->List P
 Fwd :∀n,(F n).all Ty.word=zj
 alo :∀n x,(un n x).map (·.t)=F n
 alp :∀n ws,ws.map (·.t)=F n->un n (ro n ws)=ws
 alq :∀n x,er n x=(un n x).map λw=>Lp (jT F) (qG F er (jT F)) w.t w.x
 hd:Nat:=999999
 hdF:F hd=[]:=by rfl
 G:Nat->Option ((e:Ty)×List (D C e)):=λ_=>zz
 Q:World->List Nat->List (List P)->Value->Prop:=λ_ _ _ _=>False
 am2 :∀{w w':World} {S:List Nat} {l:List (List P)} {v:Value},(∀b∈S,w'.heap[b]?=w.heap[b]?)->Q w S l v->Q w' S l v:=by intro _ _ _ _ _ _ h;exact h
section
variable [RE]
abbrev Dt(t:Ty):Type:=D RE.C t
abbrev Wd:=TP RE.C
def size:Ty->Nat:=jT RE.F
def mD:(t:Ty)->Dt t->List P:=qG RE.F RE.er (jT RE.F)
instance:fO:=⟨λg=>(RE.G g).map λx=>(size x.1,List.map (mD x.1) x.2),RE.Q,RE.am2⟩
theorem alr(g:Nat):fO.gt g=(RE.G g).map λx=>(size x.1,List.map (mD x.1) x.2):=rfl
def dL(w:Wd):P:=Lp (jT RE.F) (qG RE.F RE.er (jT RE.F)) w.t w.x
def dflt:(t:Ty)->Dt t
 |.int _=>(0:Int)
 |.bool=>zv
 |.str=>([]:List UInt8)
 |.sl e=>([]:List (Dt e))
 |.prod a b=>(dflt a,dflt b)
 |.st n=>RE.dflt n
 |.opq=>Value.nilFunc
 |.sq e=>([]:List (Dt e))
def TP.Dv(t:Ty)(w:Wd):Option (Dt t):=match Ty.eq w.t t with
 |some ⟨h⟩=>zw (h▸w.x)
 |none=>zz
def TP.as(t:Ty)(w:Wd):Dt t:=match Ty.eq w.t t with
 |some ⟨h⟩=>h▸w.x
 |none=>dflt t
def gW:(t:Ty)->Dt t->List Wd
 |.prod a b,x=>gW a x.1++gW b x.2
 |.st n,x=>RE.un n x
 |.int k,x=>[⟨.int k,x⟩]
 |.bool,x=>[⟨.bool,x⟩]
 |.str,x=>[⟨.str,x⟩]
 |.sl e,x=>[⟨.sl e,x⟩]
 |.opq,x=>[⟨.opq,x⟩]
 |.sq e,x=>[⟨.sq e,x⟩]
def jV:Ty->List Ty
 |.prod a b=>jV a++jV b
 |.st n=>RE.F n
 |t=>[t]
def mF:(t:Ty)->List Wd->Dt t
 |.prod a b,c=>(mF a (c.take (size a)),mF b (c.drop (size a)))
 |.st n,c=>RE.ro n c
 |.int k,c=>match c with
  |w::_=>w.as (.int k)
  | []=>dflt (.int k)
 |.bool,c=>match c with
  |w::_=>w.as .bool
  | []=>dflt .bool
 |.str,c=>match c with
  |w::_=>w.as .str
  | []=>dflt .str
 |.sl e,c=>match c with
  |w::_=>w.as (.sl e)
  | []=>dflt (.sl e)
 |.opq,c=>match c with
  |w::_=>w.as .opq
  | []=>dflt .opq
 |.sq e,c=>match c with
  |w::_=>w.as (.sq e)
  | []=>dflt (.sq e)
theorem Ty.eq_self:∀(t:Ty),∃h,Ty.eq t t=zw ⟨h⟩:=by
 intro t
 induction t with
 |int k=>cases k<;>exact⟨rfl,rfl⟩
 |bool=>exact⟨rfl,rfl⟩
 |str=>exact⟨rfl,rfl⟩
 |opq=>exact⟨rfl,rfl⟩
 |sl e c=>obtain⟨h,c⟩:=c;exact⟨rfl,by simp[Ty.eq,c]⟩
 |sq e c=>obtain⟨h,c⟩:=c;exact⟨rfl,by simp[Ty.eq,c]⟩
 |prod a b d g=>obtain⟨h,d⟩:=d;obtain⟨j,g⟩:=g;exact⟨rfl,by simp[Ty.eq,d,g]⟩
 |st n=>
  refine⟨rfl,?_⟩;have:aeR n n=zw ⟨rfl⟩:=by unfold aeR;split;rfl;rename_i h;simp at h
  simp[Ty.eq,this]
theorem tY(t:Ty)(x:Dt t):TP.as t ⟨t,x⟩=x:=by obtain⟨h,e⟩:=Ty.eq_self t;simp[TP.as,e]
variable{w:Wd}
theorem yB(h:w.t=t):(⟨t,w.as t⟩:Wd)=w:=by obtain⟨b,x⟩:=w;simp only at h;subst h;rw[tY]
theorem iR{x:Dt t}(h:w.Dv t=zw x):w=⟨t,x⟩:=by
 obtain⟨b,y⟩:=w;unfold TP.Dv at h;split at h
 .rename_i e c;simp only at e;subst e;cases h;rfl
 .cases h
theorem am3{x:Dt t}(h:w.Dv t=zw x):w.t=t:=by rw[iR h]
theorem kU:∀(t:Ty),(jV t).length=size t
 |.prod a b=>by have c:=kU a;have d:=kU b;simp only[size]at c d;simp[jV,size,jT,c,d]
 |.st n=>by simp[jV,size,jT]
 |.int k=>rfl
 |.bool=>rfl
 |.str=>rfl
 |.sl e=>rfl
 |.opq=>rfl
 |.sq e=>rfl
theorem vO:∀(t:Ty) (x:Dt t),(gW t x).map (·.t)=jV t
 |.prod a b,x=>by simp[gW,jV,vO a,vO b]
 |.st n,x=>by simp[gW,jV];exact RE.alo n x
 |.int k,x=>rfl
 |.bool,x=>rfl
 |.str,x=>rfl
 |.sl e,x=>rfl
 |.opq,x=>rfl
 |.sq e,x=>rfl
theorem rH(t:Ty)(x:Dt t):(gW t x).length=size t:=by rw[<-kU,<-vO t x,We]
theorem iW:∀(t:Ty) (x:Dt t),mD t x=(gW t x).map dL
 |.prod a b,x=>by show mD a x.1++mD b x.2=_;rw[iW a x.1,iW b x.2];simp[gW]
 |.st n,x=>RE.alq n x
 |.int k,x=>rfl
 |.bool,x=>rfl
 |.str,x=>rfl
 |.sl e,x=>rfl
 |.opq,x=>rfl
 |.sq e,x=>rfl
theorem U6(t:Ty)(x:Dt t):(mD t x).length=size t:=by rw[iW,We,rH]
theorem xH{b:List Wd}(h:b.map (·.t)=[t]):∃w,b=[w]/\w.t=t:=by
 match b with
 | []=>cases h
 | [w]=>exact⟨w,rfl,by simpa using h⟩
 |w::u::b=>simp at h
theorem Lr:∀(t:Ty) (c:List Wd),c.map (·.t)=jV t->gW t (mF t c)=c
 |.prod a b,c,h=>by
  have g:(c.take (size a)).map (·.t)=jV a:=by rw[UT,h];simp[jV,<-kU]
  have j:(c.drop (size a)).map (·.t)=jV b:=by rw[VM,h];simp[jV,<-kU]
  show gW a (mF a (c.take (size a)))++gW b (mF b (c.drop (size a)))=c;rw[Lr a _ g,Lr b _ j,K3]
 |.st n,c,h=>RE.alp n c h
 |.int k,c,h=>by obtain⟨w,rfl,d⟩:=xH (t:=(.int k)) h;show [(⟨.int k,w.as (.int k)⟩:Wd)]=[w];rw[yB d]
 |.bool,c,h=>by obtain⟨w,rfl,d⟩:=xH (t:=.bool) h;show [(⟨.bool,w.as .bool⟩:Wd)]=[w];rw[yB d]
 |.str,c,h=>by obtain⟨w,rfl,d⟩:=xH (t:=.str) h;show [(⟨.str,w.as .str⟩:Wd)]=[w];rw[yB d]
 |.sl e,c,h=>by obtain⟨w,rfl,d⟩:=xH (t:=(.sl e)) h;show [(⟨.sl e,w.as (.sl e)⟩:Wd)]=[w];rw[yB d]
 |.opq,c,h=>by obtain⟨w,rfl,d⟩:=xH (t:=.opq) h;show [(⟨.opq,w.as .opq⟩:Wd)]=[w];rw[yB d]
 |.sq e,c,h=>by obtain⟨w,rfl,d⟩:=xH (t:=(.sq e)) h;show [(⟨.sq e,w.as (.sq e)⟩:Wd)]=[w];rw[yB d]
theorem xI{b:List Wd}(h:b.map (·.t)=jV t):mD t (mF t b)=b.map dL:=by rw[iW,Lr t b h]
def aK(e:Ty)(l:List (Dt e)):List (List P):=List.map (mD e) l
theorem Jv(e:Ty)(l:List (Dt e)):dL ⟨.sl e,l⟩=P.gV (size e) (aK e l):=rfl
theorem jR(e:Ty)(l:List (Dt e)):(dL ⟨.sl e,l⟩).list=aK e l:=by rw[Jv,P.pF]
theorem acj(h:w.t.flat=zj):(dL w).flat=zj:=by obtain⟨t,x⟩:=w;cases t<;>simp[Ty.flat]at h<;>rfl
end
end Go.Fg

namespace Go.Fg
open Go.Fw
section
variable [RE]
inductive TW where
 |p (a i:Bool) (w:Wd)
 |dD
 |own (g:Nat)
 |vw (g:Nat) (lo hi:Int)
 |box (g off:Nat)
 |ep (g:Nat) (n:Int) (off:Nat)
 |sp (a i:Bool) (t:Ty) (x:Dt t) (off:Nat)
 |clo (f:FuncId) (caps:List TW)
 |gl (g:Nat)
 |oI (g:Nat)
 |no
inductive TV where
 |one (x:TW)
 |agg (xs:List TW)
inductive TS where
 |v (x:TV)
 |jy (xs:List TV)
 |no
inductive TO where
 |none
 |box (ws:List TW)
 |arr (fz a i:Bool) (e:Ty) (l:List (Dt e))
 |it (s:List UInt8) (n:Int)
 |aO (a i:Bool) (e:Ty) (au:List (Nat×Ty)) (l:List (Dt e)) (hole:Option (Nat×Nat×Nat))
mutual
def dn:TW->W
 |.p a i w=>.p a i (dL w)
 |.dD=>.dD
 |.own g=>.own g
 |.vw g lo c=>.vw g (.int .i64 lo) (.int .i64 c)
 |.box g off=>.box g off
 |.ep g n off=>.ep g (.int .i64 n) off
 |.sp a i t x off=>.sp a i (mD t x) off
 |.clo f b=>.clo f (oQ b)
 |.gl g=>.gl g
 |.oI g=>.oI g
 |.no=>.no
def oQ:List TW->List W
 | []=>[]
 |x::xs=>dn x::oQ xs
end
theorem Aw:∀(l:List TW),oQ l=l.map dn
 | []=>rfl
 |x::xs=>by simp[oQ,Aw xs]
def kG:TV->V
 |.one x=>.one (dn x)
 |.agg xs=>.agg (xs.map dn)
def bJ:TS->S
 |.v x=>.v (kG x)
 |.jy xs=>.jy (xs.map kG)
 |.no=>.no
def gY(au:List (Nat×Ty)):List (Nat×Nat):=au.map λc=>(c.1,size c.2)
def eH:TO->O
 |.none=>.none
 |.box c=>.box (c.map dn)
 |.arr d a i e l=>.arr d a i (size e) (aK e l)
 |.it s n=>.it (.str ⟨s.toArray⟩) (.int .i64 n)
 |.aO a i e g l b=>.aO a i (size e) (gY g) (aK e l) b
def kC{α:Type}(d:α):List (Nat×α)->Nat->α
 | [],_=>d
 |(k,v)::r,t=>bif Nat.beq t k then v else kC d r t
def zx{α:Type}(k:Nat)(v:α):List (Nat×α)->List (Nat×α)
 | []=>[(k,v)]
 |(b,c)::r=>bif Nat.beq k b then(k,v)::r else(b,c)::zx k v r
def gG(g:Nat):List Nat->Bool
 | []=>zv
 |x::xs=>Nat.beq g x||gG g xs
structure jL where
 s:List (Nat×TS)
 o:List (Nat×TO)
 u:List Nat
def jL.gs(st:jL)(t:Nat):TS:=kC .no st.s t
def jL.go(st:jL)(g:Nat):TO:=kC .none st.o g
def bD(st:jL):St:={ s:=λt=>bJ (st.gs t),o:=λg=>eH (st.go g),used:=λg=>gG g st.u }
def dw(o:Nat->TO):Nat->O:=λg=>eH (o g)
def jB(k:IntKind)(x:Int):Wd:=⟨.int k,x⟩
def jE(x:Bool):Wd:=⟨.bool,x⟩
def U7(x:List UInt8):Wd:=⟨.str,x⟩
def vP(e:Ty)(x:List (Dt e)):Wd:=⟨.sl e,x⟩
def auu(x:Value):Wd:=⟨.opq,x⟩
def cvT:Value->TW
 |.int k n=>.p zv zv (jB k n)
 |.bool b=>.p zv zv (jE b)
 |.string s=>.p zv zv (U7 s.data.toList)
 |.slice zz 0 0=>.dD
 |v=>.p zv zv (auu v)
def XO:Value->TS
 |.agg b=>bif b.toList.all Value.oneCell' then .v (.agg (b.toList.map cvT))else .no
 |.tuple _=>.no
 |.func (.func f) ⟨[]⟩ ⟨[]⟩=>.v (.one (.clo f []))
 |v=>bif v.oneCell' then .v (.one (cvT v))else .no
def jL.dK(st:jL):Operand->TS
 |.tmp t=>st.gs t
 |.const v=>XO v
 |.func f=>.v (.one (.clo f []))
 |.global g=>match RE.G g with
  |some _=>.v (.one (.gl g))
  |none=>.no
structure uU where
 pre:Bool
 t:Ty
 val:Dt t
 dst:Dt t->TS
 aJ:Dt t->List (Nat×TO)
 new:List Nat
def uU.pure(x:TS):uU:={ pre:=zj,t:=.bool,val:=zv,dst:=λ_=>x,aJ:=λ_=>[],new:=[] }
def Zn(w:Wd):TS:=.v (.one (.p zv zv w))
def uU.calc(pre:Bool)(t:Ty)(x:Dt t):uU:={ pre,t,val:=x,dst:=λz=>Zn ⟨t,z⟩,aJ:=λ_=>[],new:=[] }
structure TA where
 a:Bool
 i:Bool
 e:Ty
 l:List (Dt e)
structure TH where
 a:Bool
 i:Bool
 e:Ty
 au:List (Nat×Ty)
 l:List (Dt e)
def tyB(a b:Ty):Bool:=match Ty.eq a b with
 |some _=>zj
 |none=>zv
def vS(c:Nat):List (Nat×Ty)->Option Ty
 | []=>zz
 |(k,t)::r=>bif Nat.beq c k then zw t else vS c r
def acn(e:Ty)(au:List (Nat×Ty))(c:Nat)(e':Ty):Bool:=(match vS c au with
 |some t=>tyB t e'
 |none=>zv)&&(match (jV e)[c]? with
 |some (.sl t)=>tyB t e'
 |_=>zv)
def Oo(e:Ty)(whole:Bool)(x:Dt e)(off:Nat)(ps:List Wd):Dt e:=match whole with
 |true=>mF e ps
 |false=>mF e (bf (gW e x) off ps)
def putRow(e:Ty)(l:List (Dt e))(n c:Nat)(w:Wd):List (Dt e):=List.set l n (Oo e (Nat.beq 1 (size e)) (l.getD n (dflt e)) c [w])
def oU(o:Nat->TO)(g:Nat):Option TA:=match o g with
 |.arr _ a i e l=>zw ⟨a,i,e,l⟩
 |.aO a i e j l b=>match b with
  |none=>zw ⟨a,i,e,l⟩
  |some (n,c,d)=>match o d with
   |.arr _ a' i' h m=>match acn e j c h with
    |true=>zw ⟨a||a',i||i',e,putRow e l n c (vP h m)⟩
    |false=>zz
   |_=>zz
 |_=>zz
def jC:TO->List Nat
 |.aO _ _ _ _ _ b=>match b with
  |some (_,_,d)=>[d]
  |none=>[]
 |_=>[]
def Oq(o:Nat->TO)(g:Nat):Option (Ty×Nat):=match o g with
 |.arr _ _ _ e l=>zw (e,l.length)
 |.aO _ _ e _ l _=>zw (e,l.length)
 |_=>zz
def TW.toP(o:Nat->TO)(t:Ty):TW->Option (Dt t×Bool×Bool×List Nat)
 |.p a i w=>match w.Dv t with
  |some x=>zw (x,a,i,[])
  |none=>zz
 |.dD=>match t with
  |.sl e=>zw (([]:List (Dt e)),zv,zv,[])
  |_=>zz
 |.own g=>match oU o g with
  |some ⟨a,i,e,l⟩=>match (vP e l).Dv t with
   |some x=>zw (x,a,i,jC (o g)++[g])
   |none=>zz
  |none=>zz
 |.vw g lo b=>match oU o g with
  |some ⟨a,i,e,l⟩=>match (vP e ((l.take b.toNat).drop lo.toNat)).Dv t with
   |some x=>zw (x,a,i,jC (o g)++[g])
   |none=>zz
  |none=>zz
 |_=>zz
def tZ(o:Nat->TO):List Ty->List TW->Option (List Wd×Bool×Bool×List Nat)
 | [],[]=>zw ([],zv,zv,[])
 |t::ts,x::xs=>match x.toP o t,tZ o ts xs with
  |some (y,a,i,gs),zw (c,a',i',b)=>zw (⟨t,y⟩::c,a||a',i||i',gs++b)
  |_,_=>zz
 |_,_=>zz
def TV.words:TV->List TW
 |.one x=>[x]
 |.agg xs=>xs
def mX(o:Nat->TO)(g:Nat):Nat×TO:=
 (g,match oU o g with
  |some ⟨a,i,e,l⟩=>.arr zj a i e l
  |none=>o g)
def TV.gI(agg:Bool)(ws:List TW):TS:=match agg with
 |true=>.v (.agg ws)
 |false=>match ws with
  | [x]=>.v (.one x)
  |_=>.no
def TW.solid:TW->Bool
 |.no=>zv
 |_=>zj
def TV.solid:TV->Bool
 |.one x=>x.solid
 |.agg _=>zj
def Ej(place:Nat->Option (Nat×Nat))(ws:List TW):List (Nat×TS)->Option (List TW)
 | []=>zw ws
 |(n,.v x)::rest=>match place n with
  |some (off,size)=>bif Nat.beq x.words.length size&&Nat.ble (off+size) ws.length&&x.solid then Ej place (bf ws off x.words) rest else zz
  |none=>zz
 |_=>zz
def TW.rows(o:Nat->TO)(e:Ty):TW->Option (List (Dt e)×Bool×Bool)
 |.p a i w=>match w.Dv (.sl e)with
  |some l=>zw (l,a,i)
  |none=>zz
 |.dD=>zw ([],zv,zv)
 |.own g=>match o g with
  |.arr _ a i b l=>match (vP b l).Dv (.sl e)with
   |some l=>zw (l,a,i)
   |none=>zz
  |_=>zz
 |.vw g lo c=>match o g with
  |.arr _ a i b l=>match (vP b ((l.take c.toNat).drop lo.toNat)).Dv (.sl e)with
   |some l=>zw (l,a,i)
   |none=>zz
  |_=>zz
 |_=>zz
def U8(o:Nat->TO):TW->Option Int
 |.p _ _ ⟨.sl e,l⟩=>zw (List.length (α:=Dt e) l)
 |.dD=>zw 0
 |.own g=>match Oq o g with
  |some (_,n)=>zw n
  |none=>zz
 |.vw g lo b=>match Oq o g with
  |some _=>zw (b.toNat-lo.toNat:Nat)
  |none=>zz
 |_=>zz
def TW.live(o:Nat->TO):TW->Bool
 |.box g _=>match o g with
  |.box _=>zj
  |_=>zv
 |.ep g _ _=>match Oq o g with
  |some _=>zj
  |none=>zv
 |.sp _ _ _ _ _=>zj
 |_=>zv
def TW.shift(n:Nat):TW->TW
 |.box g off=>.box g (off+n)
 |.ep g k off=>.ep g k (off+n)
 |.sp a i t x off=>.sp a i t x (off+n)
 |x=>x
def mY(dflt:Int):Option TS->Option Int
 |none=>zw dflt
 |some (.v (.one (.p _ _ ⟨.int .i64,x⟩)))=>zw x
 |_=>zz
def auv(n:Int):Int:=0-n
def eqI(a b:Int):Bool:=decide (a=b)
def inB(n:Int)(len:Nat):Bool:=decide (0<=n)&&decide (n<len)
def Jg(lo hi:Int)(len:Nat):Bool:=decide (0<=lo)&&decide (lo<=hi)&&decide (hi<=(len:Int))
def zy(bytes:Nat)(n c:Int):Bool:=decide (0<=n)&&decide (n<=c)&&decide (bytes*c<=281474976710656)&&decide (c<=9223372036854775807)
def strOf(l:List Int):List UInt8:=l.map λn=>UInt8.ofNat n.toNat
def am5(s:List UInt8):List Int:=s.map λb=>(b.toNat:Int)
def aco(a b:Int):Int:=if b<a then b else a
def FZ(a b:Int):Int:=if b>a then b else a
def XP(op:BinOp)(k k':IntKind)(a b:Int):Option (Bool×Wd):=
 match op with
 |.shl=>zw (decide (0<=b),jB k (k.wrap (a*2 ^ min b.toNat k.bits)))
 |.shr=>zw (decide (0<=b),jB k (a.fdiv (2 ^ min b.toNat k.bits)))
 |_=>match aeQ k k' with
  |none=>zz
  |some _=>match op with
   |.add=>zw (zj,jB k (k.wrap (a+b)))
   |.sub=>zw (zj,jB k (k.wrap (a-b)))
   |.mul=>zw (zj,jB k (k.wrap (a*b)))
   |.quo=>zw (!(decide (b=0)),jB k (k.wrap (a.tdiv b)))
   |.rem=>zw (!(decide (b=0)),jB k (a.tmod b))
   |.and=>zw (zj,jB k (bits .and k a b))
   |.or=>zw (zj,jB k (bits .or k a b))
   |.xor=>zw (zj,jB k (bits .xor k a b))
   |.andNot=>zw (zj,jB k (bits .andNot k a b))
   |.eql=>zw (zj,jE (decide (a=b)))
   |.neq=>zw (zj,jE (!(decide (a=b))))
   |.lss=>zw (zj,jE (decide (a<b)))
   |.leq=>zw (zj,jE (decide (a<=b)))
   |.gtr=>zw (zj,jE (decide (b<a)))
   |.geq=>zw (zj,jE (decide (b<=a)))
   |_=>zz
def Em(n m:Nat):Bool:=Nat.ble n (9223372036854775807-m)&&Nat.ble m 9223372036854775807
theorem pU:Em g n=zj↔g+n<=9223372036854775807:=by unfold Em;rw[QR,Nat.ble_eq,Nat.ble_eq];omega
def XQ(op:BinOp)(a b:List UInt8):Option (Bool×Wd):=
 match op with
 |.add=>zw (Em a.length b.length,U7 (a++b))
 |.eql=>zw (zj,jE (a==b))
 |.neq=>zw (zj,jE (!(a==b)))
 |.lss=>zw (zj,jE (Op.bytesLess a b))
 |.leq=>zw (zj,jE (Op.bytesLess a b||a==b))
 |.gtr=>zw (zj,jE (!(Op.bytesLess a b||a==b)))
 |.geq=>zw (zj,jE (!Op.bytesLess a b))
 |_=>zz
def Rf(op:BinOp)(a b:Bool):Option (Bool×Wd):=
 match op with
 |.eql=>zw (zj,jE (a==b))
 |.neq=>zw (zj,jE (a != b))
 |_=>zz
def ap7(k:TK)(op:BinOp)(x y:Wd):Option (Bool×Wd):=
 match k,x,y with
 |.int _,⟨.int k,a⟩,⟨.int c,b⟩=>XP op k c a b
 |.str,⟨.str,a⟩,⟨.str,b⟩=>XQ op a b
 |.bool,⟨.bool,a⟩,⟨.bool,b⟩=>Rf op a b
 |_,_,_=>zz
def unT(op:UnOp)(x:Wd):Option Wd:=
 match op,x with
 |.neg,⟨.int k,n⟩=>zw (jB k (k.wrap (auv n)))
 |.not,⟨.bool,b⟩=>zw (jE (!b))
 |_,_=>zz
def alv(k k':IntKind)(m n:Int):Option Bool:=
 match aeQ k k' with
 |some _=>zw (decide (m=n))
 |none=>zz
def eqStr(a b:List UInt8):Option Bool:=zw (a==b)
def ap8(a b:Bool):Option Bool:=zw (a==b)
def am6(k:TK)(x y:Wd):Option Bool:=
 match k,x,y with
 |.int _,⟨.int a,m⟩,⟨.int b,n⟩=>alv a b m n
 |.str,⟨.str,a⟩,⟨.str,b⟩=>eqStr a b
 |.bool,⟨.bool,a⟩,⟨.bool,b⟩=>ap8 a b
 |_,_,_=>zz
def Jh(tt:TT):Nat->List (Nat×TypeId)->List TW->List TW->Option Bool
 |_,[],[],[]=>zw zj
 |n,(off,t)::d,.p _ _ x::xs,.p _ _ y::g=>match tt t with
  |some i=>bif Nat.beq off n&&i.k.flat&&Nat.beq i.size 1 then match am6 i.k x y,Jh tt (n+1) d xs g with
   |some b,zw c=>zw (b&&c)
   |_,_=>zz
   else zz
  |none=>zz
 |_,_,_,_=>zz
def uU.pV(c:Bool×Wd):uU:=.calc c.1 c.2.t c.2.x
def aeS:Wd->Value->Bool
 |⟨.int k,n⟩,.int c d=>(match aeQ k c with|some _=>zj|none=>zv)&&eqI n d
 |⟨.bool,b⟩,.bool g=>BEq.beq (α:=Bool) b g
 |⟨.str,s⟩,.string h=>List.isEmpty (α:=UInt8) s&&h.data.toList.isEmpty
 |⟨.sl e,l⟩,.slice zz 0 0=>List.isEmpty (α:=Dt e) l
 |_,_=>zv
def uV:List Wd->List Value->Bool
 | [],[]=>zj
 |w::b,v::vs=>aeS w v&&uV b vs
 |_,_=>zv
def tpw(a i:Bool)(ws:List Wd):List TW:=ws.map (TW.p a i)
def Rh(tt:TT)(ety:TypeId->Option Ty)(d:Nat)(o:Nat->TO)(sT:TypeId)(s x:TW):Option uU:=
 match tt sT with
 |some { k:=.slice e,.. }=>match tt e,ety e with
  |some j,zw b=>bif Nat.beq j.bytes 0||!Nat.beq (size b) j.size then zz else match x.rows o b with
   |none=>zz
   |some (new,a',i')=>
    let c (pre:Bool) (h:List (Dt b)) (a i:Bool) (kill:List (Nat×TO)):uU:=
     { pre:=pre&&decide ((h.length+new.length)*j.bytes<=140737488355328),t:=.sl b,val:=List.append h new,dst:=λ_=>.v (.one (.own d)),aJ:=λy=>kill++[(d,.arr zv (a||a') (i||i') b y)],new:=[d] }
    match s with
    |.dD=>zw (c zj [] zv zv [])
    |.own g=>match o g with
     |.arr zv a i m l=>match (vP m l).Dv (.sl b)with
      |some l=>bif Nat.beq g d then zz else zw (c zj l a i [(g,.none)])
      |none=>zz
     |_=>zz
    |.vw g lo q=>match o g with
     |.arr zv a i m l=>match (vP m (l.take q.toNat)).Dv (.sl b)with
      |some l=>bif Nat.beq g d then zz else zw (c (decide (lo=0)) l a i [(g,.none)])
      |none=>zz
     |_=>zz
    |_=>zz
  |_,_=>zz
 |_=>zz
def En(e:Ty):Nat->List Wd->List (Dt e)
 |0,_=>[]
 |n+1,l=>mF e (l.take (size e))::En e n (l.drop (size e))
def Ls{α:Type}(l:List α):Nat->List α
 |0=>[]
 |n+1=>l++Ls l n
def Zo(tt:TT)(o:Nat->TO)(t:TypeId)(x h m:TS):Option uU:=
 match tt t,x,h,m with
 |some { k:=.slice e,.. },.v (.one (.own g)),.v (.one (.p _ _ ⟨.int .i64,h⟩)),.v (.one (.p _ _ ⟨.int .i64,m⟩))=>match tt e,o g with
  |some b,.arr zv _ _ c l=>bif Nat.beq (size c) b.size then zw { pre:=Jg h m l.length,t:=.bool,val:=zv,dst:=λ_=>.v (.one (.vw g 0 h)),aJ:=λ_=>[],new:=[] } else zz
  |_,_=>zz
 |some { k:=.slice e,.. },.v (.one .dD),.v (.one (.p _ _ ⟨.int .i64,h⟩)),.v (.one (.p _ _ ⟨.int .i64,m⟩))=>match tt e with
  |some _=>zw { pre:=Jg h m 0,t:=.bool,val:=zv,dst:=λ_=>.v (.one .dD),aJ:=λ_=>[],new:=[] }
  |none=>zz
 |_,_,_,_=>zz
def eP(tt:TT)(ety:TypeId->Option Ty)(d:Nat)(o:Nat->TO)(f:Operand->TS)(op:Op)(ty:TypeId):Option uU:=
 match op with
 |.move x|.assign x=>match f x with
  |.no=>zz
  |s=>zw (.pure s)
 |.pick c x y=>match f c with
  |.v (.one (.p _ _ ⟨.bool,b⟩))=>match f x,f y with
   |.v (.one (.p a i w)),.v (.one (.p a' i' U))=>match U.Dv w.t with
    |some z=>zw { pre:=zj,t:=w.t,val:=bif b then w.x else z,dst:=λz=>.v (.one (.p (a||a') (i||i') ⟨w.t,z⟩)),aJ:=λ_=>[],new:=[] }
    |none=>zz
   |x,y=>match (bif b then x else y)with
    |.no=>zz
    |s=>zw (.pure s)
  |_=>zz
 |.alloc t=>match tt t with
  |some i=>zw { pre:=zj,t:=.bool,val:=zv,dst:=λ_=>.v (.one (.box d 0)),aJ:=λ_=>[(d,.box (i.zero.map cvT))],new:=[d] }
  |none=>zz
 |.box t x=>match tt t,f x with
  |some i,.v x=>bif Nat.beq x.words.length i.size&&x.solid then zw { pre:=zj,t:=.bool,val:=zv,dst:=λ_=>.v (.one (.box d 0)),aJ:=λ_=>[(d,.box x.words)],new:=[d] } else zz
  |_,_=>zz
 |.build t parts=>match tt t with
  |some i=>bif i.known tt then match Ej (placeOf tt t) (i.zero.map cvT) (parts.toList.map λp=>(p.1,f p.2))with
   |some B=>zw (.pure (.v (.agg B)))
   |none=>zz
   else zz
  |none=>zz
 |.buildSlice t n parts=>match tt t with
  |some { k:=.slice e,.. }=>match tt e,ety e with
   |some j,zw h=>match Ej (λm=>if m<n then zw (m*j.size,j.size)else zz) (Ls (j.zero.map cvT) n) (parts.toList.map λp=>(p.1,f p.2))with
    |some B=>match tZ o (Ls (jV h) n) B with
     |some (H,a,i,gs)=>bif Nat.ble (n+n*j.size) 16777216&&Nat.beq (size h) j.size then
       zw { pre:=zj,t:=.sl h,val:=En h n H,dst:=λ_=>.v (.one (.own d)),aJ:=λy=>gs.map (mX o)++[(d,.arr zv a i h y)],new:=[d] } else zz
     |none=>zz
    |none=>zz
   |_,_=>zz
  |_=>zz
 |.load t x=>match tt t,f x with
  |some i,.v (.one (.box g off))=>match o g with
   |.box B=>bif Nat.ble (off+i.size) B.length&&Nat.blt 0 i.size then zw (.pure (TV.gI i.agg ((B.drop off).take i.size)))else zz
   |_=>zz
  |some i,.v (.one (.ep g n off))=>match o g with
   |.arr _ a i' e l=>bif Nat.ble (off+i.size) (size e)&&Nat.blt 0 i.size&&uV (((gW e (dflt e)).drop off).take i.size) i.zero then
     zw { pre:=zj,t:=e,val:=l.getD n.toNat (dflt e),dst:=λz=>TV.gI i.agg (tpw a i' (((gW e z).drop off).take i.size)),aJ:=λ_=>[],new:=[] } else zz
   |_=>zz
  |some i,.v (.one (.sp a i' e x off))=>bif Nat.blt 0 i.size&&Nat.ble (off+i.size) (size e)then
    zw (.pure (TV.gI i.agg (tpw a i' (((gW e x).drop off).take i.size))))else zz
  |_,_=>zz
 |.store t x y=>match tt t,f x,f y with
  |some i,.v (.one (.box g off)),.v y=>match o g with
   |.box B=>bif Nat.ble (off+i.size) B.length&&Nat.beq y.words.length i.size&&y.solid then
     zw { pre:=zj,t:=.bool,val:=zv,dst:=λ_=>.no,aJ:=λ_=>[(g,.box (bf B off y.words))],new:=[] } else zz
   |_=>zz
  |some i,.v (.one (.ep g n off)),.v y=>match o g with
   |.arr zv a i' e l=>match tZ o (((jV e).drop off).take i.size) y.words with
    |some (H,a',i'',gs)=>bif Nat.ble (off+i.size) (size e)&&Nat.beq y.words.length i.size&&y.solid&&!gG g gs then
     zw { pre:=zj,t:=.sl e,val:=List.set l n.toNat (Oo e (Nat.beq i.size (size e)) (l.getD n.toNat (dflt e)) off H),dst:=λ_=>.no,aJ:=λz=>gs.map (mX o)++[(g,.arr zv (a||a') (i'||i'') e z)],new:=[] } else zz
    |none=>zz
   |_=>zz
  |_,_,_=>zz
 |.nilCheck x=>match f x with
  |.v (.one x)=>bif x.live o then zw (.pure (.v (.one x)))else zz
  |_=>zz
 |.binOp op t x y _=>match f x,f y with
  |.v (.one (.p _ _ x)),.v (.one (.p _ _ y))=>match tt t with
   |some i=>match ap7 i.k op x y with
    |some c=>zw (.pV c)
    |none=>zz
   |none=>zz
  |.v (.agg xs),.v (.agg X)=>match tt t with
   |some i=>match Jh tt 0 i.k.parts xs X,aij op with
    |some b,zw zj=>bif i.eq then zw (.pV (zj,jE b))else zz
    |some b,zw zv=>bif i.eq then zw (.pV (zj,jE (!b)))else zz
    |_,_=>zz
   |none=>zz
  |_,_=>zz
 |.unOp op _ x=>match f x with
  |.v (.one (.p _ _ x))=>match unT op x with
   |some c=>zw (.pV (zj,c))
   |none=>zz
  |_=>zz
 |.convert s t x=>match tt s,tt t,f x with
  |some { k:=.int _,.. },zw { k:=.int k,.. },.v (.one (.p _ _ ⟨.int _,x⟩))=>zw (.calc zj (.int k) (k.wrap x))
  |some { k:=.slice e,.. },zw { k:=.str,.. },.v (.one x)=>match tt e with
   |some { k:=.int .u8,.. }=>match x.rows o (.int .u8)with
    |some (l,_,_)=>zw (.calc zj .str (strOf l))
    |none=>zz
   |_=>zz
  |some { k:=.str,.. },zw { k:=.slice e,.. },.v (.one (.p _ _ ⟨.str,x⟩))=>match tt e with
   |some { k:=.int .u8,.. }=>zw (.calc zj (.sl (.int .u8)) (am5 x))
   |_=>zz
  |_,_,_=>zz
 |.makeSlice t n c=>match tt t,f n,f c with
  |some { k:=.slice e,.. },.v (.one (.p _ _ ⟨.int .i64,n⟩)),.v (.one (.p _ _ ⟨.int .i64,c⟩))=>match tt e,ety e with
   |some j,zw h=>match tZ o (jV h) (j.zero.map cvT)with
    |some (H,zv,zv,[])=>bif Nat.blt 0 j.size&&Nat.beq (size h) j.size then
     zw { pre:=zy j.bytes n c,t:=.sl h,val:=List.replicate (Int.toNat n) (mF h H),dst:=λ_=>.v (.one (.own d)),aJ:=λy=>[(d,.arr zv zv zv h y)],new:=[d] } else zz
    |_=>zz
   |_,_=>zz
  |_,_,_=>zz
 |.slice t x lo q zz=>match tt t,f x with
  |some { k:=.slice e,.. },.v (.one x)=>match tt e,ety e,U8 o x with
   |some j,zw h,zw len=>match mY 0 (lo.map f),mY len (q.map f)with
    |some lo,zw q=>match x with
     |.own g=>match Oq o g with
      |some (J,l)=>bif Nat.beq (size J) j.size then
        zw { pre:=Jg lo q l,t:=.bool,val:=zv,dst:=λ_=>.v (.one (.vw g lo q)),aJ:=λ_=>[],new:=[] } else zz
      |none=>zz
     |.p a i w=>match w.Dv (.sl h)with
      |some l=>bif Nat.beq (size h) j.size then zw { pre:=Jg lo q (List.length (α:=Dt h) l),t:=.sl h,val:=List.drop lo.toNat (List.take (α:=Dt h) q.toNat l),dst:=λz=>.v (.one (.p a i ⟨.sl h,z⟩)),aJ:=λ_=>[],new:=[] } else zz
      |none=>zz
     |.dD=>zw { pre:=decide (lo=0)&&decide (q=0),t:=.bool,val:=zv,dst:=λ_=>.v (.one .dD),aJ:=λ_=>[],new:=[] }
     |_=>zz
    |_,_=>zz
   |_,_,_=>zz
  |some { k:=.str,.. },.v (.one (.p _ _ ⟨.str,y⟩))=>match mY 0 (lo.map f),mY (List.length (α:=UInt8) y) (q.map f)with
   |some lo,zw q=>zw (.calc (Jg lo q (List.length (α:=UInt8) y)) .str (List.drop lo.toNat (List.take (α:=UInt8) q.toNat y)))
   |_,_=>zz
  |_,_=>zz
 |.slice t x zz (zw q) (zw Y)=>Zo tt o t (f x) (f q) (f Y)
 |.fieldAddr t x n=>match tt t,placeOf tt t n,f x with
  |some { k:=.struct _,.. },zw (K,N),.v (.one x)=>bif Nat.blt 0 N&&x.live o then zw (.pure (.v (.one (x.shift K))))else zz
  |_,_,_=>zz
 |.field t x n=>match tt t,f x with
  |some { k:=.struct Z,.. },.v (.agg B)=>match Z[n]? with
   |some (off,u)=>match tt u with
    |some M=>bif Nat.ble (off+M.size) B.length&&Nat.blt 0 M.size then zw (.pure (TV.gI M.agg ((B.drop off).take M.size)))else zz
    |none=>zz
   |none=>zz
  |_,_=>zz
 |.indexAddr t x T=>match tt t,f x,f T with
  |some { k:=.slice e,.. },.v (.one x),.v (.one (.p _ _ ⟨.int _,n⟩))=>match tt e,ety e,x with
   |some j,zw h,.own g=>match Oq o g with
    |some (J,l)=>bif Nat.beq (size J) j.size then
      zw { pre:=inB n l,t:=.bool,val:=zv,dst:=λ_=>.v (.one (.ep g (Int.toNat n:Nat) 0)),aJ:=λ_=>[],new:=[] } else zz
    |none=>zz
   |some j,zw h,.vw g lo q=>match Oq o g with
    |some (J,_)=>bif Nat.beq (size J) j.size then
      zw { pre:=inB n (q.toNat-lo.toNat),t:=.bool,val:=zv,dst:=λ_=>.v (.one (.ep g (lo.toNat+Int.toNat n:Nat) 0)),aJ:=λ_=>[],new:=[] } else zz
    |none=>zz
   |some j,zw h,.p a i w=>match w.Dv (.sl h)with
    |some l=>bif Nat.beq (size h) j.size then zw { pre:=inB n (List.length (α:=Dt h) l),t:=h,val:=List.getD (α:=Dt h) l (Int.toNat n) (dflt h),dst:=λz=>.v (.one (.sp a i h z 0)),aJ:=λ_=>[],new:=[] } else zz
    |none=>zz
   |_,_,_=>zz
  |some { k:=.arr m e,.. },.v (.one (.gl g)),.v (.one (.p _ _ ⟨.int _,n⟩))=>match tt e,RE.G g with
   |some j,zw ⟨h,l⟩=>bif Nat.beq (size h) j.size&&Nat.beq (List.length (α:=Dt h) l) m then zw { pre:=inB n m,t:=h,val:=List.getD (α:=Dt h) l (Int.toNat n) (dflt h),dst:=λz=>.v (.one (.sp zv zv h z 0)),aJ:=λ_=>[],new:=[] } else zz
   |_,_=>zz
  |some { k:=.arr m e,.. },.v (.one x),.v (.one (.p _ _ ⟨.int _,n⟩))=>match tt e with
   |some j=>bif inB n m&&x.live o then zw (.pure (.v (.one (x.shift (Int.toNat n*j.size)))))else zz
   |none=>zz
  |_,_,_=>zz
 |.index t x T=>match tt t,f x,f T with
  |some { k:=.str,.. },.v (.one (.p _ _ ⟨.str,s⟩)),.v (.one (.p _ _ ⟨.int _,n⟩))=>zw (.calc (inB n (List.length (α:=UInt8) s)) (.int .u8) ((List.getD (α:=UInt8) s (Int.toNat n) 0).toNat:Int))
  |_,_,_=>zz
 |.range t x=>match tt t,f x with
  |some { k:=.str,.. },.v (.one (.p _ _ ⟨.str,s⟩))=>zw { pre:=zj,t:=.str,val:=s,dst:=λ_=>.v (.one (.oI d)),aJ:=λz=>[(d,.it z 0)],new:=[d] }
  |_,_=>zz
 |.extract t n=>match f t with
  |.jy xs=>match xs[n]? with
   |some x=>zw (.pure (.v x))
   |none=>zz
  |_=>zz
 |.makeFunc (.func g) first L=>bif Nat.beq first.size 0 then
   match L.toList.mapM (λx=>match f x with|.v (.one w)=>zw w|_=>zz)with
   |some B=>zw (.pure (.v (.one (.clo g B))))
   |none=>zz
   else zz
 |.call { callee:=.builtin .len,args,argTypes }=>match args.toList,argTypes.toList with
  | [x],[t]=>match tt t,f x with
   |some { k:=.slice _,.. },.v (.one x)=>match U8 o x with
    |some n=>zw (.calc zj (.int .i64) n)
    |none=>zz
   |some { k:=.str,.. },.v (.one (.p _ _ ⟨.str,s⟩))=>zw (.calc zj (.int .i64) (List.length (α:=UInt8) s:Int))
   |_,_=>zz
  |_,_=>zz
 |.call { callee:=.builtin .append,args,argTypes }=>match args.toList,argTypes.toList with
  | [s,x],sT::xT::_=>match tt xT,f s,f x with
   |some { k:=.slice _,.. },.v (.one s),.v (.one x)=>Rh tt ety d o sT s x
   |_,_,_=>zz
  |_,_=>zz
 |.call { callee:=.builtin .min,args,.. }=>match args.toList with
  | [x,y]=>match f x,f y with
   |.v (.one (.p _ _ ⟨.int k,x⟩)),.v (.one (.p _ _ ⟨.int _,y⟩))=>zw (.calc zj (.int k) (aco x y))
   |_,_=>zz
  | [x,y,z]=>match f x,f y,f z with
   |.v (.one (.p _ _ ⟨.int k,x⟩)),.v (.one (.p _ _ ⟨.int _,y⟩)),.v (.one (.p _ _ ⟨.int _,z⟩))=>zw (.calc zj (.int k) (aco (aco x y) z))
   |_,_,_=>zz
  |_=>zz
 |.call { callee:=.builtin .max,args,.. }=>match args.toList with
  | [x,y]=>match f x,f y with
   |.v (.one (.p _ _ ⟨.int k,x⟩)),.v (.one (.p _ _ ⟨.int _,y⟩))=>zw (.calc zj (.int k) (FZ x y))
   |_,_=>zz
  | [x,y,z]=>match f x,f y,f z with
   |.v (.one (.p _ _ ⟨.int k,x⟩)),.v (.one (.p _ _ ⟨.int _,y⟩)),.v (.one (.p _ _ ⟨.int _,z⟩))=>zw (.calc zj (.int k) (FZ (FZ x y) z))
   |_,_,_=>zz
  |_=>zz
 |_=>zz
end
end Go.Fg

namespace Go.Fg
open Go.Fw
section
variable [RE] {o:Nat->TO} {tt:TT} {ety:TypeId->Option Ty}
theorem fH(e:Ty)(l:List (Dt e)):(aK e l).length=l.length:=by simp[aK]
theorem t_(e:Ty)(l:List (Dt e))(lo hi:Int):((aK e l).take (P.nat (.int .i64 hi))).drop (P.nat (.int .i64 lo))=aK e ((l.take hi.toNat).drop lo.toNat):=by simp[aK,P.nat,P.num,UT,VM]
theorem qY(e:Ty)(l:List (Dt e))(hi:Int):(aK e l).take (P.nat (.int .i64 hi))=aK e (l.take hi.toNat):=by simp[aK,P.nat,P.num,UT]
variable{e:Ty}
theorem iY{l:List (Dt e)}(h:o g=.arr a i B e l):dw o g=.arr a i B (size e) (aK e l):=by simp[dw,h,eH]
theorem pW{b:List TW}(h:o g=.box b):dw o g=.box (b.map dn):=by simp[dw,h,eH]
theorem qH(h:Oq o g=zw (e,n)):(dw o g).dim=zw (size e,n):=by
 unfold Oq at h;unfold dw;cases b:o g with
 |arr d a i e l=>rw[b]at h;cases h;simp[eH,O.dim,aK]
 |aO a i e j l c=>rw[b]at h;cases h;simp[eH,O.dim,aK]
 |_=>rw[b]at h;cases h
theorem zA{a b:Ty}(h:tyB a b=zj):a=b:=by
 unfold tyB at h;split at h
 .rename_i p _;exact p.down
 .cases h
theorem F7{c:Nat}:∀{au:List (Nat×Ty)} {t:Ty},vS c au=zw t->(gY au).lookup c=zw (size t)
 | [],t,h=>by cases h
 |(k,u)::r,t,h=>by
  simp only[vS]at h;simp only[gY,Qf,List.lookup];by_cases e:c=k
  .subst e;have:Nat.beq c c=zj:=by simp
   rw[this]at h;simp only[cond_true,Q0]at h;subst h;simp
  .have b:Nat.beq c k=zv:=by cases d:Nat.beq c k with|false=>rfl|true=>exact absurd (Q6 d) e
   have g:(c==k)=zv:=by simpa using e
   rw[b]at h;rw[g];exact F7 h
theorem Lu{c:Nat}:∀{au:List (Nat×Ty)},vS c au=zz->(gY au).lookup c=zz
 | [],h=>rfl
 |(k,u)::r,h=>by
  simp only[vS]at h;simp only[gY,Qf,List.lookup];by_cases e:c=k
  .subst e;have:Nat.beq c c=zj:=by simp
   rw[this]at h;cases h
  .have b:Nat.beq c k=zv:=by cases d:Nat.beq c k with|false=>rfl|true=>exact absurd (Q6 d) e
   have g:(c==k)=zv:=by simpa using e
   rw[b]at h;rw[g];exact Lu h
theorem vT{b:Ty}{au:List (Nat×Ty)}(h:acn e au g b=zj):(gY au).lookup g=zw (size b)/\(jV e)[g]?=zw (.sl b)/\g<size e:=by
 simp only[acn,QR]at h;obtain⟨d,c⟩:=h;have q:vS g au=zw b:=by
  split at d
  .rename_i t j;rw[j,zA d]
  .cases d
 have m:(jV e)[g]?=zw (.sl b):=by
  split at c
  .rename_i t j;rw[j,zA c]
  .cases c
 exact⟨F7 q,m,by have:=(Q3.1 m).1;rwa [kU]at this⟩
theorem BF{α β:Type}(f:α->β)(l:List α)(off:Nat)(new:List α):(bf l off new).map f=bf (l.map f) off (new.map f):=by simp[bf,UT,VM]
theorem aeT{x:Dt e}{off:Nat}{ps:List Wd}(c:ps.map (·.t)=((jV e).drop off).take ps.length)(h:off+ps.length<=size e):mD e (Oo e (Nat.beq ps.length (size e)) x off ps)=bf (mD e x) off (ps.map dL):=by
 have b:(bf (gW e x) off ps).map (·.t)=jV e:=by
  have j:jV e=(jV e).take off++(((jV e).drop off).take ps.length++(jV e).drop (off+ps.length)):=by rw[<-List.drop_drop,K3,K3]
  simp only[bf,XX,UT,VM,vO,c,W3];exact j.symm
 unfold Oo;cases d:Nat.beq ps.length (size e)with
 |true=>
  have d:=Q6 d;have m:off=0:=by omega
  subst m;have g:bf (gW e x) 0 ps=ps:=by simp only[bf,List.take_zero,qT,Vi];rw[List.drop_of_length_le (by rw[rH];omega),K6]
  have q:bf (mD e x) 0 (ps.map dL)=ps.map dL:=by rw[iW,<-BF,g]
  rw[g]at b;rw[q];exact xI b
 |false=>simp only;rw[xI b,BF,<-iW]
theorem Iu{l:List (Dt e)}{off:Nat}{ps:List Wd}(c:ps.map (·.t)=((jV e).drop off).take ps.length)(d:off+ps.length<=size e):
  aK e (List.set l n (Oo e (Nat.beq ps.length (size e)) (l.getD n (dflt e)) off ps))=(aK e l).set n (bf ((aK e l).getD n []) off (ps.map dL)):=by
 have g :∀x,aK e (List.set l n x)=(aK e l).set n (mD e x):=λx=>by simp[aK,List.map_set]
 rw[g];by_cases hn:n<l.length
 .have b:(aK e l).getD n []=mD e (l.getD n (dflt e)):=by simp[aK,Q1,hn]
  rw[b,aeT c d]
 .have b :∀z,(aK e l).set n z=aK e l:=λz=>List.set_eq_of_length_le (by rw[fH];omega);rw[b,b]
theorem CJ{d:Ty}{l:List (Dt e)}{c:Nat}{h:List (Dt d)}(g:(jV e)[c]?=zw (.sl d)):aK e (putRow e l n c (vP d h))=jM (aK e l) n c (P.gV (size d) (aK d h)):=by
 have j:c<size e:=by have:=(Q3.1 g).1;rwa [kU]at this
 have:=Iu (e:=e) (l:=l) (n:=n) (off:=c) (ps:=[vP d h]) (by
  show [Ty.sl d]=((jV e).drop c).take 1;have b:c<(jV e).length:=by rw[kU];exact j
  rw[KB b];rw[Q2 b]at g;simp only[Q0]at g;rw[g];rfl) (by simp only[W4];omega)
 exact this
theorem pX{l:List (Dt e)}(h:oU o g=zw ⟨a,i,e,l⟩):plainO (dw o) g=zw (a,i,size e,aK e l)/\(dw o g).names=jC (o g):=by
 unfold oU at h;cases j:o g with
 |arr q w y z B=>rw[j]at h;cases h;have:=iY j;exact⟨by simp[plainO,this],by rw[this];rfl⟩
 |aO a0 i0 m H J b=>
  rw[j]at h;have hg:dw o g=.aO a0 i0 (size m) (gY H) (aK m J) b:=by simp[dw,j,eH]
  rcases b with _|⟨n,c,d⟩
  .cases h;exact⟨by simp[plainO,hg],by rw[hg];rfl⟩
  .simp only at h;cases hd:o d with
   |arr q w y z B=>
    rw[hd]at h;simp only at h;split at h
    .rename_i K;cases h;obtain⟨L,M,N⟩:=vT K;refine⟨?_,by rw[hg];rfl⟩;simp only[plainO,hg,iY hd];rw[QQ ⟨L,N⟩,CJ M]
    .cases h
   |_=>rw[hd]at h;cases h
 |_=>rw[j]at h;cases h
variable{t:Ty}
theorem pY{l:List (Dt e)}{x:Dt t}(h:(vP e l).Dv t=zw x):∃h:Ty.sl e=t,x=h▸l:=by have:=iR h;unfold vP at this;cases this;exact⟨rfl,rfl⟩
variable{x:TW}
theorem Ri{y:Dt t}{gs:List Nat}(h:x.toP o t=zw (y,a,i,gs)):(dn x).toP (dw o)=zw (dL ⟨t,y⟩,a,i,gs):=by
 cases x with
 |p j m w=>
  simp only[TW.toP]at h;split at h
  .rename_i x q;cases h;rw[iR q];rfl
  .cases h
 |dD=>
  simp only[TW.toP]at h;split at h
  .cases h;rfl
  .cases h
 |own g=>
  simp only[TW.toP]at h;split at h
  rotate_left
  cases h;rename_i j m e l hg;split at h
  .rename_i z b;cases h;rw[<-iR b];obtain⟨c,d⟩:=pX hg;simp only[dn,W.toP,c,d];rfl
  .cases h
 |vw g lo B=>
  simp only[TW.toP]at h;split at h
  rotate_left
  cases h;rename_i j m e l hg;split at h
  .rename_i z b;cases h;rw[<-iR b];obtain⟨c,d⟩:=pX hg;simp only[dn,W.toP,c,d,t_];rfl
  .cases h
 |_=>simp[TW.toP]at h
theorem Eo:∀{ts:List Ty} {xs:List TW} {b:List Wd} {a i:Bool} {gs:List Nat},tZ o ts xs=zw (b,a,i,gs)->yI (dw o) (xs.map dn)=zw (b.map dL,a,i,gs)/\b.map (·.t)=ts
 | [],[],b,a,i,gs,h=>by simp only[tZ,Q0,QP]at h;obtain⟨rfl,rfl,rfl,rfl⟩:=h;exact⟨rfl,rfl⟩
 | [],x::xs,b,a,i,gs,h=>by simp[tZ]at h
 |t::ts,[],b,a,i,gs,h=>by simp[tZ]at h
 |t::ts,x::xs,b,a,i,gs,h=>by
  simp only[tZ]at h;split at h
  .rename_i c d;cases h;obtain⟨g,j⟩:=Eo d;refine⟨?_,by simp only[Qf,j]⟩;simp only[Qf,yI,Ri c,g]
  .cases h
def jk(l:List (Nat×TO)):List (Nat×O):=l.map λp=>(p.1,eH p.2)
def Pl(o:Nat->TO)(gs:List Nat):Prop :=∀g∈gs,∃p,oU o g=zw p
theorem Pl.append{a:List Nat}(h:Pl o b)(c:Pl o a):Pl o (b++a):=λg hg=>by
 rcases Ys.1 hg with x|x
 .exact h g x
 .exact c g x
theorem Pl.nil:Pl o []:=λg hg=>by cases hg
theorem Pj{p:TA}(h:oU o g=zw p):Pl o (jC (o g)++[g]):=by
 refine Pl.append (λd hd=>?_) (λg' b=>by rw[X1]at b;subst b;exact⟨p,h⟩);unfold oU at h;cases q:o g with
 |aO a i e H l j=>
  rw[q]at h hd;rcases j with _|⟨n,c,J⟩;cases hd;simp only[jC,X1]at hd;subst hd;simp only at h;cases m:o d with
  |arr K w y z B=>exact⟨⟨w,y,z,B⟩,by simp only[oU,m]⟩
  |_=>rw[m]at h;cases h
 |_=>rw[q]at hd;cases hd
theorem XR{y:Dt t}{gs:List Nat}(h:x.toP o t=zw (y,a,i,gs)):Pl o gs:=by
 cases x with
 |p b c w=>
  simp only[TW.toP]at h;split at h
  .simp only[Q0,QP]at h;obtain⟨_,_,_,rfl⟩:=h;exact Pl.nil
  .cases h
 |dD=>
  simp only[TW.toP]at h;split at h
  .simp only[Q0,QP]at h;obtain⟨_,_,_,rfl⟩:=h;exact Pl.nil
  .cases h
 |own g=>
  simp only[TW.toP]at h;split at h
  .rename_i hg;split at h
   .simp only[Q0,QP]at h;obtain⟨_,_,_,rfl⟩:=h;exact Pj hg
   .cases h
  .cases h
 |vw g lo d=>
  simp only[TW.toP]at h;split at h
  .rename_i hg;split at h
   .simp only[Q0,QP]at h;obtain⟨_,_,_,rfl⟩:=h;exact Pj hg
   .cases h
  .cases h
 |_=>simp[TW.toP]at h
theorem Rj:∀{ts:List Ty} {xs:List TW} {b:List Wd} {a i:Bool} {gs:List Nat},tZ o ts xs=zw (b,a,i,gs)->Pl o gs
 | [],[],b,a,i,gs,h=>by simp only[tZ,Q0,QP]at h;obtain⟨_,_,_,rfl⟩:=h;exact Pl.nil
 | [],x::xs,b,a,i,gs,h=>by simp[tZ]at h
 |t::ts,[],b,a,i,gs,h=>by simp[tZ]at h
 |t::ts,x::xs,b,a,i,gs,h=>by
  simp only[tZ]at h;split at h
  .rename_i c d;simp only[Q0,QP]at h;obtain⟨_,_,_,rfl⟩:=h;exact(XR c).append (Rj d)
  .cases h
theorem LC(h :∃p,oU o g=zw p):Fw.bC (dw o) g=((mX o g).1,eH (mX o g).2):=by obtain⟨⟨a,i,e,l⟩,b⟩:=h;simp only[Fw.bC,mX,b,(pX b).1];rfl
theorem qI{gs:List Nat}(h:Pl o gs):gs.map (Fw.bC (dw o))=jk (gs.map (mX o)):=by simp only[jk,UP];exact W8 λg hg=>LC (h g hg)
theorem vU(x:TV):(kG x).words=x.words.map dn:=by cases x<;>rfl
theorem vV(x:TV)(h:x.solid=zj):(kG x).solid=zj:=by
 cases x with
 |one x=>cases x<;>first|rfl|(simp[TV.solid,TW.solid]at h)
 |agg xs=>rfl
theorem mG(agg:Bool)(b:List TW):bJ (TV.gI agg b)=V.gI agg (b.map dn):=by
 cases agg with
 |true=>rfl
 |false=>
  match b with
  | []=>rfl
  | [x]=>rfl
  |x::y::b=>rfl
theorem qZ{α β:Type}(f:α->β)(l:List α)(off:Nat)(new:List α):(bf l off new).map f=bf (l.map f) off (new.map f):=by simp[bf,UT,VM]
theorem Ep{place:Nat->Option (Nat×Nat)}:∀{ps:List (Nat×TS)} {b r:List TW},Ej place b ps=zw r->nH place (b.map dn) (ps.map λp=>(p.1,bJ p.2))=zw (r.map dn)
 | [],b,r,h=>by simp only[Ej,Q0]at h;subst h;rfl
 |(n,.v x)::ps,b,r,h=>by
  simp only[Ej]at h;split at h
  rotate_left
  cases h;rename_i off size g;cases c:(Nat.beq x.words.length size&&Nat.ble (off+size) b.length&&x.solid)with
  |false=>rw[c]at h;cases h
  |true=>rw[c,cond_true]at h;simp only[QR]at c;have j:=Q6 c.1.1;have m:=WD c.1.2;have d:=Ep h;rw[qZ]at d;simp only[Qf,bJ,nH,g,vU,We];rw[QQ ⟨j,m,vV x c.2⟩];exact d
 |(n,.jy xs)::ps,b,r,h=>by simp[Ej]at h
 |(n,.no)::ps,b,r,h=>by simp[Ej]at h
theorem aiC(sz:Nat)(l:List (List P)):(P.gV sz l).Xg sz:=by cases l<;>simp[P.gV,P.Xg]
theorem LD(e:Ty)(l:List (Dt e)):(dL ⟨.sl e,l⟩).Xg (size e):=aiC _ _
theorem U9{l:List (Dt e)}(h:x.rows o e=zw (l,a,i)):∃ask,(dn x).rows (dw o) (size e)=zw (ask,aK e l,a,i)/\ask:=by
 cases x with
 |p d j w=>
  simp only[TW.rows]at h;split at h
  .rename_i y m;cases h;rw[iR m];exact⟨(dL ⟨.sl e,l⟩).Xg (size e),by simp only[dn,W.rows,jR],LD _ _⟩
  .cases h
 |dD=>simp only[TW.rows,Q0,QP]at h;obtain⟨rfl,rfl,rfl⟩:=h;exact⟨_,rfl,trivial⟩
 |own g=>
  simp only[TW.rows]at h;split at h
  rotate_left
  cases h;rename_i q d j B H hg;split at h
  .rename_i z b;cases h;obtain⟨c,b⟩:=pY b;cases c;subst b;exact⟨True,by simp only[dn,W.rows,iY hg,if_true],trivial⟩
  .cases h
 |vw g lo J=>
  simp only[TW.rows]at h;split at h
  rotate_left
  cases h;rename_i q d j B H hg;split at h
  .rename_i z b;cases h;obtain⟨c,b⟩:=pY b;cases c;subst b;exact⟨True,by simp only[dn,W.rows,iY hg,if_true,t_],trivial⟩
  .cases h
 |_=>simp[TW.rows]at h
theorem XT(sz:Nat)(l:List (List P)):(P.gV sz l).isSlice:=by cases l<;>simp[P.gV,P.isSlice]
theorem am7(sz:Nat)(l:List (List P)):(P.gV sz l).len=.int .i64 l.length:=by cases l<;>rfl
theorem aiD(e:Ty)(l:List (Dt e)):(dL ⟨.sl e,l⟩).len=.int .i64 l.length:=by rw[Jv,am7,fH]
theorem Zp(h:U8 o x=zw v):∃ask,lenOf (dw o) (dn x)=zw (ask,.int .i64 v)/\ask:=by
 cases x with
 |p a i w=>
  obtain⟨t,x⟩:=w;cases t<;>simp only[U8]at h<;>try (cases h;done)
  rename_i e;cases h;refine⟨(dL ⟨.sl e,x⟩).isSlice,?_,XT _ _⟩;have b:(dL ⟨.sl e,x⟩).len=.int .i64 (List.length (α:=Dt e) x):=aiD e x;simp only[dn,lenOf];rw[b]
 |dD=>simp only[U8,Q0]at h;subst h;exact⟨_,rfl,trivial⟩
 |own g=>
  simp only[U8]at h;split at h
  .rename_i hg;cases h;exact⟨True,by simp only[dn,lenOf,qH hg],trivial⟩
  .cases h
 |vw g lo c=>
  simp only[U8]at h;split at h
  .rename_i hg;cases h;rename_i x;obtain⟨e,v⟩:=x;exact⟨True,by simp only[dn,lenOf,qH hg,P.nat,P.num],trivial⟩
  .cases h
 |_=>simp[U8]at h
theorem LG(h:x.live o=zj):(dn x).live (dw o)=zj:=by
 cases x with
 |box g off=>
  simp only[TW.live]at h;split at h
  .rename_i hg;simp only[dn,W.live,pW hg]
  .cases h
 |ep g n off=>
  simp only[TW.live]at h;split at h
  .rename_i x hg;obtain⟨e,n⟩:=x;simp only[dn,W.live,qH hg];rfl
  .cases h
 |sp=>rfl
 |_=>simp[TW.live]at h
theorem Pm(n:Nat)(x:TW):dn (x.shift n)=(dn x).shift n:=by cases x<;>simp[TW.shift,dn,W.shift]
theorem aeU(v:Value):dn (cvT v)=cv v:=by
 unfold cvT;split;rfl;rfl;rfl;rfl;rename_i x b c d g;show W.p zv zv (P.opq v)=cv v;unfold cv;split
 .exact (b _ _ rfl).elim
 .exact (c _ rfl).elim
 .exact (d _ rfl).elim
 .exact (g rfl).elim
 .rfl
theorem xJ(l:List Value):(l.map cvT).map dn=l.map cv:=by rw[UP];exact W8 λv _=>aeU v
theorem acp(v:Value):bJ (XO v)=wQ v:=by
 unfold XO;split
 .rename_i b;unfold wQ;have e:(b.toList.map cvT).map dn=b.toList.map cv:=xJ _;cases h:b.toList.all Value.oneCell'
  .simp only[h,cond_false,Wb,if_false];rfl
  .simp only[h,cond_true,if_true,bJ,kG,e]
 .rfl
 .simp only[bJ,kG,dn,oQ];rfl
 .rename_i x c d g;have e:wQ v=if v.oneCell'=zj then .v (.one (cv v))else .no:=by
   unfold wQ;split
   .exact (c _ rfl).elim
   .exact (d _ rfl).elim
   .exact (g _ rfl).elim
   .rfl
  rw[e];cases h:v.oneCell'
  .simp only[cond_false,Wb,if_false];rfl
  .simp only[cond_true,if_true,bJ,kG,aeU]
theorem mJ(st:jL)(x:Operand):(bD st).dK x=bJ (st.dK x):=by
 cases x with
 |tmp t=>rfl
 |const v=>exact(acp v).symm
 |func f=>simp[St.dK,jL.dK,bJ,kG,dn,oQ]
 |global g=>simp only[Fw.St.dK,jL.dK,alr];cases RE.G g<;>rfl
end
end Go.Fg

namespace Go.Fg
open Go.Fw
section
variable [RE] {o:Nat->TO} {tt:TT} {ety:TypeId->Option Ty} {d:Nat} {f:Operand->TS} {ty:TypeId}
structure gQ(r:uU)(r':Fj):Prop where
 pre:r.pre=zj->r'.pre
 dst:r'.dst r'.val=bJ (r.dst r.val)
 aJ:r'.aJ r'.val=jk (r.aJ r.val)
 new:r'.new=r.new
def jg(tt:TT)(ety:TypeId->Option Ty)(d:Nat)(o:Nat->TO)(f:Operand->TS)(op:Op)(ty:TypeId):Prop:=∀r,eP tt ety d o f op ty=zw r->∃b,kernel tt d (dw o) (λx=>bJ (f x)) op ty=zw b/\gQ r b
def ap9(r:uU)(r':Fj):Prop:=(r.pre=zj->gQ r r')/\r'.new=r.new
theorem gQ.toC{r:uU}{b:Fj}(h:gQ r b):ap9 r b:=⟨λ_=>h,h.new⟩
def aeV(tt:TT)(ety:TypeId->Option Ty)(d:Nat)(o:Nat->TO)(f:Operand->TS)(op:Op)(ty:TypeId):Prop:=∀r,eP tt ety d o f op ty=zw r->∃b,kernel tt d (dw o) (λx=>bJ (f x)) op ty=zw b/\ap9 r b
theorem jg.toC{tt:TT}{ety:TypeId->Option Ty}{d:Nat}{o:Nat->TO}{f:Operand->TS}{op:Op}{ty:TypeId}(h:jg tt ety d o f op ty):aeV tt ety d o f op ty:=λr b=>
 let ⟨c,g,j⟩:=h r b
 ⟨c,g,j.toC⟩
theorem gQ.pure(x:TS):gQ (.pure x) (.pure (bJ x)):=⟨λ_=>trivial,rfl,rfl,rfl⟩
theorem Rk{x:TS}(h:bJ x=.no):x=.no:=by cases x<;>first|rfl|cases h
theorem aiE(x:Operand):jg tt ety d o f (.move x) ty:=by
 intro r h;simp only[eP]at h;split at h;cases h;rename_i s b;cases h;refine⟨.pure (bJ (f x)),?_,gQ.pure _⟩;simp only[kernel];split
 .rename_i e;exact(b (Rk e)).elim
 .rfl
theorem acr(x:Operand):jg tt ety d o f (.assign x) ty:=by
 intro r h;simp only[eP]at h;split at h;cases h;rename_i s b;cases h;refine⟨.pure (bJ (f x)),?_,gQ.pure _⟩;simp only[kernel];split
 .rename_i e;exact(b (Rk e)).elim
 .rfl
theorem aeW{x:TS}{y:P}(h:bJ x=.v (.one (.p a i y))):∃w,x=.v (.one (.p a i w))/\dL w=y:=by
 cases x with
 |v x=>cases x with
  |one x=>cases x<;>simp[bJ,kG,dn]at h<;>exact⟨_,by rw[h.1,h.2.1],h.2.2⟩
  |agg xs=>cases h
 |_=>cases h
theorem aiF(c x y:Operand):jg tt ety d o f (.pick c x y) ty:=by
 intro r h;simp only[eP]at h;split at h
 rotate_left
 cases h;rename_i a0 i0 b B;change Bool at b;have g:bJ (f c)=.v (.one (.p a0 i0 (.bool b))):=by rw[B];rfl
 split at h
 .rename_i a i w H J K L M;split at h
  rotate_left
  cases h;rename_i z N;cases h;have j:bJ (f x)=.v (.one (.p a i (dL w))):=by rw[L];rfl
  have m:bJ (f y)=.v (.one (.p H J (dL K))):=by rw[M];rfl
  simp only[kernel,g,j,m];refine⟨_,rfl,⟨λ_=>trivial,?_,rfl,rfl⟩⟩;have e:=iR N;rw[e];cases b<;>rfl
 .rename_i q;have T:(bif b then bJ (f x)else bJ (f y))=bJ (bif b then f x else f y):=by cases b<;>rfl
  split at h;cases h;rename_i s U;cases h;refine⟨.pure (bJ (bif b then f x else f y)),?_,gQ.pure _⟩;simp only[kernel,g];split
  .rename_i a1 i1 x1 a2 i2 y1 X Y;obtain⟨w1,Z,_⟩:=aeW X;obtain⟨w2,e2,_⟩:=aeW Y;exact(q _ _ _ _ _ _ Z e2).elim
  .rw [T];split
   .rename_i e;exact(U (Rk e)).elim
   .rfl
theorem cZ{α:Type}{x:Option α}{y:α}(h:(bif a then x else zz)=zw y):a=zj/\x=zw y:=by
 cases a
 .cases h
 .exact ⟨rfl,h⟩
theorem aeX(t:TypeId):jg tt ety d o f (.alloc t) ty:=by
 intro r h;simp only[eP]at h;split at h
 .rename_i i b;cases h;simp only[kernel,b];refine⟨_,rfl,⟨λ_=>trivial,rfl,?_,rfl⟩⟩;simp only[jk,Qf,Vc,eH,xJ]
 .cases h
theorem am8(t:TypeId)(x:Operand):jg tt ety d o f (.box t x) ty:=by
 intro r h;simp only[eP]at h;split at h
 rotate_left
 cases h;rename_i i j c g;obtain⟨b,h⟩:=cZ h;cases h;simp only[QR]at b;simp only[kernel,c,g,bJ,vU,We];rw[QQ ⟨Q6 b.1,vV _ b.2⟩];exact⟨_,rfl,⟨λ_=>trivial,rfl,rfl,rfl⟩⟩
theorem F8(ps:List (Nat×Operand)):(ps.map λp=>(p.1,bJ (f p.2)))=(ps.map λp=>(p.1,f p.2)).map λp=>(p.1,bJ p.2):=by rw[UP];rfl
theorem aeY(t:TypeId)(ps:Array (Nat×Operand)):jg tt ety d o f (.build t ps) ty:=by
 intro r h;simp only[eP]at h;split at h
 rotate_left
 cases h;rename_i i b;obtain⟨c,h⟩:=cZ h;split at h
 .rename_i j g;cases h;have:=Ep g;rw[xJ]at this;simp only[kernel,b,c,if_true,F8,this];exact⟨_,rfl,gQ.pure _⟩
 .cases h
theorem LH{α β:Type}(g:α->β)(l:List α):∀n,(Ls l n).map g=iI (l.map g) n
 |0=>rfl
 |n+1=>by simp[Ls,iI,LH g l n]
theorem CO(e:Ty):∀(n:Nat) (b:List Wd),b.map (·.t)=Ls (jV e) n->aK e (En e n b)=chunks (size e) n (b.map dL)
 |0,b,h=>rfl
 |n+1,b,h=>by
  have c:(b.take (size e)).map (·.t)=jV e:=by rw[UT,h,Ls,<-kU,Ks]
  have g:(b.drop (size e)).map (·.t)=Ls (jV e) n:=by rw[VM,h,Ls,<-kU,Jx]
  simp only[En,aK,Qf,chunks];rw[xI c,UT];congr 1;rw[<-VM];exact CO e n _ g
theorem mM(a b:List (Nat×TO)):jk (a++b)=jk a++jk b:=by simp[jk]
theorem Ot(t:TypeId)(n:Nat)(ps:Array (Nat×Operand)):jg tt ety d o f (.buildSlice t n ps) ty:=by
 intro r h;simp only[eP]at h;split at h
 rotate_left
 cases h;rename_i e i1 i2 i3 j;split at h
 rotate_left
 cases h;rename_i J m q w;split at h
 rotate_left
 cases h;rename_i K y;split at h
 rotate_left
 cases h;rename_i z a i gs g;obtain⟨b,h⟩:=cZ h;cases h;simp only[QR]at b;have c:=Q6 b.2;have:=Ep y;rw[LH,xJ]at this;obtain⟨B,H⟩:=Eo g;simp only[kernel,j,q,F8,this,B];rw[QQ (WD b.1)];refine⟨_,rfl,⟨λ_=>trivial,rfl,?_,rfl⟩⟩;simp only[mM,<-qI (Rj g)];congr 1;simp only[P.list,jk,Qf,Vc,eH,CO m n z H,c]
end
end Go.Fg

namespace Go.Fg
open Go.Fw
section
variable [RE] {o:Nat->TO} {tt:TT} {ety:TypeId->Option Ty} {d:Nat} {f:Operand->TS} {ty:TypeId}
theorem jm(h:(a&&i)=zj):a=zj/\i=zj:=by simpa using h
theorem aiG(a i:Bool)(b:List Wd):(tpw a i b).map dn=b.map λw=>W.p a i (dL w):=by simp only[tpw,UP];rfl
theorem zB(e:Ty)(x:Dt e)(a i:Bool)(off n:Nat)(h:off+n<=size e)(g:Nat->P):
  ((List.range n).map λj=>W.p a i ((mD e x).getD (off+j) (g j)))=(tpw a i (((gW e x).drop off).take n)).map dn:=by
 rw[aiG,iW];apply qn;intro j;simp only[Z0,ZZ,Wo];by_cases b:j<n
 .have c:off+j<(gW e x).length:=by rw[rH];omega
  rw[qD b,QQ b];simp[Q1,Q2 c]
 .rw [Vv (by simp;omega),Qt b];rfl
theorem Ou(h:Nat.blt 0 g=zj):0<g:=WD h
theorem aeZ{w:Wd}{v:Value}(h:aeS w v=zj):dL w=Ub [v] 0:=by
 unfold aeS at h;split at h
 .rename_i k n j B;change Int at n;simp only[QR,eqI,Wa]at h;obtain⟨c,g⟩:=h;cases m:aeQ k j with
  |none=>rw[m]at c;cases c
  |some p=>have e:=p.down;subst e;subst g;rfl
 .rename_i b q;change Bool at b;have h:b=q:=LawfulBEq.eq_of_beq h;subst h;rfl
 .rename_i s y;change List UInt8 at s;simp only[QR,List.isEmpty_iff]at h;obtain⟨c,g⟩:=h;subst c;obtain⟨⟨l⟩⟩:=y;simp only at g;subst g;rfl
 .rename_i e l;change List (Dt e)at l;have z:l=[]:=by simpa using h
  subst z;rfl
 .cases h
theorem F9:∀{b:List Wd} {vs:List Value},uV b vs=zj->∀j,(b.map dL)[j]?=if j<vs.length then zw (Ub vs j)else zz
 | [],[],h,j=>by simp
 |w::b,[],h,j=>by simp[uV]at h
 | [],v::vs,h,j=>by simp[uV]at h
 |w::b,v::vs,h,j=>by
  obtain⟨c,g⟩:=jm h;cases j with
  |zero=>simp only[Qf,K4,Wm,Nat.zero_lt_succ,if_true,aeZ c];rfl
  |succ j=>have:=F9 g j;simp only[Qf,J0,Wm,this,Nat.succ_lt_succ_iff];rfl
theorem Rl(e:Ty)(l:List (Dt e))(n off b:Nat)(z:List Value)(h:off+b<=size e)(q:uV (((gW e (dflt e)).drop off).take b) z=zj)(a i:Bool):
  ((List.range b).map λj=>W.p a i (((aK e l).getD n []).getD (off+j) (Ub z j)))=(tpw a i (((gW e (l.getD n (dflt e))).drop off).take b)).map dn:=by
 by_cases hn:n<l.length
 .have c:(aK e l).getD n []=mD e (l.getD n (dflt e)):=by simp[aK,Q1,hn]
  rw[c];exact zB e _ a i off b h _
 .have c:(aK e l).getD n []=[]:=by simp[aK,Q1,Vv (vj hn)]
  have w:l.getD n (dflt e)=dflt e:=by simp[Q1,Vv (vj hn)]
  rw[c,w,<-zB e _ a i off b h (Ub z)];refine W8 λj g=>?_;have g:j<b:=Uq.1 g;have:=F9 q j;rw[UT,VM,ZZ,QQ g,Wo,<-iW]at this;have m:off+j<(mD e (dflt e)).length:=by rw[U6];omega
  rw[Q1,Q1,this];split
  .rfl
  .rfl
theorem aiH(t:TypeId)(x:Operand):jg tt ety d o f (.load t x) ty:=by
 intro r h;simp only[eP]at h;split at h
 .rename_i i g off q w;have b:bJ (f x)=.v (.one (.box g off)):=by rw[w];rfl
  split at h
  rotate_left
  cases h;rename_i B hg;obtain⟨m,h⟩:=cZ h;cases h;obtain⟨c,j⟩:=jm m;simp only[kernel,q,b,pW hg,We];rw[QQ ⟨WD c,Ou j⟩];refine⟨_,rfl,?_⟩;have:=gQ.pure (TV.gI i.agg ((B.drop off).take i.size));rw[mG,UT,VM]at this;exact this
 .rename_i i g n off q w;have b:bJ (f x)=.v (.one (.ep g (.int .i64 n) off)):=by rw[w];rfl
  split at h
  rotate_left
  cases h;rename_i K a y e l hg;obtain⟨m,h⟩:=cZ h;cases h;obtain⟨m,H⟩:=jm m;obtain⟨c,j⟩:=jm m;have c:=WD c;simp only[kernel,q,b,iY hg];rw[QQ ⟨c,Ou j⟩];refine⟨_,rfl,⟨λ_=>trivial,?_,rfl,rfl⟩⟩;simp only[Fj.pure,mG];congr 1;have J:(P.int .i64 n).nat=n.toNat:=rfl;rw[J];exact Rl e l n.toNat off i.size i.zero c H a y
 .rename_i i a y e z off q w;have b:bJ (f x)=.v (.one (.sp a y (mD e z) off)):=by rw[w];rfl
  obtain⟨m,h⟩:=cZ h;cases h;obtain⟨c,j⟩:=jm m;have j:=WD j;simp only[kernel,q,b];rw[QQ (Ou c)];refine⟨_,rfl,⟨λ_=>by rw[U6];exact j,?_,rfl,rfl⟩⟩;simp only[uU.pure,mG];congr 1;exact zB e z a y off i.size j λ_=>default
 .cases h
theorem bZ(g:Nat):∀(l:List Nat),gG g l=l.contains g
 | []=>rfl
 |x::xs=>by simp only[gG,List.contains_cons,bZ g xs];congr 1;rw[Bool.eq_iff_iff];simp
theorem aiI(e:Ty)(l:List (Dt e))(n:Nat)(x:Dt e):aK e (l.set n x)=(aK e l).set n (mD e x):=by simp[aK,List.map_set]
theorem ae0(t:TypeId)(x y:Operand):jg tt ety d o f (.store t x y) ty:=by
 intro r h;simp only[eP]at h;split at h
 .rename_i i g off J K L M;have j:bJ (f x)=.v (.one (.box g off)):=by rw[L];rfl
  have m:bJ (f y)=.v (kG J):=by rw[M];rfl
  split at h
  rotate_left
  cases h;rename_i ws hg;obtain⟨b,h⟩:=cZ h;cases h;obtain⟨b,N⟩:=jm b;obtain⟨w,B⟩:=jm b;simp only[kernel,K,j,m,pW hg,We,vU];rw[QQ ⟨WD w,Q6 B,vV _ N⟩];refine⟨_,rfl,⟨λ_=>trivial,rfl,?_,rfl⟩⟩;simp only[jk,Qf,Vc,eH,qZ]
 .rename_i i g n off J K L M;have j:bJ (f x)=.v (.one (.ep g (.int .i64 n) off)):=by rw[L];rfl
  have m:bJ (f y)=.v (kG J):=by rw[M];rfl
  split at h
  rotate_left
  cases h;rename_i a i' e l hg;split at h
  rotate_left
  cases h;rename_i c a' i'' gs T;obtain⟨b,h⟩:=cZ h;cases h;obtain⟨b,h4⟩:=jm b;obtain⟨b,N⟩:=jm b;obtain⟨w,B⟩:=jm b;have w:=WD w;have B:=Q6 B;obtain⟨k1,U⟩:=Eo T;have X:c.length=i.size:=by have:=W2 List.length U;simp[kU]at this;omega
  simp only[kernel,K,j,m,iY hg,vU,k1,We];rw[QQ ⟨w,X,B,vV _ N,by simpa[bZ]using h4⟩];refine⟨_,rfl,⟨λ_=>trivial,rfl,?_,rfl⟩⟩;simp only[mM,<-qI (Rj T)];congr 1;simp only[P.list,jk,Qf,Vc,eH,aiI];have en:(P.int .i64 n).nat=n.toNat:=rfl;rw[en];by_cases hn:n.toNat<l.length
  .have H:(aK e l).getD n.toNat []=mD e (l.getD n.toNat (dflt e)):=by simp[aK,Q1,hn]
   have q:(bf (gW e (l.getD n.toNat (dflt e))) off c).map (·.t)=jV e:=by
    have e0:jV e=(jV e).take off++(((jV e).drop off).take i.size++(jV e).drop (off+i.size)):=by rw[<-List.drop_drop,K3,K3]
    simp only[bf,XX,UT,VM,vO,U,X,W3];exact e0.symm
   have key:mD e (Oo e (Nat.beq i.size (size e)) (l.getD n.toNat (dflt e)) off c)=bf ((aK e l).getD n.toNat []) off (c.map dL):=by
    rw[H];unfold Oo;cases Y:Nat.beq i.size (size e)with
    |true=>
     have Y:=Q6 Y;have h0:off=0:=by omega
     subst h0;have Z:bf (gW e (l.getD n.toNat (dflt e))) 0 c=c:=by simp only[bf,List.take_zero,qT,Vi];rw[List.drop_of_length_le (by rw[rH];omega),K6]
     have e3:bf (mD e (l.getD n.toNat (dflt e))) 0 (c.map dL)=c.map dL:=by rw[iW,<-qZ,Z]
     rw[Z]at q;rw[e3];exact xI q
    |false=>simp only;rw[xI q,qZ,<-iW]
   rw[key]
  .have H :∀z,(aK e l).set n.toNat z=aK e l:=λz=>List.set_eq_of_length_le (by rw[fH];omega);rw[H,H]
 .cases h
theorem U_(x:Operand):jg tt ety d o f (.nilCheck x) ty:=by
 intro r h;simp only[eP]at h;split at h
 rotate_left
 cases h;rename_i c g;obtain⟨j,h⟩:=cZ h;cases h;have b:bJ (f x)=.v (.one (dn c)):=by rw[g];rfl
 simp only[kernel,b];rw[QQ (LG j)];exact⟨_,rfl,gQ.pure _⟩
variable{c:Bool×Wd}
theorem XU{op:BinOp}{g:IntKind}{b:Int}(h:XP op k g v b=zw c):(c.1=zj->P.Ua op (.int k v) (.int g b))/\P.bin op (.int k v) (.int g b)=dL c.2:=by
 unfold XP at h;cases op<;>simp only at h
 case shl=>cases h;exact⟨λh=>(by simpa using h:0<=b),rfl⟩
 case shr=>cases h;exact⟨λh=>(by simpa using h:0<=b),rfl⟩
 all_goals
  split at h;cases h;rename_i p m;obtain⟨e⟩:=p;subst e;simp only[Q0]at h
  first
   |(cases h;done)
   |(
     
     subst h;refine⟨λh=>?_,?_⟩
     .first
      |exact rfl
      |(simp at h;exact⟨rfl,h⟩)
     .first
      |rfl
      |(simp only[P.bin,jE,j];congr 1))
theorem acs(a b:List UInt8):(⟨a.toArray⟩++⟨b.toArray⟩:ByteArray)=⟨(a++b).toArray⟩:=by apply ByteArray.ext;simp[ByteArray.data_append]
theorem Gf(a:List UInt8):(⟨a.toArray⟩:ByteArray).toList=a:=by rw[ByteArray.toList_eq]
theorem XV{op:BinOp}{a b:List UInt8}(h:XQ op a b=zw c):(c.1=zj->P.Ua op (.str ⟨a.toArray⟩) (.str ⟨b.toArray⟩))/\P.bin op (.str ⟨a.toArray⟩) (.str ⟨b.toArray⟩)=dL c.2:=by
 unfold XQ at h;cases op<;>simp only[Q0]at h<;>try (cases h;done)
 all_goals subst h
 case add=>
  refine⟨λh=>?_,?_⟩
  .simp only[pU]at h;show a.toArray.size+b.toArray.size<=_;simp only[qq];omega
  .simp only[P.bin,acs];rfl
 all_goals exact⟨λ_=>trivial,by simp only[P.bin,Gf];rfl⟩
theorem Va{op:BinOp}(h:Rf op a i=zw c):(c.1=zj->P.Qr op (.bool a) (.bool i))/\P.bin op (.bool a) (.bool i)=dL c.2:=by
 unfold Rf at h;cases op<;>simp only[Q0]at h<;>try (cases h;done)
 all_goals subst h
 .exact ⟨λ_=>.inl rfl,rfl⟩
 .exact ⟨λ_=>.inr rfl,rfl⟩
theorem gQ.pV{pre:Prop}{x:P}(h:c.1=zj->pre)(b:x=dL c.2):gQ (.pV c) (.calc pre x):=by subst b;obtain⟨g,t,y⟩:=c;exact⟨h,rfl,rfl,rfl⟩
theorem aiJ(a b:List UInt8):P.eqB (.str ⟨a.toArray⟩) (.str ⟨b.toArray⟩)=(a==b):=by show ((⟨a.toArray⟩:ByteArray)==⟨b.toArray⟩)=_;rw[beq_toListBytes,Gf,Gf]
theorem ae1{k:TK}{x y:Wd}(h:am6 k x y=zw a):Y5 k (dL x) (dL y)/\P.eqB (dL x) (dL y)=a:=by
 unfold am6 at h;split at h
 .unfold alv at h;split at h
  .rename_i p g;obtain⟨e⟩:=p;subst e;cases h;exact⟨rfl,rfl⟩
  .cases h
 .rename_i b c;simp only[eqStr,Q0]at h;subst h;exact⟨trivial,aiJ b c⟩
 .simp only[ap8,Q0]at h;subst h;exact⟨trivial,rfl⟩
 .cases h
theorem Vb{tt:TT}:∀(fs:List (Nat×TypeId)) (n:Nat) (xs m:List TW) (b:Bool),Jh tt n fs xs m=zw b->∃c,oK tt n fs (xs.map dn) (m.map dn)=zw c/\c.1/\c.2=b
 | [],n,[],[],b,h=>by simp only[Jh,Q0]at h;subst h;exact⟨(True,zj),rfl,trivial,rfl⟩
 |(off,t)::fs,n,x::xs,y::m,b,h=>by
  cases x with
  |p L i1 x=>cases y with
   |p a2 i2 y=>
    simp only[Jh]at h;split at h
    rotate_left
    cases h;rename_i i q;cases g:(Nat.beq off n&&i.k.flat&&Nat.beq i.size 1)with
    |false=>rw[g]at h;cases h
    |true=>
     rw[g]at h;simp only[cond_true]at h;split at h
     rotate_left
     cases h;rename_i M w z B;cases h;obtain⟨c,H,J,K⟩:=Vb fs (n+1) xs m w B;obtain⟨q1,q2⟩:=ae1 z;simp only[QR]at g;have j:off=n/\i.k.flat=zj/\i.size=1:=⟨Q6 g.1.1,g.1.2,Q6 g.2⟩;refine⟨(Y5 i.k (dL x) (dL y)/\c.1,P.eqB (dL x) (dL y)&&c.2),?_,⟨q1,J⟩,by rw[q2,K]⟩;simp only[Qf,dn,oK,q];rw[QQ j,H]
   |_=>simp[Jh]at h
  |_=>simp[Jh]at h
 | [],n,_::_,_,b,h=>by simp[Jh]at h
 | [],n,[],_::_,b,h=>by simp[Jh]at h
 |_::_,n,[],_,b,h=>by simp[Jh]at h
 |_::_,n,x::xs,[],b,h=>by cases x<;>simp[Jh]at h
theorem ae2(op:BinOp)(t:TypeId)(x y:Operand)(u:TypeId):jg tt ety d o f (.binOp op t x y u) ty:=by
 intro r h;simp only[eP]at h;split at h
 .rename_i U i1 X a2 i2 Y L M;have g:bJ (f x)=.v (.one (.p U i1 (dL X))):=by rw[L];rfl
  have j:bJ (f y)=.v (.one (.p a2 i2 (dL Y))):=by rw[M];rfl
  split at h
  rotate_left
  cases h;rename_i i z;split at h
  rotate_left
  cases h;rename_i c w;cases h;obtain⟨ik,Z,ib,iz⟩:=i;simp only at w;unfold ap7 at w;split at w
  .obtain ⟨B,H⟩:=XU w;simp only[kernel,g,j,z];exact⟨_,rfl,gQ.pV B H⟩
  .obtain ⟨B,H⟩:=XV w;simp only[kernel,g,j,z];exact⟨_,rfl,gQ.pV B H⟩
  .obtain ⟨B,H⟩:=Va w;simp only[kernel,g,j,z];exact⟨_,rfl,gQ.pV B H⟩
  .cases w
 .rename_i xs N L M;have g:bJ (f x)=.v (.agg (xs.map dn)):=by rw[L];rfl
  have j:bJ (f y)=.v (.agg (N.map dn)):=by rw[M];rfl
  split at h
  rotate_left
  cases h;rename_i i z;have key :∀{b q:Bool} {v:Bool},Jh tt 0 i.k.parts xs N=zw b->aij op=zw q->i.eq=zj->v=(b==q)->∃T,kernel tt d (dw o) (λa=>bJ (f a)) (.binOp op t x y u) ty=zw T/\gQ (.pV (zj,jE v)) T:=by intro b q v J K m h4;obtain⟨c,e1,e2,e3⟩:=Vb _ _ _ _ _ J;simp only[kernel,g,j,z,e1,K];rw[QQ m];exact⟨_,rfl,gQ.pV (λ_=>e2) (by rw[e3,h4];rfl)⟩
  split at h
  .rename_i b J K;cases m:i.eq with
   |false=>rw[m]at h;cases h
   |true=>rw[m]at h;simp only[cond_true,Q0]at h;subst h;exact key (v:=b) J K m (by cases b<;>rfl)
  .rename_i b J K;cases m:i.eq with
   |false=>rw[m]at h;cases h
   |true=>rw[m]at h;simp only[cond_true,Q0]at h;subst h;exact key (v:=!b) J K m (by cases b<;>rfl)
  .cases h
 .cases h
theorem aiK(op:UnOp)(t:TypeId)(x:Operand):jg tt ety d o f (.unOp op t x) ty:=by
 intro r h;simp only[eP]at h;split at h
 rotate_left
 cases h;rename_i j i1 m q;have g:bJ (f x)=.v (.one (.p j i1 (dL m))):=by rw[q];rfl
 split at h
 rotate_left
 cases h;rename_i c b;cases h;simp only[kernel,g];unfold unT at b;split at b
 .cases b;exact⟨_,rfl,gQ.pV (λ_=>trivial) rfl⟩
 .cases b;exact⟨_,rfl,gQ.pV (λ_=>trivial) rfl⟩
 .cases b
theorem XW(s t:TypeId)(x:Operand):jg tt ety d o f (.convert s t x) ty:=by
 intro r h;simp only[eP]at h;split at h
 .rename_i Z J K z0 k L M N m i1 T c q w y;have g:bJ (f x)=.v (.one (.p m i1 (.int T c))):=by rw[y];rfl
  cases h;simp only[kernel,q,w,g];exact⟨_,rfl,⟨λ_=>trivial,rfl,rfl,rfl⟩⟩
 .rename_i e J K z0 L M N c q w y;have g:bJ (f x)=.v (.one (dn c)):=by rw[y];rfl
  split at h
  rotate_left
  cases h;rename_i U X z2 H;split at h
  rotate_left
  cases h;rename_i l m i1 B;cases h;obtain⟨ask,j,z⟩:=U9 B;have j:(dn c).rows (dw o) 1=zw (ask,aK (.int .u8) l,m,i1):=j;simp only[kernel,q,w,g,H,j];refine⟨_,rfl,⟨λ_=>⟨z,λr B=>?_⟩,?_,rfl,rfl⟩⟩
  .simp only[aK,XN]at B;obtain⟨n,_,rfl⟩:=B;exact⟨n,rfl⟩
  .have e:J7 (aK (.int .u8) l)=dL ⟨.str,strOf l⟩:=by show P.str _=P.str _;congr 2;simp only[aK,UP,strOf];congr 1
   show S.v (V.one (W.p zv zv (J7 (aK (.int .u8) l))))=_;rw[e];rfl
 .rename_i J K z0 e L M N m i1 c q w y;change List UInt8 at c;have g:bJ (f x)=.v (.one (.p m i1 (.str ⟨c.toArray⟩))):=by rw[y];rfl
  split at h
  rotate_left
  cases h;rename_i U X z2 H;cases h;simp only[kernel,q,w,g,H];refine⟨_,rfl,⟨λ_=>trivial,?_,rfl,rfl⟩⟩;have e:Qs (.str ⟨c.toArray⟩)=dL ⟨.sl (.int .u8),am5 c⟩:=by
   show P.gV 1 _=P.gV 1 _;have key :∀l:List UInt8,(l.map λb=>[P.int .u8 (b.toNat:Int)])=aK (.int .u8) (am5 l):=by
    intro l
    induction l with
    |nil=>rfl
    |cons a l Y=>exact W2 (List.cons _) Y
   exact W2 (P.gV 1) (key c)
  show S.v (V.one (W.p zv zv (Qs (.str ⟨c.toArray⟩))))=_;rw[e];rfl
 .cases h
end
end Go.Fg

namespace Go.Fg
open Go.Fw
section
variable [RE] {o:Nat->TO} {tt:TT} {ety:TypeId->Option Ty} {d:Nat} {f:Operand->TS} {ty:TypeId}
theorem zC(h:inB v g=zj):inRange (.int k v) g:=by simp only[inB,QR,Wa]at h;exact h
theorem Ro(t:TypeId)(n c:Operand):jg tt ety d o f (.makeSlice t n c) ty:=by
 intro r h;simp only[eP]at h;split at h
 rotate_left
 cases h;rename_i e i1 i2 i3 B j1 b a2 j2 g H hn J;change Int at b;change Int at g;have m:bJ (f n)=.v (.one (.p B j1 (.int .i64 b))):=by rw[hn];rfl
 have q:bJ (f c)=.v (.one (.p a2 j2 (.int .i64 g))):=by rw[J];rfl
 split at h
 rotate_left
 cases h;rename_i y Z K L;split at h
 rotate_left
 cases h;rename_i ps j;obtain⟨M,h⟩:=cZ h;cases h;obtain⟨N,T⟩:=jm M;obtain⟨z,U⟩:=Eo j;have w:=Q6 T;rw[xJ]at z;simp only[kernel,H,m,q,K,z];rw[QQ (Ou N)];refine⟨_,rfl,⟨λj=>?_,rfl,?_,rfl⟩⟩
 .simp only[zy,QR,Wa]at j;obtain⟨⟨⟨X,p2⟩,p3⟩,p4⟩:=j;refine⟨b.toNat,g.toNat,by rw[JP X],by rw[JP (by omega)],by omega,?_,by omega⟩;have e:((y.bytes*g.toNat:Nat):Int)=y.bytes*g:=by rw[Int.natCast_mul,JP (by omega)]
  omega
 .simp only[P.list,jk,Qf,Vc,eH,w];have Y:(P.int .i64 b).nat=b.toNat:=rfl;rw[Y];simp only[aK,List.map_replicate];rw[xI U]
theorem mZ{lo:Option Operand}{m:Int}(h:mY v (lo.map f)=zw m):nI (.int .i64 v) (lo.map λx=>bJ (f x))=zw (.int .i64 m):=by
 cases lo with
 |none=>simp only[KM,mY,Q0]at h;subst h;rfl
 |some x=>
  simp only[W7]at h ⊢;unfold mY at h;split at h
  .rename_i b;cases b
  .rename_i b;simp only[Q0]at b;cases h;rw[b];rfl
  .cases h
theorem vW{lo hi:Int}{len:Nat}(h:Jg lo hi len=zj):∃m k:Nat,P.int .i64 lo=.int .i64 m/\P.int .i64 hi=.int .i64 k/\m<=k/\k<=len:=by simp only[Jg,QR,Wa]at h;exact⟨lo.toNat,hi.toNat,by rw[JP (by omega)],by rw[JP (by omega)],by omega,by omega⟩
theorem XY(y:List UInt8)(a b:Nat):(⟨y.toArray⟩:ByteArray).extract a b=⟨((y.take b).drop a).toArray⟩:=by apply ByteArray.ext;simp[ByteArray.data_extract,List.drop_take]
theorem acu(t:TypeId)(x hi y:Operand):jg tt ety d o f (.slice t x zz (zw hi) (zw y)) ty:=by
 intro r h;simp only[eP]at h;unfold Zo at h;split at h
 .rename_i e i1 i2 i3 g z j1 q a2 j2 w B H J K;change Int at q;change Int at w;have b:bJ (f x)=.v (.one (.own g)):=by rw[H];rfl
  have c:bJ (f hi)=.v (.one (.p z j1 (.int .i64 q))):=by rw[J];rfl
  have m:bJ (f y)=.v (.one (.p a2 j2 (.int .i64 w))):=by rw[K];rfl
  split at h
  rotate_left
  cases h;rename_i U a i T l L hg;obtain⟨X,h⟩:=cZ h;cases h;have M:dw o g=.arr zv a i (size T) (aK T l):=by unfold dw;rw[hg];rfl
  simp only[kernel,DF,B,b,c,m,L,M];rw[QQ (Q6 X)];refine⟨_,rfl,⟨λN=>?_,rfl,rfl,rfl⟩⟩;obtain⟨k,j,q1,q2,q3,q4⟩:=vW N;exact⟨k,j,q1,q2,q3,by rw[fH];exact q4⟩
 .rename_i e i1 i2 i3 z j1 q a2 j2 w B H J K;change Int at q;change Int at w;have b:bJ (f x)=.v (.one .dD):=by rw[H];rfl
  have c:bJ (f hi)=.v (.one (.p z j1 (.int .i64 q))):=by rw[J];rfl
  have m:bJ (f y)=.v (.one (.p a2 j2 (.int .i64 w))):=by rw[K];rfl
  split at h
  rotate_left
  cases h;rename_i U L;cases h;simp only[kernel,DF,B,b,c,m,L];refine⟨_,rfl,⟨λN=>?_,rfl,rfl,rfl⟩⟩;obtain⟨k,j,q1,q2,q3,q4⟩:=vW N;have Y:j=0:=by omega
  have Z:k=0:=by omega
  subst Y;subst Z;exact⟨q1,q2⟩
 .cases h
theorem ae3(t:TypeId)(x:Operand)(lo hi:Option Operand):jg tt ety d o f (.slice t x lo hi zz) ty:=by
 intro r h;simp only[eP]at h;split at h
 .rename_i e i1 i2 i3 x' M N;have j:bJ (f x)=.v (.one (dn x')):=by rw[N];rfl
  split at h
  rotate_left
  cases h;rename_i ie T len he het J;split at h
  rotate_left
  cases h;rename_i b c m q;obtain⟨ask,hl,K⟩:=Zp J;have U:=mZ m;have X:=mZ q;have z:lV 0=P.int .i64 0:=rfl;simp only[kernel,M,j,he,hl,z,U,X];split at h
  .rename_i g;split at h
   rotate_left
   cases h;rename_i e' l hg;obtain⟨Y,h⟩:=cZ h;cases h;simp only[dn,qH hg];rw[QQ (Q6 Y)];refine⟨_,rfl,⟨λB=>?_,rfl,rfl,rfl⟩⟩;exact vW B
  .rename_i a i w;split at h
   rotate_left
   cases h;rename_i l H;change List (Dt T)at l;obtain⟨Y,h⟩:=cZ h;cases h;have L:=Q6 Y;simp only[dn];refine⟨_,rfl,⟨λB=>⟨K,?_,?_⟩,?_,rfl,rfl⟩⟩
   .rw [iR H,<-L];exact LD _ _
   .rw [iR H,jR,fH];exact vW B
   .rw [iR H];show S.v (V.one (W.p a i (P.sub ie.size (P.int .i64 b).nat (P.int .i64 c).nat (dL ⟨.sl T,l⟩))))=S.v (V.one (W.p a i (dL ⟨.sl T,List.drop b.toNat (List.take c.toNat l)⟩)));rw[P.sub,jR,t_,<-L];rfl
  .cases h;simp only[dn];refine⟨_,rfl,⟨λB=>?_,rfl,rfl,rfl⟩⟩;obtain⟨Z,h2⟩:=jm B;have Z:b=0:=by simpa using Z
   have h2:c=0:=by simpa using h2
   subst Z;subst h2;exact⟨rfl,rfl⟩
  .cases h
 .rename_i s0 b0 z0 a1 i1 y M N;have j:bJ (f x)=.v (.one (.p a1 i1 (.str ⟨y.toArray⟩))):=by rw[N];rfl
  change List UInt8 at y;split at h
  rotate_left
  cases h;rename_i b c m q;cases h;have U:=mZ m;have X:=mZ q;have z:lV 0=P.int .i64 0:=rfl;have el:(P.str ⟨y.toArray⟩).len=P.int .i64 (y.length:Nat):=by show P.int .i64 (y.toArray.size:Nat)=_;simp
  simp only[kernel,M,j,z,el,U,X];refine⟨_,rfl,⟨λB=>⟨trivial,?_⟩,?_,rfl,rfl⟩⟩
  .have:=vW B;simpa[P.bytes,ByteArray.size]using this
  .show S.v (V.one (W.p zv zv (P.str ((⟨y.toArray⟩:ByteArray).extract b.toNat c.toNat))))=S.v (V.one (W.p zv zv (P.str ⟨(List.drop b.toNat (List.take c.toNat y)).toArray⟩)));rw[XY]
 .cases h
theorem Rq(t:TypeId)(x:Operand)(n:Nat):jg tt ety d o f (.fieldAddr t x n) ty:=by
 intro r h;simp only[eP]at h;split at h
 rotate_left
 cases h;rename_i H i1 i2 i3 b j g m q w;have c:bJ (f x)=.v (.one (dn g)):=by rw[w];rfl
 obtain⟨y,h⟩:=cZ h;cases h;obtain⟨z,B⟩:=jm y;simp only[kernel,m,q,c];rw[QQ ⟨Ou z,LG B⟩];refine⟨_,rfl,?_⟩;have:=gQ.pure (.v (.one (g.shift b)));simpa only[bJ,kG,Pm]using this
theorem ae4(t:TypeId)(x:Operand)(n:Nat):jg tt ety d o f (.field t x n) ty:=by
 intro r h;simp only[eP]at h;split at h
 rotate_left
 cases h;rename_i B i1 i2 i3 c j m;have b:bJ (f x)=.v (.agg (c.map dn)):=by rw[m];rfl
 split at h
 rotate_left
 cases h;rename_i off u q;split at h
 rotate_left
 cases h;rename_i g hu;obtain⟨w,h⟩:=cZ h;cases h;obtain⟨y,z⟩:=jm w;simp only[kernel,j,b,q,hu,We];rw[QQ ⟨WD y,Ou z⟩];refine⟨_,rfl,?_⟩;have:=gQ.pure (TV.gI g.agg ((c.drop off).take g.size));rw[mG,UT,VM]at this;exact this
theorem Ru(t:TypeId)(x T:Operand):aeV tt ety d o f (.indexAddr t x T) ty:=by
 intro r h;simp only[eP]at h;split at h
 .rename_i e i1 i2 i3 K U j1 k n B X hn;change Int at n;have b:bJ (f x)=.v (.one (dn K)):=by rw[X];rfl
  have c:bJ (f T)=.v (.one (.p U j1 (.int k n))):=by rw[hn];rfl
  have Z:(P.int k n).nat=n.toNat:=rfl;split at h
  .rename_i L q g y Y;split at h
   rotate_left
   cases h;rename_i e' l hg;obtain⟨z,h⟩:=cZ h;cases h;simp only[kernel,B,b,c,y,dn,qH hg];rw[QQ (Q6 z)];refine⟨_,rfl,gQ.toC ⟨λj=>?_,rfl,rfl,rfl⟩⟩;exact zC (k:=k) j
  .rename_i L q g lo hi y Y;split at h
   .rename_i e' l hg;obtain⟨z,h⟩:=cZ h;cases h;simp only[kernel,B,b,c,y,dn,qH hg];rw[QQ (Q6 z)];exact⟨_,rfl,gQ.toC ⟨λj=>zC (k:=k) j,rfl,rfl,rfl⟩⟩
   .cases h
  .rename_i L q a i w y Y;split at h
   rotate_left
   cases h;rename_i l M;change List (Dt q)at l;obtain⟨z,h⟩:=cZ h;cases h;have hsz:=Q6 z;simp only[kernel,B,b,c,y,dn];refine⟨_,rfl,⟨λj=>⟨λ_=>⟨?_,?_⟩,?_,rfl,rfl⟩,rfl⟩⟩
   .rw [iR M,<-hsz];exact LD _ _
   .rw [iR M,jR,fH];exact zC (k:=k) j
   .have H:n.toNat<l.length:=by have j:inB n l.length=zj:=j;simp only[inB,QR,Wa]at j;omega
    rw[iR M];show S.v (V.one (W.sp a i ((dL ⟨.sl q,l⟩).list.getD (P.int k n).nat []) 0))=S.v (V.one (W.sp a i (mD q (List.getD l n.toNat (dflt q))) 0));rw[jR,Z];simp[aK,Q1,H]
  .cases h
 .rename_i m e i1 i2 i3 g U j1 k n B X hn;change Int at n;have b:bJ (f x)=.v (.one (.gl g)):=by rw[X];rfl
  have c:bJ (f T)=.v (.one (.p U j1 (.int k n))):=by rw[hn];rfl
  split at h
  rotate_left
  cases h;rename_i L q l y hg;obtain⟨z,h⟩:=cZ h;cases h;obtain⟨J,N⟩:=jm z;have J:=Q6 J;have N:=Q6 N;simp only[kernel,B,b,c,y,alr,hg,W7];rw[QQ ⟨J,by rw[We];exact N⟩];refine⟨_,rfl,⟨λj=>⟨λ_=>zC (k:=k) j,?_,rfl,rfl⟩,rfl⟩⟩;have H:n.toNat<l.length:=by have j:inB n m=zj:=j;simp only[inB,QR,Wa]at j;omega
  show S.v (V.one (W.sp zv zv ((List.map (mD q) l).getD (P.int k n).nat []) 0))=S.v (V.one (W.sp zv zv (mD q (List.getD l n.toNat (dflt q))) 0));have Z:(P.int k n).nat=n.toNat:=rfl;rw[Z];simp[Q1,H]
 .rename_i m e i1 i2 i3 K U j1 k n hng B X hn;change Int at n;have b:bJ (f x)=.v (.one (dn K)):=by rw[X];rfl
  have c:bJ (f T)=.v (.one (.p U j1 (.int k n))):=by rw[hn];rfl
  split at h
  rotate_left
  cases h;rename_i L y;obtain⟨z,h⟩:=cZ h;cases h;obtain⟨J,N⟩:=jm z;simp only[inB,QR,Wa]at J;have M:=LG N;have key :∃r',kernel tt d (dw o) (λx=>bJ (f x)) (.indexAddr t x T) ty=zw r'/\r'=.pure (.v (.one ((dn K).shift (n.toNat*L.size)))):=by
   cases K<;>first
    |(cases N;done)
    |(
      simp only[dn]at b M ⊢;simp only[kernel,B,b,c,y];rw[QQ ⟨J.1,J.2,M⟩];exact⟨_,rfl,rfl⟩)
  obtain⟨r',e1,rfl⟩:=key;refine⟨_,e1,gQ.toC ?_⟩;have:=gQ.pure (.v (.one (K.shift (n.toNat*L.size))));simpa only[bJ,kG,Pm]using this
 .cases h
theorem ae5(t:TypeId)(x g:Operand):jg tt ety d o f (.index t x g) ty:=by
 intro r h;simp only[eP]at h;split at h
 rotate_left
 cases h;rename_i i1 i2 i3 j j1 s a2 j2 k n m q hn;change List UInt8 at s;change Int at n;have b:bJ (f x)=.v (.one (.p j j1 (.str ⟨s.toArray⟩))):=by rw[q];rfl
 have c:bJ (f g)=.v (.one (.p a2 j2 (.int k n))):=by rw[hn];rfl
 cases h;simp only[kernel,m,b,c];refine⟨_,rfl,⟨λw=>⟨trivial,?_⟩,?_,rfl,rfl⟩⟩
 .have:(P.str ⟨s.toArray⟩).bytes.size=s.length:=by show s.toArray.size=_;simp
  rw[this];exact zC (k:=k) w
 .have:(s.toArray.getD n.toNat 0)=s.getD n.toNat 0:=by simp[WP,Q1]
  simp only[P.ak7,this];rfl
theorem ae6(t:TypeId)(x:Operand):jg tt ety d o f (.range t x) ty:=by
 intro r h;simp only[eP]at h;split at h
 .rename_i i1 i2 i3 c j1 s g j;change List UInt8 at s;have b:bJ (f x)=.v (.one (.p c j1 (.str ⟨s.toArray⟩))):=by rw[j];rfl
  cases h;simp only[kernel,g,b];exact⟨_,rfl,⟨λ_=>trivial,rfl,rfl,rfl⟩⟩
 .cases h
theorem XZ(t:Operand)(n:Nat):jg tt ety d o f (.extract t n) ty:=by
 intro r h;simp only[eP]at h;split at h
 rotate_left
 cases h;rename_i xs c;have b:bJ (f t)=.jy (xs.map kG):=by rw[c];rfl
 split at h
 .rename_i x hn;cases h;simp only[kernel,b,Z0,hn,W7];exact⟨_,rfl,gQ.pure _⟩
 .cases h
theorem Vd{F:Operand->Option TW}{G:Operand->Option W}(b :∀x w,F x=zw w->G x=zw (dn w)):∀{xs:List Operand} {c:List TW},xs.mapM F=zw c->xs.mapM G=zw (c.map dn)
 | [],c,h=>by simp at h;subst h;rfl
 |x::xs,c,h=>by simp only[vv,Option.bind_eq_bind,Option.bind_eq_some_iff]at h ⊢;obtain⟨w,m,g,j,h⟩:=h;cases h;exact⟨dn w,b x w m,g.map dn,Vd b j,rfl⟩
theorem Ve(g:FuncId)(first caps:Array Operand):jg tt ety d o f (.makeFunc (.func g) first caps) ty:=by
 intro r h;simp only[eP]at h;obtain⟨m,h⟩:=cZ h;split at h
 rotate_left
 cases h;rename_i j q;cases h;simp only[kernel];rw[QQ (Q6 m)];have key :∀{G:Operand->Option W},(∀x,G x=match bJ (f x)with|.v (.one w)=>zw w|_=>zz)->caps.toList.mapM G=zw (j.map dn):=by
  intro G y;refine Vd (λx w c=>?_) q;rw[y];split at c
  .rename_i z;cases c;rw[z];rfl
  .cases c
 split
 .rename_i B b;have e:=b.symm.trans (key λx=>rfl);cases e;refine⟨_,rfl,?_⟩;have:=gQ.pure (.v (.one (.clo g j)));simpa only[bJ,kG,dn,Aw]using this
 .rename_i b;exact nomatch b.symm.trans (key λx=>rfl)
theorem am9(args:Array Operand)(ts:Array TypeId):jg tt ety d o f (.call { callee:=.builtin .len,args:=args,argTypes:=ts }) ty:=by
 intro r h;simp only[eP]at h;split at h
 rotate_left
 cases h;rename_i x t q c;split at h
 .rename_i e i1 i2 i3 w j m;have b:bJ (f x)=.v (.one (dn w)):=by rw[m];rfl
  split at h
  .rename_i n hn;cases h;obtain⟨ask,y,g⟩:=Zp hn;simp only[kernel,q,c,j,b,y];exact⟨_,rfl,⟨λ_=>g,rfl,rfl,rfl⟩⟩
  .cases h
 .rename_i i1 i2 i3 z j1 s j m;change List UInt8 at s;have b:bJ (f x)=.v (.one (.p z j1 (.str ⟨s.toArray⟩))):=by rw[m];rfl
  cases h;simp only[kernel,q,c,j,b];refine⟨_,rfl,⟨λ_=>trivial,?_,rfl,rfl⟩⟩;have:(P.str ⟨s.toArray⟩).len=.int .i64 s.length:=by show P.int .i64 (s.toArray.size:Nat)=_;simp
  simp only[this];rfl
 .cases h
theorem am_(args:Array Operand)(ts:Array TypeId):jg tt ety d o f (.call { callee:=.builtin .min,args:=args,argTypes:=ts }) ty:=by
 intro r h;simp only[eP]at h;split at h
 .rename_i x y g;split at h
  .rename_i j j1 k m a2 j2 q w B H;have b:bJ (f x)=.v (.one (.p j j1 (.int k m))):=by rw[B];rfl
   have c:bJ (f y)=.v (.one (.p a2 j2 (.int q w))):=by rw[H];rfl
   cases h;simp only[kernel,g,b,c];exact⟨_,rfl,⟨λ_=>⟨trivial,trivial⟩,rfl,rfl,rfl⟩⟩
  .cases h
 .rename_i x y z g;split at h
  rotate_left
  cases h;rename_i j j1 k m a2 j2 q w a3 j3 K L B H M;have b:bJ (f x)=.v (.one (.p j j1 (.int k m))):=by rw[B];rfl
  have c:bJ (f y)=.v (.one (.p a2 j2 (.int q w))):=by rw[H];rfl
  have J:bJ (f z)=.v (.one (.p a3 j3 (.int K L))):=by rw[M];rfl
  cases h;simp only[kernel,g,b,c,J];exact⟨_,rfl,⟨λ_=>⟨trivial,trivial,trivial⟩,rfl,rfl,rfl⟩⟩
 .cases h
theorem ana(args:Array Operand)(ts:Array TypeId):jg tt ety d o f (.call { callee:=.builtin .max,args:=args,argTypes:=ts }) ty:=by
 intro r h;simp only[eP]at h;split at h
 .rename_i x y g;split at h
  .rename_i j j1 k m a2 j2 q w B H;have b:bJ (f x)=.v (.one (.p j j1 (.int k m))):=by rw[B];rfl
   have c:bJ (f y)=.v (.one (.p a2 j2 (.int q w))):=by rw[H];rfl
   cases h;simp only[kernel,g,b,c];exact⟨_,rfl,⟨λ_=>⟨trivial,trivial⟩,rfl,rfl,rfl⟩⟩
  .cases h
 .rename_i x y z g;split at h
  rotate_left
  cases h;rename_i j j1 k m a2 j2 q w a3 j3 K L B H M;have b:bJ (f x)=.v (.one (.p j j1 (.int k m))):=by rw[B];rfl
  have c:bJ (f y)=.v (.one (.p a2 j2 (.int q w))):=by rw[H];rfl
  have J:bJ (f z)=.v (.one (.p a3 j3 (.int K L))):=by rw[M];rfl
  cases h;simp only[kernel,g,b,c,J];exact⟨_,rfl,⟨λ_=>⟨trivial,trivial,trivial⟩,rfl,rfl,rfl⟩⟩
 .cases h
theorem zD(e:Ty)(a b:List (Dt e)):aK e (a++b)=aK e a++aK e b:=by simp[aK]
theorem X0{N:TypeId}{s x:TW}{r:uU}(h:Rh tt ety d o N s x=zw r):∃T,wR tt d (dw o) N (dn s) (dn x)=zw T/\gQ r T:=by
 simp only[Rh]at h;split at h
 rotate_left
 cases h;rename_i e i1 i2 i3 X;split at h
 rotate_left
 cases h;rename_i w q Y Z;cases B:(Nat.beq w.bytes 0||!Nat.beq (size q) w.size)with
 |true=>rw[B]at h;cases h
 |false=>
  rw[B,cond_false]at h;simp only[J2,va]at B;have m:=Q6 B.2;have L:¬ w.bytes=0:=λe=>by rw[e]at B;cases B.1
  split at h;cases h;rename_i new a' i' H;obtain⟨ask,U,J⟩:=U9 H;rw[m]at U;simp only[wR,X,Y,Qt L,U];have key :∀(pre:Bool) (c:Prop) (j:List (Dt q)) (a i:Bool) (kill:List (Nat×TO)),(pre=zj->c)->
    gQ { pre:=pre&&decide ((j.length+new.length)*w.bytes<=140737488355328),t:=.sl q,val:=List.append j new,dst:=λ_=>.v (.one (.own d)),aJ:=λy=>kill++[(d,.arr zv (a||a') (i||i') q y)],new:=[d] }
     (.mk (ask/\c/\((aK q j).length+(aK q new).length)*w.bytes<=140737488355328) (.sl w.size (aK q j++aK q new)) (λ_=>.v (.one (.own d)))
      (λy=>jk kill++[(d,.arr zv (a||a') (i||i') w.size y.list)]) [d]):=by
   intro pre c j a i kill K;refine⟨λhp=>?_,rfl,?_,rfl⟩
   .obtain ⟨h1,h2⟩:=jm hp;refine⟨J,K h1,?_⟩;rw[fH,fH];simpa using h2
   .simp only[mM];congr 1;simp only[P.list,jk,Qf,Vc,eH,m];rw[<-zD];rfl
  split at h
  .cases h;exact⟨_,rfl,key zj True [] zv zv [] λ_=>trivial⟩
  .rename_i g;split at h
   rotate_left
   cases h;rename_i a i e' l hg;split at h
   rotate_left
   cases h;rename_i l' z;cases b:Nat.beq g d with
   |true=>rw[b]at h;cases h
   |false=>rw[b,cond_false]at h;cases h;obtain⟨M,z⟩:=pY z;cases M;subst z;simp only[dn,iY hg];rw[QQ ⟨m,λe=>by subst e;simp at b⟩];exact⟨_,rfl,key zj True _ a i [(g,.none)] λ_=>trivial⟩
  .rename_i g lo hi;split at h
   rotate_left
   cases h;rename_i a i e' l hg;split at h
   rotate_left
   cases h;rename_i l' z;cases b:Nat.beq g d with
   |true=>rw[b]at h;cases h
   |false=>
    rw[b,cond_false]at h;cases h;obtain⟨M,z⟩:=pY z;cases M;subst z;simp only[dn,iY hg,qY];rw[QQ ⟨m,λe=>by subst e;simp at b⟩];refine⟨_,rfl,key (decide (lo=0)) (P.int .i64 lo=lV 0) (l.take hi.toNat) a i [(g,.none)] λh=>?_⟩;have h:lo=0:=by simpa using h
    subst h;rfl
  .cases h
theorem acv(args:Array Operand)(ts:Array TypeId):jg tt ety d o f (.call { callee:=.builtin .append,args:=args,argTypes:=ts }) ty:=by
 intro r h;simp only[eP]at h;split at h
 rotate_left
 cases h;rename_i s x B H rest j b;split at h
 .rename_i e i1 i2 i3 m q w y z;have c:bJ (f s)=.v (.one (dn m)):=by rw[y];rfl
  have g:bJ (f x)=.v (.one (dn q)):=by rw[z];rfl
  simp only[kernel,j,b,w,c,g];exact X0 h
 .cases h
theorem X3(op:Op):aeV tt ety d o f op ty:=by
 cases op
 case move x=>exact jg.toC (aiE x)
 case assign x=>exact jg.toC (acr x)
 case pick c x y=>exact jg.toC (aiF c x y)
 case alloc t=>exact jg.toC (aeX t)
 case box t x=>exact jg.toC (am8 t x)
 case build t w=>exact jg.toC (aeY t w)
 case buildSlice t n w=>exact jg.toC (Ot t n w)
 case load t x=>exact jg.toC (aiH t x)
 case store t x y=>exact jg.toC (ae0 t x y)
 case nilCheck x=>exact jg.toC (U_ x)
 case binOp op t x y u=>exact jg.toC (ae2 op t x y u)
 case unOp op t x=>exact jg.toC (aiK op t x)
 case convert s t x=>exact jg.toC (XW s t x)
 case makeSlice t n c=>exact jg.toC (Ro t n c)
 case slice t x lo q B=>
  cases B with
  |none=>exact jg.toC (ae3 t x lo q)
  |some m=>cases lo with
   |some l=>intro r h;simp[eP]at h
   |none=>cases q with
    |none=>intro r h;simp[eP]at h
    |some q=>exact jg.toC (acu t x q m)
 case fieldAddr t x n=>exact jg.toC (Rq t x n)
 case field t x n=>exact jg.toC (ae4 t x n)
 case indexAddr t x z=>exact Ru t x z
 case index t x z=>exact jg.toC (ae5 t x z)
 case range t x=>exact jg.toC (ae6 t x)
 case extract t n=>exact jg.toC (XZ t n)
 case makeFunc fn first j=>
  cases fn
  case func g=>exact jg.toC (Ve g first j)
  all_goals (intro r h;simp[eP]at h)
 case call c=>
  obtain⟨callee,args,ts⟩:=c;cases callee
  case builtin b=>
   cases b
   case len=>exact jg.toC (am9 args ts)
   case append=>exact jg.toC (acv args ts)
   case min=>exact jg.toC (am_ args ts)
   case max=>exact jg.toC (ana args ts)
   all_goals (intro r h;simp[eP]at h)
  all_goals (intro r h;simp[eP]at h)
 all_goals (intro r h;simp[eP]at h)
end
end Go.Fg

namespace Go.Fg
open Go.Fw
section
variable [RE]
def wdF:Wd:=⟨.bool,zv⟩
def placesOf:Ty->List Nat
 |.prod (.st c) r=>c::placesOf r
 |_=>[]
def X4(et:Ty):List Nat->List (Nat×Ty)
 | []=>[]
 |c::b=>match (jV et)[c]? with
  |some (.sl t)=>(c,t)::X4 et b
  |_=>X4 et b
def ae7(ety:TypeId->Option Ty)(e:TypeId)(et:Ty):List (Nat×Ty):=match ety (1000000+e)with
 |some t=>X4 et (placesOf t)
 |none=>[]
def Az(au:List (Nat×Ty))(off n:Nat):List (Nat×Ty):=match au with
 | []=>[]
 |(c,t)::r=>match Nat.ble off c&&Nat.blt c (off+n)with
  |true=>(c,t)::Az r off n
  |false=>Az r off n
def yC(o:Nat->TO)(g:Nat):Option TH:=match o g with
 |.aO a i e h l b=>match b with
  |none=>zw ⟨a,i,e,h,l⟩
  |some (n,c,d)=>match o d with
   |.arr zv a' i' j m=>match acn e h c j with
    |true=>zw ⟨a||a',i||i',e,h,putRow e l n c (vP j m)⟩
    |false=>zz
   |_=>zz
 |_=>zz
def aqa:TO->Bool
 |.arr b _ _ _ _=>!b
 |_=>zv
def mO:List Nat->List (Nat×TO)
 | []=>[]
 |g::gs=>(g,.none)::mO gs
def cellT(e:Ty)(x:Dt e)(c:Nat)(e':Ty):List (Dt e'):=((gW e x).getD c wdF).as (.sl e')
def Rw(o:Nat->TO)(col:Nat->Option Ty):Nat->List Ty->List TW->Option (List Wd×Bool×Bool×List Nat×List (Nat×Nat))
 |_,[],[]=>zw ([],zv,zv,[],[])
 |j,t::ts,x::xs=>match Rw o col (j+1) ts xs with
  |none=>zz
  |some (c,a',i',b,es)=>match col j with
   |none=>match x.toP o t with
    |some (y,a,i,gs)=>zw (⟨t,y⟩::c,a||a',i||i',gs++b,es)
    |none=>zz
   |some s=>match tyB t (.sl s)with
    |true=>match x with
     |.dD=>zw (vP s []::c,a',i',b,es)
     |.own e=>match o e with
      |.arr zv a i g l=>match (vP g l).Dv (.sl s)with
       |some l=>zw (vP s l::c,a||a',i||i',b,(j,e)::es)
       |none=>zz
      |_=>zz
     |_=>zz
    |false=>zz
 |_,_,_=>zz
def Iw:List (Nat×Ty)->List (Nat×Ty)->Bool
 | [],[]=>zj
 |(c,t)::r,(b,g)::h=>Nat.beq c b&&tyB t g&&Iw r h
 |_,_=>zv
def Vf(o:Nat->TO)(et:Ty)(au:List (Nat×Ty)):TW->Option (Bool×Bool×Bool×List (Dt et)×List Nat)
 |.dD=>zw (zj,zv,zv,[],[])
 |.own g=>match yC o g with
  |some ⟨a,i,e,b,l⟩=>match (vP e l).Dv (.sl et),Iw b au with
   |some l,zj=>zw (zj,a,i,l,g::jC (o g))
   |_,_=>zz
  |none=>zz
 |.vw g lo c=>match yC o g with
  |some ⟨a,i,e,b,l⟩=>match (vP e (l.take c.toNat)).Dv (.sl et),Iw b au with
   |some l,zj=>zw (decide (lo=0),a,i,l,g::jC (o g))
   |_,_=>zz
  |none=>zz
 |_=>zz
def xK:Ty:=.st RE.hd
def acw(n:Nat):List (Dt xK):=List.replicate n (dflt xK)
def Rx(tt:TT)(o:Nat->TO)(f:Operand->TS)(t:TypeId)(x:Operand):Option uU:=match tt t,f x with
 |some i,.v (.one (.ep g n off))=>match yC o g with
  |some ⟨a,h,e,c,l⟩=>match vS off c with
   |some b=>bif acn e c off b&&(Nat.beq i.size 1&&!i.agg)&&uV (((gW e (dflt e)).drop off).take i.size) i.zero then
     zw { pre:=zj,t:=.sl xK,val:=acw (List.length (α:=Dt b) (cellT e (l.getD n.toNat (dflt e)) off b)),dst:=λz=>.v (.one (.p zv zv ⟨.sl xK,z⟩)),aJ:=λ_=>[],new:=[] } else zz
   |none=>zz
  |none=>zz
 |_,_=>zz
def jW(tt:TT)(ety:TypeId->Option Ty)(d:Nat)(o:Nat->TO)(f:Operand->TS)(op:Op)(ty:TypeId):Option uU:=
 match op with
 |.load t x=>match ety (3000000+d)with
  |some _=>Rx tt o f t x
  |none=>match tt t,f x with
  |some i,.v (.one (.ep g n off))=>match o g with
   |.aO a0 i0 q Z K _=>bif Nat.ble (off+i.size) (size q)&&Nat.blt 0 i.size&&uV (((gW q (dflt q)).drop off).take i.size) i.zero then
     match Az Z off i.size with
     | []=>zw { pre:=zj,t:=q,val:=K.getD n.toNat (dflt q),dst:=λz=>TV.gI i.agg (tpw a0 i0 (((gW q z).drop off).take i.size)),aJ:=λ_=>[],new:=[] }
     | [(c,X)]=>match yC o g with
      |some ⟨a,i',e,w,l⟩=>match acn e w c X&&Nat.ble (off+i.size) (size e)&&uV (((gW e (dflt e)).drop off).take i.size) i.zero with
       |true=>zw { pre:=zj,t:=.sl e,val:=l,dst:=λ(y:List (Dt e))=>TV.gI i.agg ((tpw a i' (((gW e (y.getD n.toNat (dflt e))).drop off).take i.size)).set (c-off) (.own d)),aJ:=λ(y:List (Dt e))=>(g,.aO a i' e w y (zw (n.toNat,c,d)))::(d,.arr zv a i' X (cellT e (y.getD n.toNat (dflt e)) c X))::mO (jC (o g)),new:=[d] }
       |false=>zz
      |none=>zz
     |_=>zz
     else zz
   |_=>zz
  |_,_=>zz
 |.store t x y=>match tt t,f x,f y with
  |some i,.v (.one (.ep g n off)),.v y=>match o g with
   |.aO a0 i0 q w K J=>match Rw o (λj=>vS j w) off (((jV q).drop off).take i.size) y.words with
    |some (L,a',i',gs,es)=>bif Nat.ble (off+i.size) (size q)&&Nat.beq y.words.length i.size&&y.solid&&!gG g gs&&uI (es.map (·.2))&&FH (es.map (·.2)) gs then
      let B (pre:Bool) (a i1:Bool) (e:Ty) (l:List (Dt e)) (iG:Option (Nat×Nat×Nat)) (T:List Nat):uU:=
       { pre,t:=.sl e,val:=List.set l n.toNat (Oo e (Nat.beq i.size (size e)) (l.getD n.toNat (dflt e)) off L),dst:=λ_=>.no,aJ:=λz=>(g,.aO (a||a') (i1||i') e w z iG)::mO (es.map (·.2))++mO T++gs.map (mX o),new:=[] }
      match Az w off i.size with
      | []=>zw (B zj a0 i0 q K J [])
      |_::_=>match J with
       |none=>zw (B zj a0 i0 q K zz [])
       |some (Y,U,d0)=>match yC o g with
        |some ⟨a,i1,e,iZ,l⟩=>match !gG d0 (es.map (·.2))&&!gG d0 gs with
         |true=>match tyB e q with
          |true=>zw (B zj a i1 e l zz [d0])
          |false=>zz
         |false=>bif Nat.ble off U&&Nat.blt U (off+i.size)then zw (B (Nat.beq Y n.toNat) a0 i0 q K zz [])else zz
        |none=>match aqa (o d0)with
         |true=>zz
         |false=>bif Nat.ble off U&&Nat.blt U (off+i.size)then zw (B (Nat.beq Y n.toNat) a0 i0 q K zz [])else zz
      else zz
    |none=>zz
   |_=>zz
  |_,_,_=>zz
 |.buildSlice t n parts=>match tt t with
  |some { k:=.slice e,.. }=>match tt e,ety e with
   |some h,zw b=>match ae7 ety e b with
    | []=>zz
    |Bl::M=>match Ej (λm=>if m<n then zw (m*h.size,h.size)else zz) (Ls (h.zero.map cvT) n) (parts.toList.map λp=>(p.1,f p.2))with
     |some ws=>match Rw o (λj=>vS (j % h.size) (Bl::M)) 0 (Ls (jV b) n) ws with
      |some (L,a,i,gs,es)=>bif Nat.ble (n+n*h.size) 16777216&&Nat.beq (size b) h.size&&uI (es.map (·.2))&&FH (es.map (·.2)) gs then
        zw { pre:=zj,t:=.sl b,val:=En b n L,dst:=λ_=>.v (.one (.own d)),aJ:=λy=>(d,.aO a i b (Bl::M) y zz)::mO (es.map (·.2))++gs.map (mX o),new:=[d] } else zz
      |none=>zz
     |none=>zz
   |_,_=>zz
  |_=>zz
 |.makeSlice t n c=>match tt t,f n,f c with
  |some { k:=.slice e,.. },.v (.one (.p _ _ ⟨.int .i64,n⟩)),.v (.one (.p _ _ ⟨.int .i64,c⟩))=>match tt e,ety e with
   |some h,zw b=>match ae7 ety e b with
    | []=>zz
    |Bl::M=>match Rw o (λj=>vS j (Bl::M)) 0 (jV b) (h.zero.map cvT)with
     |some (L,zv,zv,[],[])=>bif Nat.blt 0 h.size&&Nat.beq (size b) h.size then
      zw { pre:=zy h.bytes n c,t:=.sl b,val:=List.replicate (Int.toNat n) (mF b L),dst:=λ_=>.v (.one (.own d)),aJ:=λy=>[(d,.aO zv zv b (Bl::M) y zz)],new:=[d] } else zz
     |_=>zz
   |_,_=>zz
  |_,_,_=>zz
 |.call { callee:=.builtin .append,args,argTypes }=>match args.toList,argTypes.toList with
  | [s,x],sT::xT::_=>match tt sT,tt xT,f s,f x with
   |some { k:=.slice e,.. },zw { k:=.slice _,.. },.v (.one s),.v (.one (.own g2))=>match tt e,yC o g2 with
    |some h,zw ⟨a2,i2,b,w,new⟩=>match Vf o b w s with
     |some (pre,a,i,N,T)=>bif !Nat.beq h.bytes 0&&Nat.beq (size b) h.size&&uI (T++g2::jC (o g2))then
       zw { pre:=pre&&decide ((N.length+new.length)*h.bytes<=140737488355328),t:=.sl b,val:=List.append N new,dst:=λ_=>.v (.one (.own d)),aJ:=λy=>(d,.aO (a||a2) (i||i2) b w y zz)::mO (T++g2::jC (o g2)),new:=[d] } else zz
     |none=>zz
    |_,_=>zz
   |_,_,_,_=>zz
  |_,_=>zz
 |.slice t x zz H zz=>match ety 2000000 with
  |none=>zz
  |some _=>match tt t,f x with
   |some { k:=.slice e,.. },.v (.one (.own g))=>match tt e,o g with
    |some h,.arr zv a i b l=>bif Nat.beq (size b) h.size then match mY (List.length (α:=Dt b) l) (H.map f)with
     |some H=>zw { pre:=decide (0<=H)&&decide (H<=(List.length (α:=Dt b) l:Int)),t:=.sl b,val:=List.take (α:=Dt b) H.toNat l,dst:=λ_=>.v (.one (.own d)),aJ:=λy=>[(d,.arr zv a i b y),(g,.none)],new:=[d] }
     |none=>zz
     else zz
    |some h,.aO a i b w l zz=>bif Nat.beq (size b) h.size then match mY (List.length (α:=Dt b) l) (H.map f)with
     |some H=>zw { pre:=decide (0<=H)&&decide (H<=(List.length (α:=Dt b) l:Int)),t:=.sl b,val:=List.take (α:=Dt b) H.toNat l,dst:=λ_=>.v (.one (.own d)),aJ:=λy=>[(d,.aO a i b w y zz),(g,.none)],new:=[d] }
     |none=>zz
     else zz
    |_,_=>zz
   |_,_=>zz
 |_=>zz
section
variable {o:Nat->TO} {tt:TT} {ety:TypeId->Option Ty} {d:Nat} {f:Operand->TS} {ty:TypeId}
theorem sD(off n:Nat):∀(au:List (Nat×Ty)),jH (gY au) off n=gY (Az au off n)
 | []=>rfl
 |(c,t)::r=>by
  have b:=sD off n r;simp only[jH,gY,Qf,zb,Az]at b ⊢;cases g:(Nat.ble off c&&Nat.blt c (off+n))with
  |true=>simp only[if_true,Qf,b]
  |false=>simp only[Wb,if_false,b]
theorem Gg(c:Nat)(au:List (Nat×Ty)):(gY au).lookup c=(vS c au).map size:=by
 cases h:vS c au with
 |none=>exact Lu h
 |some t=>exact F7 h
theorem rJ(g:Nat)(x:TO)(r:List (Nat×TO)):jk ((g,x)::r)=(g,eH x)::jk r:=rfl
theorem rM:∀(gs:List Nat),jk (mO gs)=kills gs
 | []=>rfl
 |g::gs=>by show (g,O.none)::jk (mO gs)=(g,O.none)::kills gs;rw[rM gs]
variable{e:Ty}
theorem rO{au:List (Nat×Ty)}{l:List (Dt e)}(h:yC o g=zw ⟨a,i,e,au,l⟩):jI (dw o) g=zw (a,i,size e,gY au,aK e l)/\(dw o g).hn=jC (o g):=by
 unfold yC at h;cases j:o g with
 |aO a0 i0 m q w b=>
  rw[j]at h;have hg:dw o g=.aO a0 i0 (size m) (gY q) (aK m w) b:=by simp[dw,j,eH]
  rcases b with _|⟨n,c,d⟩
  .cases h;exact⟨by simp[jI,hg],by rw[hg];rfl⟩
  .simp only at h;cases hd:o d with
   |arr y K L M N=>
    rw[hd]at h;cases y with
    |true=>cases h
    |false=>
     simp only at h;split at h
     .rename_i z;cases h;obtain⟨B,H,J⟩:=vT z;refine⟨?_,by rw[hg];rfl⟩;simp only[jI,hg,iY hd];rw[QQ ⟨B,J⟩,CJ H]
     .cases h
   |_=>rw[hd]at h;cases h
 |_=>rw[j]at h;cases h
theorem X5{c d0:Nat}{a0 i0:Bool}{b:Ty}{au:List (Nat×Ty)}{m:List (Dt b)}(j:o g=.aO a0 i0 b au m (zw (n,c,d0)))(h:aqa (o d0)=zv):jI (dw o) g=zz:=by
 have hg:dw o g=.aO a0 i0 (size b) (gY au) (aK b m) (zw (n,c,d0)):=by simp[dw,j,eH]
 simp only[jI,hg];cases hd:o d0 with
 |arr q a i e l=>
  rw[hd]at h;cases q with
  |true=>simp[dw,hd,eH]
  |false=>cases h
 |_=>simp[dw,hd,eH]
theorem Vg{c:Ty}{x:Dt e}(h:(jV e)[g]?=zw (.sl c)):(mD e x)[g]?=zw (dL ⟨.sl c,cellT e x g c⟩):=by
 rw[iW,Z0];have b:g<(gW e x).length:=by rw[rH,<-kU];exact(Q3.1 h).1
 rw[Q2 b,W7];have m:((gW e x)[g]).t=.sl c:=by have:=vO e x;have j:=W2 (λl=>l[g]?) this;simp only[Z0,Q2 b,W7,h,Q0]at j;exact j
 have hg:(gW e x).getD g wdF=(gW e x)[g]:=by rw[Q1,Q2 b];rfl
 unfold cellT;rw[hg,yB m]
theorem Es{c:Nat->Option Ty}{col':Nat->Option Nat}(m :∀j,col' j=(c j).map size):∀{ts:List Ty} {xs:List TW} {j:Nat} {g:List Wd} {a i:Bool} {gs:List Nat} {es:List (Nat×Nat)},Rw o c j ts xs=zw (g,a,i,gs,es)->
  TM (dw o) col' j (xs.map dn)=zw (g.map dL,a,i,gs,es)/\g.map (·.t)=ts/\Pl o gs
 | [],[],j,g,a,i,gs,es,h=>by simp only[Rw,Q0,QP]at h;obtain⟨rfl,rfl,rfl,rfl,rfl⟩:=h;exact⟨rfl,rfl,Pl.nil⟩
 | [],x::xs,j,g,a,i,gs,es,h=>by simp[Rw]at h
 |t::ts,[],j,g,a,i,gs,es,h=>by simp[Rw]at h
 |t::ts,x::xs,j,g,a,i,gs,es,h=>by
  simp only[Rw]at h;split at h;cases h;rename_i J U X K L M;obtain⟨N,q,w⟩:=Es m M;simp only[Qf,TM,N,m j];cases B:c j with
  |none=>
   rw[B]at h;simp only at h;split at h
   .rename_i H;cases h;refine⟨by simp only[KM,Ri H,Qf],by simp only[Qf,q],(XR H).append w⟩
   .cases h
  |some s=>
   rw[B]at h;simp only at h;split at h
   rotate_left
   cases h;rename_i b;have b:=zA b;split at h
   .cases h;exact⟨by simp only[W7,dn,Qf];rfl,by simp only[Qf,q,b];rfl,w⟩
   .rename_i e;split at h
    rotate_left
    cases h;rename_i Y i1 Z l y;split at h
    rotate_left
    cases h;rename_i l1 z;cases h;obtain⟨T,z⟩:=pY z;cases T;subst z;refine⟨?_,by simp only[Qf,q,b];rfl,w⟩;simp only[W7,dn,iY y,if_true,Qf];rfl
   .cases h
def LJ(tt:TT)(ety:TypeId->Option Ty)(d:Nat)(o:Nat->TO)(f:Operand->TS)(op:Op)(ty:TypeId):Prop:=∀r,jW tt ety d o f op ty=zw r->∃c b,dY tt c d (dw o) (λx=>bJ (f x)) op ty=zw b/\gQ r b
theorem Pn{n:Ty}{l:List (Dt e)}{off c:Nat}(q:uV (((gW e (dflt e)).drop off).take G.size) G.zero=zj)(c2:(jV e)[c]?=zw (.sl n))(w:off<=c)(y:c<off+G.size):
  (((aK e l).getD g []).getD c default).list=aK n (cellT e (l.getD g (dflt e)) c n):=by
 by_cases hn:g<l.length
 .have h:(aK e l).getD g []=mD e (l.getD g (dflt e)):=by simp[aK,Q1,hn]
  rw[h,Q1,Vg c2];exact jR _ _
 .have h:(aK e l).getD g []=[]:=by simp[aK,Q1,Vv (vj hn)]
  have z:l.getD g (dflt e)=dflt e:=by simp[Q1,Vv (vj hn)]
  rw[h,z];have b:=F9 q (c-off);rw[UT,VM,ZZ,QQ (by omega),Wo,<-iW]at b;have B:off+(c-off)=c:=by omega
  rw[B,Vg c2]at b;split at b
  rotate_left
  cases b;simp only[Q0]at b;have m:=W2 P.list b;rw[jR]at m;rw[m];have:(Ub G.zero (c-off)).list=[]:=by have j :∃H l,Ub G.zero (c-off)=P.gV H l:=⟨_,_,b.symm⟩;unfold Ub at j ⊢;split<;>rfl
  rw[this];rfl
theorem aiL(n:Nat):dL ⟨.sl xK,acw n⟩=hdr (List.replicate n ([]:List P)):=by
 have g :∀x,mD xK x=[]:=λx=>by
  have c:=rH xK x;have h:size xK=0:=by simp[xK,size,jT,RE.hdF]
  rw[h]at c;rw[iW,Uv c];rfl
 rw[Jv];have b:aK xK (acw n)=List.replicate n []:=by
  have :∀(n:Nat),List.map (mD xK) (acw n)=List.replicate n []:=λn=>by
   induction n with
   |zero=>rfl
   |succ n j=>have b:mD xK (dflt xK)=[]:=g _;show mD xK (dflt xK)::List.map (mD xK) (acw n)=[]::List.replicate n [];rw[j,b]
  exact this n
 have m:size xK=0:=by simp[xK,size,jT,RE.hdF]
 rw[b,m];unfold hdr;rw[Kh];cases n<;>rfl
theorem X6{r:uU}(h:Rx tt o f t q=zw r):∃w,uJ tt (dw o) (λq=>bJ (f q)) t q=zw w/\gQ r w:=by
 unfold Rx at h;split at h
 rotate_left
 cases h;rename_i i g n off z B;have c:bJ (f q)=.v (.one (.ep g (.int .i64 n) off)):=by rw[B];rfl
 have H:(P.int .i64 n).nat=n.toNat:=rfl;split at h
 rotate_left
 cases h;rename_i a X e Y l J;split at h
 rotate_left
 cases h;rename_i y K;obtain⟨b,h⟩:=cZ h;obtain⟨b,L⟩:=jm b;obtain⟨j,b⟩:=jm b;obtain⟨m,x⟩:=jm b;have m:=Q6 m;have x:i.agg=zv:=by simpa using x
 cases h;obtain⟨M,Z⟩:=rO J;obtain⟨N,T,U⟩:=vT j;unfold uJ;simp only[z,c,M,N];rw[QQ ⟨U,m,x⟩];refine⟨_,rfl,⟨λ_=>trivial,?_,rfl,rfl⟩⟩;have key:(((aK e l).getD (P.int .i64 n).nat []).getD off default).list=aK y (cellT e (l.getD n.toNat (dflt e)) off y):=by rw[H];exact Pn L T (YY _) (by omega)
 show S.v (.one (.p zv zv (hdr (((aK e l).getD (P.int .i64 n).nat []).getD off default).list)))=S.v (.one (.p zv zv (dL ⟨.sl xK,acw _⟩)));rw[aiL,key];unfold hdr;rw[fH,Kh]
theorem ae8(t:TypeId)(x:Operand):LJ tt ety d o f (.load t x) ty:=by
 intro r h;simp only[jW]at h;split at h
 .obtain ⟨r',q,M⟩:=X6 h;exact⟨[(0,0)],r',q,M⟩
 split at h
 rotate_left
 cases h;rename_i i g n off ht hx;have B:bJ (f x)=.v (.one (.ep g (.int .i64 n) off)):=by rw[hx];rfl
 have T:(P.int .i64 n).nat=n.toNat:=rfl;split at h
 rotate_left
 cases h;rename_i a0 i0 U N l0 H X;have hg:dw o g=.aO a0 i0 (size U) (gY N) (aK U l0) H:=by simp[dw,X,eH]
 obtain⟨J,h⟩:=cZ h;obtain⟨J,h3⟩:=jm J;obtain⟨q,M⟩:=jm J;have q:=WD q;split at h
 .rename_i b;cases h;refine⟨[],?_⟩;simp only[dY,Us,cond_false,ht,B,hg];rw[QQ ⟨q,Ou M⟩];have w:jH (gY N) off i.size=[]:=by rw[sD,b];rfl
  simp only[w];refine⟨_,rfl,⟨λ_=>trivial,?_,rfl,rfl⟩⟩;simp only[Fj.pure,mG];congr 1;rw[T];exact Rl U l0 n.toNat off i.size i.zero q h3 a0 i0
 .rename_i c K b;split at h
  rotate_left
  cases h;rename_i a Y e au l hh;split at h
  rotate_left
  cases h;rename_i y;obtain⟨y,hz⟩:=jm y;obtain⟨Z,z⟩:=jm y;have z:=WD z;cases h;obtain⟨k1,k2⟩:=rO hh;obtain⟨c1,c2,c3⟩:=vT Z;have m:off<=c/\c<off+i.size:=by
   have hm:(c,size K)∈jH (gY N) off i.size:=by rw[sD,b];simp[gY]
   have:=(v8.1 hm).2;simp only[QR,Nat.ble_eq,Nat.blt_eq]at this;exact this
  refine⟨[],?_⟩;simp only[dY,Us,cond_false,ht,B,hg];rw[QQ ⟨q,Ou M⟩];rw[hg]at k2;have w:jH (gY N) off i.size=[(c,size K)]:=by rw[sD,b];rfl
  simp only[w,k1];refine⟨_,rfl,⟨λ_=>trivial,?_,?_,rfl⟩⟩
  .simp only[mG];congr 1;rw[T];have key:=Rl e l n.toNat off i.size i.zero z hz a Y;simp only[P.list];rw[List.map_set,<-key];apply qn;intro j;rw[KS];simp only[Z0,We,qr];by_cases hj:j<i.size
   .rw [qD hj];by_cases L:c-off=j
    .rw [QQ L,QQ (by omega)];have:Nat.beq (off+j) c=zj:=by simp;omega
     simp only[W7,this,if_true];rfl
    .rw [Qt L];have:Nat.beq (off+j) c=zv:=by
      cases J:Nat.beq (off+j) c with
      |false=>rfl
      |true=>have:=Q6 J;omega
     simp only[W7,this,Wb,if_false]
   .rw [Vv (by simp;omega),Qt (by omega)];rfl
  .have key:(((aK e l).getD n.toNat []).getD c default).list=aK K (cellT e (l.getD n.toNat (dflt e)) c K):=Pn hz c2 m.1 m.2;show (g,O.aO a Y (size e) (gY au) (aK e l) (zw ((P.int .i64 n).nat,c,d)))::(d,O.arr zv a Y (size K) ((((aK e l).getD (P.int .i64 n).nat []).getD c default).list))::kills _=jk (_::_::mO _);rw[rJ,rJ,rM,k2,T,key];rfl
 .cases h
theorem LK{l:List Nat}:(!gG g l)=zj->l.contains g=zv:=by intro h;rw[bZ]at h;simpa using h
theorem qg:∀{a b:List (Nat×Ty)},Iw a b=zj->a=b
 | [],[],_=>rfl
 | [],_::_,h=>by cases h
 |_::_,[],h=>by cases h
 |(c,t)::r,(g,j)::m,h=>by simp only[Iw,QR]at h;rw[Q6 h.1.1,zA h.1.2,qg h.2]
theorem acy(t:TypeId)(x y:Operand):LJ tt ety d o f (.store t x y) ty:=by
 intro r h;simp only[jW]at h;split at h
 rotate_left
 cases h;rename_i i g n off Z ht hx hy;have hx':bJ (f x)=.v (.one (.ep g (.int .i64 n) off)):=by rw[hx];rfl
 have hy':bJ (f y)=.v (kG Z):=by rw[hy];rfl
 have en:(P.int .i64 n).nat=n.toNat:=rfl;split at h
 rotate_left
 cases h;rename_i a0 i0 b m H J L;have hg:dw o g=.aO a0 i0 (size b) (gY m) (aK b H) J:=by simp[dw,L,eH]
 split at h
 rotate_left
 cases h;rename_i ps a' i' gs es hD;obtain⟨q,h⟩:=cZ h;obtain⟨q,h6⟩:=jm q;obtain⟨q,h5⟩:=jm q;obtain⟨q,h4⟩:=jm q;obtain⟨q,h3⟩:=jm q;obtain⟨h1,h2⟩:=jm q;have h1:=WD h1;have h2:=Q6 h2;obtain⟨k1,k2,k3⟩:=Es (col':=λj=>(gY m).lookup j) (λj=>Gg j m) hD;have hl:ps.length=i.size:=by have:=W2 List.length k2;simp[kU]at this;omega
 have hgl:gs.contains g=zv:=LK h4;have M:off+i.size<=size b/\(Z.words.map dn).length=i.size/\(kG Z).solid=zj/\gs.contains g=zv/\uI (es.map (·.2))=zj/\FH (es.map (·.2)) gs=zj:=⟨h1,by rw[We];exact h2,vV _ h3,hgl,h5,h6⟩
 have key :∀(pre:Bool) (w:Prop) (a i1:Bool) (e:Ty) (l:List (Dt e)) (T:Option (Nat×Nat×Nat)) (U:List Nat),e=b->(pre=zj->w)->
   gQ { pre,t:=.sl e,val:=List.set l n.toNat (Oo e (Nat.beq i.size (size e)) (l.getD n.toNat (dflt e)) off ps),dst:=λ_=>.no,aJ:=λz=>(g,.aO (a||a') (i1||i') e m z T)::mO (es.map (·.2))++mO U++gs.map (mX o),new:=[] }
    (.mk w (.sl (size b) ((aK e l).set (P.int .i64 n).nat (bf ((aK e l).getD (P.int .i64 n).nat []) off (ps.map dL)))) (λ_=>.no)
     (λz=>(g,.aO (a||a') (i1||i') (size b) (gY m) z.list T)::kills (es.map (·.2))++kills U++gs.map (Fw.bC (dw o))) []):=by
  intro pre w a i1 e l T U he N;subst he;refine⟨N,rfl,?_,rfl⟩;show (g,O.aO (a||a') (i1||i') (size e) (gY m) ((aK e l).set (P.int .i64 n).nat (bf ((aK e l).getD (P.int .i64 n).nat []) off (ps.map dL))) T)::kills (es.map (·.2))++kills U++gs.map (Fw.bC (dw o))=jk ((_::mO _)++mO _++_);rw[mM,mM,rJ,rM,rM,qI k3,en];have X:=Iu (e:=e) (l:=l) (n:=n.toNat) (off:=off) (ps:=ps) (by rw[hl];exact k2) (by omega);rw[hl]at X;rw[<-X];rfl
 have c:=sD off i.size m;have hk:dY tt [] d (dw o) (λx=>bJ (f x)) (.store t x y) ty=dY tt [] d (dw o) (λx=>bJ (f x)) (.store t x y) ty:=rfl;refine⟨[],?_⟩;simp only[dY,ht,hx',hy',hg,vU,k1];rw[QQ M];split at h
 .rename_i K;cases h;have c:jH (gY m) off i.size=[]:=by rw[c,K];rfl
  simp only[c];exact⟨_,rfl,key zj True a0 i0 b H J [] rfl λ_=>trivial⟩
 .rename_i c0 cs K;have c:jH (gY m) off i.size=(c0.1,size c0.2)::gY cs:=by rw[c,K];rfl
  simp only[c];split at h
  .cases h;exact⟨_,rfl,key zj True a0 i0 b H zz [] rfl λ_=>trivial⟩
  .rename_i n0 Y d0 _;have over :∀(r:uU),(bif Nat.ble off Y&&Nat.blt Y (off+i.size)then zw
      ({ pre:=Nat.beq n0 n.toNat,t:=.sl b,val:=List.set H n.toNat (Oo b (Nat.beq i.size (size b)) (H.getD n.toNat (dflt b)) off ps),dst:=λ_=>.no,aJ:=λz=>(g,.aO (a0||a') (i0||i') b m z zz)::mO (es.map (·.2))++mO []++gs.map (mX o),new:=[] }:uU)else zz)=zw r->
     (off<=Y/\Y<off+i.size)/\gQ r (.mk (n0=(P.int .i64 n).nat) (.sl (size b) ((aK b H).set (P.int .i64 n).nat (bf ((aK b H).getD (P.int .i64 n).nat []) off (ps.map dL)))) (λ_=>.no)
      (λz=>(g,.aO (a0||a') (i0||i') (size b) (gY m) z.list zz)::kills (es.map (·.2))++kills []++gs.map (Fw.bC (dw o))) []):=by
    intro r hr;obtain⟨q,hr⟩:=cZ hr;cases hr;obtain⟨q1,q2⟩:=jm q;exact⟨⟨WD q1,WD q2⟩,key _ _ a0 i0 b H zz [] rfl λX=>by rw[en];exact Q6 X⟩
   split at h
   .rename_i a i1 e iZ l hh;obtain⟨j1,j2⟩:=rO hh;simp only[j1];split at h
    .rename_i B;obtain⟨q1,q2⟩:=jm B;split at h
     .rename_i hty;cases h;rw[QQ ⟨LK q1,LK q2⟩];exact⟨_,rfl,key zj True a i1 e l zz [d0] (zA hty) λ_=>trivial⟩
     .cases h
    .rename_i B;obtain⟨q1,q2⟩:=over r h;rw[Qt (by rintro ⟨z1,z2⟩;rw[<-bZ]at z1 z2;rw[z1,z2]at B;cases B),QQ q1]
     exact⟨_,rfl,q2⟩
   .split at h;cases h;rename_i har;obtain⟨q1,q2⟩:=over r h;simp only[X5 L har];rw[QQ q1];exact⟨_,rfl,q2⟩
theorem Ov(t:TypeId)(n c:Operand):LJ tt ety d o f (.makeSlice t n c) ty:=by
 intro r h;simp only[jW]at h;split at h
 rotate_left
 cases h;rename_i e i1 i2 i3 K j1 b a2 j2 w L hn M;change Int at b;change Int at w;have y:bJ (f n)=.v (.one (.p K j1 (.int .i64 b))):=by rw[hn];rfl
 have z:bJ (f c)=.v (.one (.p a2 j2 (.int .i64 w))):=by rw[M];rfl
 split at h
 rotate_left
 cases h;rename_i B et N T;split at h;cases h;rename_i Bl m U;split at h
 rotate_left
 cases h;rename_i X q;obtain⟨Y,h⟩:=cZ h;cases h;obtain⟨Z,h2⟩:=jm Y;have H:=Q6 h2;obtain⟨J,k2,_⟩:=Es (col':=λj=>(gY (Bl::m)).lookup j) (λj=>Gg j (Bl::m)) q;rw[xJ]at J;refine⟨gY (Bl::m),?_⟩;have g:gY (Bl::m)=(Bl.1,size Bl.2)::gY m:=rfl;simp only[dY,L,y,z,g,N];rw[g]at J;simp only[J];rw[QQ (Ou Z)];refine⟨_,rfl,⟨λq=>?_,rfl,?_,rfl⟩⟩
 .have q:zy B.bytes b w=zj:=q;simp only[zy,QR,Wa]at q;obtain⟨⟨⟨q1,q2⟩,q3⟩,q4⟩:=q;exact⟨b.toNat,w.toNat,by congr 1;omega,by congr 1;omega,by omega,by
   have:((B.bytes*w.toNat:Nat):Int)<=281474976710656:=by rw[Int.natCast_mul,JP (by omega)];exact q3
   omega,by omega⟩
 .show [(d,O.aO zv zv B.size ((Bl.1,size Bl.2)::gY m) (List.replicate (P.int .i64 b).nat (X.map dL)) zz)]=jk [(d,_)];have en:(P.int .i64 b).nat=b.toNat:=rfl;rw[rJ,en];simp only[eH,g,H,aK,List.map_replicate,xI k2];rfl
theorem LM(t:TypeId)(n:Nat)(ps:Array (Nat×Operand)):LJ tt ety d o f (.buildSlice t n ps) ty:=by
 intro r h;simp only[jW]at h;split at h
 rotate_left
 cases h;rename_i e i1 i2 i3 z;split at h
 rotate_left
 cases h;rename_i q B H J;split at h;cases h;rename_i Bl c K;split at h
 rotate_left
 cases h;rename_i ws L;split at h
 rotate_left
 cases h;rename_i w a i gs es M;obtain⟨g,h⟩:=cZ h;cases h;obtain⟨g,N⟩:=jm g;obtain⟨g,T⟩:=jm g;obtain⟨U,X⟩:=jm g;have m:=Q6 X;have:=Ep L;rw[LH,xJ]at this;have b:gY (Bl::c)=(Bl.1,size Bl.2)::gY c:=rfl;obtain⟨Y,Z,k3⟩:=Es (col':=λj=>((Bl.1,size Bl.2)::gY c).lookup (j % q.size)) (λj=>by rw[<-b];exact Gg (j % q.size) (Bl::c)) M;refine⟨gY (Bl::c),?_⟩;simp only[dY,z,b,H,F8,this,Y];rw[QQ ⟨WD U,T,N⟩];refine⟨_,rfl,⟨λ_=>trivial,rfl,?_,rfl⟩⟩;show (d,O.aO a i q.size ((Bl.1,size Bl.2)::gY c) (chunks q.size n (w.map dL)) zz)::kills (es.map (·.2))++gs.map (Fw.bC (dw o))=jk ((_::mO _)++_);rw[mM,rJ,rM,qI k3];have y:=CO B n w Z;rw[m]at y;simp only[eH,b,m];rw[<-y]
theorem X7(args:Array Operand)(ts:Array TypeId):LJ tt ety d o f (.call { callee:=.builtin .append,args:=args,argTypes:=ts }) ty:=by
 intro r h;simp only[jW]at h;split at h
 rotate_left
 cases h;rename_i s x sT xT rest ha w;split at h
 rotate_left
 cases h;rename_i e i1 i2 i3 e' j1 j2 j3 y g2 z B hs hx;have H:bJ (f s)=.v (.one (dn y)):=by rw[hs];rfl
 have J:bJ (f x)=.v (.one (.own g2)):=by rw[hx];rfl
 split at h
 rotate_left
 cases h;rename_i ie a2 i2' c Y new he hh;obtain⟨K,m⟩:=rO hh;split at h
 rotate_left
 cases h;rename_i pre a i q Z b;obtain⟨L,h⟩:=cZ h;cases h;obtain⟨L,h3⟩:=jm L;obtain⟨h1,h2⟩:=jm L;have M:=Q6 h2;have N:ie.bytes≠0:=λe=>by rw[e]at h1;cases h1
 have hB :∃ask src,baseD (dw o) (dn y)=zw (ask,a,i,aK c q,Z,src)/\(src=zz\/src=zw (size c,gY Y))/\(pre=zj->ask):=by
  cases y with
  |dD=>simp only[Vf,Q0,QP]at b;obtain⟨rfl,rfl,rfl,rfl,rfl⟩:=b;exact⟨True,zz,rfl,.inl rfl,λ_=>trivial⟩
  |own g=>
   simp only[Vf]at b;split at b
   rotate_left
   cases b;rename_i a1 i1 e1 T l hg;obtain⟨q1,q2⟩:=rO hg;split at b
   rotate_left
   cases b;rename_i l1 j U;cases b;obtain⟨X,j⟩:=pY j;cases X;subst j;have:=qg U;subst this;exact⟨True,zw (size c,gY T),by simp only[dn,baseD,q1,q2],.inr rfl,λ_=>trivial⟩
  |vw g lo hi=>
   simp only[Vf]at b;split at b
   rotate_left
   cases b;rename_i a1 i1 e1 T l hg;obtain⟨q1,q2⟩:=rO hg;split at b
   rotate_left
   cases b;rename_i l1 j U;cases b;obtain⟨X,j⟩:=pY j;cases X;subst j;have:=qg U;subst this;refine⟨P.int .i64 lo=lV 0,zw (size c,gY T),by simp only[dn,baseD,q1,q2,qY],.inr rfl,λh=>?_⟩;have h:lo=0:=by simpa using h
   subst h;rfl
  |_=>simp[Vf]at b
 obtain⟨ask,src,q1,q2,q3⟩:=hB;refine⟨[],?_⟩;simp only[dY,ha,w,z,B,H,J,he,q1,K];rw[QQ ⟨N,M,q2,by rw[m];exact h3⟩];refine⟨_,rfl,⟨λhp=>?_,rfl,?_,rfl⟩⟩
 .obtain ⟨p1,p2⟩:=jm hp;refine⟨q3 p1,?_⟩;rw[fH,fH];simpa using p2
 .show (d,O.aO (a||a2) (i||i2') (size c) (gY Y) (aK c q++aK c new) zz)::kills (Z++g2::(dw o g2).hn)=jk (_::mO _);rw[rJ,rM,m,<-zD];rfl
theorem acz(t:TypeId)(x:Operand)(lo hi M:Option Operand):LJ tt ety d o f (.slice t x lo hi M) ty:=by
 intro r h;cases lo with
 |some _=>simp[jW]at h
 |none=>
 cases M with
 |some _=>simp[jW]at h
 |none=>
 simp only[jW]at h;split at h;cases h;split at h
 rotate_left
 cases h;rename_i e i1 i2 i3 g N T;have w:bJ (f x)=.v (.one (.own g)):=by rw[T];rfl
 split at h
 .rename_i U a i b l z hg;change List (Dt b)at l;obtain⟨B,h⟩:=cZ h;split at h
  rotate_left
  cases h;rename_i c j;cases h;have H:=mZ j;have m:dw o g=.arr zv a i (size b) (aK b l):=iY hg;refine⟨[],?_⟩;have J:lV (aK b l).length=P.int .i64 (List.length (α:=Dt b) l:Int):=by rw[fH];rfl
  simp only[dY,N,w,z,m];rw[QQ (Q6 B)];simp only[J,H];refine⟨_,rfl,⟨λK=>?_,rfl,?_,rfl⟩⟩
  .obtain ⟨q,y⟩:=jm K;have q:=Zs q;have y:=Zs y;exact⟨c.toNat,by rw[JP q],by rw[fH];omega⟩
  .show [(d,O.arr zv a i (size b) ((aK b l).take (P.nat (.int .i64 c)))),(g,O.none)]=[(d,O.arr zv a i (size b) (aK b (List.take c.toNat l))),(g,O.none)];rw[qY]
 .rename_i U a i b L l z hg;change List (Dt b)at l;obtain⟨B,h⟩:=cZ h;split at h
  rotate_left
  cases h;rename_i c j;cases h;have H:=mZ j;have m:dw o g=.aO a i (size b) (gY L) (aK b l) zz:=by simp[dw,hg,eH]
  refine⟨[],?_⟩;have J:lV (aK b l).length=P.int .i64 (List.length (α:=Dt b) l:Int):=by rw[fH];rfl
  simp only[dY,N,w,z,m];rw[QQ (Q6 B)];simp only[J,H];refine⟨_,rfl,⟨λK=>?_,rfl,?_,rfl⟩⟩
  .obtain ⟨q,y⟩:=jm K;have q:=Zs q;have y:=Zs y;exact⟨c.toNat,by rw[JP q],by rw[fH];omega⟩
  .show [(d,O.aO a i (size b) (gY L) ((aK b l).take (P.nat (.int .i64 c))) zz),(g,O.none)]=[(d,O.aO a i (size b) (gY L) (aK b (List.take c.toNat l)) zz),(g,O.none)];rw[qY]
 .cases h
theorem Vh(op:Op):LJ tt ety d o f op ty:=by
 cases op
 case load t x=>exact ae8 t x
 case store t x y=>exact acy t x y
 case buildSlice t n g=>exact LM t n g
 case makeSlice t n c=>exact Ov t n c
 case slice t x lo j m=>exact acz t x lo j m
 case call c=>
  obtain⟨callee,args,ts⟩:=c;cases callee
  case builtin b=>
   cases b
   case append=>exact X7 args ts
   all_goals (intro r h;simp[jW]at h)
  all_goals (intro r h;simp[jW]at h)
 all_goals (intro r h;simp[jW]at h)
end
end
end Go.Fg

namespace Go.Fg
open Go.Fw
inductive Prog:Type->Type 1 where
 |ret {R:Type} (r:R):Prog R
 |stuck {R:Type} (n:Nat):Prog R
 |cond {R:Type} (b:Bool) (x y:Prog R):Prog R
 |chk {R:Type} (b:Bool) (x:Prog R):Prog R
 |any {R:Type} (x y:Prog R):Prog R
 |let_ {A R:Type} (x:A) (k:A->Prog R):Prog R
 |join {A R:Type} (x:Prog A) (k:A->Prog R):Prog R
 |Po {A R:Type} (x:Prog (A ⊕ R)) (k:A->Prog R):Prog R
 |loop {A R:Type} (a:A) (body:A->Prog (A ⊕ R)):Prog R
 |call {A B R:Type} (n:Nat) (f:A->Option B) (a:A) (k:B->Prog R):Prog R
def Prog.map:{R R':Type}->(R->R')->Prog R->Prog R'
 |_,_,f,.ret r=>.ret (f r)
 |_,_,_,.stuck n=>.stuck n
 |_,_,f,.cond b x y=>.cond b (x.map f) (y.map f)
 |_,_,f,.chk b x=>.chk b (x.map f)
 |_,_,f,.any x y=>.any (x.map f) (y.map f)
 |_,_,f,.let_ x k=>.let_ x λz=>(k z).map f
 |_,_,f,.join x k=>.join x λz=>(k z).map f
 |_,_,f,.Po x k=>.Po (x.map (Sum.map id f)) λz=>(k z).map f
 |_,_,f,.loop a body=>.loop a λz=>(body z).map (Sum.map id f)
 |_,_,f,.call n g a k=>.call n g a λz=>(k z).map f
def jF{A R:Type}(body:A->Option (A ⊕ R)):Nat->A->Option R
 |0,_=>zz
 |n+1,a=>(body a).bind λ
  |.inl b=>jF body n b
  |.inr r=>zw r
open Classical in
noncomputable def bn{A R:Type}(body:A->Option (A ⊕ R))(a:A):Option R:=
 match jF body 1000000 a with
 |some r=>zw r
 |none=>if h :∃n r,jF body n a=zw r then jF body (Classical.choose h) a else zz
open Classical in
noncomputable def both{R:Type}(x y:Option R):Option R:=if x=y then x else zz
def ck{R:Type}(b:Bool)(x:Option R):Option R:=bif b then x else zz
def dF{A R:Type}(x:Option (A ⊕ R))(k:A->Option R):Option R:=x.bind λ
 |.inl z=>k z
 |.inr r=>zw r
def bP(x:Int):Int:=IntKind.i64.wrap x
noncomputable def Prog.run:{R:Type}->Prog R->Option R
 |_,.ret r=>zw r
 |_,.stuck _=>zz
 |_,.cond b x y=>bif b then x.run else y.run
 |_,.chk b x=>ck b x.run
 |_,.any x y=>both x.run y.run
 |_,.let_ x k=>(k x).run
 |_,.join x k=>x.run.bind λz=>(k z).run
 |_,.Po x k=>dF x.run λz=>(k z).run
 |_,.loop a body=>bn (λz=>(body z).run) a
 |_,.call _ g a k=>(g a).bind λz=>(k z).run
section
variable [RE]
inductive kH where
 |p (a i:Bool) (t:Ty)
 |dD
 |own (g:Nat)
 |box (g off:Nat)
 |fn (f:FuncId) (gs:List Nat)
 |oI (g:Nat)
 |no
 |vw (g:Nat)
 |ep (g off:Nat)
inductive lu where
 |one (x:kH)
 |agg (xs:List kH)
inductive iP where
 |box (ws:List kH)
 |arr (fz a i:Bool) (e:Ty)
 |it
 |aO (a i:Bool) (e:Ty) (au:List (Nat×Ty))
structure Pq where
 slots:List (Nat×lu)
 bI:List (Nat×iP)
def kH.er:kH->WS
 |.p a i _=>.p a i
 |.dD=>.dD
 |.own g=>.own g
 |.box g off=>.box g off
 |.fn f gs=>.fn f gs
 |.oI g=>.oI g
 |.no=>.no
 |.vw g=>.vw g
 |.ep g off=>.ep g off
def lu.er:lu->SS
 |.one x=>.one x.er
 |.agg xs=>.agg (xs.map kH.er)
def iP.er:iP->OS
 |.box b=>.box (b.map kH.er)
 |.arr c a i e=>.arr c a i (size e)
 |.it=>.it
 |.aO a i e d=>.aO a i (size e) (gY d)
def Pq.er(j:Pq):Shape:=⟨j.slots.map λp=>(p.1,p.2.er),j.bI.map λp=>(p.1,p.2.er)⟩
def kH.tys:kH->List Ty
 |.p _ _ t=>[t]
 |.vw _=>[.int .i64,.int .i64]
 |.ep _ _=>[.int .i64]
 |_=>[]
def lu.tys:lu->List Ty
 |.one x=>x.tys
 |.agg xs=>xs.flatMap kH.tys
def iP.tys:iP->List Ty
 |.box b=>b.flatMap kH.tys
 |.arr _ _ _ e=>[.sl e]
 |.it=>[.str,.int .i64]
 |.aO _ _ e _=>[.sl e]
def Pq.tys(j:Pq):List Ty:=j.slots.flatMap (λp=>p.2.tys)++j.bI.flatMap λp=>p.2.tys
def Tup:List Ty->Type
 | []=>Unit
 | [t]=>Dt t
 |t::u::ts=>Dt t×Tup (u::ts)
def Tup.mQ:(ts:List Ty)->Tup ts->List Wd
 | [],_=>[]
 | [t],x=>[⟨t,x⟩]
 |t::u::ts,x=>⟨t,x.1⟩::Tup.mQ (u::ts) x.2
def Tup.ofL:(ts:List Ty)->List Wd->Option (Tup ts)
 | [],[]=>zw ()
 | [t],[w]=>w.Dv t
 |t::u::ts,w::b=>match w.Dv t,Tup.ofL (u::ts) b with
  |some x,zw xs=>zw (x,xs)
  |_,_=>zz
 |_,_=>zz
def Jw(m:Ren):List Nat->List TW->Bool
 | [],[]=>zj
 |g'::gs,.box g off::b=>decide (m.lookup g'=zw (zw g))&&(Nat.beq off 0&&Jw m gs b)
 |_,_=>zv
def Gi:List Nat->List TW
 | []=>[]
 |g::gs=>.box g 0::Gi gs
def Gj(m:Ren):kH->TW->Option (List Wd)
 |.p a i t,.p d h w=>match w.Dv t with
  |some _=>bif(imp d a&&imp h i)||w.t.flat then zw [w]else zz
  |none=>zz
 |.p _ _ t,.dD=>match t with
  |.sl e=>zw [vP e []]
  |_=>zz
 |.dD,.dD=>zw []
 |.own g',.own g=>if m.lookup g'=zw (zw g)then zw []else zz
 |.own g',.dD=>if m.lookup g'=zw zz then zw []else zz
 |.box g' off,.box g b=>if m.lookup g'=zw (zw g)/\off=b then zw []else zz
 |.fn f gs,.clo j c=>bif Nat.beq f j&&Jw m gs c then zw []else zz
 |.oI g',.oI g=>if m.lookup g'=zw (zw g)then zw []else zz
 |.no,_=>zw []
 |.vw g',.vw g lo q=>if m.lookup g'=zw (zw g)then zw [jB .i64 lo,jB .i64 q]else zz
 |.ep g' off,.ep g n b=>if m.lookup g'=zw (zw g)/\off=b then zw [jB .i64 n]else zz
 |_,_=>zz
def zF(m:Ren):List kH->List TW->Option (List Wd)
 | [],[]=>zw []
 |k::b,x::xs=>match Gj m k x,zF m b xs with
  |some u,zw v=>zw (u++v)
  |_,_=>zz
 |_,_=>zz
def aiM(m:Ren):lu->TS->Option (List Wd)
 |.one k,.v (.one x)=>Gj m k x
 |.agg b,.v (.agg xs)=>zF m b xs
 |_,_=>zz
def X8(m:Ren):iP->TO->Option (List Wd)
 |.box j,.box xs=>zF m j xs
 |.arr q a i e,.arr c d g h l=>match (vP h l).Dv (.sl e)with
  |some l=>if q=c/\(imp d a&&imp g i)=zj then zw [vP e l]else zz
  |none=>zz
 |.it,.it s n=>zw [U7 s,jB .i64 n]
 |.aO a i e w,.aO d g h y l b=>match b,(vP h l).Dv (.sl e),Iw w y with
  |none,zw l,zj=>if(imp d a&&imp g i)=zj then zw [vP e l]else zz
  |_,_,_=>zz
 |_,_=>zz
def oV(m:Ren)(s:Nat->TS):List (Nat×lu)->Option (List Wd)
 | []=>zw []
 |(t,k)::rest=>match aiM m k (s t),oV m s rest with
  |some u,zw v=>zw (u++v)
  |_,_=>zz
def rC(m:Ren)(o:Nat->TO):List (Nat×iP)->Option (List Wd)
 | []=>zw []
 |(g',k)::rest=>match (match m.lookup g' with
   |some (zw g)=>X8 m k (o g)
   |some zz=>(match k with
    |.arr zv _ _ e=>zw [vP e []]
    |.aO _ _ e _=>zw [vP e []]
    |_=>zz)
   |none=>zz),rC m o rest with
  |some u,zw v=>zw (u++v)
  |_,_=>zz
def Et(j:Pq)(m:Ren)(st:jL):Option (List Wd):=
 match j.er.ok&&alb j.er m with
 |true=>match oV m st.gs j.slots,rC m st.go j.bI with
  |some u,zw v=>zw (u++v)
  |_,_=>zz
 |false=>zz
def CP:Wd:=⟨.bool,zv⟩
def CS(vs:List Wd)(n:Nat):kH->TW×Nat
 |.p a i _=>(.p a i (vs.getD n CP),n+1)
 |.dD=>(.dD,n)
 |.own g=>(.own g,n)
 |.box g off=>(.box g off,n)
 |.fn f gs=>(.clo f (Gi gs),n)
 |.oI g=>(.oI g,n)
 |.no=>(.no,n)
 |.vw g=>(.vw g ((vs.getD n CP).as (.int .i64)) ((vs.getD (n+1) CP).as (.int .i64)),n+2)
 |.ep g off=>(.ep g ((vs.getD n CP).as (.int .i64)) off,n+1)
def vX(vs:List Wd):Nat->List kH->List TW×Nat
 |n,[]=>([],n)
 |n,k::b=>((CS vs n k).1::(vX vs (CS vs n k).2 b).1,(vX vs (CS vs n k).2 b).2)
def Ji(vs:List Wd)(n:Nat):lu->TS×Nat
 |.one k=>(.v (.one (CS vs n k).1),(CS vs n k).2)
 |.agg b=>(.v (.agg (vX vs n b).1),(vX vs n b).2)
def Gl(vs:List Wd)(n:Nat):iP->TO×Nat
 |.box b=>(.box (vX vs n b).1,(vX vs n b).2)
 |.arr c a i e=>(.arr c a i e ((vs.getD n CP).as (.sl e)),n+1)
 |.it=>(.it ((vs.getD n CP).as .str) ((vs.getD (n+1) CP).as (.int .i64)),n+2)
 |.aO a i e d=>(.aO a i e d ((vs.getD n CP).as (.sl e)) zz,n+1)
def iq(vs:List Wd):Nat->List (Nat×lu)->List (Nat×TS)×Nat
 |n,[]=>([],n)
 |n,(t,k)::rest=>((t,(Ji vs n k).1)::(iq vs (Ji vs n k).2 rest).1,(iq vs (Ji vs n k).2 rest).2)
def kK(vs:List Wd):Nat->List (Nat×iP)->List (Nat×TO)×Nat
 |n,[]=>([],n)
 |n,(g,k)::rest=>((g,(Gl vs n k).1)::(kK vs (Gl vs n k).2 rest).1,(kK vs (Gl vs n k).2 rest).2)
def mkT(j:Pq)(vs:List Wd):jL:=
 { s:=(iq vs 0 j.slots).1,o:=(kK vs (iq vs 0 j.slots).2 j.bI).1,u:=j.bI.map (·.1) }
def Zq:List Nat->List TW->Ren
 |g'::gs,.box g _::b=>(g',zw g)::Zq gs b
 |_,_=>[]
def aqb:kH->TW->Ren
 |.own g',.own g=>[(g',zw g)]
 |.own g',.dD=>[(g',zz)]
 |.box g' _,.box g _=>[(g',zw g)]
 |.oI g',.oI g=>[(g',zw g)]
 |.fn _ gs,.clo _ b=>Zq gs b
 |.vw g',.vw g _ _=>[(g',zw g)]
 |.ep g' _,.ep g _ _=>[(g',zw g)]
 |_,_=>[]
def ae9:List kH->List TW->Ren
 |k::b,x::xs=>aqb k x++ae9 b xs
 |_,_=>[]
def auw:lu->TS->Ren
 |.one k,.v (.one x)=>aqb k x
 |.agg b,.v (.agg xs)=>ae9 b xs
 |_,_=>[]
def Vj(s:Nat->TS):List (Nat×lu)->Ren
 | []=>[]
 |(t,k)::r=>auw k (s t)++Vj s r
def Jy(m:Ren)(o:Nat->TO):List (Nat×iP)->Ren
 | []=>[]
 |(g',.box b)::r=>(match m.lookup g' with
  |some (zw g)=>match o g with
   |.box c=>ae9 b c
   |_=>[]
  |_=>[])++Jy m o r
 |_::r=>Jy m o r
def derive(bH:List Nat)(j:Pq)(st:jL):Ren:=
 let b:=bH.map (λg=>(g,zw g))++Vj st.gs j.slots
 let c:=b++Jy b st.go j.bI
 c++Jy c st.go j.bI
structure b_ where
 bg:Nat
 pin:Pq
 aU:Pq
 bV:Nat
 bH:List Nat
 aY:List Nat
 kept:List Nat:=[]
def b_.er(s:b_):Bv:={ bg:=s.bg,pin:=s.pin.er,aU:=s.aU.er,bV:=s.bV,bH:=s.bH,aY:=s.aY }
open Classical in
noncomputable def zG{A R:Type}(x y:A)(r:Option R):Option R:=if x=y then r else zz
noncomputable def Eu{R:Type}(a b:Nat->TO)(r:R):List Nat->Option R
 | []=>zw r
 |g::gs=>match a g,b g with
  |.arr zv _ _ e l,.arr zv _ _ d h=>match (vP d h).Dv (.sl e)with
   |some c=>zG (A:=List (Dt e)) c l (Eu a b r gs)
   |none=>zz
  |.aO _ _ e j l zz,.aO _ _ d m h zz=>match (vP d h).Dv (.sl e),Iw j m with
   |some c,zj=>zG (A:=List (Dt e)) c l (Eu a b r gs)
   |_,_=>zz
  |_,_=>zz
structure aV where
 sig:b_
 f:Tup sig.pin.tys->Option (Tup sig.aU.tys)
noncomputable def aV.ff(s:aV):Tup s.sig.pin.tys->Option (Tup s.sig.aU.tys):=match s.sig.kept with
 | []=>s.f
 |g::gs=>λx=>(s.f x).bind λy=>Eu (mkT s.sig.pin (Tup.mQ s.sig.pin.tys x)).go (mkT s.sig.aU (Tup.mQ s.sig.aU.tys y)).go y (g::gs)
abbrev lQ:=FuncId->Option aV
structure Jj where
 ins:List Wd
 A:Bool×Bool
 I:Bool×Bool
 wP:List Nat
 ren:List (Nat×Nat)
def qJ:List Nat->List TW->Option (List (Nat×Nat))
 | [],[]=>zw []
 |g'::gs,.box g off::b=>bif Nat.beq off 0 then match qJ gs b with
  |some r=>zw ((g',g)::r)
  |none=>zz
  else zz
 |_,_=>zz
def Pv(o:Nat->TO):kH->TW->Option (List Wd×(Bool×Bool)×List Nat×List (Nat×Nat))
 |.p _ _ t,x=>match x.toP o t with
  |some (y,a,i,gs)=>zw ([⟨t,y⟩],(a,i),gs,[])
  |none=>zz
 |.own g',.own g=>zw ([],(zv,zv),[],[(g',g)])
 |.box g' b,.box g off=>bif Nat.beq b 0&&Nat.beq off 0 then zw ([],(zv,zv),[],[(g',g)])else zz
 |.fn f gs,.clo d c=>bif Nat.beq f d then match qJ gs c with
  |some r=>zw ([],(zv,zv),[],r)
  |none=>zz
  else zz
 |_,_=>zz
def qU(o:Nat->TO):List kH->List TW->Option (List Wd×(Bool×Bool)×List Nat×List (Nat×Nat))
 | [],[]=>zw ([],(zv,zv),[],[])
 |k::b,x::xs=>match Pv o k x,qU o b xs with
  |some (u,c,g,r),zw (d,h,g',j)=>zw (u++d,yJ c h,g++g',r++j)
  |_,_=>zz
 |_,_=>zz
def Zr(o:Nat->TO):lu->TS->Option (List Wd×(Bool×Bool)×List Nat×List (Nat×Nat))
 |.one k,.v (.one x)=>Pv o k x
 |.agg b,.v (.agg xs)=>qU o b xs
 |_,_=>zz
def oC(o:Nat->TO)(args:List TS):List (Nat×lu)->Option (List Wd×(Bool×Bool)×List Nat×List (Nat×Nat))
 | []=>zw ([],(zv,zv),[],[])
 |(t,k)::rest=>match Zr o k (args.getD t .no),oC o args rest with
  |some (u,c,g,r),zw (b,d,g',h)=>zw (u++b,yJ c d,g++g',r++h)
  |_,_=>zz
def anc:kH->TW->Option (List Wd×(Bool×Bool)×List (Nat×Nat))
 |.p _ _ t,.p a i w=>match w.Dv t with
  |some x=>zw ([⟨t,x⟩],(a,i),[])
  |none=>zz
 |.p _ _ t,.dD=>match t with
  |.sl e=>zw ([vP e []],(zv,zv),[])
  |_=>zz
 |.own g',.own g=>zw ([],(zv,zv),[(g',g)])
 |.box g' b,.box g off=>bif Nat.beq b 0&&Nat.beq off 0 then zw ([],(zv,zv),[(g',g)])else zz
 |.fn f gs,.clo d c=>bif Nat.beq f d then match qJ gs c with
  |some r=>zw ([],(zv,zv),r)
  |none=>zz
  else zz
 |_,_=>zz
def LQ:List kH->List TW->Option (List Wd×(Bool×Bool)×List (Nat×Nat))
 | [],[]=>zw ([],(zv,zv),[])
 |k::b,x::xs=>match anc k x,LQ b xs with
  |some (u,c,r),zw (d,g,h)=>zw (u++d,yJ c g,r++h)
  |_,_=>zz
 |_,_=>zz
def xM(o:Nat->TO):List (Nat×Nat)->List (Nat×iP)->Option (List Wd×(Bool×Bool)×List (Nat×Nat))
 |ren,[]=>zw ([],(zv,zv),ren)
 |ren,(g',k)::rest=>match ren.lookup g' with
  |some g=>match k,o g with
   |.box q,.box w=>match LQ q w with
    |some (u,c,r)=>match xM o (ren++r) rest with
     |some (b,d,h)=>zw (u++b,yJ c d,h)
     |none=>zz
    |none=>zz
   |.arr _ _ _ e,.arr zv a i m l=>match (vP m l).Dv (.sl e)with
    |some l=>match xM o ren rest with
     |some (b,d,h)=>zw (vP e l::b,yJ (a,i) d,h)
     |none=>zz
    |none=>zz
   |.aO _ _ e y,.aO a i m z l j=>match j,(vP m l).Dv (.sl e),Iw y z with
    |none,zw l,zj=>match xM o ren rest with
     |some (b,d,h)=>zw (vP e l::b,yJ (a,i) d,h)
     |none=>zz
    |_,_,_=>zz
   |_,_=>zz
  |none=>zz
def AA(s:b_)(o:Nat->TO)(args:List TS):Option Jj:=
 match oC o args s.pin.slots with
 |some (u,A,gs,r)=>match xM o r s.pin.bI with
  |some (b,I,c)=>zw { ins:=u++b,A,I,wP:=gs,ren:=kQ c }
  |none=>zz
 |none=>zz
def Jj.er(c:Jj):OT:={ ins:=c.ins.map dL,A:=c.A,I:=c.I,wP:=c.wP,ren:=c.ren }
def zH(f:Nat->Nat):List TW->List TW
 | []=>[]
 |.box g off::r=>.box (f g) off::zH f r
 |_::r=>.no::zH f r
def acA(A I:Bool×Bool)(f:Nat->Nat):TW->TW
 |.p a i x=>.p (r_ A I a i).1 (r_ A I a i).2 x
 |.dD=>.dD
 |.own g=>.own (f g)
 |.box g off=>.box (f g) off
 |.clo fn b=>.clo fn (zH f b)
 |_=>.no
def ane(A I:Bool×Bool)(f:Nat->Nat):TV->TV
 |.one x=>.one (acA A I f x)
 |.agg xs=>.agg (xs.map (acA A I f))
def ae_(A I:Bool×Bool)(f:Nat->Nat):TS->TV
 |.v x=>ane A I f x
 |_=>.one .no
def Ry(A I:Bool×Bool)(f:Nat->Nat):TO->TO
 |.none=>.none
 |.box b=>.box (b.map (acA A I f))
 |.arr c a i e l=>.arr c (r_ A I a i).1 (r_ A I a i).2 e l
 |.it s n=>.it s n
 |.aO a i e d l _=>.aO (r_ A I a i).1 (r_ A I a i).2 e d l zz
structure jX where
 x:TS
 aJ:List (Nat×TO)
 new:List Nat
def jX.er(e:jX):Eff:={ x:=bJ e.x,aJ:=jk e.aJ,new:=e.new }
def afa(vs:List TV):TS:=match vs with
 | [x]=>.v x
 |xs=>.jy xs
def vY(s:b_)(d:Nat)(o:Nat->TO)(c:Jj)(dR:List Wd):jX:=
 let x:=mkT s.aU dR
 let f:=callName d s.er c.ren
 { x:=afa ((List.range s.bV).map λk=>ae_ c.A c.I f (x.gs k)),aJ:=(bif s.er.nK then c.wP.map (mX o)else[])++c.ren.map (λp=>(p.2,bif s.bH.contains p.1 then Ry c.A c.I f (x.go p.1)else .none))++s.aY.map (λg=>(f g,Ry c.A c.I f (x.go g))),new:=s.aY.map f }
def anf:Bool->Bool->Bool
 |true,zj=>zj
 |false,zv=>zj
 |_,_=>zv
def X9:TO->Option (Bool×Bool)
 |.arr c a i _ _=>match c with
  |true=>zz
  |false=>zw (a,i)
 |.aO a i _ _ _ b=>match b with
  |none=>zw (a,i)
  |some _=>zz
 |_=>zz
def Ew(s:b_)(o f:Nat->TO):List (Nat×Nat)->List Nat
 | []=>[]
 |(g',g)::r=>match gG g' s.kept&&s.bH.contains g',X9 (o g),X9 (f g')with
  |true,zw (a,i),zw (b,c)=>match anf a b&&anf i c with
   |true=>g::Ew s o f r
   |false=>Ew s o f r
  |_,_,_=>Ew s o f r
def Px(same:List Nat):List (Nat×TO)->List (Nat×TO)
 | []=>[]
 |(g,x)::r=>match gG g same with
  |true=>Px same r
  |false=>(g,x)::Px same r
def AB(s:b_)(d:Nat)(o:Nat->TO)(c:Jj)(dR:List Wd):jX:=match s.kept with
 | []=>vY s d o c dR
 |_::_=>
  let e:=vY s d o c dR
  { e with aJ:=Px (Ew s o (λg'=>Ry c.A c.I (callName d s.er c.ren) ((mkT s.aU dR).go g')) c.ren) e.aJ }
def jX.skip:jX:={ x:=.jy [],aJ:=[],new:=[] }
def Ey(l:List (Nat×TO)):List (Nat×TO)->List (Nat×TO)
 | []=>l
 |(g,x)::r=>zx g x (Ey l r)
structure kJ where
 st:jL
 ds:List Nat
 od:List Nat
def jL.put(st:jL)(dst:Option Tmp)(x:TS):jL:=match dst with
 |some t=>{ st with s:=zx t x st.s }
 |none=>st
def kJ.eff(q:kJ)(dst:Option Tmp)(e:jX):kJ:=
 { st:={ s:=(q.st.put dst e.x).s,o:=Ey q.st.o e.aJ,u:=e.new++q.st.u },ds:=(match dst with|some t=>t::q.ds|none=>q.ds),od:=e.aJ.map (·.1)++q.od }
def frB{β:Type 1}(b:Bool)(k:Bool->β):β:=match b with
 |true=>k zj
 |false=>k zv
def Rz{β:Type 1}:Ty->(Ty->β)->β
 |.int .i8,k=>k (.int .i8)
 |.int .i16,k=>k (.int .i16)
 |.int .i32,k=>k (.int .i32)
 |.int .i64,k=>k (.int .i64)
 |.int .u8,k=>k (.int .u8)
 |.int .u16,k=>k (.int .u16)
 |.int .u32,k=>k (.int .u32)
 |.int .u64,k=>k (.int .u64)
 |.bool,k=>k .bool
 |.str,k=>k .str
 |.sl e,k=>Rz e λe=>k (.sl e)
 |.prod a b,k=>Rz a λa=>Rz b λb=>k (.prod a b)
 |.st n,k=>k (.st n)
 |.opq,k=>k .opq
 |.sq e,k=>Rz e λe=>k (.sq e)
def frW{β:Type 1}:TW->(TW->β)->β
 |.p a i ⟨t,x⟩,k=>frB a λa=>frB i λi=>k (.p a i ⟨t,x⟩)
 |.dD,k=>k .dD
 |.own g,k=>k (.own g)
 |.vw g lo c,k=>k (.vw g lo c)
 |.box g off,k=>k (.box g off)
 |.ep g n off,k=>k (.ep g n off)
 |.sp a i t x off,k=>frB a λa=>frB i λi=>k (.sp a i t x off)
 |.clo f b,k=>k (.clo f b)
 |.gl g,k=>k (.gl g)
 |.oI g,k=>k (.oI g)
 |.no,k=>k .no
def afc{β:Type 1}:List TW->(List TW->β)->β
 | [],k=>k []
 |x::xs,k=>frW x λx=>afc xs λxs=>k (x::xs)
def frV{β:Type 1}:TV->(TV->β)->β
 |.one x,k=>frW x λx=>k (.one x)
 |.agg xs,k=>afc xs λxs=>k (.agg xs)
def aiN{β:Type 1}:List TV->(List TV->β)->β
 | [],k=>k []
 |x::xs,k=>frV x λx=>aiN xs λxs=>k (x::xs)
def frS{β:Type 1}:TS->(TS->β)->β
 |.v x,k=>frV x λx=>k (.v x)
 |.jy xs,k=>aiN xs λxs=>k (.jy xs)
 |.no,k=>k .no
def frC{β:Type 1}:List (Nat×Ty)->(List (Nat×Ty)->β)->β
 | [],k=>k []
 |(c,t)::r,k=>Rz t λt=>frC r λr=>k ((c,t)::r)
def frH{β:Type 1}:Option (Nat×Nat×Nat)->(Option (Nat×Nat×Nat)->β)->β
 |none,k=>k zz
 |some (n,c,d),k=>k (zw (n,c,d))
def frO{β:Type 1}:TO->(TO->β)->β
 |.none,k=>k .none
 |.box c,k=>afc c λc=>k (.box c)
 |.arr d a i e l,k=>frB d λd=>frB a λa=>frB i λi=>k (.arr d a i e l)
 |.it s n,k=>k (.it s n)
 |.aO a i e g l b,k=>frB a λa=>frB i λi=>frC g λg=>frH b λb=>k (.aO a i e g l b)
def aiO{β:Type 1}:List (Nat×TS)->(List (Nat×TS)->β)->β
 | [],k=>k []
 |(t,x)::r,k=>frS x λx=>aiO r λr=>k ((t,x)::r)
def aiP{β:Type 1}:List (Nat×TO)->(List (Nat×TO)->β)->β
 | [],k=>k []
 |(t,x)::r,k=>frO x λx=>aiP r λr=>k ((t,x)::r)
def Ox{β:Type 1}:List Nat->(List Nat->β)->β
 | [],k=>k []
 |x::r,k=>Ox r λr=>k (x::r)
def frX{β:Type 1}(q:kJ)(k:kJ->β):β:=aiO q.st.s λs=>aiP q.st.o λo=>Ox q.st.u λu=>Ox q.ds λds=>Ox q.od λod=>k ⟨⟨s,o,u⟩,ds,od⟩
def afd:TS->Option Nat
 |.v (.one (.clo g _))=>zw g
 |_=>zz
def LU:List TS->Option Nat
 | []=>zz
 |x::l=>match afd x with
  |some g=>zw g
  |none=>LU l
def Gm(fn:Nat)(l:List TS):Nat:=match LU l with
 |some g=>fn+1000000*(g+1)
 |none=>fn
def Zt(T:lQ)(fn:Nat)(l:List TS):Option aV:=match Nat.blt fn 1000000 with
 |true=>match T (Gm fn l)with
  |some sp=>zw sp
  |none=>T fn
 |false=>zz
def pkT(T:lQ)(fn:Nat)(l:List TS):Nat:=match T (Gm fn l)with
 |some _=>Gm fn l
 |none=>fn
def zI:List TW->List Nat
 | []=>[]
 |.box g _::r=>g::zI r
 |x::r=>(dn x).names++zI r
def W.namesT:TW->List Nat
 |.own g|.vw g _ _|.box g _|.ep g _ _|.oI g=>[g]
 |.clo _ b=>zI b
 |_=>[]
def V.namesT:TV->List Nat
 |.one x=>W.namesT x
 |.agg xs=>xs.flatMap W.namesT
def S.namesT:TS->List Nat
 |.v x=>V.namesT x
 |.jy xs=>xs.flatMap V.namesT
 |.no=>[]
def Vk:TO->Option Nat
 |.aO _ _ _ _ _ b=>match b with
  |some (_,_,d)=>zw d
  |none=>zz
 |_=>zz
def Gn:TO->List Nat
 |.box b=>b.flatMap W.namesT
 |_=>[]
def Ez(o:Nat->TO):Nat->List Nat->List Nat
 |0,gs=>gs
 |n+1,gs=>gs++Ez o n (gs.flatMap λg=>Gn (o g))
def AL(st:jL)(o:Oper):List Nat:=match o.op with
 |.call { callee:=.value _,args,.. }=>args.toList.flatMap λx=>S.namesT (st.dK x)
 |.slice _ x _ _ _=>S.namesT (st.dK x)
 |_=>[]
def Jz(st:jL)(o:Oper):List Nat:=Ez st.go 2 (AL st o)
def JA(st:jL)(o:Oper):List Nat:=(Jz st o).filter λg=>match jC (st.go g)with
 | []=>zv
 |d::_=>!gG d (AL st o)
def LV:List Nat->jL->Option jL
 | [],st=>zw st
 |g::gs,st=>match Vk (st.go g),yC st.go g with
  |some d,zw ⟨a,i,e,b,l⟩=>LV gs { st with o:=Ey st.o [(g,.aO a i e b l zz),(d,.none)] }
  |_,_=>zz
def X_(hs:List Nat)(st st1:jL):List (Nat×TO):=hs.flatMap λg=>(g,st1.go g)::(jC (st.go g)).map λd=>(d,st1.go d)
noncomputable def Zu{R:Type}(T:lQ)(tt:TT)(ety:TypeId->Option Ty)(d:Nat)(st:jL)(o:Oper)(K:jX->Prog R):Prog R:=
 match o.op with
 |.call { callee:=.value f,args,.. }=>match st.dK f with
  |.v (.one (.clo fn b))=>match Zt T fn (args.toList.map st.dK)with
   |some sp=>match AA sp.sig st.go ((args.toList.map st.dK)++b.map λx=>TS.v (.one x))with
    |some c=>match c.er.fine sp.sig.er&&Nat.beq (args.size+b.length) sp.sig.bg with
     |true=>match Tup.ofL sp.sig.pin.tys c.ins with
      |some x=>match sp.sig.er.ok with
       |true=>.call (pkT T fn (args.toList.map st.dK)) sp.ff x λy=>K (AB sp.sig d st.go c (Tup.mQ sp.sig.aU.tys y))
       |false=>.stuck 17
      |none=>.stuck 11
     |false=>.stuck 12
    |none=>.stuck 13
   |none=>.stuck 14
  |_=>.stuck 15
 |op=>match jW tt ety d st.go st.dK op o.type with
  |some r=>.chk r.pre (.let_ r.val λz=>K { x:=r.dst z,aJ:=r.aJ z,new:=r.new })
  |none=>match eP tt ety d st.go st.dK op o.type with
   |some r=>.chk r.pre (.let_ r.val λz=>K { x:=r.dst z,aJ:=r.aJ z,new:=r.new })
   |none=>.stuck 16
noncomputable def acB{R:Type}(T:lQ)(tt:TT)(ety:TypeId->Option Ty)(d:Nat)(st:jL)(o:Oper)(K:jX->Prog R):Prog R:=
 match JA st o with
 | []=>Zu T tt ety d st o K
 |g::gs=>match LV (g::gs) st with
  |some b=>Zu T tt ety d b o λe=>K { x:=e.x,aJ:=e.aJ++X_ (g::gs) st b,new:=e.new }
  |none=>.stuck 18
def CU(u:List Nat):List Nat->Bool
 | []=>zj
 |g::gs=>!gG g u&&CU u gs
def Ya(ops:Array Oper)(st:jL)(j:Nat):Option (Tmp×Option (Bool×Bool×Bool)):=
 match (ops[j]?).bind (·.dst)with
 |some t=>match st.gs t with
  |.v (.one (.p a i ⟨.bool,b⟩))=>zw (t,zw (a,i,b))
  |.jy []=>zw (t,zz)
  |_=>zz
 |none=>zz
def Zv(N:Nat):Option Tmp->Bool
 |some d=>Nat.blt d N
 |none=>zj
def kJ.know(q:kJ)(t:Tmp)(a i b:Bool):kJ:={ q with st:={ q.st with s:=zx t (.v (.one (.p a i (jE b)))) q.st.s } }
def kJ.Vl(q:kJ)(t:Tmp)(a i:Bool)(k:IntKind)(n:Int):kJ:={ q with st:={ q.st with s:=zx t (.v (.one (.p a i (jB k n)))) q.st.s } }
def afe(tt:TT)(st:jL)(t:TypeId)(x:Operand)(j:Tmp):Option (Bool×Bool×IntKind×Int×Nat):=
 match tt t with
 |some { k:=.arr n _,.. }=>match st.dK x with
  |.v (.one (.box _ _))=>match st.gs j with
   |.v (.one (.p a i ⟨.int k,v⟩))=>bif Nat.ble n 4 then zw (a,i,k,v,n)else zz
   |_=>zz
  |.v (.one (.ep _ _ _))=>match st.gs j with
   |.v (.one (.p a i ⟨.int k,v⟩))=>bif Nat.ble n 4 then zw (a,i,k,v,n)else zz
   |_=>zz
  |.v (.one (.sp _ _ _ _ _))=>match st.gs j with
   |.v (.one (.p a i ⟨.int k,v⟩))=>bif Nat.ble n 4 then zw (a,i,k,v,n)else zz
   |_=>zz
  |_=>zz
 |_=>zz
def ang(tt:TT)(st:jL)(o:Oper):Option (Tmp×Bool×Bool×IntKind×Int×Nat):=
 match o.op with
 |.indexAddr t x (.tmp j)=>match afe tt st t x j with
  |some r=>zw (j,r)
  |none=>zz
 |_=>zz
def Zw{R:Type}(v:Int)(k:Int->Prog R):Nat->Nat->Prog R
 |_,0=>.stuck 24
 |m,1=>.chk (eqI v (Int.ofNat m)) (k (Int.ofNat m))
 |m,n+2=>.cond (eqI v (Int.ofNat m)) (k (Int.ofNat m)) (Zw v k (m+1) (n+1))
noncomputable def stepT{R:Type}(T:lQ)(tt:TT)(ety:TypeId->Option Ty)(N:Nat)(ops:Array Oper)(o:Oper)(q:kJ)(K:kJ->jX->Prog R):Prog R:=
 match Zv N o.dst with
 |false=>.stuck 20
 |true=>match o.guard with
  |none=>match ang tt q.st o with
   |none=>acB T tt ety (o.dst.getD 0) q.st o λe=>match CU q.st.u e.new with
    |true=>K q e
    |false=>.stuck 21
   |some (t,a,i,k,v,n)=>Zw v (λz=>frX (q.Vl t a i k z) λq=>acB T tt ety (o.dst.getD 0) q.st o λe=>match CU q.st.u e.new with
    |true=>K q e
    |false=>.stuck 21) 0 n
  |some (j,want)=>match Ya ops q.st j with
   |none=>.stuck 22
   |some (t,zz)=>K q jX.skip
   |some (t,zw (a,i,b))=>
    let on (q:kJ):Prog R:=acB T tt ety (o.dst.getD 0) q.st o λe=>match CU q.st.u e.new with
     |true=>K q e
     |false=>.stuck 21
    .cond b (frX (q.know t a i zj) λq=>bif want then on q else K q jX.skip) (frX (q.know t a i zv) λq=>bif want then K q jX.skip else on q)
inductive RD where
 |yes
 |no
 |may (empty:Bool)
def LW(o:Nat->TO):TS->Option RD
 |.v (.one (.p _ _ ⟨.sl e,l⟩))=>zw (.may (List.isEmpty (α:=Dt e) l))
 |.v (.one (.own g))=>match o g with
  |.arr _ _ _ _ l=>zw (.may l.isEmpty)
  |.aO _ _ _ _ l _=>zw (.may l.isEmpty)
  |_=>zz
 |.v (.one .dD)=>zw .yes
 |_=>zz
def LX(o:Nat->TO):TS->Option RD
 |.v (.one (.box g _))=>match o g with
  |.box _=>zw .no
  |_=>zz
 |.v (.one (.p _ _ ⟨.opq,.pointer zz⟩))=>zw .yes
 |_=>zz
def RF(o:Nat->TO)(x:TS)(k:TK)(c:Value):Option RD:=
 match k,c with
 |.slice _,.slice zz 0 0=>LW o x
 |.ptr,.pointer zz=>LX o x
 |_,_=>zz
def anh(tt:TT)(st:jL)(o:Oper):Option (Bool×RD):=
 match o.guard with
 |some _=>zz
 |none=>match o.op with
  |.binOp op t x (.const c) _=>match tt t with
   |some i=>match op,RF st.go (st.dK x) i.k c with
    |.eql,zw p=>zw (zj,p)
    |.neq,zw p=>zw (zv,p)
    |_,_=>zz
   |none=>zz
  |_=>zz
def RH(s:List UInt8)(n:Int):Bool:=decide (n.toNat<s.length)
def kD(s:List UInt8)(n:Int):Int:=((Utf8.decode ⟨s.toArray⟩ n.toNat).1:Nat)
def rP(s:List UInt8)(n:Int):Int:=((n.toNat+(Utf8.decode ⟨s.toArray⟩ n.toNat).2:Nat):Int)
def Vm(n:Int):Int:=((n.toNat:Nat):Int)
def aff(st:jL)(o:Oper):Option (Nat×List UInt8×Int):=
 match o.guard with
 |some _=>zz
 |none=>match o.op with
  |.next x zj=>match st.dK x with
   |.v (.one (.oI g))=>match st.go g with
    |.it s n=>zw (g,s,n)
    |_=>zz
   |_=>zz
  |_=>zz
def RI(g:Nat)(s:List UInt8)(n:Int):jX:={ x:=.jy [.one (.p zv zv (jE zj)),.one (.p zv zv (jB .i64 (Vm n))),.one (.p zv zv (jB .i32 (kD s n)))],aJ:=[(g,.it s (rP s n))],new:=[] }
def Yb:jX:={ x:=.jy [.one (.p zv zv (jE zv))],aJ:=[],new:=[] }
def sF(b:Bool):jX:={ x:=Zn (jE b),aJ:=[],new:=[] }
noncomputable def Yc{R:Type}(T:lQ)(tt:TT)(ety:TypeId->Option Ty)(N:Nat)(ops:Array Oper)(o:Oper)(q:kJ)(K:kJ->jX->Prog R):Prog R:=
 match anh tt q.st o with
 |some (pos,c)=>match Zv N o.dst with
  |false=>.stuck 23
  |true=>match c with
   |.yes=>K q (sF pos)
   |.no=>K q (sF (!pos))
   |.may e=>.cond e (.any (K q (sF zj)) (K q (sF zv))) (K q (sF (!pos)))
 |none=>match aff q.st o with
  |some (g,s,n)=>match Zv N o.dst with
   |false=>.stuck 23
   |true=>.cond (RH s n) (K q (RI g s n)) (K q Yb)
  |none=>stepT T tt ety N ops o q K
noncomputable def runT{R:Type}(T:lQ)(tt:TT)(ety:TypeId->Option Ty)(N:Nat)(ops:Array Oper):List Oper->kJ->(kJ->Prog R)->Prog R
 | [],q,K=>K q
 |o::os,q,K=>Yc T tt ety N ops o q λq e=>frX (q.eff o.dst e) λq=>runT T tt ety N ops os q K
def Zx(args:List TS):List (Nat×lu)->Bool
 | []=>zv
 |(t,_)::rest=>match args.getD t .no with
  |.no=>zj
  |.jy _=>zj
  |_=>Zx args rest
def Yd(T:lQ)(st:jL)(o:Oper):Option (List Nat):=
 match o.op with
 |.call { callee:=.value f,args,.. }=>match st.dK f with
  |.v (.one (.clo fn b))=>match Zt T fn (args.toList.map st.dK)with
   |some sp=>match AA sp.sig st.go ((args.toList.map st.dK)++b.map λx=>TS.v (.one x))with
    |some c=>zw (c.ren.map (·.2))
    |none=>bif Zx ((args.toList.map st.dK)++b.map λx=>TS.v (.one x)) sp.sig.pin.slots then zw []else zz
   |none=>zw []
  |_=>zw []
 |_=>zw []
def Ye(T:lQ)(st:jL)(o:Oper):Option (List Nat):=match Yd T st o with
 |some r=>zw ((bif looks o.op then(o.op.operands.toList.flatMap λx=>(S.namesT (st.dK x)).flatMap λg=>g::jC (st.go g))else[])++r)
 |none=>zz
def afg(T:lQ)(st:jL)(o:Oper):Option (List Nat):=match LV (JA st o) st with
 |some b=>match Ye T b o with
  |some l=>zw (l++(Jz st o).flatMap λg=>g::jC (st.go g))
  |none=>zz
 |none=>zz
def aiQ{β:Type 1}:List (Nat×Nat)->(List (Nat×Nat)->β)->β
 | [],k=>k []
 |(a,b)::r,k=>aiQ r λr=>k ((a,b)::r)
def frF{β:Type 1}(f:uS)(k:uS->β):β:=Ox f.rd λrd=>Ox f.wr λwr=>Ox f.new λnew=>frH f.ld λld=>aiQ f.kp λkp=>frB f.pk λpk=>Ox f.kd λkd=>k ⟨rd,wr,new,ld,kp,pk,kd⟩
def afh:TW->TW->Bool
 |.own g,.own g'=>Nat.beq g g'
 |.box g off,.box g' b=>Nat.beq g g'&&Nat.beq off b
 |_,_=>zv
def Gp(g:Nat):Nat->List TW->List TW->Option (List (Nat×Nat))
 |_,[],[]=>zw []
 |j,x::xs,y::b=>match Gp g (j+1) xs b with
  |some r=>zw (match afh x y with
   |true=>(g,j)::r
   |false=>r)
  |none=>zz
 |_,_,_=>zz
def Yf(g:Nat):TO->Option TO->List (Nat×Nat)
 |.box c,zw (.box b)=>match Gp g 0 c b with
  |some r=>r
  |none=>[]
 |_,_=>[]
def afi(g:Nat):TO->Option TO->List (Nat×Nat)
 |.aO _ _ _ _ _ b,zw (.aO _ _ _ _ _ _)=>match b with
  |none=>[(g,5000000)]
  |some _=>[]
 |_,_=>[]
def kpT(st:jL)(o:Oper)(aJ:List (Nat×TO)):List (Nat×Nat):=(bif nY o.op then(o.op.operands.toList.flatMap λx=>S.namesT (st.dK x)).map λg=>(g,0)else[]) ++
 (aJ.map (·.1)).flatMap λg=>Yf g (st.go g) (aJ.lookup g)++bif K_ o.op then afi g (st.go g) (aJ.lookup g)else[]
def afj:TO->Nat
 |.box _=>1
 |.arr _ _ _ _ _=>2
 |.aO _ _ _ _ _ _=>2
 |.it _ _=>3
 |.none=>0
def kdT(st:jL)(aJ:List (Nat×TO)):List Nat:=(aJ.map (·.1)).filterMap λg=>match aJ.lookup g with
 |some x=>bif Nat.beq (afj x) (afj (st.go g))then zw g else zz
 |none=>zz
def ldT(tt:TT)(st:jL)(o:Oper):Option (Nat×Nat×Nat):=match o.op with
 |.load t x=>match tt t,st.dK x with
  |some i,.v (.one (.box g off))=>zw (g,off,i.size)
  |some i,.v (.one (.ep g _ off))=>match st.go g with
   |.aO _ _ _ b _ _=>bif(jH (gY b) off i.size).isEmpty then zw (g,5000000,1)else zz
   |_=>zz
  |_,_=>zz
 |_=>zz
noncomputable def runNT{R:Type}(T:lQ)(tt:TT)(ety:TypeId->Option Ty)(N:Nat)(ops:Array Oper):List Oper->kJ->List uS->(kJ->List uS->Prog R)->Prog R
 | [],q,b,K=>K q b
 |o::os,q,b,K=>match afg T q.st o with
  |none=>.stuck 25
  |some rd=>stepT T tt ety N ops o q λc e=>frF { rd,wr:=e.aJ.map (·.1),new:=e.new,ld:=ldT tt q.st o,kp:=kpT q.st o e.aJ,pk:=nY o.op,kd:=kdT q.st e.aJ } λd=>frX (c.eff o.dst e) λq=>runNT T tt ety N ops os q (b++[d]) K
noncomputable def xO{R:Type}(T:lQ)(tt:TT)(ety:TypeId->Option Ty)(N:Nat)(ops:Array Oper)(draw:Bool)(q:kJ)(K:kJ->Prog R):Prog R:=
 match draw with
 |false=>runT T tt ety N ops ops.toList q K
 |true=>runNT T tt ety N ops ops.toList q [] λq b=>match Zj ops b with
  |true=>K q
  |false=>.stuck 24
inductive Md where
 |keep
 |sl (k:lu)
inductive Mo where
 |keep
 |ob (k:iP)
structure JT where
 slots:List (Nat×Md)
 bI:List (Nat×Mo)
def EC:List TW->Option (List Nat)
 | []=>zw []
 |.box g off::b=>bif Nat.beq off 0 then match EC b with
  |some gs=>zw (g::gs)
  |none=>zz
  else zz
 |_=>zz
def Vo:TW->Option (kH×List Wd)
 |.p a i w=>zw (.p a i w.t,[w])
 |.dD=>zw (.dD,[])
 |.own g=>zw (.own g,[])
 |.box g off=>zw (.box g off,[])
 |.clo f b=>match EC b with
  |some gs=>zw (.fn f gs,[])
  |none=>zz
 |.oI g=>zw (.oI g,[])
 |.vw g lo c=>zw (.vw g,[jB .i64 lo,jB .i64 c])
 |.ep g n off=>zw (.ep g off,[jB .i64 n])
 |_=>zz
def yD:List TW->Option (List kH×List Wd)
 | []=>zw ([],[])
 |x::xs=>match Vo x,yD xs with
  |some (k,u),zw (b,us)=>zw (k::b,u++us)
  |_,_=>zz
def RJ:TS->Option (lu×List Wd)
 |.v (.one x)=>match Vo x with
  |some (k,u)=>zw (.one k,u)
  |none=>zz
 |.v (.agg xs)=>match yD xs with
  |some (b,u)=>zw (.agg b,u)
  |none=>zz
 |_=>zz
def yL:TO->Option (iP×List Wd)
 |.box c=>match yD c with
  |some (d,u)=>zw (.box d,u)
  |none=>zz
 |.arr g a i e l=>zw (.arr g a i e,[vP e l])
 |.it s n=>zw (.it,[U7 s,jB .i64 n])
 |.aO a i e h l b=>match b with
  |none=>zw (.aO a i e h,[vP e l])
  |some _=>zz
 |.none=>zz
def CV(s:Nat->TS):List (Nat×Md)->Option (List (Nat×lu×Option (List Wd)))
 | []=>zw []
 |(t,.keep)::r=>match RJ (s t),CV s r with
  |some (k,u),zw l=>zw ((t,k,zw u)::l)
  |_,_=>zz
 |(t,.sl k)::r=>match CV s r with
  |some l=>zw ((t,k,zz)::l)
  |none=>zz
def LY(o:Nat->TO):List (Nat×Mo)->Option (List (Nat×iP×Option (List Wd)))
 | []=>zw []
 |(t,.keep)::r=>match yL (o t),LY o r with
  |some (k,u),zw l=>zw ((t,k,zw u)::l)
  |_,_=>zz
 |(t,.ob k)::r=>match LY o r with
  |some l=>zw ((t,k,zz)::l)
  |none=>zz
structure JF where
 slots:List (Nat×lu×Option (List Wd))
 bI:List (Nat×iP×Option (List Wd))
def JF.sh(j:JF):Pq:=⟨j.slots.map λp=>(p.1,p.2.1),j.bI.map λp=>(p.1,p.2.1)⟩
def kF:List (Nat×lu×Option (List Wd))->List Ty
 | []=>[]
 |(_,k,zz)::r=>k.tys++kF r
 |(_,_,zw _)::r=>kF r
def qK:List (Nat×iP×Option (List Wd))->List Ty
 | []=>[]
 |(_,k,zz)::r=>k.tys++qK r
 |(_,_,zw _)::r=>qK r
def JF.tys(j:JF):List Ty:=kF j.slots++qK j.bI
def nN:List (Nat×lu×Option (List Wd))->List Wd->List Wd×List Wd
 | [],b=>([],b)
 |(_,k,zz)::r,b=>(b.take k.tys.length++(nN r (b.drop k.tys.length)).1,(nN r (b.drop k.tys.length)).2)
 |(_,_,zw u)::r,b=>(u++(nN r b).1,(nN r b).2)
def sG:List (Nat×iP×Option (List Wd))->List Wd->List Wd×List Wd
 | [],b=>([],b)
 |(_,k,zz)::r,b=>(b.take k.tys.length++(sG r (b.drop k.tys.length)).1,(sG r (b.drop k.tys.length)).2)
 |(_,_,zw u)::r,b=>(u++(sG r b).1,(sG r b).2)
def JF.pay(j:JF)(ws:List Wd):List Wd:=(nN j.slots ws).1++(sG j.bI (nN j.slots ws).2).1
def RN:List (Nat×lu×Option (List Wd))->List Wd->List Wd×List Wd
 | [],b=>([],b)
 |(_,k,zz)::r,b=>(b.take k.tys.length++(RN r (b.drop k.tys.length)).1,(RN r (b.drop k.tys.length)).2)
 |(_,k,zw u)::r,b=>((RN r (b.drop u.length)).1,(RN r (b.drop u.length)).2)
def Vp:List (Nat×iP×Option (List Wd))->List Wd->List Wd×List Wd
 | [],b=>([],b)
 |(_,k,zz)::r,b=>(b.take k.tys.length++(Vp r (b.drop k.tys.length)).1,(Vp r (b.drop k.tys.length)).2)
 |(_,k,zw u)::r,b=>((Vp r (b.drop u.length)).1,(Vp r (b.drop u.length)).2)
def JF.ext(j:JF)(ws:List Wd):List Wd:=(RN j.slots ws).1++(Vp j.bI (RN j.slots ws).2).1
def hasK{α:Type}(t:Nat):List (Nat×α)->Bool
 | []=>zv
 |(k,_)::r=>Nat.beq t k||hasK t r
def Vq(s:List (Nat×TS))(ds:List Nat):List (Nat×lu×Option (List Wd))->Bool
 | []=>zj
 |(t,_,zw _)::r=>hasK t s&&!gG t ds&&Vq s ds r
 |(_,_,zz)::r=>Vq s ds r
def Vr(s:List (Nat×TO))(ds:List Nat):List (Nat×iP×Option (List Wd))->Bool
 | []=>zj
 |(t,_,zw _)::r=>hasK t s&&!gG t ds&&Vr s ds r
 |(_,_,zz)::r=>Vr s ds r
def keysB(bH:List Nat)(j:Pq)(m:Ren):Bool:=keeps bH j.er m
def Py:List (Nat×iP×Option (List Wd))->Ren
 | []=>[]
 |(t,_,zw _)::r=>(t,zw t)::Py r
 |(_,_,zz)::r=>Py r
def tpW(gs:List Nat)(o:Nat->TO):TW->TW
 |.own g=>bif gG g gs then match oU o g with
  |some ⟨a,i,e,l⟩=>.p a i (vP e l)
  |none=>.own g
  else .own g
 |.vw g lo b=>bif gG g gs then match oU o g with
  |some ⟨a,i,e,l⟩=>.p a i (vP e ((l.take b.toNat).drop lo.toNat))
  |none=>.vw g lo b
  else .vw g lo b
 |x=>x
def tpV(gs:List Nat)(o:Nat->TO):TV->TV
 |.one x=>.one (tpW gs o x)
 |.agg xs=>.agg (xs.map (tpW gs o))
def tpS(gs:List Nat)(o:Nat->TO):TS->TS
 |.v x=>.v (tpV gs o x)
 |.jy xs=>.jy (xs.map (tpV gs o))
 |.no=>.no
def tpO(gs:List Nat)(o:Nat->TO)(g:Nat):TO->TO
 |.none=>.none
 |.box c=>.box (c.map (tpW gs o))
 |.arr d a i e l=>.arr (d||gG g gs) a i e l
 |.it s n=>.it s n
 |.aO a i e h l b=>bif gG g gs then(mX o g).2 else .aO a i e h l b
def Oy(gs:List Nat)(st:jL):jL:=match gs with
 | []=>st
 |g::r=>{ s:=st.s.map λp=>(p.1,tpS (g::r) st.go p.2),o:=st.o.map λp=>(p.1,tpO (g::r) st.go p.1 p.2),u:=st.u }
def plB(o:Nat->TO)(g:Nat):Bool:=match oU o g with
 |some _=>zj
 |none=>zv
def ani(o:Nat->TO)(gs:List Nat):Bool:=gs.all λg=>plB o g&&(jC (o g)).all λd=>gG d gs
def oW(keep:List Nat):List Nat->jL->List Nat×jL
 | [],st=>([],st)
 |g::gs,st=>match Vk (st.go g),yC st.go g with
  |some d,zw ⟨a,i,e,b,l⟩=>match !gG g keep&&!gG d keep with
   |true=>let r:=oW keep gs { st with o:=Ey st.o [(g,.aO a i e b l zz),(d,.none)] }
    (g::r.1,r.2)
   |false=>oW keep gs st
  |_,_=>oW keep gs st
def RP:List (Nat×TO)->List Nat
 | []=>[]
 |(g,x)::r=>match Vk x with
  |some _=>g::RP r
  |none=>RP r
def BG:List (Nat×iP×Option (List Wd))->List Nat
 | []=>[]
 |(t,_,zw _)::r=>t::BG r
 |(_,_,zz)::r=>BG r
def fzW(o:Nat->TO):kH->TW->List Nat
 |.p _ _ _,.own g=>bif plB o g then jC (o g)++[g]else[]
 |.p _ _ _,.vw g _ _=>bif plB o g then jC (o g)++[g]else[]
 |_,_=>[]
def anj(o:Nat->TO):List kH->List TW->List Nat
 |k::b,x::xs=>fzW o k x++anj o b xs
 |_,_=>[]
def fzS(o:Nat->TO):lu->TS->List Nat
 |.one k,.v (.one x)=>fzW o k x
 |.agg b,.v (.agg xs)=>anj o b xs
 |_,_=>[]
def Zy(st:jL):List (Nat×lu)->List Nat
 | []=>[]
 |(t,k)::r=>fzS st.go k (st.gs t)++Zy st r
def Yg(m:Ren)(st:jL):List (Nat×iP)->List Nat
 | []=>[]
 |(g',.box b)::r=>(match m.lookup g' with
  |some (zw g)=>match st.go g with
   |.box c=>anj st.go b c
   |_=>[]
  |_=>[])++Yg m st r
 |_::r=>Yg m st r
def ank(bH:List Nat)(j:Pq)(st:jL):List Nat:=Zy st j.slots++Yg (derive bH j st) st j.bI
def Yh(gs:List Nat)(x:TS):Bool:=(S.namesT x).all λg=>!gG g gs
def LZ(gs:List Nat)(g:Nat):TO->Bool
 |.none=>zj
 |.box b=>(b.flatMap W.namesT).all λg=>!gG g gs
 |.arr _ _ _ _ _=>!gG g gs
 |.it _ _=>zj
 |.aO _ _ _ _ _ _=>!gG g gs
def afl(gs:List Nat)(s:Nat->TS):List (Nat×lu×Option (List Wd))->Bool
 | []=>zj
 |(t,_,zw _)::r=>Yh gs (s t)&&afl gs s r
 |(_,_,zz)::r=>afl gs s r
def afm(gs:List Nat)(o:Nat->TO):List (Nat×iP×Option (List Wd))->Bool
 | []=>zj
 |(t,_,zw _)::r=>LZ gs t (o t)&&afm gs o r
 |(_,_,zz)::r=>afm gs o r
def yE{R:Type}(bH:List Nat)(j:JF)(q:kJ)(K:Tup j.tys->Prog R):Prog R:=
 let b:=(oW (BG j.bI) (RP q.st.o) q.st).2
 let gs:=ank bH j.sh b
 let st:=Oy gs b
 let m:=Py j.bI++derive bH j.sh st
 match Vq q.st.s q.ds j.slots&&Vr q.st.o q.od j.bI&&keysB bH j.sh m&&ani b.go gs&&afl gs b.gs j.slots&&afm gs b.go j.bI with
 |false=>.stuck 30
 |true=>match Et j.sh m st with
  |none=>.stuck 31
  |some vs=>match Tup.ofL j.tys (j.ext vs)with
   |none=>.stuck 32
   |some x=>K x
def zJ(j:JF)(x:Tup j.tys):jL:=mkT j.sh (j.pay (Tup.mQ j.tys x))
def newS:List (Nat×lu×Option (List Wd))->List Nat
 | []=>[]
 |(t,_,zz)::r=>t::newS r
 |(_,_,zw _)::r=>newS r
def vZ:List (Nat×iP×Option (List Wd))->List Nat
 | []=>[]
 |(t,_,zz)::r=>t::vZ r
 |(_,_,zw _)::r=>vZ r
def kJ.fresh(q:kJ):kJ:={ q with ds:=[],od:=[] }
def kJ.since(q' q:kJ):kJ:={ q' with ds:=q'.ds++q.ds,od:=q'.od++q.od }
structure TK(R:Type) where
 n:kJ->Prog R
 x:Nat->kJ->Prog R
 r:kJ->Prog R
inductive fG where
 |nil
 |seq (a b:fG)
 |meet (early:Bool) (j:JT) (a:fG)
 |loop (j:JT) (a:fG)
 |range (j:JT) (sg:b_) (a:fG)
def fG.fst:fG->fG
 |.seq a _=>a
 |_=>.nil
def fG.snd:fG->fG
 |.seq _ b=>b
 |_=>.nil
def afn(nw:List Nat):List (Nat×lu×Option (List Wd))->Bool
 | []=>zj
 |(t,_,zw _)::r=>!gG t nw&&afn nw r
 |(_,_,zz)::r=>afn nw r
def afo(nw:List Nat):List (Nat×iP×Option (List Wd))->Bool
 | []=>zj
 |(t,_,zw _)::r=>!gG t nw&&afo nw r
 |(_,_,zz)::r=>afo nw r
def jOf(st:jL)(j:JT):Option JF:=match CV st.gs j.slots,LY st.go j.bI with
 |some s,zw o=>match afn (newS s) s&&afo (vZ o) o with
  |true=>zw ⟨s,o⟩
  |false=>zz
 |_,_=>zz
def knT(c:Operand)(a i b:Bool)(q:kJ):kJ:=match c with
 |.tmp t=>q.know t a i b
 |_=>q
def Zz{R:Type}(c:Operand)(q:kJ)(x y:kJ->Prog R):Prog R:=match q.st.dK c with
 |.v (.one (.p a i ⟨.bool,b⟩))=>.cond b (frX (knT c a i zj q) x) (frX (knT c a i zv q) y)
 |_=>.stuck 50
def Pz{R:Type}(bH:List Nat)(early:Bool)(jt:JT)(here:Nat->Bool)(q:kJ)(inner:(R':Type)->kJ->TK R'->Prog R')(K:TK R):Prog R:=
 match jOf q.st jt with
 |none=>.stuck 40
 |some j=>match early with
  |false=>.join (inner (Tup j.tys) q.fresh { n:=λb=>yE bH j b .ret,x:=λid b=>bif here id then yE bH j b .ret else .stuck 41,r:=λ_=>.stuck 42 })
    λx=>frX ⟨zJ j x,newS j.slots++q.ds,vZ j.bI++q.od⟩ K.n
  |true=>.Po (inner (Tup j.tys ⊕ R) q.fresh { n:=λb=>yE bH j b λx=>.ret (.inl x),x:=λid b=>bif here id then yE bH j b (λx=>.ret (.inl x))else(K.x id (b.since q)).map .inr,r:=λb=>(K.r (b.since q)).map .inr })
    λx=>frX ⟨zJ j x,newS j.slots++q.ds,vZ j.bI++q.od⟩ K.n
noncomputable def oZ(T:lQ)(tt:TT)(ety:TypeId->Option Ty)(N:Nat)(bH:List Nat):Code->(R:Type)->fG->kJ->TK R->Prog R
 |.skip,R,_,q,K=>K.n q
 |.region _ ops draw,R,a,q,K=>match a with
  |.meet e j _=>Pz bH e j (λ_=>zv) q (λ_ q K=>xO T tt ety N ops draw q K.n) K
  |_=>xO T tt ety N ops draw q K.n
 |.seq x y,R,a,q,K=>oZ T tt ety N bH x R a.fst q { n:=λb=>oZ T tt ety N bH y R a.snd b K,x:=K.x,r:=K.r }
 |.cond c x y,R,a,q,K=>match a with
  |.meet e j a=>Pz bH e j (λ_=>zv) q (λR q K=>Zz c q (λq=>oZ T tt ety N bH x R a.fst q K) λq=>oZ T tt ety N bH y R a.snd q K) K
  |a=>Zz c q (λq=>oZ T tt ety N bH x R a.fst q K) λq=>oZ T tt ety N bH y R a.snd q K
 |.block id c,R,a,q,K=>match a with
  |.meet e j a=>Pz bH e j (Nat.beq id) q (λR q K=>oZ T tt ety N bH c R a q K) K
  |a=>oZ T tt ety N bH c R a.fst q { n:=K.n,x:=λd b=>bif Nat.beq d id then K.n b else K.x d b,r:=K.r }
 |.loop c,R,a,q,K=>match a with
  |.loop g a=>match jOf q.st g with
   |none=>.stuck 43
   |some j=>yE bH j q.fresh λx=>.loop x λx=>
     frX ⟨zJ j x,[],[]⟩ λb=>oZ T tt ety N bH c (Tup j.tys ⊕ R) a b
      { n:=λb=>yE bH j b λx=>.ret (.inl x),x:=λid b=>(K.x id (b.since ⟨b.st,newS j.slots++q.ds,vZ j.bI++q.od⟩)).map .inr,r:=λb=>(K.r (b.since ⟨b.st,newS j.slots++q.ds,vZ j.bI++q.od⟩)).map .inr }
  |_=>.stuck 44
 |.exit id,R,_,q,K=>K.x id q
 |.ret,R,_,q,K=>K.r q
 |.label _,R,_,q,K=>K.n q
 |.scope c,R,a,q,K=>oZ T tt ety N bH c R a q K
 |_,R,_,_,_=>.stuck 45
def ZA(tt:TT)(st:jL):ResultVar->Option TS
 |.tmp t=>zw (st.gs t)
 |.cell a t=>match tt t,st.gs a with
  |some i,.v (.one (.box g off))=>match st.go g with
   |.box b=>bif Nat.ble (off+i.size) b.length&&Nat.blt 0 i.size then zw (TV.gI i.agg ((b.drop off).take i.size))else zz
   |_=>zz
  |_,_=>zz
def L6(tt:TT)(st:jL):List ResultVar->Option (List TS)
 | []=>zw []
 |r::b=>match ZA tt st r,L6 tt st b with
  |some x,zw xs=>zw (x::xs)
  |_,_=>zz
def Yi(n:Nat):List TS->List (Nat×TS)
 | []=>[]
 |x::xs=>(n,x)::Yi (n+1) xs
def aiT(tt:TT)(sp:b_)(ts:List ResultVar)(q:kJ):Prog (Tup sp.aU.tys):=
 match L6 tt q.st ts with
 |none=>.stuck 60
 |some xs=>
  let b:jL:=(oW [] (RP q.st.o) { s:=Yi 0 xs,o:=q.st.o,u:=q.st.u }).2
  let gs:=ank sp.bH sp.aU b
  let st:=Oy gs b
  let m:=derive sp.bH sp.aU st
  match keysB sp.bH sp.aU m&&ani b.go gs with
  |false=>.stuck 61
  |true=>match Et sp.aU m st with
   |none=>.stuck 62
   |some vs=>match Tup.ofL sp.aU.tys vs with
    |none=>.stuck 63
    |some x=>.ret x
inductive LkC where
 |yes
 |no
 |len (n m:Nat)
def Vs:TO->TO->LkC
 |.box _,.box _=>.yes
 |.arr _ _ _ e l,.arr _ _ _ b c=>bif Nat.beq (size e) (size b)then .len (List.length (α:=Dt e) l) (List.length (α:=Dt b) c)else .no
 |.aO _ _ e _ l _,.aO _ _ b _ c _=>bif Nat.beq (size e) (size b)then .len (List.length (α:=Dt e) l) (List.length (α:=Dt b) c)else .no
 |_,_=>.no
def CW{R:Type}(a b:Nat->TO)(K:Prog R):List Nat->Prog R
 | []=>K
 |g::gs=>match Vs (a g) (b g)with
  |.yes=>CW a b K gs
  |.no=>.stuck 90
  |.len n m=>.chk (decide (n=m)) (CW a b K gs)
noncomputable def tfun(T:lQ)(tt:TT)(ety:TypeId->Option Ty)(N:Nat)(sp:b_)(ts:List ResultVar)(c:Code)(a:fG)(x:Tup sp.pin.tys):Prog (Tup sp.aU.tys):=frX ⟨mkT sp.pin (Tup.mQ sp.pin.tys x),[],[]⟩ λq=>oZ T tt ety N sp.bH c (Tup sp.aU.tys) a q { n:=aiT tt sp ts,x:=λ_ _=>.stuck 64,r:=aiT tt sp ts }
noncomputable def afp(T:lQ)(tt:TT)(ety:TypeId->Option Ty)(N:Nat)(sp:b_)(ts:List ResultVar)(c:Code)(a:fG)(x:Tup sp.pin.tys):Prog (Tup sp.aU.tys):=
 match sp.er.amM with
 |true=>tfun T tt ety N sp ts c a x
 |false=>.join (tfun T tt ety N sp ts c a x) λy=>CW (mkT sp.pin (Tup.mQ sp.pin.tys x)).go (mkT sp.aU (Tup.mQ sp.aU.tys y)).go (.ret y) sp.bH
end
end Go.Fg

namespace Go.Fg
open Go.Fw
theorem JB(a b:Nat):(a==b)=Nat.beq a b:=by rw[Bool.eq_iff_iff];simp
theorem zK{α:Type}(d:α):∀(l:List (Nat×α)) (t:Nat),kC d l t=match l.lookup t with|some x=>x|none=>d
 | [],t=>rfl
 |(k,v)::r,t=>by
  simp only[kC,List.lookup,JB];cases h:Nat.beq t k with
  |true=>rfl
  |false=>exact zK d r t
theorem rQ{α:Type}(d:α)(k:Nat)(v:α):∀(l:List (Nat×α)) (t:Nat),kC d (zx k v l) t=bif Nat.beq t k then v else kC d l t
 | [],t=>rfl
 |(b,j)::r,t=>by
  simp only[zx];cases h:Nat.beq k b with
  |true=>simp only[cond_true,kC];have:k=b:=Q6 h;subst this;cases Nat.beq t k<;>rfl
  |false=>
   simp only[cond_false,kC,rQ d k v r t];cases c:Nat.beq t b with
   |true=>
    have:t=b:=Q6 c;subst this;have:Nat.beq t k=zv:=by
     cases g:Nat.beq t k with
     |false=>rfl
     |true=>have:=Q6 g;subst this;simp at h
    rw[this];rfl
   |false=>rfl
theorem qL{α β:Type}(g:α->β)(t:Nat):∀(l:List (Nat×α)),(l.map λp=>(p.1,g p.2)).lookup t=(l.lookup t).map g
 | []=>rfl
 |(k,v)::r=>by
  simp only[Qf,List.lookup];cases t==k with
  |true=>rfl
  |false=>exact qL g t r
section
variable [RE] {β:Type 1}
theorem RQ(b:Bool)(k:Bool->β):frB b k=k b:=by cases b<;>rfl
theorem afq(x:TW)(k:TW->β):frW x k=k x:=by
 cases x with
 |p a i w=>obtain⟨t,x⟩:=w;simp only[frW,RQ]
 |sp a i t x off=>simp only[frW,RQ]
 |_=>rfl
theorem RU:∀(x:List TW) (k:List TW->β),afc x k=k x
 | [],k=>rfl
 |x::xs,k=>by simp only[afc,afq,RU xs]
theorem afr(x:TV)(k:TV->β):frV x k=k x:=by cases x<;>simp only[frV,afq,RU]
theorem ZB:∀(x:List TV) (k:List TV->β),aiN x k=k x
 | [],k=>rfl
 |x::xs,k=>by simp only[aiN,afr,ZB xs]
theorem anm(x:TS)(k:TS->β):frS x k=k x:=by cases x<;>simp only[frS,afr,ZB]
theorem ED:∀(t:Ty) (k:Ty->β),Rz t k=k t
 |.int c,k=>by cases c<;>rfl
 |.bool,k=>rfl
 |.str,k=>rfl
 |.sl e,k=>by simp only[Rz,ED e]
 |.prod a b,k=>by simp only[Rz,ED a,ED b]
 |.st n,k=>rfl
 |.opq,k=>rfl
 |.sq e,k=>by simp only[Rz,ED e]
theorem afs:∀(x:List (Nat×Ty)) (k:List (Nat×Ty)->β),frC x k=k x
 | [],k=>rfl
 |(c,t)::xs,k=>by simp only[frC,ED,afs xs]
theorem aft(x:Option (Nat×Nat×Nat))(k:Option (Nat×Nat×Nat)->β):frH x k=k x:=by
 cases x with
 |none=>rfl
 |some p=>obtain⟨n,c,d⟩:=p;rfl
theorem ano(x:TO)(k:TO->β):frO x k=k x:=by cases x<;>simp only[frO,RU,RQ,afs,aft]
theorem ZC:∀(x:List (Nat×TS)) (k:List (Nat×TS)->β),aiO x k=k x
 | [],k=>rfl
 |(t,x)::xs,k=>by simp only[aiO,anm,ZC xs]
theorem ZE:∀(x:List (Nat×TO)) (k:List (Nat×TO)->β),aiP x k=k x
 | [],k=>rfl
 |(t,x)::xs,k=>by simp only[aiP,ano,ZE xs]
theorem RV:∀(x:List Nat) (k:List Nat->β),Ox x k=k x
 | [],k=>rfl
 |x::xs,k=>by simp only[Ox,RV xs]
theorem uX(q:kJ)(k:kJ->β):frX q k=k q:=by obtain⟨⟨s,o,u⟩,ds,od⟩:=q;simp only[frX,ZC,ZE,RV]
theorem aiU(l:List (Nat×Nat))(k:List (Nat×Nat)->β):aiQ l k=k l:=by
 induction l generalizing k with
 |nil=>rfl
 |cons p r c=>obtain⟨a,b⟩:=p;simp only[aiQ,c]
theorem anp(f:uS)(k:uS->β):frF f k=k f:=by simp only[frF,RV,aft,aiU,RQ]
end
section
variable [RE]
theorem wo(vs:List Wd)(n:Nat):dL (vs.getD n CP)=(vs.map dL).getD n default:=by simp only[Q1,Z0];cases vs[n]?<;>rfl
theorem EF(vs:List Wd)(n:Nat)(k:kH):(CS vs n k).2=n+k.tys.length:=by cases k<;>simp[CS,kH.tys]
def xP(vs:List Wd)(n:Nat)(ts:List Ty):Prop :=∀(k:Nat) t,ts[k]?=zw t->∃w,vs[n+k]?=zw w/\w.t=t
variable{vs:List Wd}
theorem xP.left{a b:List Ty}(h:xP vs n (a++b)):xP vs n a:=λk t c=>h k t (by rw[Wf (Q3.1 c).1];exact c)
theorem xP.right{a b:List Ty}(h:xP vs n (a++b)):xP vs (n+a.length) b:=λk t c=>by obtain⟨w,d,g⟩:=h (a.length+k) t (by rw[Wc (by omega)];simpa using c);exact⟨w,by rw[<-d];congr 1;omega,g⟩
theorem xP.of{ts:List Ty}(h:vs.map (·.t)=ts):xP vs 0 ts:=λk t b=>by rw[<-h,Z0,Wg]at b;obtain⟨w,c,d⟩:=b;exact⟨w,by simpa using c,d⟩
theorem xP.get{k:Nat}{t:Ty}{ts:List Ty}(h:xP vs g ts)(b:ts[k]?=zw t):dL (vs.getD (g+k) CP)=dL ⟨t,(vs.getD (g+k) CP).as t⟩:=by
 obtain⟨w,c,d⟩:=h k t b;have n:vs.getD (g+k) CP=w:=by rw[Q1,c];rfl
 rw[n,yB d]
theorem PD:∀(gs:List Nat),oQ (Gi gs)=iC gs
 | []=>rfl
 |g::gs=>by simp only[Gi,oQ,dn,iC,PD gs]
theorem ZF{k:kH}(h:xP vs g k.tys):rE (vs.map dL) g k.er=(dn (CS vs g k).1,(CS vs g k).2):=by
 cases k with
 |vw n=>have b:=h.get (k:=0) (t:=.int .i64) rfl;have c:=h.get (k:=1) (t:=.int .i64) rfl;simp only[kH.er,rE,CS,dn,<-wo];rw[Jn]at b;rw[b,c];rfl
 |ep n off=>have b:=h.get (k:=0) (t:=.int .i64) rfl;simp only[kH.er,rE,CS,dn,<-wo];rw[Jn]at b;rw[b];rfl
 |fn f gs=>simp only[kH.er,rE,CS,dn,PD]
 |_=>simp only[kH.er,rE,CS,dn,oQ,wo]
theorem Gq(vs:List Wd):∀(n:Nat) (b:List kH),(vX vs n b).2=n+(b.flatMap kH.tys).length
 |n,[]=>rfl
 |n,k::b=>by simp only[vX,Gq vs,EF,Z6,XS];omega
theorem L8{vs:List Wd}:∀{n:Nat} {b:List kH},xP vs n (b.flatMap kH.tys)->lY (vs.map dL) n (b.map kH.er)=((vX vs n b).1.map dn,(vX vs n b).2)
 |n,[],_=>rfl
 |n,k::b,h=>by rw[Z6]at h;have c:=h.right;simp only[Qf,lY,vX,ZF h.left,EF];rw[L8 c]
theorem EG(vs:List Wd)(n:Nat)(k:lu):(Ji vs n k).2=n+k.tys.length:=by cases k<;>simp only[Ji,lu.tys,EF,Gq]
theorem aiV{k:lu}(h:xP vs g k.tys):mkS (vs.map dL) g k.er=(bJ (Ji vs g k).1,(Ji vs g k).2):=by
 cases k with
 |one k=>simp only[lu.er,mkS,Ji,bJ,kG,ZF h]
 |agg b=>simp only[lu.er,mkS,Ji,bJ,kG,L8 h]
theorem Iy{vs:List Wd}:∀{n:Nat} {l:List (Nat×lu)},xP vs n (l.flatMap λp=>p.2.tys)->dV (vs.map dL) n (l.map λp=>(p.1,p.2.er))=((iq vs n l).1.map λp=>(p.1,bJ p.2),(iq vs n l).2)
 |n,[],_=>rfl
 |n,(t,k)::l,h=>by rw[Z6]at h;have b:=h.right;simp only[Qf,dV,iq,aiV h.left,EG];rw[Iy b]
theorem xQ(vs:List Wd):∀(n:Nat) (l:List (Nat×lu)),(iq vs n l).2=n+(l.flatMap λp=>p.2.tys).length
 |n,[]=>rfl
 |n,(t,k)::l=>by simp only[iq,xQ vs,EG,Z6,XS];omega
theorem aiW{k:iP}(h:xP vs n k.tys):vG (vs.map dL) n k.er=(eH (Gl vs n k).1,(Gl vs n k).2):=by
 cases k with
 |box H=>simp only[iP.er,vG,Gl,eH,L8 h]
 |arr J a i e=>
  obtain⟨w,b,c⟩:=h 0 (.sl e) rfl;have d:(vs.getD n CP)=w:=by simp only[Q1];rw[show vs[n]?=zw w from b];rfl
  simp only[iP.er,vG,Gl,eH,<-wo,d];have g:=yB c;have j:(dL w).list=aK e (w.as (.sl e)):=by
   conv=>lhs;rw[<-g]
   exact jR e _
  rw[j]
 |it=>
  obtain⟨w1,b,c⟩:=h 0 .str rfl;obtain⟨q,y,z⟩:=h 1 (.int .i64) rfl;have d:(vs.getD n CP)=w1:=by simp only[Q1];rw[show vs[n]?=zw w1 from b];rfl
  have g:(vs.getD (n+1) CP)=q:=by simp only[Q1];rw[show vs[n+1]?=zw q from y];rfl
  simp only[iP.er,vG,Gl,eH,<-wo,d,g];have B:=yB c;have a2:=yB z
  conv=>lhs;rw[<-B,<-a2]
  rfl
 |aO a i e K=>
  obtain⟨w,b,c⟩:=h 0 (.sl e) rfl;have d:(vs.getD n CP)=w:=by simp only[Q1];rw[show vs[n]?=zw w from b];rfl
  simp only[iP.er,vG,Gl,eH,<-wo,d];have g:=yB c;have j:(dL w).list=aK e (w.as (.sl e)):=by
   conv=>lhs;rw[<-g]
   exact jR e _
  rw[j]
theorem L9(vs:List Wd)(n:Nat)(k:iP):(Gl vs n k).2=n+k.tys.length:=by cases k<;>simp only[Gl,iP.tys,Gq]<;>rfl
theorem L_{vs:List Wd}:∀{n:Nat} {l:List (Nat×iP)},xP vs n (l.flatMap λp=>p.2.tys)->iD (vs.map dL) n (l.map λp=>(p.1,p.2.er))=((kK vs n l).1.map λp=>(p.1,eH p.2),(kK vs n l).2)
 |n,[],_=>rfl
 |n,(g,k)::l,h=>by rw[Z6]at h;simp only[Qf,iD,kK,aiW h.left,L9];rw[L_ h.right]
theorem zL{j:Pq}(h:vs.map (·.t)=j.tys):bD (mkT j vs)=mk j.er (vs.map dL):=by
 have b:=Iy (vs:=vs) (n:=0) (l:=j.slots) (by have:=(xP.of h);unfold Pq.tys at this;exact this.left)
 have c:xP vs (iq vs 0 j.slots).2 (j.bI.flatMap λp=>p.2.tys):=by have:=(xP.of h);unfold Pq.tys at this;have:=this.right;rw[xQ];exact this
 have d:=L_ c;have q:(dV (vs.map dL) 0 j.er.slots)=_:=b;have w:iD (vs.map dL) (iq vs 0 j.slots).2 j.er.bI=_:=d;unfold Fw.mk;rw[q];simp only[w];refine St.ext' (λt=>?_) (λg=>?_) λg=>?_
 .simp only[bD,jL.gs,mkT,zK,qL];cases (iq vs 0 j.slots).1.lookup t<;>rfl
 .simp only[bD,jL.go,mkT,zK,qL];cases (kK vs (iq vs 0 j.slots).2 j.bI).1.lookup g<;>rfl
 .simp only[bD,mkT,bZ,Shape.nms,Pq.er,UP];rfl
variable {m:Ren}
theorem EH{α:Type}{x y:α}(h:(bif a then zw x else zz)=zw y):a=zj/\x=y:=by cases a;cases h;exact⟨rfl,by simpa using h⟩
theorem Mc:∀{gs:List Nat} {caps:List TW},Jw m gs caps=uM m gs (oQ caps)
 | [],[]=>rfl
 | [],c::b=>by cases c<;>rfl
 |g::gs,[]=>rfl
 |g::gs,c::b=>by cases c<;>first|(simp only[Jw,oQ,dn,uM,Mc (gs:=gs) (caps:=b)];done)|rfl
theorem ZG{k:kH}{x:TW}{us:List Wd}(h:Gj m k x=zw us):NQ m k.er (dn x)=zw (us.map dL)/\us.map (·.t)=k.tys:=by
 cases k<;>cases x<;>try simp only[Gj,reduceCtorEq]at h
 case p.p a i t j q w=>
  split at h
  rotate_left
  cases h;rename_i z B;obtain⟨y,rfl⟩:=EH h;have b:((imp j a&&imp q i)||(dL w).flat)=zj:=by simp only[Kb]at y ⊢;exact y.imp id acj
  refine⟨?_,by simp[kH.tys,am3 B]⟩;show (if((imp j a&&imp q i)||(dL w).flat)=zj then zw [dL w]else zz)=_;rw[QQ b];rfl
 case p.dD a i t=>
  split at h
  .cases h;exact⟨rfl,rfl⟩
  .cases h
 case dD.dD=>cases h;exact⟨rfl,rfl⟩
 case own.own g g'=>
  split at h
  .rename_i b;cases h;refine⟨?_,rfl⟩;show (if m.lookup g=zw (zw g')then zw []else zz)=_;rw[QQ b];rfl
  .cases h
 case own.dD g=>
  split at h
  .rename_i b;cases h;refine⟨?_,rfl⟩;show (if m.lookup g=zw zz then zw []else zz)=_;rw[QQ b];rfl
  .cases h
 case box.box g off g' c=>
  split at h
  .rename_i b;cases h;refine⟨?_,rfl⟩;show (if m.lookup g=zw (zw g')/\off=c then zw []else zz)=_;rw[QQ b];rfl
  .cases h
 case fn.clo f gs H d=>obtain⟨b,rfl⟩:=EH h;simp only[QR]at b;refine⟨?_,rfl⟩;show (if f=H/\uM m gs (oQ d)=zj then zw []else zz)=_;rw[QQ ⟨Q6 b.1,by rw[<-Mc];exact b.2⟩];rfl
 case oI.oI g g'=>
  split at h
  .rename_i b;cases h;refine⟨?_,rfl⟩;show (if m.lookup g=zw (zw g')then zw []else zz)=_;rw[QQ b];rfl
  .cases h
 case vw.vw g g' lo J=>
  split at h
  .rename_i b;cases h;refine⟨?_,rfl⟩;show (if m.lookup g=zw (zw g')then zw [P.int .i64 lo,P.int .i64 J]else zz)=_;rw[QQ b];rfl
  .cases h
 case ep.ep g off g' n c=>
  split at h
  .rename_i b;cases h;refine⟨?_,rfl⟩;show (if m.lookup g=zw (zw g')/\off=c then zw [P.int .i64 n]else zz)=_;rw[QQ b];rfl
  .cases h
 all_goals (cases h;exact⟨rfl,rfl⟩)
theorem Me:∀{b:List kH} {xs:List TW} {us:List Wd},zF m b xs=zw us->Oc m (b.map kH.er) (xs.map dn)=zw (us.map dL)/\us.map (·.t)=b.flatMap kH.tys
 | [],[],us,h=>by simp only[zF,Q0]at h;subst h;exact⟨rfl,rfl⟩
 | [],x::xs,us,h=>by simp[zF]at h
 |k::b,[],us,h=>by simp[zF]at h
 |k::b,x::xs,us,h=>by
  simp only[zF]at h;split at h
  .rename_i u v c d;cases h;obtain⟨g,a2⟩:=ZG c;obtain⟨j,q⟩:=Me d;exact⟨by simp only[Qf,Oc,g,j,XX],by simp only[XX,a2,q,Z6]⟩
  .cases h
theorem ZH{k:lu}{x:TS}{us:List Wd}(h:aiM m k x=zw us):coS m k.er (bJ x)=zw (us.map dL)/\us.map (·.t)=k.tys:=by
 unfold aiM at h;split at h
 .exact ZG h
 .exact Me h
 .cases h
theorem ZI{k:iP}{x:TO}{us:List Wd}(h:X8 m k x=zw us):coO m k.er (eH x)=zw (us.map dL)/\us.map (·.t)=k.tys:=by
 unfold X8 at h;split at h
 .exact Me h
 .rename_i B a i e d g j H l;split at h
  rotate_left
  cases h;rename_i J b;split at h
  rotate_left
  cases h;rename_i c;cases h;obtain⟨q,b⟩:=pY b;cases q;subst b;refine⟨?_,rfl⟩;show (if B=d/\size e=size e/\(imp g a&&imp j i)=zj then zw [P.gV (size e) (aK e _)]else zz)=_;rw[QQ ⟨c.1,rfl,c.2⟩];rfl
 .cases h;exact⟨rfl,rfl⟩
 .rename_i a i e y g j H K l z;split at h
  rotate_left
  cases h;rename_i J b w;split at h
  rotate_left
  cases h;rename_i c;cases h;obtain⟨q,b⟩:=pY b;cases q;subst b;have:=qg w;subst this;refine⟨?_,rfl⟩;show (if size e=size e/\gY y=gY y/\(imp g a&&imp j i)=zj then zw [P.gV (size e) (aK e _)]else zz)=_;rw[QQ ⟨rfl,rfl,c⟩];rfl
 .cases h
theorem Iz{st:jL}:∀{l:List (Nat×lu)} {us:List Wd},oV m st.gs l=zw us->tH m (bD st).s (l.map λp=>(p.1,p.2.er))=zw (us.map dL)/\us.map (·.t)=l.flatMap λp=>p.2.tys
 | [],us,h=>by simp only[oV,Q0]at h;subst h;exact⟨rfl,rfl⟩
 |(t,k)::l,us,h=>by
  simp only[oV]at h;split at h
  rotate_left
  cases h;rename_i u v c d;cases h;obtain⟨b,a2⟩:=ZH c;obtain⟨g,j⟩:=Iz d;refine⟨?_,by simp only[XX,a2,j,Z6]⟩;have b:coS m k.er ((bD st).s t)=_:=b;simp only[Qf,tH,b,g,XX]
theorem MB{st:jL}:∀{l:List (Nat×iP)} {us:List Wd},rC m st.go l=zw us->xw m (bD st).o (l.map λp=>(p.1,p.2.er))=zw (us.map dL)/\us.map (·.t)=l.flatMap λp=>p.2.tys
 | [],us,h=>by simp only[rC,Q0]at h;subst h;exact⟨rfl,rfl⟩
 |(g',k)::l,us,h=>by
  simp only[rC]at h;split at h
  rotate_left
  cases h;rename_i u v b q;cases h;obtain⟨c,d⟩:=MB q;cases hg:m.lookup g' with
  |none=>rw[hg]at b;cases b
  |some w=>
   rw[hg]at b;cases w with
   |some g=>obtain⟨j,a2⟩:=ZI b;have j:coO m k.er ((bD st).o g)=_:=j;refine⟨?_,by simp only[XX,a2,d,Z6]⟩;simp only[Qf,xw,hg,j,c,XX]
   |none=>
    simp only at b;split at b
    .cases b;refine⟨?_,by simp only[XX,d,Z6];rfl⟩;simp only[Qf,xw,hg,c,XX];rfl
    .cases b;refine⟨?_,by simp only[XX,d,Z6];rfl⟩;simp only[Qf,xw,hg,c,XX];rfl
    .cases b
theorem MC{j:Pq}{st:jL}(h:Et j m st=zw vs):coerce j.er m (bD st)=zw (vs.map dL)/\vs.map (·.t)=j.tys:=by
 unfold Et at h;split at h
 rotate_left
 cases h;rename_i b;split at h
 rotate_left
 cases h;rename_i u v c d;cases h;obtain⟨g,a2⟩:=Iz c;obtain⟨q,w⟩:=MB d;refine⟨?_,by simp only[XX,a2,w,Pq.tys]⟩;unfold coerce;rw[QQ b];show (match tH m (bD st).s (j.slots.map λp=>(p.1,p.2.er)),xw m (bD st).o (j.bI.map λp=>(p.1,p.2.er))with|some u,zw v=>zw (u++v)|_,_=>zz)=_;rw[g,q,XX]
end
end Go.Fg

namespace Go.Fg
open Go.Fw
section
variable [RE] {o:Nat->TO}
theorem zM:∀{gs:List Nat} {caps:List TW} {r:List (Nat×Nat)},qJ gs caps=zw r->oO gs (oQ caps)=zw r
 | [],[],r,h=>h
 | [],_::_,r,h=>by simp[qJ]at h
 |_::_,[],r,h=>by simp[qJ]at h
 |g::gs,c::j,r,h=>by
  cases c with
  |box g' off=>
   simp only[qJ]at h;obtain⟨b,h⟩:=cZ h;have b:=Q6 b;subst b;split at h
   .rename_i m d;simp only[oQ,dn,oO,zM d];exact h
   .cases h
  |_=>simp[qJ]at h
variable{k:kH}{x:TW}
theorem Vt{us:List Wd}{gs:List Nat}(h:Pv o k x=zw (us,c,gs,r)):
  gK (dw o) k.er (dn x)=zw (us.map dL,c,gs,r)/\us.map (·.t)=k.tys:=by
 unfold Pv at h;split at h
 .rename_i a i t x;split at h
  .rename_i y J K w z;cases h;exact⟨by simp only[kH.er,gK,Ri z,Qf,Vc],rfl⟩
  .cases h
 .cases h;exact⟨rfl,rfl⟩
 .rename_i g' m g off;obtain⟨b,h⟩:=cZ h;cases h;obtain⟨d,j⟩:=jm b;have d:=Q6 d;have j:=Q6 j;subst d;subst j;exact⟨rfl,rfl⟩
 .rename_i f B L q;obtain⟨b,h⟩:=cZ h;split at h
  .rename_i M H;cases h;refine⟨?_,rfl⟩;simp only[kH.er,dn,gK,zM H];rw[QQ (Q6 b)];rfl
  .cases h
 .cases h
theorem PI:∀{b:List kH} {xs:List TW} {us:List Wd} {c:Bool×Bool} {gs:List Nat} {r:List (Nat×Nat)},qU o b xs=zw (us,c,gs,r)->
  kE (dw o) (b.map kH.er) (xs.map dn)=zw (us.map dL,c,gs,r)/\us.map (·.t)=b.flatMap kH.tys
 | [],[],us,c,gs,r,h=>by simp only[qU,Q0,QP]at h;obtain⟨rfl,rfl,rfl,rfl⟩:=h;exact⟨rfl,rfl⟩
 | [],x::xs,us,c,gs,r,h=>by simp[qU]at h
 |k::b,[],us,c,gs,r,h=>by simp[qU]at h
 |k::b,x::xs,us,c,gs,r,h=>by
  simp only[qU]at h;split at h
  .rename_i d g;cases h;obtain⟨j,a2⟩:=Vt d;obtain⟨m,q⟩:=PI g;exact⟨by simp only[Qf,kE,j,m,XX],by simp only[XX,a2,q,Z6]⟩
  .cases h
theorem afu{k:lu}{x:TS}{us:List Wd}{gs:List Nat}(h:Zr o k x=zw (us,c,gs,r)):
  pJ (dw o) k.er (bJ x)=zw (us.map dL,c,gs,r)/\us.map (·.t)=k.tys:=by
 unfold Zr at h;split at h
 .exact Vt h
 .exact PI h
 .cases h
theorem PK(args:List TS)(t:Nat):(args.map bJ).getD t .no=bJ (args.getD t .no):=by simp only[Q1,Z0];cases args[t]?<;>rfl
theorem EI{args:List TS}:∀{l:List (Nat×lu)} {us:List Wd} {c:Bool×Bool} {gs:List Nat} {r:List (Nat×Nat)},oC o args l=zw (us,c,gs,r)->
  fQ (dw o) (args.map bJ) (l.map λp=>(p.1,p.2.er))=zw (us.map dL,c,gs,r)/\us.map (·.t)=l.flatMap λp=>p.2.tys
 | [],us,c,gs,r,h=>by simp only[oC,Q0,QP]at h;obtain⟨rfl,rfl,rfl,rfl⟩:=h;exact⟨rfl,rfl⟩
 |(t,k)::l,us,c,gs,r,h=>by
  simp only[oC]at h;split at h
  .rename_i d g;cases h;obtain⟨b,a2⟩:=afu d;obtain⟨j,m⟩:=EI g;rw[<-PK]at b;exact⟨by simp only[Qf,fQ,b,j,XX],by simp only[XX,a2,m,Z6]⟩
  .cases h
theorem aiX{us:List Wd}(h:anc k x=zw (us,c,r)):Xc k.er (dn x)=zw (us.map dL,c,r)/\us.map (·.t)=k.tys:=by
 unfold anc at h;split at h
 .rename_i M N t a i w;split at h
  .rename_i y m;cases h;rw[iR m];exact⟨rfl,rfl⟩
  .cases h
 .split at h
  .cases h;exact⟨rfl,rfl⟩
  .cases h
 .cases h;exact⟨rfl,rfl⟩
 .rename_i g' d g off;obtain⟨b,h⟩:=cZ h;simp only[QR]at b;have q:=Q6 b.1;have z:=Q6 b.2;subst q;subst z;injection h with h
  injection h with B h
  injection h with H J
  subst B H J;exact⟨rfl,rfl⟩
 .rename_i f K T j;obtain⟨b,h⟩:=cZ h;split at h
  .rename_i U L;cases h;refine⟨?_,rfl⟩;simp only[kH.er,dn,Xc,zM L];rw[QQ (Q6 b)];rfl
  .cases h
 .cases h
theorem Vu:∀{b:List kH} {xs:List TW} {us:List Wd} {c:Bool×Bool} {r:List (Nat×Nat)},LQ b xs=zw (us,c,r)->
  QL (b.map kH.er) (xs.map dn)=zw (us.map dL,c,r)/\us.map (·.t)=b.flatMap kH.tys
 | [],[],us,c,r,h=>by simp only[LQ,Q0,QP]at h;obtain⟨rfl,rfl,rfl⟩:=h;exact⟨rfl,rfl⟩
 | [],x::xs,us,c,r,h=>by simp[LQ]at h
 |k::b,[],us,c,r,h=>by simp[LQ]at h
 |k::b,x::xs,us,c,r,h=>by
  simp only[LQ]at h;split at h
  .rename_i d g;cases h;obtain⟨j,a2⟩:=aiX d;obtain⟨m,q⟩:=Vu g;exact⟨by simp only[Qf,QL,j,m,XX],by simp only[XX,a2,q,Z6]⟩
  .cases h
theorem xR:∀{l:List (Nat×iP)} {ren b:List (Nat×Nat)} {us:List Wd} {c:Bool×Bool},xM o ren l=zw (us,c,b)->
  j_ (dw o) ren (l.map λp=>(p.1,p.2.er))=zw (us.map dL,c,b)/\us.map (·.t)=l.flatMap λp=>p.2.tys
 | [],ren,b,us,c,h=>by simp only[xM,Q0,QP]at h;obtain⟨rfl,rfl,rfl⟩:=h;exact⟨rfl,rfl⟩
 |(g',k)::l,ren,b,us,c,h=>by
  simp only[xM]at h;split at h
  rotate_left
  cases h;rename_i g hg;split at h
  .rename_i K ws d;split at h
   rotate_left
   cases h;rename_i u c1 r1 Y;split at h
   .rename_i L M N m;cases h;obtain⟨Z,a2⟩:=Vu Y;obtain⟨q,w⟩:=xR m;have y:(iP.box K).er=.box (K.map kH.er):=rfl;exact⟨by simp only[Qf,j_,hg,y,pW d,Z,q,XX],by simp only[XX,a2,w,Z6];rfl⟩
   .cases h
  .rename_i T a0 i0 e a i e' l' d;split at h
   rotate_left
   cases h;rename_i U j;split at h
   rotate_left
   cases h;rename_i L M N m;cases h;obtain⟨q,w⟩:=xR m;obtain⟨z,j⟩:=pY j;cases z;subst j;refine⟨?_,by simp only[Qf,w,Z6];rfl⟩;have y:(iP.arr T a0 i0 e).er=.arr T a0 i0 (size e):=rfl;simp only[Qf,j_,hg,y,iY d,if_true,q];rfl
  .rename_i a0 i0 e B a i e' iZ l' X d;split at h
   rotate_left
   cases h;rename_i U j H;split at h
   rotate_left
   cases h;rename_i L M N m;cases h;obtain⟨q,w⟩:=xR m;obtain⟨z,j⟩:=pY j;cases z;subst j;have:=qg H;subst this;refine⟨?_,by simp only[Qf,w,Z6];rfl⟩;have y:(iP.aO a0 i0 e B).er=.aO a0 i0 (size e) (gY B):=rfl;have J:dw o g=.aO a i (size e) (gY B) (aK e U) zz:=by simp only[dw,d,eH]
   simp only[Qf,j_,hg,y,J,and_self,if_true,q];rfl
  .cases h
theorem ZJ{us:List Wd}{gs:List Nat}(h:Pv o k x=zw (us,c,gs,r)):Pl o gs:=by
 unfold Pv at h;split at h
 .split at h
  .rename_i b;simp only[Q0,QP]at h;obtain⟨_,_,rfl,_⟩:=h;exact XR b
  .cases h
 .simp only[Q0,QP]at h;obtain⟨_,_,rfl,_⟩:=h;exact Pl.nil
 .obtain ⟨d,h⟩:=cZ h;simp only[Q0,QP]at h;obtain⟨_,_,rfl,_⟩:=h;exact Pl.nil
 .obtain ⟨d,h⟩:=cZ h;split at h
  .simp only[Q0,QP]at h;obtain⟨_,_,rfl,_⟩:=h;exact Pl.nil
  .cases h
 .cases h
theorem Vx:∀{b:List kH} {xs:List TW} {us:List Wd} {c:Bool×Bool} {gs:List Nat} {r:List (Nat×Nat)},qU o b xs=zw (us,c,gs,r)->Pl o gs
 | [],[],us,c,gs,r,h=>by simp only[qU,Q0,QP]at h;obtain⟨_,_,rfl,_⟩:=h;exact Pl.nil
 | [],x::xs,us,c,gs,r,h=>by simp[qU]at h
 |k::b,[],us,c,gs,r,h=>by simp[qU]at h
 |k::b,x::xs,us,c,gs,r,h=>by
  simp only[qU]at h;split at h
  .rename_i d g;simp only[Q0,QP]at h;obtain⟨_,_,rfl,_⟩:=h;exact(ZJ d).append (Vx g)
  .cases h
theorem IB{args:List TS}:∀{l:List (Nat×lu)} {us:List Wd} {c:Bool×Bool} {gs:List Nat} {r:List (Nat×Nat)},oC o args l=zw (us,c,gs,r)->Pl o gs
 | [],us,c,gs,r,h=>by simp only[oC,Q0,QP]at h;obtain⟨_,_,rfl,_⟩:=h;exact Pl.nil
 |(t,k)::l,us,c,gs,r,h=>by
  simp only[oC]at h;split at h
  rotate_left
  cases h;rename_i b d;simp only[Q0,QP]at h;obtain⟨_,_,rfl,_⟩:=h;refine Pl.append ?_ (IB d);unfold Zr at b;split at b
  .exact ZJ b
  .exact Vx b
  .cases b
variable{s:b_}{c:Jj}
theorem acC{args:List TS}(h:AA s o args=zw c):Pl o c.wP:=by
 unfold AA at h;split at h
 .rename_i b;split at h
  .cases h;exact IB b
  .cases h
 .cases h
theorem MF{args:List TS}(h:AA s o args=zw c):jo s.er (dw o) (args.map bJ)=zw c.er/\c.ins.map (·.t)=s.pin.tys:=by
 unfold AA at h;split at h
 rotate_left
 cases h;rename_i u A gs r g;split at h
 rotate_left
 cases h;rename_i q I w j;cases h;obtain⟨b,a2⟩:=EI g;obtain⟨d,m⟩:=xR j;refine⟨?_,by simp only[XX,a2,m,Pq.tys]⟩;unfold jo;have b:fQ (dw o) (args.map bJ) s.er.pin.slots=_:=b;have d:j_ (dw o) r s.er.pin.bI=_:=d;rw[b];simp only;rw[d];simp only[Jj.er,XX]
theorem IC(f:Nat->Nat):∀(caps:List TW),oQ (zH f caps)=lI f (oQ caps)
 | []=>rfl
 |c::b=>by cases c<;>simp only[zH,oQ,dn,lI,IC f b]
theorem ZK(A I:Bool×Bool)(f:Nat->Nat)(x:TW):dn (acA A I f x)=Xd A I f (dn x):=by cases x<;>simp only[acA,dn,Xd,IC]
theorem Vy(A I:Bool×Bool)(f:Nat->Nat)(xs:List TW):(xs.map (acA A I f)).map dn=(xs.map dn).map (Xd A I f):=by simp only[UP];exact W8 λx _=>ZK A I f x
theorem aiY(A I:Bool×Bool)(f:Nat->Nat)(x:TV):kG (ane A I f x)=reV A I f (kG x):=by cases x<;>simp only[ane,kG,reV,ZK,Vy]
theorem aiZ(A I:Bool×Bool)(f:Nat->Nat)(x:TS):kG (ae_ A I f x)=Y8 A I f (bJ x):=by
 cases x with
 |v x=>exact aiY A I f x
 |jy xs=>simp only[ae_,bJ,Y8,kG,dn]
 |no=>simp only[ae_,bJ,Y8,kG,dn]
theorem RY(A I:Bool×Bool)(f:Nat->Nat)(x:TO):eH (Ry A I f x)=yK A I f (eH x):=by cases x<;>simp only[Ry,eH,yK,Vy]
theorem afv(vs:List TV):bJ (afa vs)=abQ (vs.map kG):=by
 match vs with
 | []=>rfl
 | [x]=>rfl
 |x::y::vs=>rfl
theorem ZL{α β:Type}(g:α->β)(b:Bool)(x y:α):g (bif b then x else y)=if b=zj then g x else g y:=by cases b<;>rfl
theorem Vz{dR:List Wd}(h:dR.map (·.t)=s.aU.tys)(j:Pl o c.wP):(vY s g o c dR).er=lJ s.er g (dw o) c.er (dR.map dL):=by
 have q:=zL h;have m :∀k,bJ ((mkT s.aU dR).gs k)=(mk s.aU.er (dR.map dL)).s k:=λk=>by rw[<-q];rfl
 have b :∀k,eH ((mkT s.aU dR).go k)=(mk s.aU.er (dR.map dL)).o k:=λk=>by rw[<-q];rfl
 have w:s.er.aU=s.aU.er:=rfl;have y:s.er.bH=s.bH:=rfl;have z:s.er.aY=s.aY:=rfl;have B:s.er.bV=s.bV:=rfl;have H:c.er.A=c.A:=rfl;have J:c.er.I=c.I:=rfl;have K:c.er.wP=c.wP:=rfl;have N:c.er.ren=c.ren:=rfl;unfold vY lJ jX.er;rw[w,y,z,B,H,J,K,N];generalize mk s.aU.er (dR.map dL)=M at m b;generalize mkT s.aU dR=X at m b;generalize s.er.nK=L;have T:bJ (afa ((List.range s.bV).map λk=>ae_ c.A c.I (callName g s.er c.ren) (X.gs k)))=abQ ((List.range s.bV).map λk=>Y8 c.A c.I (callName g s.er c.ren) (M.s k)):=by rw[afv,UP];congr 1;refine W8 λk _=>?_;simp only[Function.comp,aiZ,m]
 have U:jk (bif L then c.wP.map (mX o)else[])=if L=zj then c.wP.map (Fw.bC (dw o))else[]:=by rw[ZL jk,qI j];rfl
 have Y:jk (c.ren.map λp=>(p.2,bif s.bH.contains p.1 then Ry c.A c.I (callName g s.er c.ren) (X.go p.1)else .none))=c.ren.map λp=>(p.2,if s.bH.contains p.1=zj then yK c.A c.I (callName g s.er c.ren) (M.o p.1)else .none):=by simp only[jk,UP];refine W8 λp _=>?_;simp only[Function.comp,ZL eH,RY,b];rfl
 have Z:jk (s.aY.map λd=>(callName g s.er c.ren d,Ry c.A c.I (callName g s.er c.ren) (X.go d)))=s.aY.map λd=>(callName g s.er c.ren d,yK c.A c.I (callName g s.er c.ren) (M.o d)):=by simp only[jk,UP];refine W8 λp _=>?_;simp only[Function.comp,RY,b]
 simp only[mM,T,U,Y,Z]
theorem JC(ts:List Ty):∀{b:List Wd} {x:Tup ts},Tup.ofL ts b=zw x->Tup.mQ ts x=b:=by
 induction ts with
 |nil=>
  intro b x h;cases b with
  |nil=>rfl
  |cons w b=>cases h
 |cons t ts c=>
  cases ts with
  |nil=>
   intro b x h;cases b with
   |nil=>cases h
   |cons w b=>
    cases b with
    |nil=>have h:w.Dv t=zw x:=h;rw[iR h];rfl
    |cons u b=>cases h
  |cons u ts=>
   intro b x h;cases b with
   |nil=>cases h
   |cons w b=>
    have h:(match w.Dv t,Tup.ofL (u::ts) b with|some x,zw xs=>zw (x,xs)|_,_=>zz)=zw x:=h;split at h
    .rename_i y d g j;cases h;show (⟨t,y⟩:Wd)::Tup.mQ (u::ts) d=w::b;rw[c j,iR g]
    .cases h
theorem xU:∀(ts:List Ty) (x:Tup ts),(Tup.mQ ts x).map (·.t)=ts
 | [],x=>rfl
 | [t],x=>rfl
 |t::u::ts,x=>by simp only[Tup.mQ,Qf,xU (u::ts)]
def aV.er(s:aV):Fw.Spec:={ sig:=s.sig.er,R:=λins dR=>∃x y,s.ff x=zw y/\ins=(Tup.mQ s.sig.pin.tys x).map dL/\dR=(Tup.mQ s.sig.aU.tys y).map dL }
theorem VA{A:Type}{x y:R}{r:Option A}{z:A}(h:zG x y r=zw z):x=y/\r=zw z:=by
 unfold zG at h;split at h
 .rename_i e;exact⟨e,h⟩
 .cases h
theorem CX{R:Type}{a b:Nat->TO}{r z:R}:∀{gs:List Nat},Eu a b r gs=zw z->r=z/\∀g∈gs,tK (eH (b g))=tK (eH (a g))
 | [],h=>by simp only[Eu,Q0]at h;exact⟨h,λg hg=>by cases hg⟩
 |g::gs,h=>by
  simp only[Eu]at h;split at h
  .rename_i e l _ _ B H d j;split at h
   rotate_left
   cases h;rename_i m c;obtain⟨q,h⟩:=VA h;obtain⟨q1,q2⟩:=CX h;refine⟨q1,λg' hg=>?_⟩;rcases Xs.1 hg with rfl|hg
   .rw [d,j];subst q;obtain⟨w,c⟩:=pY c;cases w;subst c;rfl
   .exact q2 g' hg
  .rename_i e J l _ _ B K H d j;split at h
   rotate_left
   cases h;rename_i m c y;obtain⟨q,h⟩:=VA h;obtain⟨q1,q2⟩:=CX h;refine⟨q1,λg' hg=>?_⟩;rcases Xs.1 hg with rfl|hg
   rotate_left
   exact q2 g' hg;rw[d,j];subst q;obtain⟨w,c⟩:=pY c;cases w;subst c;have:=qg y;subst this;rfl
  .cases h
theorem RZ{s:aV}{x:Tup s.sig.pin.tys}{y:Tup s.sig.aU.tys}(h:s.ff x=zw y):s.f x=zw y/\∀g∈s.sig.kept,tK (eH ((mkT s.sig.aU (Tup.mQ s.sig.aU.tys y)).go g))=tK (eH ((mkT s.sig.pin (Tup.mQ s.sig.pin.tys x)).go g)):=by
 obtain⟨⟨na,pin,aU,d,j,m,kept⟩,f⟩:=s;cases kept with
 |nil=>exact⟨h,λg hg=>by cases hg⟩
 |cons g0 gs=>
  have h:(f x).bind (λy=>Eu (mkT pin (Tup.mQ pin.tys x)).go (mkT aU (Tup.mQ aU.tys y)).go y (g0::gs))=zw y:=h;cases b:f x with
  |none=>rw[b]at h;cases h
  |some z=>rw[b]at h;obtain⟨e,c⟩:=CX h;subst e;exact⟨b,c⟩
theorem PO(same:List Nat):∀(l:List (Nat×TO)),jk (Px same l)=(jk l).filter λp=>!same.contains p.1
 | []=>rfl
 |(g,x)::r=>by
  have b:=PO same r;simp only[Px];have e:jk ((g,x)::r)=(g,eH x)::jk r:=rfl;rw[e,zb,<-bZ];cases h:gG g same with
  |true=>simp only[Bool.not_true,Wb,if_false];exact b
  |false=>simp only[vz,if_true];show (g,eH x)::jk (Px same r)=_;rw[b]
def MG(s:b_)(d:Nat)(o:Nat->TO)(c:Jj)(dR:List Wd):List Nat:=match s.kept with
 | []=>[]
 |_::_=>Ew s o (λg'=>Ry c.A c.I (callName d s.er c.ren) ((mkT s.aU dR).go g')) c.ren
theorem R_{o:Nat->TO}{dR:List Wd}:(AB s g o c dR).er=D5 (MG s g o c dR) (vY s g o c dR).er:=by
 obtain⟨na,pin,b,d,h,j,kept⟩:=s;cases kept with
 |nil=>
  show (vY _ g o c dR).er=D5 [] _;have :∀(e:Eff),e=D5 [] e:=λe=>by unfold D5;have:e.aJ.filter (λp=>!([]:List Nat).contains p.1)=e.aJ:=List.filter_eq_self.2 λp _=>rfl;rw[this]
  exact this _
 |cons g0 gs=>unfold AB D5 MG jX.er;simp only[PO]
theorem PU(h:anf a i=zj):a=i:=by cases a<;>cases i<;>first|rfl|cases h
theorem IE{x:TO}(h:X9 x=zw (a,i)):uP (eH x)=(a,i)/\Xu (eH x)=zj:=by
 cases x with
 |arr c d g e l=>cases c<;>cases h;exact⟨rfl,rfl⟩
 |aO d g e j l b=>cases b<;>cases h;exact⟨rfl,rfl⟩
 |_=>cases h
theorem MH{s:b_}{o f:Nat->TO}{g:Nat}:∀{r:List (Nat×Nat)},g∈Ew s o f r->∃g',(g',g)∈r/\g'∈s.kept/\s.bH.contains g'=zj/\uP (eH (f g'))=uP (eH (o g))/\Xu (eH (o g))=zj
 | [],h=>by cases h
 |(c,g1)::r,h=>by
  simp only[Ew]at h;have b:g∈Ew s o f r->∃g',(g',g)∈(c,g1)::r/\g'∈s.kept/\s.bH.contains g'=zj/\uP (eH (f g'))=uP (eH (o g))/\Xu (eH (o g))=zj:=λh=>
   let ⟨g',q,w⟩:=MH h
   ⟨g',V1 _ q,w⟩
  split at h
  rotate_left
  exact b h;rename_i a i K L y z B;split at h
  rotate_left
  exact b h;rename_i H;rcases Xs.1 h with rfl|h
  rotate_left
  exact b h;obtain⟨d,j⟩:=jm H;have d:=PU d;have j:=PU j;subst d;subst j;obtain⟨m,J⟩:=jm y;obtain⟨f1,f2⟩:=IE z;obtain⟨f3,_⟩:=IE B;rw[bZ]at m;exact⟨c,by simp,by simpa using m,J,by rw[f1,f3],f2⟩
theorem VB{sp:aV}(b:sp.sig.er.ok=zj){o:Nat->TO}{args:List S}(q:jo sp.sig.er (dw o) args=zw c.er)(w:c.er.fine sp.sig.er=zj){x:Tup sp.sig.pin.tys}{y:Tup sp.sig.aU.tys}(z:Tup.mQ sp.sig.pin.tys x=c.ins)(B:sp.ff x=zw y):
  ∀d∈MG sp.sig g o c (Tup.mQ sp.sig.aU.tys y),d∈c.er.ren.map (·.2)/\(lJ sp.sig.er g (dw o) c.er ((Tup.mQ sp.sig.aU.tys y).map dL)).aJ.lookup d=zw (dw o d):=by
 intro d hg;have hg:d∈Ew sp.sig o (λg'=>Ry c.A c.I (callName g sp.sig.er c.ren) ((mkT sp.sig.aU (Tup.mQ sp.sig.aU.tys y)).go g')) c.ren:=by
  unfold MG at hg;split at hg
  .cases hg
  .exact hg
 obtain⟨g',H,J,K,h,L⟩:=MH hg;have j:(g',d)∈c.er.ren:=H;refine⟨XN.2 ⟨(g',d),j,rfl⟩,?_⟩;have m:eH ((mkT sp.sig.aU (Tup.mQ sp.sig.aU.tys y)).go g')=(Fw.mk sp.sig.er.aU ((Tup.mQ sp.sig.aU.tys y).map dL)).o g':=W2 (λs=>s.o g') (zL (xU _ y));have M:eH ((mkT sp.sig.pin (Tup.mQ sp.sig.pin.tys x)).go g')=(Fw.mk sp.sig.er.pin c.er.ins).o g':=by have:=W2 (λs=>s.o g') (zL (xU _ x));rw[z]at this ⊢;exact this
 refine abY b q w j K ?_ L ?_
 .rw [<-m,<-M];exact(RZ B).2 g' J
 .rw [RY]at h;rw[<-m];exact h
def nO(T:lQ):Tab:=λf=>(T f).map aV.er
theorem zN(l:List (Nat×TO)):∀(u:List (Nat×TO)) (g:Nat),kC .none (Ey l u) g=match u.lookup g with|some x=>x|none=>kC .none l g
 | [],g=>rfl
 |(k,x)::u,g=>by simp only[Ey,rQ,List.lookup,JB,zN l u g];cases h:Nat.beq g k<;>rfl
theorem PY(q:kJ)(dst:Option Tmp)(e:jX):bD (q.eff dst e).st=(bD q.st).eff dst e.er:=by
 have b :∀g,eH (kC .none (Ey q.st.o e.aJ) g)=match (jk e.aJ).lookup g with|some x=>x|none=>eH (kC .none q.st.o g):=λg=>by rw[zN];have:(jk e.aJ).lookup g=(e.aJ.lookup g).map eH:=qL eH g e.aJ;rw[this];cases e.aJ.lookup g<;>rfl
 have hu :∀g,gG g (e.new++q.st.u)=(e.new.contains g||gG g q.st.u):=λg=>by simp[bZ]
 cases dst with
 |none=>
  refine St.ext' (λt=>rfl) (λg=>?_) λg=>?_
  .exact b g
  .exact hu g
 |some d=>
  refine St.ext' (λt=>?_) (λg=>?_) λg=>?_
  .show bJ (kC .no (zx d e.x q.st.s) t)=bif Nat.beq t d then bJ e.x else bJ (kC .no q.st.s t)
   rw[rQ];cases Nat.beq t d<;>rfl
  .exact b g
  .exact hu g
end
end Go.Fg

namespace Go.Fg
open Go.Fw
section
variable [fO]
theorem Gs{T:Tab}{tt:TT}{ops:Array Oper}{st:St}{o:Eff->Prop}(d :∀e,K e->o e)(h:stepW T tt g ops x st K):stepW T tt g ops x st o:=by
 unfold stepW at *;refine⟨h.1,?_⟩;have h:=h.2;split at h
 .exact pK (λe c=>⟨c.1,d e c.2⟩) h
 .split at h
  .rename_i b j;cases b with
   |true=>simp only[cond_true]at h ⊢;exact pK (λe c=>⟨c.1,d e c.2⟩) h
   |false=>exact d _ h
  .exact h
theorem MI{T:Tab}{tt:TT}{ops:Array Oper}{st:St}{o:Eff->Prop}(d :∀e,K e->o e)(h:Ed T tt g ops x st K):Ed T tt g ops x st o:=by
 unfold Ed at *;split at h
 .exact ⟨h.1,λb c=>d _ (h.2 b c)⟩
 .split at h
  .exact ⟨h.1,λc=>d _ (h.2.1 c),λc=>d _ (h.2.2 c)⟩
  .exact Gs d h
end
theorem ai0{x:Option R}{r:R}(h:ck a x=zw r):a=zj/\x=zw r:=by
 cases a
 .cases h
 .exact ⟨rfl,h⟩
theorem acD{x y:Option R}{r:R}(h:both x y=zw r):x=zw r/\y=zw r:=by
 unfold both at h;split at h
 .rename_i e;exact⟨h,e▸h⟩
 .cases h
section
variable [RE]
theorem ZM{x:Prog R}{r:R}(h:(Prog.chk a x).run=zw r):a=zj/\x.run=zw r:=ai0 h
theorem afw{B n:Type}{f:R->Option B}{a:R}{k:B->Prog n}{r:n}(h:(Prog.call g f a k).run=zw r):∃y,f a=zw y/\(k y).run=zw r:=by
 have h:(f a).bind (λz=>(k z).run)=zw r:=h;cases b:f a with
 |none=>rw[b]at h;cases h
 |some y=>rw[b]at h;exact⟨y,rfl,h⟩
theorem dI{r:R}(h:(Prog.stuck n:Prog R).run=zw r):False:=by cases h
theorem EJ(st:jL):(bD st).dK=λx=>bJ (st.dK x):=funext (mJ st)
theorem afx(x:TS):apP (bJ x)=afd x:=by
 cases x with
 |v x=>cases x with
  |one x=>cases x<;>rfl
  |agg xs=>rfl
 |jy xs=>rfl
 |no=>rfl
theorem PZ:∀l:List TS,Y9 (l.map bJ)=LU l
 | []=>rfl
 |x::l=>by simp only[Qf,Y9,LU,afx x,PZ l];cases afd x<;>rfl
variable{T:lQ}
theorem MJ{fn:Nat}{st:jL}{args:List Operand}:pick (nO T) fn (args.map (bD st).dK)=(Zt T fn (args.map st.dK)).map aV.er:=by
 have e:args.map (bD st).dK=(args.map st.dK).map bJ:=by rw[EJ,UP];rfl
 have b:Ux fn ((args.map st.dK).map bJ)=Gm fn (args.map st.dK):=by unfold Ux Gm;rw[PZ];cases LU (args.map st.dK)<;>rfl
 rw[e];unfold pick Zt;rw[b];cases Nat.blt fn 1000000 with
 |false=>rfl
 |true=>simp only[nO];cases T (Gm fn (args.map st.dK))<;>rfl
theorem ZN{x:TS}{fn:FuncId}{caps:List TW}(h:x=.v (.one (.clo fn caps))):bJ x=.v (.one (.clo fn (caps.map dn))):=by subst h;simp only[bJ,kG,dn,Aw]
theorem MK(st:jL)(args:List Operand)(caps:List TW):
  (args.map (bD st).dK)++(caps.map dn).map (λx=>S.v (.one x))=((args.map st.dK)++caps.map λx=>TS.v (.one x)).map bJ:=by
 simp only[XX,UP,EJ];rfl
theorem P5{o:Nat->TO}{e:Ty}{au:List (Nat×Ty)}{l:List (Dt e)}(j:Vk (o g)=zw n)(b:yC o g=zw ⟨a,i,e,au,l⟩):Fw.lD (dw o) g=jk [(g,.aO a i e au l zz),(n,.none)]:=by
 unfold yC at b;cases m:o g with
 |aO a0 i0 q w y h=>
  rw[m]at j b;have hg:dw o g=.aO a0 i0 (size q) (gY w) (aK q y) h:=by simp[dw,m,eH]
  rcases h with _|⟨d,c,z⟩;cases j;simp only[Vk,Q0]at j;subst j;simp only at b;cases hd:o z with
  |arr B M N T U=>
   rw[hd]at b;cases B with
   |true=>cases b
   |false=>
    simp only at b;split at b
    .rename_i H;cases b;obtain⟨J,K,L⟩:=vT H;simp only[Fw.lD,hg,iY hd];rw[QQ ⟨J,L⟩,<-CJ K];rfl
    .cases b
  |_=>rw[hd]at b;cases b
 |_=>rw[m]at j;cases j
theorem ML(st:jL)(u:List (Nat×TO)):bD { st with o:=Ey st.o u }=(bD st).aJ (jk u) []:=by
 refine St.ext' (λt=>rfl) (λg=>?_) λg=>by simp[bD,St.aJ]
 show eH (kC .none (Ey st.o u) g)=match (jk u).lookup g with|some x=>x|none=>eH (kC .none st.o g)
 rw[zN];have:(jk u).lookup g=(u.lookup g).map eH:=qL eH g u;rw[this];cases u.lookup g<;>rfl
theorem gU{α β:Type}{f g:α->List β}:∀{l:List α},(∀x∈l,f x=g x)->l.flatMap f=l.flatMap g
 | [],_=>rfl
 |x::l,h=>by simp only[Z6,h x (by simp),gU (l:=l) λy b=>h y (by simp[b])]
theorem vI(f:FuncId)(caps:List W):(W.clo f caps).names=caps.flatMap W.names:=by
 rw[W.names];have :∀(l:List {x // x∈caps}),(l.flatMap λx=>x.1.names)=(l.map (·.1)).flatMap W.names:=λl=>by rw[zc]
 rw[this,List.attach_map_subtype_val]
theorem IG:∀(caps:List TW),zI caps=(oQ caps).flatMap W.names
 | []=>rfl
 |c::b=>by cases c<;>simp[zI,oQ,dn,W.names,IG b]
theorem CY(x:TW):W.namesT x=(dn x).names:=by
 cases x with
 |clo f b=>simp only[W.namesT,dn,vI,IG]
 |_=>simp only[W.namesT,dn,W.names]
theorem MN(x:TV):V.namesT x=(kG x).names:=by
 cases x with
 |one x=>exact CY x
 |agg xs=>simp only[V.namesT,kG,V.names,zc];exact gU λx _=>CY x
theorem xW(x:TS):S.namesT x=(bJ x).names:=by
 cases x with
 |v x=>exact MN x
 |jy xs=>simp only[S.namesT,bJ,S.names,zc];exact gU λx _=>MN x
 |no=>rfl
theorem P6{tt:TT}{ety:TypeId->Option Ty}{st:jL}{o:Oper}{K:jX->Prog R}{r:R}(h:(Zu T tt ety g st o K).run=zw r):
  lq (nO T) tt g (bD st) o λe=>∃d:jX,e=d.er/\(K d).run=zw r:=by
 have plain :∀op,(match jW tt ety g st.go st.dK op o.type with
   |some r=>Prog.chk r.pre (.let_ r.val λz=>K { x:=r.dst z,aJ:=r.aJ z,new:=r.new })
   |none=>match eP tt ety g st.go st.dK op o.type with
    |some r=>Prog.chk r.pre (.let_ r.val λz=>K { x:=r.dst z,aJ:=r.aJ z,new:=r.new })
    |none=>.stuck 16).run=zw r->(∃L b,dY tt L g (bD st).o (bD st).dK op o.type=zw b/\b.pre/\Oe b.val λz=>∃d:jX,({ x:=b.dst z,aJ:=b.aJ z,new:=b.new }:Eff)=d.er/\(K d).run=zw r)\/(match kernel tt g (bD st).o (bD st).dK op o.type with
   |some b=>b.pre/\bif H_ op then Oe b.val λz=>(∃d:jX,({ x:=b.dst z,aJ:=b.aJ z,new:=b.new }:Eff)=d.er/\(K d).run=zw r)else(∃d:jX,({ x:=b.dst b.val,aJ:=b.aJ b.val,new:=b.new }:Eff)=d.er/\(K d).run=zw r)
   |none=>False):=by
  intro op h;split at h
  .rename_i j M;obtain⟨H,N⟩:=ZM h;obtain⟨L,b,m,q⟩:=Vh op j M;refine .inl ⟨L,b,by rw[EJ];exact m,q.pre H,Oe.iff.2 ⟨{ x:=j.dst j.val,aJ:=j.aJ j.val,new:=j.new },?_,N⟩⟩;simp only[jX.er,q.dst,q.aJ,q.new]
  refine .inr ?_;split at h
  rotate_left
  exact(dI h).elim;rename_i j M;obtain⟨H,N⟩:=ZM h;obtain⟨b,m,q,hn⟩:=X3 op j M;have q:=q H;have m:kernel tt g (bD st).o (bD st).dK op o.type=zw b:=by rw[EJ];exact m
  rw[m];refine⟨q.pre H,?_⟩;have key :∃d:jX,({ x:=b.dst b.val,aJ:=b.aJ b.val,new:=b.new }:Eff)=d.er/\(K d).run=zw r:=⟨{ x:=j.dst j.val,aJ:=j.aJ j.val,new:=j.new },by simp only[jX.er,q.dst,q.aJ,hn],N⟩
  cases H_ op with
  |true=>exact Oe.iff.2 key
  |false=>exact key
 unfold Zu at h;unfold lq;split at h
 .rename_i f args ts w;rw[w];simp only;split at h
  rotate_left
  exact(dI h).elim;rename_i fn B hf;have U:=ZN hf;rw[mJ,U];simp only;split at h
  rotate_left
  exact(dI h).elim;rename_i sp hT;have X:pick (nO T) fn (args.toList.map (bD st).dK)=zw sp.er:=by rw[MJ,hT];rfl
  rw[X];simp only;split at h
  rotate_left
  exact(dI h).elim;rename_i c hc;obtain⟨J,k2⟩:=MF hc;have J:jo sp.er.sig (bD st).o ((args.toList.map (bD st).dK)++(B.map dn).map λx=>S.v (.one x))=zw c.er:=by rw[MK];exact J
  rw[J];simp only;split at h
  rotate_left
  exact(dI h).elim;rename_i Zh;split at h
  rotate_left
  exact(dI h).elim;rename_i x hx;split at h
  rotate_left
  .exact (dI h).elim
  rename_i Y;obtain⟨y,hy,h⟩:=afw h;obtain⟨f1,f2⟩:=jm Zh;refine⟨?_,(Tup.mQ sp.sig.aU.tys y).map dL,MG sp.sig g st.go c (Tup.mQ sp.sig.aU.tys y),⟨x,y,hy,?_,rfl⟩,VB Y J f1 (JC _ hx) hy,AB sp.sig g st.go c (Tup.mQ sp.sig.aU.tys y),?_,h⟩
  .have f2:=Q6 f2;simp only[QR,Wa,We];exact⟨f1,f2⟩
  .rw [JC _ hx];rfl
  .rw [R_];exact W2 _ (Vz (xU _ _) (acC hc)).symm
 .rename_i Z;have h:=plain _ h;split
  .rename_i f args ts w;exact(Z _ _ _ w).elim
  .exact h
theorem Gt(x:TO):(eH x).hn=jC x:=by
 cases x with
 |aO a i e c l b=>cases b<;>rfl
 |_=>rfl
theorem Si(x:TO):yY (eH x)=Gn x:=by
 cases x with
 |box b=>show (b.map dn).flatMap W.names=b.flatMap W.namesT;rw[zc];exact gU λx _=>(CY x).symm
 |_=>rfl
theorem II(st:jL):∀(n:Nat) (gs:List Nat),qF (bD st).o n gs=Ez st.go n gs
 |0,_=>rfl
 |n+1,gs=>by have e:(gs.flatMap λg=>yY ((bD st).o g))=gs.flatMap λg=>Gn (st.go g):=gU λg _=>Si (st.go g);simp only[qF,Ez,e,II st n]
theorem EK(st:jL)(o:Oper):argNames (bD st) o=AL st o:=by
 unfold argNames AL;generalize o.op=op;cases op with
 |call c=>
  obtain⟨callee,args,ats⟩:=c;cases callee with
  |value f=>refine gU λx _=>?_;rw[mJ,xW]
  |_=>rfl
 |slice t x lo b d=>show ((bD st).dK x).names=S.namesT (st.dK x);rw[mJ,xW]
 |_=>rfl
theorem MO(st:jL)(o:Oper):uO (bD st) o=Jz st o:=by unfold uO Jz;rw[EK,II]
theorem MP(st:jL)(o:Oper):jJ (bD st) o=JA st o:=by
 unfold jJ JA;rw[MO,EK];refine List.filter_congr λg _=>?_;have:((bD st).o g).hn=jC (st.go g):=Gt _;rw[this];cases jC (st.go g)with
 |nil=>rfl
 |cons d _=>simp only[bZ]
theorem AO:∀{gs:List Nat} {st b:jL},LV gs st=zw b->bD b=Fw.shuts gs (bD st)
 | [],st,b,h=>by simp only[LV,Q0]at h;subst h;rfl
 |g::gs,st,b,h=>by
  simp only[LV]at h;split at h
  .rename_i d a i e m l c j;rw[AO h,ML];have:=P5 c j;have this:Fw.lD (bD st).o g=_:=this;simp only[Fw.shuts];rw[this]
  .cases h
theorem acE{st hs:jL}(h:LV b st=zw hs):Bz b (bD st)=jk (X_ b st hs):=by have e:=AO h;unfold Bz X_ jk;rw[<-e,List.map_flatMap];refine gU λg _=>?_;have:((bD st).o g).hn=jC (st.go g):=Gt _;rw[this,Qf,UP];rfl
theorem afy{tt:TT}{ety:TypeId->Option Ty}{st:jL}{K:jX->Prog R}{r:R}(h:(acB T tt ety g st x K).run=zw r):
  jK (nO T) tt g (bD st) x λe=>∃c:jX,e=c.er/\(K c).run=zw r:=by
 unfold acB at h;unfold jK;rw[MP];split at h
 .rename_i b;rw[b];exact P6 h
 .rename_i o gs b;rw[b];split at h
  rotate_left
  exact(dI h).elim;rename_i m j;have:=P6 h;rw[AO j]at this;refine tV ?_ this;rintro e ⟨c,rfl,h⟩;refine⟨_,?_,h⟩;simp only[D6,jX.er,acE j];simp only[jk,XX]
structure ug(q q':kJ):Prop where
 s :∀t,hasK t q'.st.s=zj->gG t q'.ds=zv->hasK t q.st.s=zj/\gG t q.ds=zv/\q'.st.gs t=q.st.gs t
 o :∀g,hasK g q'.st.o=zj->gG g q'.od=zv->hasK g q.st.o=zj/\gG g q.od=zv/\q'.st.go g=q.st.go g
theorem ug.refl(q:kJ):ug q q:=⟨λt b c=>⟨b,c,rfl⟩,λt b c=>⟨b,c,rfl⟩⟩
theorem ug.trans{a b c:kJ}(z:ug a b)(B:ug b c):ug a c:=
 ⟨λt d g=>let ⟨h,j,m⟩:=B.s t d g;let ⟨q,w,y⟩:=z.s t h j;⟨q,w,m.trans y⟩,
  λt d g=>let ⟨h,j,m⟩:=B.o t d g;let ⟨q,w,y⟩:=z.o t h j;⟨q,w,m.trans y⟩⟩
theorem wu{α:Type}(k:Nat)(v:α)(t:Nat):∀(l:List (Nat×α)),hasK t (zx k v l)=(Nat.beq t k||hasK t l)
 | []=>by simp[zx,hasK]
 |(b,c)::r=>by
  simp only[zx];cases h:Nat.beq k b with
  |true=>have e:=Q6 h;subst e;simp only[cond_true,hasK];cases Nat.beq t k<;>simp
  |false=>simp only[cond_false,hasK,wu k v t r];cases Nat.beq t k<;>cases Nat.beq t b<;>simp
theorem wz{α:Type}(d:α):∀(l:List (Nat×α)) (t:Nat),hasK t l=zv->kC d l t=d
 | [],t,_=>rfl
 |(k,v)::r,t,h=>by simp only[hasK,J2]at h;simp only[kC,h.1,cond_false];exact wz d r t h.2
theorem VD(l:List (Nat×TO))(g:Nat):∀(u:List (Nat×TO)),hasK g (Ey l u)=(gG g (u.map (·.1))||hasK g l)
 | []=>rfl
 |(k,x)::u=>by simp only[Ey,wu,VD l g u,Qf,gG,Bool.or_assoc]
theorem yF{α:Type}(g:Nat):∀{u:List (Nat×α)},gG g (u.map (·.1))=zv->u.lookup g=zz
 | [],_=>rfl
 |(k,x)::u,h=>by simp only[Qf,gG,J2]at h;simp only[List.lookup,JB,h.1];exact yF g h.2
theorem ug.eff(q:kJ)(dst:Option Tmp)(e:jX):ug q (q.eff dst e):=by
 refine⟨λt c b=>?_,λg c b=>?_⟩
 .cases dst with
  |none=>exact⟨c,b,rfl⟩
  |some d=>have b:gG t (d::q.ds)=zv:=b;have c:hasK t (zx d e.x q.st.s)=zj:=c;simp only[gG,J2]at b;rw[wu,b.1,Ka]at c;refine⟨c,b.2,?_⟩;show kC .no (zx d e.x q.st.s) t=kC .no q.st.s t;rw[rQ,b.1];rfl
 .have c:hasK g (Ey q.st.o e.aJ)=zj:=c;have b:gG g (e.aJ.map (·.1)++q.od)=zv:=b;rw[bZ]at b;simp only[vl,J2]at b;rw[<-bZ,<-bZ]at b;rw[VD,b.1,Ka]at c;refine⟨c,b.2,?_⟩;show kC .none (Ey q.st.o e.aJ) g=kC .none q.st.o g;rw[zN,yF g b.1]
variable{q:kJ}
theorem ZO(h:q.st.gs j=.v (.one (.p a i (jE B))))(u:Nat):(q.know j a i B).st.gs u=q.st.gs u:=by
 show kC .no (zx j (.v (.one (.p a i (jE B)))) q.st.s) u=kC .no q.st.s u;rw[rQ];cases c:Nat.beq u j with
 |false=>rfl
 |true=>have e:=Q6 c;subst e;exact h.symm
theorem afz(h:q.st.gs j=.v (.one (.p a i (jE B))))(u:Nat):hasK u (q.know j a i B).st.s=hasK u q.st.s:=by
 show hasK u (zx j (.v (.one (.p a i (jE B)))) q.st.s)=hasK u q.st.s;rw[wu];cases c:Nat.beq u j with
 |false=>rfl
 |true=>
  have e:=Q6 c;subst e;cases d:hasK u q.st.s with
  |true=>rfl
  |false=>have:=wz TS.no q.st.s u d;rw[jL.gs]at h;rw[this]at h;cases h
theorem zO(h:q.st.gs j=.v (.one (.p a i (jE B)))):bD (q.know j a i B).st=bD q.st:=St.ext' (λu=>by show bJ _=bJ _;rw[ZO h]) (λg=>rfl) λg=>rfl
theorem zQ(h:q.st.gs j=.v (.one (.p a i (jE B)))):ug q (q.know j a i B):=⟨λu c d=>⟨by rw[<-afz h];exact c,d,ZO h u⟩,λg c d=>⟨c,d,rfl⟩⟩
theorem VE(h:q.st.gs j=.v (.one (.p a i (jB k v))))(u:Nat):(q.Vl j a i k v).st.gs u=q.st.gs u:=by
 show kC .no (zx j (.v (.one (.p a i (jB k v)))) q.st.s) u=kC .no q.st.s u;rw[rQ];cases b:Nat.beq u j with
 |false=>rfl
 |true=>have e:=Q6 b;subst e;exact h.symm
theorem acF(h:q.st.gs j=.v (.one (.p a i (jB k v))))(u:Nat):hasK u (q.Vl j a i k v).st.s=hasK u q.st.s:=by
 show hasK u (zx j (.v (.one (.p a i (jB k v)))) q.st.s)=hasK u q.st.s;rw[wu];cases b:Nat.beq u j with
 |false=>rfl
 |true=>
  have e:=Q6 b;subst e;cases c:hasK u q.st.s with
  |true=>rfl
  |false=>have:=wz TS.no q.st.s u c;rw[jL.gs]at h;rw[this]at h;cases h
theorem acG(h:q.st.gs j=.v (.one (.p a i (jB k v)))):bD (q.Vl j a i k v).st=bD q.st:=St.ext' (λu=>by show bJ _=bJ _;rw[VE h]) (λg=>rfl) λg=>rfl
theorem acH(h:q.st.gs j=.v (.one (.p a i (jB k v)))):ug q (q.Vl j a i k v):=⟨λu b c=>⟨by rw[<-acF h];exact b,c,VE h u⟩,λg b c=>⟨b,c,rfl⟩⟩
theorem VF{R:Type}{v:Int}{k:Int->Prog R}{r:R}:∀(n m:Nat),(Zw v k m n).run=zw r->(k v).run=zw r
 |0,_,h=>(dI h).elim
 |1,m,h=>by
  have h:ck (eqI v (Int.ofNat m)) (k (Int.ofNat m)).run=zw r:=h;cases b:eqI v (Int.ofNat m)with
  |true=>rw[b]at h;have e:v=Int.ofNat m:=Zs b;rw[e];exact h
  |false=>rw[b]at h;cases h
 |n+2,m,h=>by
  have h:(bif eqI v (Int.ofNat m)then(k (Int.ofNat m)).run else(Zw v k (m+1) (n+1)).run)=zw r:=h;cases b:eqI v (Int.ofNat m)with
  |true=>rw[b]at h;have e:v=Int.ofNat m:=Zs b;rw[e];exact h
  |false=>rw[b]at h;exact VF (n+1) (m+1) h
theorem afA{tt:TT}{st:jL}{q:Operand}(h:afe tt st t q j=zw (a,i,k,v,g)):st.gs j=.v (.one (.p a i (jB k v))):=by
 have key :∀{y:TS} {m:Nat},(match y with
   |.v (.one (.p a i ⟨.int k,v⟩))=>bif Nat.ble m 4 then zw (a,i,k,v,m)else zz
   |_=>zz)=zw (a,i,k,v,g)->y=.v (.one (.p a i (jB k v))):=by
  intro y m h;split at h
  rotate_left
  cases h;cases b:Nat.ble m 4 with
  |true=>rw[b]at h;simp only[cond_true,Q0,QP]at h;obtain⟨rfl,rfl,rfl,rfl,rfl⟩:=h;rfl
  |false=>rw[b]at h;cases h
 unfold afe at h;split at h
 .split at h
  .exact key h
  .exact key h
  .exact key h
  .cases h
 .cases h
theorem ai1{tt:TT}{st:jL}(h:ang tt st x=zw (j,a,i,k,v,g)):st.gs j=.v (.one (.p a i (jB k v))):=by
 unfold ang at h;split at h
 .split at h
  .rename_i r b;cases h;exact afA b
  .cases h
 .cases h
theorem MQ{u:List Nat}:∀{gs:List Nat},CU u gs=zj->(gs.all λg=>!gG g u)=zj
 | [],_=>rfl
 |g::gs,h=>by simp only[CU,QR]at h;simp only[List.all_cons,QR];exact⟨h.1,MQ h.2⟩
theorem CZ:∀(dst:Option Tmp),Zv g dst=zj->(match dst with|some d=>decide (d<g)|none=>zj)=zj
 |none,_=>rfl
 |some d,h=>W5 (WD h)
def ZP{R:Type}(q:kJ)(K:kJ->jX->Prog R)(r:R)(e:Eff):Prop :=∃(b:kJ) (c:jX),e=c.er/\bD b.st=bD q.st/\ug q b/\(K b c).run=zw r
theorem Sj{tt:TT}{ety:TypeId->Option Ty}{q0:kJ}{K:kJ->jX->Prog R}{r:R}(b:bD q.st=bD q0.st)(c:ug q0 q)
  (h:(acB T tt ety g q.st x λe=>match CU q.st.u e.new with|true=>K q e|false=>.stuck 21).run=zw r) :
  jK (nO T) tt g (bD q0.st) x λe=>(e.new.all λo=>!(bD q0.st).used o)=zj/\ZP q0 K r e:=by
 have h:=afy h;rw[b]at h;refine pK ?_ h;rintro e ⟨j,rfl,h⟩;split at h
 .rename_i m;refine⟨?_,q,j,rfl,b,c,h⟩;rw[<-b];exact MQ m
 .exact (dI h).elim
theorem VG{tt:TT}{ety:TypeId->Option Ty}{ops:Array Oper}{K:kJ->jX->Prog R}{r:R}(h:(stepT T tt ety g ops x q K).run=zw r):
  stepW (nO T) tt g ops x (bD q.st) (ZP q K r):=by
 unfold stepT at h;split at h;exact(dI h).elim;rename_i hd;unfold stepW;refine⟨CZ _ hd,?_⟩;split at h
 .rename_i hg;rw[hg];split at h;exact Sj rfl (ug.refl q) h;rename_i t a i k v n m;have h:=VF _ _ h;simp only[uX]at h;have c:=ai1 m;exact Sj (acG c) (acH c) h
 .rename_i j want hg;rw[hg];simp only;split at h
  .exact (dI h).elim
  .rename_i t d;have:guardOf ops (bD q.st) j want=zw zv:=by
    unfold Ya at d;split at d
    rotate_left
    cases d;rename_i w o;split at d
    .cases d
    .rename_i m;simp only[guardOf,o];show (match bJ (q.st.gs w)with|.v (.one (.p _ _ (.bool b)))=>_|.jy []=>_|_=>_)=_;rw[m];rfl
    .cases d
   rw[this];exact⟨q,jX.skip,rfl,rfl,ug.refl q,h⟩
  .rename_i t a i b d;have z:q.st.gs t=.v (.one (.p a i (jE b)))/\guardOf ops (bD q.st) j want=zw (bif want then b else !b):=by
    unfold Ya at d;split at d
    rotate_left
    cases d;rename_i w o;split at d
    rotate_left
    cases d;cases d;rename_i B H J m;simp only[Q0,QP]at d;obtain⟨rfl,rfl,rfl,rfl⟩:=d;refine⟨m,?_⟩;simp only[guardOf,o];show (match bJ (q.st.gs w)with|.v (.one (.p _ _ (.bool b)))=>_|.jy []=>_|_=>_)=_;rw[m];rfl
   obtain⟨c,y⟩:=z;rw[y];simp only;have h:(bif b then _ else _:Option R)=zw r:=h;cases b with
   |true=>
    have h:(frX (q.know t a i zj) λq=>bif want then _ else K q jX.skip).run=zw r:=h;rw[uX]at h;cases want with
    |true=>exact Sj (zO c) (zQ c) h
    |false=>exact⟨_,jX.skip,rfl,zO c,zQ c,h⟩
   |false=>
    have h:(frX (q.know t a i zv) λq=>bif want then K q jX.skip else _).run=zw r:=h;rw[uX]at h;cases want with
    |true=>exact⟨_,jX.skip,rfl,zO c,zQ c,h⟩
    |false=>exact Sj (zO c) (zQ c) h
end
end Go.Fg

