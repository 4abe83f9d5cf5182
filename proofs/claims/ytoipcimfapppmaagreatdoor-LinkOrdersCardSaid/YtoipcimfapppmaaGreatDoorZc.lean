/-
  The framework (a machine on plain data that answers as the program does), part 3.
-/
import Derived.RangeFuncLeaves
import Derived.RangeFuncCalls
import Derived.OrdersIn
import Derived.LoopNIn
import Derived.LoopN
import Derived.Tactics
import Derived.Laws.Strings
import Derived.Test.YtoipcimfapppmaaGreatDoorZb
set_option linter.unusedSimpArgs false
set_option linter.unusedVariables false
set_option linter.unusedSectionVars false
open Option renaming some->zw,none->zz
open Bool renaming true->zj,false->zv
namespace Go.Fw
variable [fH]
theorem OL(st:St)(dst:Option Tmp)(e:Eff)(t:Nat):(st.eff dst e).s t=if dst=zw t then e.x else st.s t:=by
 cases dst with
 |none=>simp[St.eff,St.put,St.aK]
 |some d=>
  simp only[St.eff,St.put,St.aK,Q0];by_cases h:t=d
  .subst h;simp
  .have b:Nat.beq t d=zv:=by cases c:Nat.beq t d with|false=>rfl|true=>exact absurd (Q6 c) h
   rw[b,QP (λe=>h e.symm)];rfl
theorem y9(st:St)(dst:Option Tmp)(e:Eff)(g:Nat):(st.eff dst e).o g=match e.aK.lookup g with|some x=>x|none=>st.o g:=by cases dst<;>rfl
theorem vI(st:St)(dst:Option Tmp)(e:Eff)(g:Nat):(st.eff dst e).used g=(e.new.contains g||st.used g):=by cases dst<;>rfl
theorem kQ{α:Type}{g:Nat}:∀{l:List (Nat×α)},g∉l.map (·.1)->l.lookup g=zz
 | [],_=>rfl
 |(k,v)::l,h=>by
  simp only[Qf,XN,not_or]at h;have:(g==k)=zv:=by simpa using h.1
  simp only[List.lookup,this];exact kQ h.2
theorem St.ext'{a b:St}(c :∀t,a.s t=b.s t)(d :∀g,a.o g=b.o g)(h :∀g,a.used g=b.used g):a=b:=by obtain⟨s,o,u⟩:=a;obtain⟨j,o',m⟩:=b;simp only at c d h;rw[funext c,funext d,funext h]
section
variable {ops:Array Oper} {es es':Nat->Eff} {st:St} {D D':Nat->Bool}
def SD(ops:Array Oper)(es:Nat->Eff)(st:St)(D:Nat->Bool):Nat->St
 |0=>st
 |k+1=>if D k=zj then(SD ops es st D k).eff ((ops[k]?).bind (·.dst)) (es k)else SD ops es st D k
theorem KR:∀{n:Nat},(∀k<n,es k=es' k)->SD ops es st D n=SD ops es' st D n
 |0,_=>rfl
 |n+1,h=>by simp only[SD];rw[KR λk b=>h k (by omega),h n (by omega)]
theorem FD:∀{n:Nat},(∀k<n,D k=D' k)->SD ops es st D n=SD ops es st D' n
 |0,_=>rfl
 |n+1,h=>by simp only[SD];rw[FD λk b=>h k (by omega),h n (by omega)]
theorem amk{t:Nat}:∀{n:Nat},(∀k<n,D k≠D' k->(ops[k]?).bind (·.dst)≠zw t)->(SD ops es st D n).s t=(SD ops es st D' n).s t
 |0,_=>rfl
 |n+1,h=>by
  have b:=amk (n:=n) λk g=>h k (by omega);have hn:=h n (by omega);simp only[SD];cases c:D n<;>cases d:D' n
  .simpa using b
  .have:=hn (by rw[c,d];simp);simp only[if_true,OL,QP this];simpa using b
  .have:=hn (by rw[c,d];simp);simp only[if_true,OL,QP this];simpa using b
  .simp only[if_true,OL,b]
theorem aml{g:Nat}:∀{n:Nat},(∀k<n,D k≠D' k->g∉(es k).aK.map (·.1))->(SD ops es st D n).o g=(SD ops es st D' n).o g
 |0,_=>rfl
 |n+1,h=>by
  have b:=aml (n:=n) λk j=>h k (by omega);have hn:=h n (by omega);simp only[SD];cases c:D n<;>cases d:D' n
  .simpa using b
  .have:=kQ (hn (by rw[c,d];simp));simp only[if_true,y9,this];simpa using b
  .have:=kQ (hn (by rw[c,d];simp));simp only[if_true,y9,this];simpa using b
  .simp only[if_true,y9,b]
theorem QK{g:Nat}:∀{n:Nat},(∀k<n,D k≠D' k->g∉(es k).new)->(SD ops es st D n).used g=(SD ops es st D' n).used g
 |0,_=>rfl
 |n+1,h=>by
  have b:=QK (n:=n) λk j=>h k (by omega);have hn:=h n (by omega);simp only[SD];cases c:D n<;>cases d:D' n
  .simpa using b
  .have:=hn (by rw[c,d];simp);have:(es n).new.contains g=zv:=by simpa using this
   simp only[if_true,vI,this,K9];simpa using b
  .have:=hn (by rw[c,d];simp);have:(es n).new.contains g=zv:=by simpa using this
   simp only[if_true,vI,this,K9];simpa using b
  .simp only[if_true,vI,b]
theorem OM{t i:Nat}(hi:D i=zj)(hd:(ops[i]?).bind (·.dst)=zw t):∀{n:Nat},i<n->(∀k,i<k->k<n->D k=zj->(ops[k]?).bind (·.dst)≠zw t)->(SD ops es st D n).s t=(es i).x
 |0,h,_=>by omega
 |n+1,c,h=>by
  simp only[SD];by_cases e:n=i
  .subst e;simp[hi,OL,hd]
  .have b:=OM hi hd (n:=n) (by omega) λk d g=>h k d (by omega);cases hn:D n with
   |false=>simpa using b
   |true=>have:=h n (by omega) (by omega) hn;simp only[if_true,OL,QP this,b]
theorem OO{g i:Nat}{x:O}(hi:D i=zj)(hd:(es i).aK.lookup g=zw x):∀{n:Nat},i<n->(∀k,i<k->k<n->D k=zj->g∉(es k).aK.map (·.1))->(SD ops es st D n).o g=x
 |0,h,_=>by omega
 |n+1,c,h=>by
  simp only[SD];by_cases e:n=i
  .subst e;simp[hi,y9,hd]
  .have b:=OO hi hd (n:=n) (by omega) λk d j=>h k d (by omega);cases hn:D n with
   |false=>simpa using b
   |true=>have:=kQ (h n (by omega) (by omega) hn);simp only[if_true,y9,this,b]
theorem Ia{g i:Nat}(hi:D i=zj)(hd:g∈(es i).new):∀{n:Nat},i<n->(SD ops es st D n).used g=zj
 |0,h=>by omega
 |n+1,c=>by
  simp only[SD];by_cases e:n=i
  .subst e;simp[hi,vI,hd]
  .have b:=Ia hi hd (n:=n) (by omega);cases hn:D n with
   |false=>simpa using b
   |true=>simp only[if_true,vI,b,Bool.or_true]
structure Apart(ops:Array Oper)(x y:Oper)(fx fy:uN):Prop where
 dy :∀t,x.dst=zw t->t∉y.looksAt ops
 dx :∀t,y.dst=zw t->t∉x.looksAt ops
 dd :∀t,x.dst=zw t->y.dst≠zw t
 wr:(∀g∈fx.wr,g∉fy.rd)\/H_ fx fy=zj
 rw:(∀g∈fy.wr,g∉fx.rd)\/H_ fy fx=zj
 ww :∀g∈fx.wr,g∉fy.wr
 nn :∀g∈fx.new,g∉fy.new
theorem zf{x:Option Tmp}{ts:List Tmp}(h:KQ x ts=zj):∀t,x=zw t->t∉ts:=by intro t e;subst e;simpa[KQ]using h
theorem Ae{xs b:List Nat}(h:Qx xs b=zj):∀x∈xs,x∉b:=by intro x c;have:=(Zs.1 h) x c;simpa using this
theorem Xr{x y:Oper}{b c:uN}(h:aec ops x y b c=zj):Apart ops x y b c:=by simp only[aec,X1,Ka]at h;obtain⟨⟨⟨⟨⟨⟨d,g⟩,j⟩,m⟩,q⟩,z⟩,B⟩:=h;exact⟨zf d,zf g,λt e H=>zf j t e (by simp[H]),m.imp Ae id,q.imp Ae id,Ae z,Ae B⟩
theorem OQ{acc:List Nat}{i:Nat}:∀{l:List Edge} {s:Nat},(l.foldl (λs e=>if Region.binds .any e=zj then s ||| (2 ^ e.on) ||| acc.getD e.on 0 else s) s).testBit i=zj↔
  s.testBit i=zj\/∃e∈l,Region.binds .any e=zj/\(e.on=i\/(acc.getD e.on 0).testBit i=zj)
 | [],s=>by simp
 |e::l,s=>by
  simp only[vn];rw[OQ];by_cases d:Region.binds .any e=zj
  .simp only[d,if_true,Nat.testBit_or,Ka,Nat.testBit_two_pow,Wa,XN];constructor
   .rintro (((h|h)|h)|⟨c,h1,b⟩)
    .exact .inl h
    .exact .inr ⟨e,.inl rfl,d,.inl h⟩
    .exact .inr ⟨e,.inl rfl,d,.inr h⟩
    .exact .inr ⟨c,.inr h1,b⟩
   .rintro (h|⟨c,h1|h1,b,h3|h3⟩)
    .exact .inl (.inl (.inl h))
    .subst h1;exact .inl (.inl (.inr h3))
    .subst h1;exact .inl (.inr h3)
    .exact .inr ⟨c,h1,b,.inl h3⟩
    .exact .inr ⟨c,h1,b,.inr h3⟩
  .simp only[d,XN];constructor
   .rintro (h|⟨c,h1,b⟩)
    .exact .inl (by simpa using h)
    .exact .inr ⟨c,.inr h1,b⟩
   .rintro (h|⟨c,h1|h1,b,h3⟩)
    .exact .inl (by simpa using h)
    .subst h1;exact absurd b d
    .exact .inr ⟨c,h1,b,h3⟩
theorem KT:∀{os:List Oper} {acc:List Nat},∃t,pI os acc=acc++t
 | [],acc=>⟨[],by simp[pI]⟩
 |o::os,acc=>by obtain⟨t,h⟩:=KT (os:=os) (acc:=acc++[mO acc o]);exact⟨mO acc o::t,by simp[pI,h]⟩
theorem KU:∀{os:List Oper} {acc:List Nat} {j:Nat} {o:Oper},os[j]?=zw o->∃b,(∃t,pI os acc=b++mO b o::t)/\b.length=acc.length+j
 | [],acc,j,o,h=>by simp at h
 |o'::os,acc,0,o,h=>by simp only[K3,Q0]at h;subst h;obtain⟨t,h⟩:=KT (os:=os) (acc:=acc++[mO acc o']);exact⟨acc,⟨t,by simp[pI,h]⟩,rfl⟩
 |o'::os,acc,j+1,o,h=>by simp only[UX]at h;obtain⟨b,c,d⟩:=KU (acc:=acc++[mO acc o']) h;exact⟨b,c,by simp at d;omega⟩
def Down(ops:Array Oper)(D:Nat->Bool):Prop :=∀(j:Nat) o,ops[j]?=zw o->D j=zj->∀e∈o.after,Region.binds .any e=zj->D e.on=zj
theorem KW{j:Nat}{o:Oper}(g:ops[j]?=zw o){i:Nat}:((pI ops.toList []).getD j 0).testBit i=zj↔
  ∃e∈o.after,Region.binds .any e=zj/\(e.on=i\/(e.on<j/\((pI ops.toList []).getD e.on 0).testBit i=zj)):=by
 have h:ops.toList[j]?=zw o:=by simpa using g
 obtain⟨acc,⟨t,m⟩,c⟩:=KU (acc:=[]) h;simp only[Kd,Vi]at c;rw[m];have y:(acc++mO acc o::t).getD j 0=mO acc o:=by rw[Q2,Wc (by omega),c];simp
 have d :∀k,(acc++mO acc o::t).getD k 0=if k<j then acc.getD k 0 else(acc++mO acc o::t).getD k 0:=by
  intro k;split
  .rename_i b;rw[Q2,Wf (by omega),<-Q2]
  .rfl
 rw[y];unfold mO;rw[OQ];simp only[Nat.zero_testBit,Wb,false_or,Array.mem_toList_iff];constructor
 .rintro ⟨e,q1,q2,q3⟩;refine⟨e,q1,q2,q3.imp id λq=>?_⟩;by_cases b:e.on<j
  .refine ⟨b,?_⟩;have:=d e.on;rw[QR b]at this;unfold mO at this;rw[this];exact q
  .have:acc.getD e.on 0=0:=by rw[Q2,Vn (by omega)];rfl
   rw[this]at q;simp at q
 .rintro ⟨e,q1,q2,q3⟩;refine⟨e,q1,q2,q3.imp id λ⟨b,q⟩=>?_⟩;have:=d e.on;rw[QR b]at this;unfold mO at this;rw[this]at q;exact q
theorem zh(g:Down ops D):∀(j:Nat) {o:Oper},ops[j]?=zw o->D j=zj->∀i,((pI ops.toList []).getD j 0).testBit i=zj->D i=zj:=by
 intro j
 induction j using Nat.strongRecOn with
 |_ j y=>
  intro o c h i z;obtain⟨e,m,q,d|⟨d,B⟩⟩:=(KW c).1 z
  .rw [<-d];exact g j o c h e m q
  .have H:j<ops.size:=(UP.1 c).1;have b:e.on<ops.size:=by omega
   exact y e.on d (qt b) (g j o c h e m q) i B
theorem UC{j:Nat}{o:Oper}(b:ops[j]?=zw o)(h:(pI ops.toList []).getD j 0<2 ^ j){e:Edge}(c:e∈o.after)(d:Region.binds .any e=zj):e.on<j:=by
 have:=(KW b (i:=e.on)).2 ⟨e,c,d,.inl rfl⟩;by_cases g:e.on<j
 .exact g
 .rw [Nat.testBit_lt_two_pow (VV h (Nat.pow_le_pow_right (by omega) (by omega)))]at this;cases this
end
section
variable {E:Env} {N:Nat} {bH:List Nat} {yM:Nat->Gh} {st:St} {a:Act} {w:World} {Pg:Program} {T:Tab} {tt:TT} {ops:Array Oper} {Q:Exit->Act->World->Prop}
theorem UD{gh:Nat->Gh}(h:Rel E st gh (λt=>a.tmps.getD t undef) w){x:S}{v:Value}(m:dR E st gh w x v){i:TI}{t:TypeId}(L:qM Pg t i){c:Value}{p:Bool->Prop}(d:y8 st.o x i.k c=zw p):
  ∃b,(Op.equal t v c).run Pg w=.ok b w/\p b:=by
 unfold y8 at d;split at d
 .rename_i e H;have hu:=L.kind;rw[H]at hu;have hu:Pg.underlying t=zw (.slice e):=hu;have eqs :∀j n cap,(Op.equal t (.slice j n cap) (.slice zz 0 0)).run Pg w=.ok j.isNone w:=by intro j n cap;unfold Op.equal Op.maxDepth;show (Op.equalIn (9999+1) t _ _).run Pg w=_;unfold Op.equalIn;cases j<;>simp[eU hu]
  unfold OI at d;split at d
  .cases d;have r:=m.gu;generalize z:(P.sl _ _)=y at r;cases r with
   |nil M j cap=>cases z;exact⟨_,eqs _ _ _,λh=>absurd rfl h⟩
   |sl M l ad cap f _ _ _ _ _ _=>cases z;exact⟨_,eqs _ _ _,λ_=>rfl⟩
   |_=>cases z
  .rename_i g;split at d
   .rename_i M l B;cases d;cases m.dS with
    |own _ _ _ J=>rw[J _ _ B];refine⟨_,eqs _ _ _,λz=>?_⟩;obtain⟨ad,K,_⟩:=(wS (h.bG g) B).2 (by omega);rw[K];rfl
   .cases d
  .cases d;cases m.dS;exact⟨_,eqs _ _ _,rfl⟩
  .cases d
 .rename_i H;have hu:=L.kind;rw[H]at hu;obtain⟨e,hu⟩:=(hu :∃e,Pg.underlying t=zw (.pointer e));have q :∀j,(Op.equal t (.pointer j) (.pointer zz)).run Pg w=.ok j.isNone w:=by intro j;unfold Op.equal Op.maxDepth;show (Op.equalIn (9999+1) t _ _).run Pg w=_;unfold Op.equalIn;cases j<;>simp[eU hu]
  unfold H9 at d;split at d
  .rename_i g off;split at d
   .rename_i U B;cases d;cases m.dS with
    |box _ _ _ _ J=>obtain⟨ad,_,rfl⟩:=J U B;exact⟨_,q _,rfl⟩
   .cases d
  .cases d;cases m.gu with
   |opq _ _=>exact⟨_,q _,rfl⟩
  .cases d
 .cases d
theorem UE(hT :∀f sp,T f=zw sp->Sound Pg (f % 1000000) sp)(htt:jm Pg tt){i:Nat}{o:Oper}(hi:ops[i]?=zw o)(hg:Good E N bH yM st a w){K':Eff->Prop}(h:DZ T tt N ops o st K')
  {K:Act->World->Prop} (hK :∀e a' U,K' e->Good E N bH yM (st.eff o.dst e) a' U->K a' U):wpOp Pg ops Q i K a w:=by
 unfold DZ at h;split at h
 .rename_i pos p hn;obtain⟨hd,h⟩:=h;have hd :∀d,o.dst=zw d->d<a.tmps.size:=by intro d e;rw[e]at hd;rw[hg.size];simpa using hd
  unfold QH at hn;split at hn
  .cases hn
  .rename_i hgd;split at hn
   .rename_i op t x c u Z;split at hn
    .rename_i ti ht;obtain⟨gh,hR,Ny⟩:=hg.ex;have B:=rX hR x;have key :∀p',y8 st.o (st.dG x) ti.k c=zw p'->∃b,(Op.equal t (a.eval x) c).run Pg w=.ok b w/\p' b:=λp' L=>UD hR B (htt _ _ ht) L;have fin :∀b,(execOp a.eval o).run Pg w=.ok (.value (.bool (bif pos then b else !b))) w->p b->wpOp Pg ops Q i K a w:=by
      intro b q M;unfold wpOp;rw[hi];simp only;have:Region.wanted o (yielded ops a.tmps)=zj:=by simp[Region.wanted,hgd]
      rw[QR this];left;show o.upon Pg a K Q ((execOp a.eval o).run Pg w);rw[q];refine hK _ _ _ (h b M) ⟨⟨gh,?_,λg m=>?_⟩,by rw[DW];exact hg.size,hg.defers.put _ _⟩
      .rw [DV _ _ hd];unfold St.eff;simp only[Jh];exact hR.put o.dst (dR.ofP (.bool _)) (by simp[scalar,S.names,V.names,W.names])
      .have ho:(st.eff o.dst { x:=scalar (.bool (bif pos then b else !b)),aK:=[],new:=[] }).o g=st.o g:=by unfold St.eff St.put;cases o.dst<;>simp[St.aK]
       have hu:(st.eff o.dst { x:=scalar (.bool (bif pos then b else !b)),aK:=[],new:=[] }).used g=st.used g:=by unfold St.eff St.put;cases o.dst<;>simp[St.aK]
       rw[ho,hu];exact Ny g m
     have hcv :∀b,(Op.equal t (a.eval x) c).run Pg w=.ok b w->(c=.slice zz 0 0\/c=.pointer zz)/\True->(eqGuard op t x (.const c) (a.eval x) c).run Pg w=.ok () w:=by
      intro b _ hc;unfold eqGuard;rcases hc.1 with rfl|rfl
      .cases op<;>first|rfl|(simp only;split<;>first|rfl|simp_all)
      .cases op<;>first|rfl|(simp only;split<;>first|rfl|simp_all)
     have hcc :∀p',y8 st.o (st.dG x) ti.k c=zw p'->c=.slice zz 0 0\/c=.pointer zz:=by
      intro p' L;unfold y8 at L;split at L
      .exact .inl rfl
      .exact .inr rfl
      .cases L
     split at hn
     .rename_i p' L;cases hn;obtain⟨b,X,hb2⟩:=key _ L;refine fin b ?_ hb2;have hge:=hcv b X ⟨hcc _ L,trivial⟩;unfold execOp;rw[Z];refine iC ?_;show (eqGuard _ t x (.const c) (a.eval x) c >>= λ_=>binOp _ t (a.eval x) c).run Pg w=_;rw[Sem.run_bind,hge];rcases hcc _ L with rfl|rfl<;>simp[binOp,X]
     .rename_i p' L;cases hn;obtain⟨b,X,hb2⟩:=key _ L;refine fin b ?_ hb2;have hge:=hcv b X ⟨hcc _ L,trivial⟩;unfold execOp;rw[Z];refine iC ?_;show (eqGuard _ t x (.const c) (a.eval x) c >>= λ_=>binOp _ t (a.eval x) c).run Pg w=_;rw[Sem.run_bind,hge];rcases hcc _ L with rfl|rfl<;>simp[binOp,X]
     .cases hn
    .cases hn
   .cases hn
 .split at h
  .rename_i g s n hn;obtain⟨hd,h1,h2⟩:=h;have hd :∀d,o.dst=zw d->d<a.tmps.size:=by intro d e;rw[e]at hd;rw[hg.size];simpa using hd
   unfold QI at hn;split at hn
   .cases hn
   .rename_i hgd;split at hn
    .rename_i x Z;split at hn
     .rename_i g' B;split at hn
      .rename_i s' n' H;simp only[Q0,QQ]at hn;obtain⟨rfl,rfl,rfl⟩:=hn;obtain⟨gh,hR,Ny⟩:=hg.ex;have hrx:=rX hR x;rw[B]at hrx;obtain⟨ad,had,J⟩ :∃ad,(gh g').ad=zw ad/\a.eval x=.pointer (zw ⟨ad.block,0,zz⟩):=by have:=hrx.dS;generalize a.eval x=z at this;cases this with|oD _ _ _ M=>exact M _ _ H
       have hO:=hR.bG g';rw[H]at hO;obtain⟨ad',y,k,q1,rfl,rfl,q4⟩:=hO;rw[had]at q1;cases q1;have hlt:ad.block<w.heap.size:=(hR.wr g' ad.block (by rw[H];rfl) (Gh.kL had)).2;have Y:(P.int .i64 (k:Int)).nat=k:=by simp[P.nat,P.num]
       have hget:(getObj ad.block).run Pg w=.ok (.stringIter y k) w:=by simp[getObj,Sem.run,q4]
       have fin :∀(v:Value) (U:World) (e:Eff),(∀b,b≠ad.block->U.heap[b]?=w.heap[b]?)->(Instr.next (a.eval x) zj o.type).run Pg w=.ok v U->K' e->Rel E (st.aK e.aK e.new) gh (λt=>a.tmps.getD t undef) U->dR E (st.aK e.aK e.new) gh U e.x v->(∀g∈e.x.names,(st.aK e.aK e.new).used g=zj)->
         (∀g,st.used g=zj->(st.aK e.aK e.new).used g=zj)->(∀g,((st.aK e.aK e.new).o g=.none\/True)/\(st.o g=.none->(st.aK e.aK e.new).o g=.none))->wpOp Pg ops Q i K a w:=by
        intro v U e hmm q hke hR' hx' hn' hu' ho';unfold wpOp;rw[hi];simp only;have:Region.wanted o (yielded ops a.tmps)=zj:=by simp[Region.wanted,hgd]
        rw[QR this];left;show o.upon Pg a K Q ((execOp a.eval o).run Pg w);have:(execOp a.eval o).run Pg w=.ok (.value v) U:=by unfold execOp;rw[Z];exact iC q
        rw[this];refine hK e _ _ hke ⟨⟨gh,?_,λg m=>?_⟩,by rw[DW];exact hg.size,hg.defers.same (λD _ h3=>hmm D λe'=>by rw[e',q4]at h3;cases h3) _ _⟩
        .rw [DV _ _ hd];exact hR'.put o.dst hx' hn'
        .obtain ⟨p1,p2⟩:=Ny g m;have ho2:(st.eff o.dst e).o g=(st.aK e.aK e.new).o g:=by unfold St.eff St.put;cases o.dst<;>rfl
         have hu2:(st.eff o.dst e).used g=(st.aK e.aK e.new).used g:=by unfold St.eff St.put;cases o.dst<;>rfl
         refine⟨by rw[hu2];exact hu' g p1,?_⟩;rw[ho2];rcases p2 with p2|p2
         .exact .inl ((ho' g).2 p2)
         .exact .inr p2
       cases M:Uz (.str y) (.int .i64 k)with
       |true=>
        have hkb:k<y.size:=by have:=ZS M;rw[Y]at this;exact this
        have q:(Instr.next (a.eval x) zj o.type).run Pg w=.ok (.tuple #[.bool zj,.int .i64 k,.int .i32 (Utf8.decode y k).1]) { w with heap:=w.heap.setIfInBounds ad.block (.stringIter y (k+(Utf8.decode y k).2)) }:=by
         rw[J];simp only[Instr.next,Sem.run_bind,hget,Result.andThen_ok];rw[QR hkb];have hset:(setObj ad.block (.stringIter y (k+(Utf8.decode y k).2))).run Pg w=.ok () { w with heap:=w.heap.setIfInBounds ad.block (.stringIter y (k+(Utf8.decode y k).2)) }:=by simp[setObj,Sem.run,q4]
         simp only[Sem.run_bind,hset,Result.andThen_ok,Sem.run_pure];rfl
        obtain⟨w1,w2⟩:=hR.write g' ad (by rw[H];rfl) had (.it (.str y) (Xp (.str y) (.int .i64 k))) (by rw[H];trivial) { w with heap:=w.heap.setIfInBounds ad.block (.stringIter y (k+(Utf8.decode y k).2)) }
         (λb M=>by simp[KV,Ne.symm M]) (by simp) rfl rfl rfl rfl (λ_ e=>by cases e) (λ_=>by rw[H];rfl)
         (λ_=>⟨ad,y,k+(Utf8.decode y k).2,had,rfl,by simp only[Xp,lQ,Y];rfl,by simp[hlt]⟩) (λg hg=>by simp[O.names]at hg)
        have hold :∀g,g≠g'->(st.aK (KO g' (.str y) (.int .i64 k)).aK (KO g' (.str y) (.int .i64 k)).new).o g=st.o g:=by
         intro g hne;have:(g==g')=zv:=by simpa using hne
         simp[KO,St.aK,List.lookup,this]
        refine fin _ _ (KO g' (.str y) (.int .i64 k)) (λb M=>by simp[KV,Ne.symm M]) q (h1 M) w1 ?_ ?_ ?_ ?_
        .refine .jq _ _ rfl λj x v B J=>?_
         match j,B,J with
         |0,B,J=>cases B;cases J;exact .one _ _ (.p _ _ _ _ (.bool _))
         |1,B,J=>cases B;cases J;exact .one _ _ (.p _ _ _ _ (by rw[Y];exact .int _ _))
         |2,B,J=>cases B;cases J;exact .one _ _ (.p _ _ _ _ (by simp only[aea,Y];exact .int _ _))
         |j+3,B,_=>cases B
        .intro g m;simp[KO,S.names,V.names,W.names]at m
        .intro g m;simp[St.aK,m]
        .intro g;refine⟨.inr trivial,λh0=>?_⟩;by_cases e:g=g'
         .subst e;rw[H]at h0;cases h0
         .rw [hold g e];exact h0
       |false=>
        have hkb:¬ k<y.size:=by have:=ZZ M;rw[Y]at this;exact this
        have q:(Instr.next (a.eval x) zj o.type).run Pg w=.ok (.tuple #[.bool zv]) w:=by rw[J];simp only[Instr.next,Sem.run_bind,hget,Result.andThen_ok];rw[QP hkb];rfl
        refine fin _ _ OJ (λ_ _=>rfl) q (h2 M) (by rw[show OJ.aK=[] from rfl,show OJ.new=[] from rfl,Jh];exact hR) ?_ ?_ ?_ ?_
        .refine .jq _ _ rfl λj x v B J=>?_
         match j,B,J with
         |0,B,J=>cases B;cases J;exact .one _ _ (.p _ _ _ _ (.bool _))
         |j+1,B,_=>cases B
        .intro g m;simp[OJ,S.names,V.names,W.names]at m
        .intro g m;simp[St.aK,m]
        .intro g;exact⟨.inr trivial,λh0=>by simpa[OJ,St.aK]using h0⟩
      .cases hn
     .cases hn
    .cases hn
  .obtain ⟨e,hc,h⟩:=Ut h;exact KJ hT htt hi hg hc λa' U m=>hK e a' U h m
theorem D6(m :∀f sp,T f=zw sp->Sound Pg (f % 1000000) sp)(b:jm Pg tt){K:St->Prop}(q :∀st' d g,K st'->Good E N bH yM st' d g->Q .normal d g):
  ∀(c:List Nat) {st:St} {a:Act} {w:World},xC T tt N ops c st K->Good E N bH yM st a w->wpOps Pg ops Q c a w
 | [],st,a,w,h,hg=>q st a w h hg
 |i::c,st,a,w,h,hg=>by
  simp only[xC]at h;split at h
  .rename_i o y;rw[wpOps_cons];exact UE m b y hg h λe d g h j=>D6 m b q c h j
  .cases h
theorem Ib{K:St->List uN->Prop}:∀(m k:Nat) (es:Nat->Eff) (fs:List uN),fs.length=k->pY T tt N ops (List.range' k m) (SD ops es st (λ_=>zj) k) fs K->
  ∃(es':Nat->Eff) (c:List uN),(∀i<k,es' i=es i)/\(∀i<k,c[i]?=fs[i]?)/\K (SD ops es' st (λ_=>zj) (k+m)) c/\
   ∀i,k<=i->i<k+m->∃o,ops[i]?=zw o/\Can T tt N ops (SD ops es' st (λ_=>zj) i) o (es' i)/\c[i]?=zw { rd:=uM T (SD ops es' st (λ_=>zj) i) o,wr:=(es' i).aK.map (·.1),new:=(es' i).new,ld:=NY tt (SD ops es' st (λ_=>zj) i) o,kp:=QJ (SD ops es' st (λ_=>zj) i) o (es' i),pk:=nU o.op,kd:=Xq (SD ops es' st (λ_=>zj) i) (es' i) }
 |0,k,es,fs,g,h=>⟨es,fs,λ_ _=>rfl,λ_ _=>rfl,h,λi B H=>by omega⟩
 |m+1,k,es,fs,g,h=>by
  simp only[qz,pY]at h;split at h
  .rename_i o q;obtain⟨e,J,h⟩:=Ut h
   let b:Nat->Eff:=λi=>if i=k then e else es i
   have y:SD ops b st (λ_=>zj) k=SD ops es st (λ_=>zj) k:=KR λi j=>by simp only[b];rw[QP (by omega)]
   have L:SD ops b st (λ_=>zj) (k+1)=(SD ops es st (λ_=>zj) k).eff o.dst e:=by simp only[SD,if_true];rw[y,q];simp[b]
   rw[<-L]at h;obtain⟨es',c,q1,q2,q3,q4⟩:=Ib m (k+1) b _ (by simp[g]) h;have z:SD ops es' st (λ_=>zj) k=SD ops es st (λ_=>zj) k:=(KR λi j=>q1 i (by omega)).trans y;refine⟨es',c,λi j=>?_,λi j=>?_,by rw[show k+(m+1)=k+1+m by omega];exact q3,λi B H=>?_⟩
   .rw [q1 i (by omega)];simp only[b];rw[QP (by omega)]
   .rw [q2 i (by omega),Wf (by omega)]
   .by_cases e:i=k
    .subst e;have d:es' i=e:=by rw[q1 i (by omega)];simp[b]
     refine⟨o,q,by rw[z,d];exact J,?_⟩;rw[q2 i (by omega),Wc (by omega),z,d];simp[g]
    .exact q4 i (by omega) (by omega)
  .cases h
def Rng(ws:List W)(off n:Nat)(x:O):Prop :=∃c,x=.box c/\c.length=ws.length/\∀b,off<=b->b<off+n->c[b]?=ws[b]?
theorem KY{g:Nat}:∀{j:Nat} {xs b:List W} {r:List (Nat×Nat)},D5 g j xs b=zw r->xs.length=b.length/\∀p∈r,p.1=g/\j<=p.2/\xs[p.2-j]?=b[p.2-j]?
 |j,[],[],r,h=>by simp only[D5,Q0]at h;subst h;exact⟨rfl,λp hp=>by cases hp⟩
 |j,[],y::b,r,h=>by simp[D5]at h
 |j,x::xs,[],r,h=>by simp[D5]at h
 |j,x::xs,y::b,r,h=>by
  simp only[D5]at h;split at h
  .rename_i m q;obtain⟨z,B⟩:=KY q;have d :∀p∈m,p.1=g/\j<=p.2/\(x::xs)[p.2-j]?=(y::b)[p.2-j]?:=λp hp=>by obtain⟨H,a2,a3⟩:=B p hp;refine⟨H,by omega,?_⟩;rw[show p.2-j=(p.2-(j+1))+1 by omega,UX,UX];exact a3
   simp only[Q0]at h;refine⟨by simp[z],λp hp=>?_⟩;rw[<-h]at hp;split at hp
   .rename_i c;rcases XN.1 hp with rfl|hp
    .refine ⟨rfl,Z1 _,?_⟩;have:x=y:=by
      cases x<;>cases y<;>simp only[aeb]at c<;>first|(cases c)|skip
      .rw [Q6 c]
      .simp only[X1]at c;rw[Q6 c.1,Q6 c.2]
     simp[this]
    .exact d p hp
   .exact d p hp
  .cases h
theorem BO{st:St}{o:Oper}{g off n:Nat}(h:NY tt st o=zw (g,off,n)):(∃t x i,o.op=.load t x/\tt t=zw i/\i.size=n/\st.dG x=.v (.one (.box g off)))\/
  ((off=5000000/\n=1)/\∃t x i m b a0 i0 sz au l hole,o.op=.load t x/\tt t=zw i/\st.dG x=.v (.one (.ep g m b))/\st.o g=.aP a0 i0 sz au l hole/\jE au b i.size=[]):=by
 unfold NY at h;split at h
 .rename_i t x c;split at h
  .rename_i i g' b d j;cases h;exact .inl ⟨t,x,i,c,d,rfl,j⟩
  .rename_i i g' m b d j;split at h
   .rename_i a0 i0 sz au l hole z;cases y:jE au b i.size with
    |nil=>rw[y]at h;have h:zw (g',5000000,1)=zw (g,off,n):=h;cases h;exact .inr ⟨⟨rfl,rfl⟩,t,x,i,m,b,a0,i0,sz,au,l,hole,c,d,j,z,y⟩
    |cons q B=>rw[y]at h;have h:(zz:Option (Nat×Nat×Nat))=zw (g,off,n):=h;cases h
   .cases h
  .cases h
 .cases h
theorem rC{st:St}{o:Oper}(h:KP o.op=zj\/nU o.op=zj):jG st o=[]:=by
 refine Xc ?_;unfold argNames;split
 .rename_i f args ts b;rw[b]at h;rcases h with h|h<;>cases h
 .rename_i b;rw[b]at h;rcases h with h|h<;>cases h
 .rfl
theorem abO{st:St}{o:Oper}{g off n:Nat}(h:NY tt st o=zw (g,off,n)):g∈uM T st o:=by
 rcases BO h with⟨t,x,i,b,_,_,c⟩|⟨_,t,x,i,m,d,a0,i0,q,y,l,j,b,_,c,_⟩
 all_goals
  refine W6 _ ?_;rw[rC (.inl (by rw[b];rfl))];unfold DY;rw[b];show g∈(bif _ then _ else _)++_;refine W6 _ (Z6.2 ⟨x,by simp[Op.operands],Z6.2 ⟨g,?_,by simp⟩⟩);show g∈(st.dG x).names;rw[c];simp[S.names,V.names,W.names]
theorem UF{es:Nat->Eff}{D:Nat->Bool}{g:Nat}:∀(n:Nat),∃m,(∀k,m<=k->k<n->D k=zj->g∉(es k).aK.map (·.1))/\(SD ops es st D n).o g=(SD ops es st (λ_=>zj) m).o g/\(m=0\/∃k,m=k+1/\k<n/\D k=zj/\g∈(es k).aK.map (·.1))
 |0=>⟨0,λk _ h=>by omega,rfl,.inl rfl⟩
 |n+1=>by
  obtain⟨m,y,j,z⟩:=UF (D:=D) (g:=g) n;by_cases d:D n=zj/\g∈(es n).aK.map (·.1)
  .obtain ⟨hd,hg⟩:=d;refine⟨n+1,λk a b=>by omega,?_,.inr ⟨n,rfl,by omega,hd,hg⟩⟩;simp only[SD,hd,if_true,y9];cases B:(es n).aK.lookup g with
   |some x=>rfl
   |none=>
    exfalso;obtain⟨p,H,e⟩:=XS.1 hg;have :∀{l:List (Nat×O)},p∈l->l.lookup p.1≠zz:=by
     intro l
     induction l with
     |nil=>intro h;cases h
     |cons q l J=>
      intro h hn;simp only[List.lookup]at hn;split at hn
      .cases hn
      .rename_i K;rcases XN.1 h with h|h
       .subst h;simp at K
       .exact J h hn
    exact this H (by rw[e];exact B)
  .refine ⟨m,λk a b hd hg=>?_,?_,z.imp id λ⟨k,a,b,c⟩=>⟨k,a,by omega,c⟩⟩
   .by_cases e:k=n
    .subst e;exact d ⟨hd,hg⟩
    .exact y k a (by omega) hd hg
   .cases hd:D n with
    |false=>simp only[SD,hd,Wb,if_false];exact j
    |true=>have hg:g∉(es n).aK.map (·.1):=λhg=>d ⟨hd,hg⟩;simp only[SD,hd,if_true,y9,kQ hg];exact j
theorem BP{st:St}{o:Oper}{d:Nat}{t:TypeId}{x:Operand}{i:TI}{g off:Nat}(y:o.op=.load t x)(z:tt t=zw i)(B:st.dG x=.v (.one (.box g off))){K:Eff->Prop}:
  jH T tt d st o K↔∃b,st.o g=.box b/\(off+i.size<=b.length/\0<i.size)/\K { x:=V.gB i.agg ((b.drop off).take i.size),aK:=[],new:=[] }:=by
 have H :∀q,dX tt q d st.o st.dG (.load t x) o.type=zz:=λq=>by simp only[dX,uF,z,B];cases Ua q<;>rfl
 have e:jH T tt d st o K↔(match kernel tt d st.o st.dG (.load t x) o.type with
   |some r=>r.pre/\K { x:=r.dst r.val,aK:=r.aK r.val,new:=r.new }
   |none=>False):=by
  rw[tC (rC (.inl (by rw[y];rfl)))];unfold lg;rw[y];simp only[H,reduceCtorEq,false_and,exists_false,false_or,Ht,cond_false];cases kernel tt d st.o st.dG (.load t x) o.type<;>rfl
 rw[e];simp only[kernel,z,B];cases J:st.o g with
 |box b=>
  simp only;by_cases m:off+i.size<=b.length/\0<i.size
  .rw [QR m];simp only[EZ.pure,true_and];constructor
   .intro h;exact⟨b,rfl,m,h⟩
   .rintro ⟨c,j,_,h⟩;cases j;exact h
  .rw [QP m];simp only[false_iff];rintro ⟨c,j,h,_⟩;cases j;exact m h
 |_=>simp only[false_iff];rintro ⟨c,j,_⟩;cases j
theorem Y3{st:St}{o:Oper}{e:Eff}(c:Can T tt N ops st o e){Q:Eff->Prop}(hs:Q Eff.skip)(key :∀{d:Nat},(jH T tt d st o λh=>h.new.all (λg=>!st.used g)=zj/\h=e)->Q e):Q e:=by
 unfold Can stepW at c;obtain⟨_,c⟩:=c;split at c
 .exact key c
 .split at c
  .rename_i b _;cases b with
   |true=>exact key c
   |false=>have c:Eff.skip=e:=c;rw[<-c];exact hs
  .cases c
theorem KZ{st:St}{o:Oper}{d:Nat}{t:TypeId}{x:Operand}{i:TI}{g off sz:Nat}{m:P}{a0 i0:Bool}{au:List (Nat×Nat)}{l:List (List P)}{hole:Option (Nat×Nat×Nat)}(X:o.op=.load t x)(y:tt t=zw i)(z:st.dG x=.v (.one (.ep g m off)))
  (B:st.o g=.aP a0 i0 sz au l hole) (J:jE au off i.size=[]) {K:Eff->Prop} :
  jH T tt d st o K↔(off+i.size<=sz/\0<i.size)/\K { x:=V.gB i.agg ((List.range i.size).map λj=>.p a0 i0 ((l.getD m.nat []).getD (off+j) (Tt i.zero j))),aK:=[],new:=[] }:=by
 have Y:kernel tt d st.o st.dG (.load t x) o.type=zz:=by simp only[kernel,y,z,B]
 have Z:uF tt st.o st.dG t x=zz:=by
  unfold uF;simp only[y,z];cases b:jF st.o g with
  |none=>rfl
  |some q=>
   obtain⟨a,i',sz',H,l'⟩:=q;simp only;have h:H=au:=by
    unfold jF at b;rw[B]at b;simp only at b;split at b
    .simp only[Q0,QQ]at b;exact b.2.2.2.1.symm
    .split at b
     .split at b
      .simp only[Q0,QQ]at b;exact b.2.2.2.1.symm
      .cases b
     .cases b
   subst h;cases hl:H.lookup off with
   |none=>rfl
   |some s=>
    simp only;rw[QP];rintro ⟨_,L,_⟩;have hm:(off,s)∈H:=jY hl;have:(off,s)∈jE H off i.size:=by unfold jE;rw[v8];exact⟨hm,by rw[L];simp⟩
    rw[J]at this;cases this
 rw[tC (rC (.inl (by rw[X];rfl)))];unfold lg;rw[X];simp only[Y,or_false];constructor
 .rintro ⟨dc,r,c,hp,hb⟩;simp only[dX]at c;cases hd:Ua dc with
  |true=>rw[hd]at c;simp only[cond_true,Z]at c;cases c
  |false=>
   rw[hd]at c;simp only[cond_false,y,z,B,J]at c;split at c
   .rename_i M;cases c;exact⟨M,NR.iff.1 hb⟩
   .cases c
 .rintro ⟨M,U⟩;refine⟨[],.pure (V.gB i.agg ((List.range i.size).map λj=>.p a0 i0 ((l.getD m.nat []).getD (off+j) (Tt i.zero j)))),?_,trivial,NR.iff.2 U⟩;simp only[dX,Ua,cond_false,y,z,B,J];rw[QR M]
theorem UG{st:St}{o:Oper}{e:Eff}{g off n:Nat}(z:Can T tt N ops st o e)(B:NY tt st o=zw (g,off,n)):e.aK=[]:=by
 refine Y3 (Q:=λe=>e.aK=[]) z rfl λ{d} h=>?_;rcases BO B with⟨t,x,i,b,c,K,j⟩|⟨_,t,x,i,m,q,a0,i0,L,M,l,y,b,c,j,H,J⟩
 .obtain ⟨U,_,_,_,rfl⟩:=(BP b c j).1 h;rfl
 .obtain ⟨_,_,rfl⟩:=(KZ b c j H J).1 h;rfl
theorem abP{st:St}{o:Oper}{e:Eff}{g:Nat}{t:TypeId}{x:Operand}{a i:Bool}{sz:Nat}{au:List (Nat×Nat)}{l:List (List P)}(hc:Can T tt N ops st o e)(X:o.op=.load t x)(Y:st.o g=.aP a i sz au l zz){B H:Bool}{m:Nat}{J:List (Nat×Nat)}{K:List (List P)}{iE:Option (Nat×Nat×Nat)}
  (j:e.aK.lookup g=zw (.aP B H m J K iE)):(O.aP B H m J K iE).core=(O.aP a i sz au l zz).core:=by
 refine Y3 (Q:=λe=>e.aK.lookup g=zw (.aP B H m J K iE)->_) hc (λh=>by cases h) (λ{d} h j=>?_) j;rw[tC (rC (.inl (by rw[X];rfl)))]at h;unfold lg at h;rw[X]at h;simp only at h;rcases h with⟨dc,r,b,hp,M⟩|h
 .have M:=(NR.iff.1 M).2;rw[<-M]at j;simp only at j;simp only[dX]at b;cases hd:Ua dc with
  |true=>
   rw[hd]at b;simp only[cond_true]at b;unfold uF at b
   repeat' split at b
   all_goals first|(cases b;done)|skip
   cases b;simp[EZ.pure,rO]at j
  |false=>
   rw[hd]at b;simp only[cond_false]at b;split at b
   .rename_i i1 g1 n1 Z _ _;split at b
    .rename_i a1 i2 sz1 awT l1 awU y;split at b
     .split at b
      .cases b;simp[EZ.pure,rO]at j
      .rename_i c s _;split at b
       .rename_i a2 i3 sz2 apk l2 U;cases b;simp only[List.lookup]at j;cases hg:g==g1 with
        |true=>
         have e1:g=g1:=by simpa using hg
         subst e1;rw[hg]at j;simp only[Q0]at j;rw[Y]at y;cases y;unfold jF at U;rw[Y]at U;cases U;rw[<-j];rfl
        |false=>
         rw[hg]at j;simp only at j;cases z:g==d with
         |true=>rw[z]at j;cases j
         |false=>
          rw[z]at j;simp only at j;exfalso;have :∀gs:List Nat,(kills gs).lookup g≠zw (.aP B H m J K iE):=λgs=>by
           induction gs with
           |nil=>intro h;cases h
           |cons q qs ih=>
            intro h;simp only[kills,Qf,List.lookup]at h;split at h
            .cases h
            .exact ih h
          exact this _ j
       .cases b
      .cases b
     .cases b
    .cases b
   .cases b
 .split at h
  .rename_i r L;obtain⟨_,h⟩:=h;have h:(_:Prop)/\({ x:=r.dst r.val,aK:=r.aK r.val,new:=r.new }:Eff)=e:=h;rw[<-h.2]at j;have:r.aK r.val=[]:=by
    simp only[kernel]at L
    repeat' split at L
    all_goals first|(cases L;done)|(cases L;rfl)
   simp only[this]at j;cases j
  .cases h
theorem FH{st:St}{o:Oper}{e:Eff}{p:Nat×Nat}(B:Can T tt N ops st o e)(h:p∈QJ st o e):nU o.op=zj\/(∃m wb,st.o p.1=.box m/\e.aK.lookup p.1=zw (.box wb)/\m.length=wb.length/\m[p.2]?=wb[p.2]?)\/
  ∃x,e.aK.lookup p.1=zw x/\x.core=(st.o p.1).core/\(st.o p.1).core≠zz:=by
 unfold QJ at h;rcases Z0.1 h with h|h
 .cases hp:nU o.op with
  |true=>exact .inl rfl
  |false=>rw[hp]at h;cases h
 obtain⟨g,_,hp⟩:=Z6.1 h;rcases Z0.1 hp with hp|hp
 .refine .inr (.inl ?_);cases b:st.o g with
  |box H=>
   cases c:e.aK.lookup g with
   |none=>rw[b,c]at hp;cases hp
   |some x=>
    cases x with
    |box z=>
     rw[b,c]at hp;simp only[UA]at hp;split at hp
     .rename_i r J;obtain⟨K,L⟩:=KY J;obtain⟨rfl,_,a3⟩:=L p hp;exact⟨H,z,b,c,K,by simpa using a3⟩
     .cases hp
    |_=>rw[b,c]at hp;cases hp
  |_=>rw[b]at hp;cases hp
 .refine .inr (.inr ?_);cases d:o.op with
  |load t x=>
   rw[d]at hp;simp only[KP,cond_true]at hp;cases b:st.o g with
   |aP a i U X l j=>
    cases j with
    |some q=>rw[b]at hp;revert hp;cases e.aK.lookup g with
     |none=>intro hp;cases hp
     |some y=>cases y<;>intro hp<;>cases hp
    |none=>
     cases c:e.aK.lookup g with
     |none=>rw[b,c]at hp;cases hp
     |some y=>
      cases y with
      |aP Y Z M iP l' iE=>rw[b,c]at hp;have hp:p∈[(g,5000000)]:=hp;rw[X2]at hp;subst hp;exact⟨_,c,by rw[b];exact abP B d b c,by rw[b];simp[O.core]⟩
      |_=>rw[b,c]at hp;cases hp
   |_=>rw[b]at hp;cases hp
  |_=>rw[d]at hp;cases hp
theorem abQ{st:St}{e:Eff}{g:Nat}(h:g∈Xq st e):∃x,e.aK.lookup g=zw x/\kindOf x=kindOf (st.o g):=by
 unfold Xq at h;obtain⟨g',_,b⟩:=qd.1 h;cases c:e.aK.lookup g' with
 |none=>rw[c]at b;cases b
 |some x=>
  rw[c]at b;simp only at b;cases d:Nat.beq (kindOf x) (kindOf (st.o g'))with
  |false=>rw[d]at b;cases b
  |true=>rw[d]at b;cases b;exact⟨x,c,Q6 d⟩
theorem OT{o o':Nat->O}{x:W}(h :∀g∈x.names,kindOf (o g)=kindOf (o' g)):x.live o=x.live o':=by
 cases x<;>simp only[W.live]<;>first|rfl|skip
 .rename_i g off;have:=h g (by simp[W.names]);cases b:o g<;>cases c:o' g<;>rw[b,c]at this<;>first|rfl|cases this
 .rename_i g n off;have:=h g (by simp[W.names]);cases b:o g<;>cases c:o' g<;>rw[b,c]at this<;>first|rfl|cases this
theorem UH{o o':Nat->O}{d:Nat}{F h:Operand->S}{op:Op}{ty:TypeId}(q:nU op=zj)(j :∀x∈op.operands.toList,F x=h x)(m :∀x∈op.operands.toList,∀g∈(F x).names,kindOf (o g)=kindOf (o' g)):
  kernel tt d o F op ty=kernel tt d o' h op ty:=by
 cases op<;>first|(cases q;done)|skip
 .rename_i x;have c:=j x (by simp[Op.operands]);have b:=m x (by simp[Op.operands]);simp only[kernel,<-c];generalize F x=z at b;split
  .rename_i x;rw[OT (o':=o') λg hg=>b g (by simpa[S.names,V.names]using hg)]
  .rfl
 .rename_i t x n;have c:=j x (by simp[Op.operands]);have b:=m x (by simp[Op.operands]);simp only[kernel,<-c];generalize F x=z at b;split
  .rename_i x _ _;rw[OT (o':=o') λg hg=>b g (by simpa[S.names,V.names]using hg)]
  .rfl
theorem BQ{st:St}{o:Oper}{d:Nat}(b:nU o.op=zj){K:Eff->Prop}:
  jH T tt d st o K↔(match kernel tt d st.o st.dG o.op o.type with
   |some r=>r.pre/\K { x:=r.dst r.val,aK:=r.aK r.val,new:=r.new }
   |none=>False):=by
 rw[tC (rC (.inr b))];unfold lg;cases c:o.op<;>rw[c]at b<;>first|(cases b;done)|skip
 all_goals
  simp only[dX,reduceCtorEq,false_and,exists_false,false_or,Ht,cond_false];generalize kernel tt d st.o st.dG _ o.type=z;cases z<;>rfl
theorem abR{o:Nat->O}{F:Operand->S}{d:Nat}{op:Op}{ty:TypeId}{r:EZ}(b:nU op=zj)(h:kernel tt d o F op ty=zw r):r.aK r.val=[]:=by
 cases op<;>first|(cases b;done)|skip
 all_goals
  simp only[kernel]at h;split at h
  .split at h
   .cases h;rfl
   .cases h
  .cases h
theorem D7{st:St}{o:Oper}{e:Eff}(c:Can T tt N ops st o e)(j:nU o.op=zj):e.aK=[]:=by
 have key :∀{d:Nat},(jH T tt d st o λm=>m.new.all (λg=>!st.used g)=zj/\m=e)->e.aK=[]:=by
  intro d h;have h:=(BQ j).1 h;split at h
  .rename_i r q;obtain⟨_,_,rfl⟩:=h;exact abR j q
  .cases h
 unfold Can stepW at c;obtain⟨_,c⟩:=c;split at c
 .exact key c
 .split at c
  .rename_i b _;cases b with
   |true=>exact key c
   |false=>have c:Eff.skip=e:=c;rw[<-c];rfl
  .cases c
theorem aed{st st':St}{o:Oper}{e:Eff}(c:Can T tt N ops st o e)(m:nU o.op=zj)(hs :∀t∈o.looksAt ops,st.s t=st'.s t)(q :∀x∈o.op.operands.toList,∀g∈(st.dG x).names,kindOf (st.o g)=kindOf (st'.o g))(hu :∀g∈e.new,st.used g=st'.used g):Can T tt N ops st' o e:=by
 have y :∀x∈o.op.operands.toList,st.dG x=st'.dG x:=by
  intro x z;cases x with
  |tmp t=>exact hs t (W6 _ (qd.2 ⟨_,z,rfl⟩))
  |_=>rfl
 have B:kernel tt (o.dst.getD 0) st.o st.dG o.op o.type=kernel tt (o.dst.getD 0) st'.o st'.dG o.op o.type:=UH m y q
 have eff:(jH T tt (o.dst.getD 0) st o λd=>d.new.all (λg=>!st.used g)=zj/\d=e)->(jH T tt (o.dst.getD 0) st' o λd=>d.new.all (λg=>!st'.used g)=zj/\d=e):=by
  intro h;have h:=(BQ m).1 h;refine(BQ m).2 ?_;rw[<-B];split at h
  .obtain ⟨q1,q2,rfl⟩:=h;refine⟨q1,?_,rfl⟩;rw[Zs]at q2 ⊢;intro g hg;rw[<-hu g hg];exact q2 g hg
  .cases h
 unfold Can stepW at *;refine⟨c.1,?_⟩;have c:=c.2;cases hg:o.guard with
 |none=>rw[hg]at c;exact eff c
 |some p=>
  obtain⟨j,want⟩:=p;rw[hg]at c;simp only at c ⊢;have:guardOf ops st j want=guardOf ops st' j want:=by
   unfold guardOf;cases hd:(ops[j]?).bind (·.dst)with
   |none=>rfl
   |some t=>simp only;rw[hs t (UT _ (by simp[hg,hd]))]
  rw[<-this];split at c
  .rename_i b H;cases b with
   |true=>exact eff c
   |false=>exact c
  .cases c
theorem aee{st st':St}{o:Oper}{e:Eff}{g off n:Nat}(c:Can T tt N ops st o e)(hs :∀t∈o.looksAt ops,st.s t=st'.s t){t:TypeId}{x:Operand}{i:TI}(q:o.op=.load t x)(y:tt t=zw i)(U:i.size=n)(z:st.dG x=.v (.one (.box g off)))
  (H:0<n->∀d,st.o g=.box d->Rng d off n (st'.o g)) (hu :∀g∈e.new,st.used g=st'.used g):Can T tt N ops st' o e:=by
 have J:st'.dG x=.v (.one (.box g off)):=by
  rw[<-z];cases x with
  |tmp t=>exact(hs t (W6 _ (qd.2 ⟨.tmp t,by simp[q,Op.operands],rfl⟩))).symm
  |_=>rfl
 have eff:(jH T tt (o.dst.getD 0) st o λm=>m.new.all (λg=>!st.used g)=zj/\m=e)->(jH T tt (o.dst.getD 0) st' o λm=>m.new.all (λg=>!st'.used g)=zj/\m=e):=by
  intro h;obtain⟨d,K,⟨q1,q2⟩,q3,rfl⟩:=(BP q y z).1 h;obtain⟨B,L,X,M⟩:=H (by omega) d K;refine(BP q y J).2 ⟨B,L,⟨by omega,q2⟩,rfl,?_⟩;have key:(B.drop off).take i.size=(d.drop off).take i.size:=by
   refine qn λk=>?_;rw[W0,W0];split
   .rw [Wo,Wo];exact M _ (by omega) (by omega)
   .rfl
  rw[key]
 unfold Can stepW at *;refine⟨c.1,?_⟩;have c:=c.2;cases hg:o.guard with
 |none=>rw[hg]at c;exact eff c
 |some p=>
  obtain⟨j,want⟩:=p;rw[hg]at c;simp only at c ⊢;have:guardOf ops st j want=guardOf ops st' j want:=by
   unfold guardOf;cases hd:(ops[j]?).bind (·.dst)with
   |none=>rfl
   |some t=>simp only;rw[hs t (UT _ (by simp[hg,hd]))]
  rw[<-this];split at c
  .rename_i b Y;cases b with
   |true=>exact eff c
   |false=>exact c
  .cases c
theorem amm{st st':St}{o:Oper}{e:Eff}{g off:Nat}(c:Can T tt N ops st o e)(hs :∀t∈o.looksAt ops,st.s t=st'.s t){t:TypeId}{x:Operand}{i:TI}{m:P}{a0 i0:Bool}{sz:Nat}{au:List (Nat×Nat)}{l:List (List P)}{hole:Option (Nat×Nat×Nat)}(q:o.op=.load t x)(z:tt t=zw i)(B:st.dG x=.v (.one (.ep g m off)))
  (J:st.o g=.aP a0 i0 sz au l hole) (K:jE au off i.size=[]) (H:(st'.o g).core=(st.o g).core) (hu :∀g∈e.new,st.used g=st'.used g):Can T tt N ops st' o e:=by
 have U:st'.dG x=.v (.one (.ep g m off)):=by
  rw[<-B];cases x with
  |tmp t=>exact(hs t (W6 _ (qd.2 ⟨.tmp t,by simp[q,Op.operands],rfl⟩))).symm
  |_=>rfl
 have eff:(jH T tt (o.dst.getD 0) st o λd=>d.new.all (λg=>!st.used g)=zj/\d=e)->(jH T tt (o.dst.getD 0) st' o λd=>d.new.all (λg=>!st'.used g)=zj/\d=e):=by
  intro h;obtain⟨q1,_,rfl⟩:=(KZ q z B J K).1 h;rw[J]at H;obtain⟨L,y⟩ :∃L,st'.o g=.aP a0 i0 sz au l L:=by
   cases M:st'.o g with
   |aP a i2 X Y l2 Z=>rw[M]at H;simp only[O.core,Q0,QQ]at H;obtain⟨rfl,rfl,rfl,rfl,rfl⟩:=H;exact⟨_,rfl⟩
   |_=>rw[M]at H;cases H
  exact(KZ q z U y K).2 ⟨q1,rfl,rfl⟩
 unfold Can stepW at *;refine⟨c.1,?_⟩;have c:=c.2;cases hg:o.guard with
 |none=>rw[hg]at c;exact eff c
 |some p=>
  obtain⟨j,want⟩:=p;rw[hg]at c;simp only at c ⊢;have:guardOf ops st j want=guardOf ops st' j want:=by
   unfold guardOf;cases hd:(ops[j]?).bind (·.dst)with
   |none=>rfl
   |some t=>simp only;rw[hs t (UT _ (by simp[hg,hd]))]
  rw[<-this];split at c
  .rename_i b hb;cases b with
   |true=>exact eff c
   |false=>exact c
  .cases c
theorem abS(hT :∀f sp,T f=zw sp->Sound Pg (f % 1000000) sp)(htt:jm Pg tt){es:Nat->Eff}{fs:List uN}(hfree:Y2 ops fs=zj)
  (U :∀i,i<ops.size->∃o,ops[i]?=zw o/\Can T tt N ops (SD ops es st (λ_=>zj) i) o (es i)/\fs[i]?=zw { rd:=uM T (SD ops es st (λ_=>zj) i) o,wr:=(es i).aK.map (·.1),new:=(es i).new,ld:=NY tt (SD ops es st (λ_=>zj) i) o,kp:=QJ (SD ops es st (λ_=>zj) i) o (es i),pk:=nU o.op,kd:=Xq (SD ops es st (λ_=>zj) i) (es i) })
  (hQ :∀a' w',Good E N bH yM (SD ops es st (λ_=>zj) ops.size) a' w'->Q .normal a' w') :
  ∀(fuel:Nat) (listed:Array Bool) (a:Act) (w:World),listed.size=ops.size->Down ops (λk=>listed.getD k zv)->(List.range ops.size).countP (λk=>!listed.getD k zv)<=fuel->
   Good E N bH yM (SD ops es st (λk=>listed.getD k zv) ops.size) a w->wpAny Pg .any ops Q fuel listed a w:=by
 have hf :∀j,j<ops.size->(pI ops.toList []).getD j 0<2 ^ j/\∀i,i<j->((pI ops.toList []).getD j 0).testBit i=zj\/∃x y fx X,ops[i]?=zw x/\ops[j]?=zw y/\fs[i]?=zw fx/\fs[j]?=zw X/\Apart ops x y fx X:=by
  intro j hj;have:=(Zs.1 hfree) j (Up.2 hj);simp only[X1,Wa,Zs,Up,Ka]at this;refine⟨this.1,λi hi=>?_⟩;rcases this.2 i hi with h|h
  .exact .inl h
  .right;split at h
   .rename_i x y fx X K L M J;exact⟨x,y,fx,X,K,L,M,J,Xr h⟩
   .cases h
 have done :∀(listed:Array Bool),listed.size=ops.size->Down ops (λk=>listed.getD k zv)->Region.ready .any ops listed=[]->∀k,k<ops.size->listed.getD k zv=zj:=by
  intro listed hsz hD hr k
  induction k using Nat.strongRecOn with
  |_ k ih=>
   intro z;obtain⟨o,ho,_,_⟩:=U k z;by_cases hl:listed.getD k zv=zj
   .exact hl
   .exfalso;have:k∈Region.ready .any ops listed:=mem_ready.2 ⟨by
     have hl:listed.getD k zv=zv:=by simpa using hl
     rw[WP]at hl ⊢;rw[qt (by omega)]at hl ⊢;exact hl,o,ho,λe he hb=>ih e.on (UC ho (hf k z).1 he hb) (by have:=UC ho (hf k z).1 he hb;omega)⟩
    rw[hr]at this;cases this
 have final :∀(listed:Array Bool) (a:Act) (w:World),listed.size=ops.size->Down ops (λk=>listed.getD k zv)->Region.ready .any ops listed=[]->Good E N bH yM (SD ops es st (λk=>listed.getD k zv) ops.size) a w->Q .normal a w:=by intro listed a w hsz hD hr hg;have h:=done listed hsz hD hr;rw[FD (D':=λ_=>zj) λk z=>h k z]at hg;exact hQ a w hg
 intro fuel
 induction fuel with
 |zero=>
  intro listed a w hsz hD hcnt hg;have hr:Region.ready .any ops listed=[]:=by
   cases hr:Region.ready .any ops listed with
   |nil=>rfl
   |cons k ks=>
    exfalso;have z:k∈Region.ready .any ops listed:=by rw[hr];simp
    obtain⟨K,o,ho,_⟩:=mem_ready.1 z;have hlt:=(UP.1 ho).1;have:0<(List.range ops.size).countP (λk=>!listed.getD k zv):=by rw[List.countP_pos_iff];refine⟨k,Up.2 hlt,?_⟩;rw[WP]at K ⊢;rw[qt (by omega)]at K ⊢;simpa using K
    omega
  exact⟨hr,final listed a w hsz hD hr hg⟩
 |succ fuel ih=>
  intro listed a w hsz hD hcnt hg;refine⟨λhr=>final listed a w hsz hD hr hg,λi hi=>?_⟩;obtain⟨hni,oi,Z,hpre⟩:=mem_ready.1 hi;have hlt:i<ops.size:=(UP.1 Z).1;have hDi:listed.getD i zv=zv:=by rw[WP]at hni ⊢;rw[qt (by omega)]at hni ⊢;exact hni
  obtain⟨o,ho,hc,hfi⟩:=U i hlt;rw[Z]at ho;cases ho;have H :∀k,(listed.setIfInBounds i zj).getD k zv=if k=i then zj else listed.getD k zv:=by
   intro k;by_cases e:k=i
   .subst e;rw[QR rfl,WP,Array.getElem?_setIfInBounds_self];simp[show k<listed.size by omega]
   .rw [QP e,WP,Array.getElem?_setIfInBounds_ne (Ne.symm e),<-WP]
  have hD':Down ops (λk=>(listed.setIfInBounds i zj).getD k zv):=by
   intro j o' ho' hj e he hb;simp only[H]at hj ⊢;by_cases ej:j=i
   .subst ej;rw[Z]at ho';cases ho';have:=hpre e he hb;rw[this];simp
   .rw [QP ej]at hj;have:=hD j o' ho' hj e he hb;simp only at this;rw[this];simp
  have hap :∀k,k<ops.size->k≠i->((k<i/\listed.getD k zv=zv)\/(i<k/\listed.getD k zv=zj))->∃y X,ops[k]?=zw y/\fs[k]?=zw X/\
    (∀t,y.dst=zw t->t∉oi.looksAt ops)/\(∀t,oi.dst=zw t->y.dst≠zw t)/\((∀g∈X.wr,g∉uM T (SD ops es st (λ_=>zj) i) oi)\/∃fi,fs[i]?=zw fi/\H_ X fi=zj)/\(∀g∈X.wr,g∉(es i).aK.map (·.1))/\(∀g∈X.new,g∉(es i).new)/\X.wr=(es k).aK.map (·.1)/\X.new=(es k).new:=by
   intro k z c B;obtain⟨y0,hy0,_,Y⟩:=U k z;rcases B with⟨hlt',hfalse⟩|⟨hlt',apl⟩
   .rcases (hf i hlt).2 k hlt' with hb|⟨x,y,fx,X,K,L,M,J,ap⟩
    .have:=zh hD' i Z (by simp[H]) k hb;simp only[H,QP c]at this;rw[hfalse]at this;cases this
    .rw [Z]at L;cases L;rw[hfi]at J;cases J;rw[Y]at M;cases M;exact⟨x,_,K,Y,ap.dy,λt e e'=>ap.dd t e' e,ap.wr.imp id (λh=>⟨_,hfi,h⟩),ap.ww,ap.nn,rfl,rfl⟩
   .rcases (hf k z).2 i hlt' with hb|⟨x,y,fx,X,K,L,M,J,ap⟩
    .have:=zh hD k hy0 apl i hb;rw[hDi]at this;cases this
    .rw [Z]at K;cases K;rw[hfi]at M;cases M;rw[Y]at J;cases J;exact⟨y,_,L,Y,ap.dx,ap.dd,ap.rw.imp id (λh=>⟨_,hfi,h⟩),λg hg hg'=>ap.ww g hg' hg,λg hg hg'=>ap.nn g hg' hg,rfl,rfl⟩
  have QL:SD ops es st (λ_=>zj) i=SD ops es st (λk=>decide (k<i)) ops.size:=by
   have :∀m,i+m<=ops.size->SD ops es st (λk=>decide (k<i)) (i+m)=SD ops es st (λ_=>zj) i:=by
    intro m
    induction m with
    |zero=>intro _;exact FD λk z=>by simp[show k<i by omega]
    |succ m ih=>intro hm;rw[<-J1];simp only[SD,show ¬ (i+m<i) by omega,decide_false,Wb,if_false];exact ih (by omega)
   have:=this (ops.size-i) (by omega);rw[show i+(ops.size-i)=ops.size by omega]at this;exact this.symm
  have hdiff :∀k,k<ops.size->decide (k<i)≠listed.getD k zv->k≠i/\((k<i/\listed.getD k zv=zv)\/(i<k/\listed.getD k zv=zj)):=by
   intro k z c;by_cases e:k=i
   .subst e;rw[hDi]at c;simp at c
   .refine ⟨e,?_⟩;by_cases hki:k<i
    .exact .inl ⟨hki,by simpa[hki]using c⟩
    .refine .inr ⟨by omega,?_⟩;cases hl:listed.getD k zv with
     |true=>rfl
     |false=>rw[hl]at c;simp[hki]at c
  have hdst :∀(k:Nat) (y:Oper),ops[k]?=zw y->(ops[k]?).bind (·.dst)=y.dst:=λk y h=>by rw[h];rfl
  have hc':Can T tt N ops (SD ops es st (λk=>listed.getD k zv) ops.size) oi (es i):=by
   have rV :∀t∈oi.looksAt ops,(SD ops es st (λ_=>zj) i).s t=(SD ops es st (λk=>listed.getD k zv) ops.size).s t:=λt ht=>by rw[QL];refine amk λk z c=>?_;obtain⟨K,L⟩:=hdiff k z c;obtain⟨y,X,M,_,J,_⟩:=hap k z K L;rw[hdst k y M];exact λe=>J t e ht
   have Oo :∀g∈(es i).new,(SD ops es st (λ_=>zj) i).used g=(SD ops es st (λk=>listed.getD k zv) ops.size).used g:=λg hg=>by rw[QL];refine QK λk z c=>?_;obtain⟨K,L⟩:=hdiff k z c;obtain⟨y,X,M,_,_,_,_,_,J,_,h5⟩:=hap k z K L;rw[<-h5];exact λe=>J g e hg
   have travel :∀(g:Nat) (Pr:O->Prop),g∉(es i).aK.map (·.1)->(∀k,k<ops.size->k≠i->((k<i/\listed.getD k zv=zv)\/(i<k/\listed.getD k zv=zj))->g∈(es k).aK.map (·.1)->
     (Pr ((SD ops es st (λ_=>zj) k).o g)↔Pr ((SD ops es st (λ_=>zj) (k+1)).o g)))->Pr ((SD ops es st (λ_=>zj) i).o g)->Pr ((SD ops es st (λk=>listed.getD k zv) ops.size).o g):=by
    intro g Pr hgi hkeep hP0;have hstep :∀k,k<ops.size->(g∈(es k).aK.map (·.1)->(Pr ((SD ops es st (λ_=>zj) k).o g)↔Pr ((SD ops es st (λ_=>zj) (k+1)).o g)))->
      (Pr ((SD ops es st (λ_=>zj) k).o g)↔Pr ((SD ops es st (λ_=>zj) (k+1)).o g)):=by
     intro k z hw;by_cases hg:g∈(es k).aK.map (·.1)
     .exact hw hg
     .have:(SD ops es st (λ_=>zj) (k+1)).o g=(SD ops es st (λ_=>zj) k).o g:=by simp only[SD,if_true,y9,kQ hg]
      rw[this]
    obtain⟨m',hm',hlast,hafter⟩:=UF (ops:=ops) (es:=es) (st:=st) (D:=λk=>listed.getD k zv) (g:=g) ops.size;rw[hlast];rcases zc i m' with him|him
    .-- forward
     have :∀d,i+d<=m'->Pr ((SD ops es st (λ_=>zj) (i+d)).o g):=by
      intro d
      induction d with
      |zero=>intro _;exact hP0
      |succ d ihd=>
       intro hd;have z:i+d<ops.size:=by rcases hafter with e|⟨k1,e,L,_⟩<;>omega
       rw[<-J1];refine(hstep (i+d) z (λhg=>?_)).1 (ihd (by omega));by_cases e0:d=0
       .exfalso;subst e0;exact hgi hg
       .have hin:listed.getD (i+d) zv=zj:=by
         rcases hafter with e|⟨k1,rfl,apm,hk1,hg1⟩
         .omega
         .by_cases e1:i+d=k1
          .rw [e1];exact hk1
          .obtain ⟨y1,hy1,_,hf1⟩:=U k1 apm;rcases (hf k1 apm).2 (i+d) (by omega)with hb|⟨x2,y2,fx,X,K,L,M,J,ap⟩
           .exact zh hD k1 hy1 hk1 _ hb
           .exfalso;obtain⟨y0,_,_,Y⟩:=U (i+d) z;rw[Y]at M;cases M;rw[hf1]at J;cases J;exact ap.ww g hg hg1
        exact hkeep (i+d) z (by omega) (.inr ⟨by omega,hin⟩) hg
     have:=this (m'-i) (by omega)
     rwa [show i+(m'-i)=m' by omega]at this
    .-- backward
     have :∀d,d<=i-m'->Pr ((SD ops es st (λ_=>zj) (i-d)).o g):=by
      intro d
      induction d with
      |zero=>intro _;exact hP0
      |succ d ihd=>
       intro hd;have z:i-(d+1)<ops.size:=by omega
       have e1:i-(d+1)+1=i-d:=by omega
       refine(hstep (i-(d+1)) z (λhg=>?_)).2 (by rw[e1];exact ihd (by omega));have hout:listed.getD (i-(d+1)) zv=zv:=by
        cases hl:listed.getD (i-(d+1)) zv with
        |false=>rfl
        |true=>exact absurd hg (hm' (i-(d+1)) (by omega) z hl)
       exact hkeep (i-(d+1)) z (by omega) (.inl ⟨by omega,hout⟩) hg
     have:=this (i-m') (Z1 _)
     rwa [show i-(i-m')=m' by omega]at this
   cases hld:NY tt (SD ops es st (λ_=>zj) i) oi with
   |none=>
    by_cases hpk:nU oi.op=zj
    .refine aed hc hpk rV (λx0 hx0 g hg=>?_) Oo;have hgf:g∈uM T (SD ops es st (λ_=>zj) i) oi:=by
      have hl:looks oi.op=zj:=by cases hop:oi.op<;>rw[hop]at hpk<;>first|rfl|cases hpk
      refine W6 _ ?_;rw[rC (.inr hpk)];exact W6 _ (by rw[hl];exact Z6.2 ⟨x0,hx0,Z6.2 ⟨g,hg,by simp⟩⟩)
     have atn:(g,0)∈QJ (SD ops es st (λ_=>zj) i) oi (es i):=W6 _ (by rw[hpk];exact XS.2 ⟨g,Z6.2 ⟨x0,hx0,hg⟩,rfl⟩);refine(travel g (λx=>kindOf ((SD ops es st (λ_=>zj) i).o g)=kindOf x) (by rw[D7 hc hpk];simp) (λk z c B hgk=>?_) rfl);obtain⟨y,X,M,Y,_,_,J,_,_,h5,_⟩:=hap k z c B;rcases J with J|⟨fi,UJ,hs⟩
     .exfalso;rw[<-h5]at hgk;exact J g hgk hgf
     .rw [hfi]at UJ;cases UJ;simp only[H_,hld,hpk,Bool.true_and,Zs,Ka,V0,Vc,Wa,decide_eq_false_iff_not]at hs;rw[h5]at hs;rcases hs (g,0) atn with hs|hs
      .exact absurd hgk hs
      .obtain ⟨o',ho',_,aef⟩:=U k z;rw[Y]at aef;cases aef;obtain⟨x,q1,q2⟩:=abQ hs;have:(SD ops es st (λ_=>zj) (k+1)).o g=x:=by simp only[SD,if_true,y9,q1]
       rw[this,q2]
    .refine abN hc rV (λg hg=>?_) Oo;rw[QL]at hg ⊢;refine aml λk z c=>?_;obtain⟨K,L⟩:=hdiff k z c;obtain⟨y,X,M,_,_,_,J,_,_,h5,_⟩:=hap k z K L;rw[<-h5];rcases J with J|⟨fi,UJ,hs⟩
     .rw [QL]at J;exact λe=>J g e hg
     .rw [hfi]at UJ;cases UJ;simp only[H_,hld,hpk,Bool.false_and]at hs;cases hs
   |some q=>
    obtain⟨g,off,n⟩:=q;have akG :∀k,k<ops.size->k≠i->((k<i/\listed.getD k zv=zv)\/(i<k/\listed.getD k zv=zj))->g∈(es k).aK.map (·.1)->∃o',Can T tt N ops (SD ops es st (λ_=>zj) k) o' (es k)/\
      ∀b,off<=b->b<off+n->(g,b)∈QJ (SD ops es st (λ_=>zj) k) o' (es k):=by
     intro k z c B hg;obtain⟨y,X,M,Y,_,_,J,_,_,h5,_⟩:=hap k z c B;rcases J with J|⟨fi,UJ,hs⟩
     .exfalso;rw[<-h5]at hg;exact J g hg (abO hld)
     .rw [hfi]at UJ;cases UJ;simp only[H_,hld,Zs,Up]at hs;obtain⟨o',ho',hck,aef⟩:=U k z;rw[Y]at aef;cases aef;refine⟨o',hck,λb h1' h2'=>?_⟩;obtain⟨p,hp,he⟩:=KS.1 (hs (b-off) (by omega));simp only[X1]at he;have e1:=Q6 he.1;have e2:=Q6 he.2;have:p=(g,b):=Prod.ext e1 (by simp only;omega)
      rwa [this]at hp
    have Ud :∀{k x},(es k).aK.lookup g=zw x->(SD ops es st (λ_=>zj) (k+1)).o g=x:=λh=>by simp only[SD,if_true,y9,h]
    rcases BO hld with⟨t,x,ti,K,L,M,J⟩|⟨⟨rfl,rfl⟩,t,x,ti,m,b,a0,i0,sz,au,l,hole,K,L,J,h5,h6⟩
    .refine aee hc rV K L M J (λhn ws hws=>?_) Oo;refine travel g (Rng ws off n) (by rw[UG hc hld];simp) (λk z c B hg=>?_) ⟨ws,hws,rfl,λ_ _ _=>rfl⟩;obtain⟨o',hck,hs⟩:=akG k z c B hg;have akH :∀{y:O},y.core≠zz->¬ Rng ws off n y:=λhy ⟨wc,e,_⟩=>by subst e;exact hy rfl
     rcases FH hck (hs off (Z1 _) (by omega))with hp|⟨wa,wb,q1,q2,q3,_⟩|⟨y,q1,q2,q3⟩
     .rw [D7 hck hp]at hg;cases hg
     .simp only at q1 q2;rw[Ud q2,q1];have hall :∀b,off<=b->b<off+n->wa[b]?=wb[b]?:=λb a1 a2=>by
       rcases FH hck (hs b a1 a2)with hp|⟨wa',wb',r1,r2,_,r4⟩|⟨y,r1,r2,r3⟩
       .rw [D7 hck hp]at hg;cases hg
       .simp only at r1 r2;rw[q1]at r1;rw[q2]at r2;cases r1;cases r2;exact r4
       .simp only at r3;rw[q1]at r3;exact absurd rfl r3
      constructor
      .rintro ⟨wc,hc,hl,hr⟩;cases hc;exact⟨wb,rfl,by omega,λb a1 a2=>by rw[<-hall b a1 a2];exact hr b a1 a2⟩
      .rintro ⟨wc,hc,hl,hr⟩;cases hc;exact⟨wa,rfl,by omega,λb a1 a2=>by rw[hall b a1 a2];exact hr b a1 a2⟩
     .simp only at q1 q2 q3;rw[Ud q1];exact⟨λh=>absurd h (akH q3),λh=>absurd h (akH (by rw[q2];exact q3))⟩
    .refine amm hc rV K L J h5 h6 ?_ Oo;refine travel g (λy=>y.core=((SD ops es st (λ_=>zj) i).o g).core) (by rw[UG hc hld];simp) (λk z c B hg=>?_) rfl;obtain⟨o',hck,hs⟩:=akG k z c B hg;rcases FH hck (hs _ (Z1 _) (by omega))with hp|⟨wa,wb,q1,q2,q3,_⟩|⟨y,q1,q2,q3⟩
     .rw [D7 hck hp]at hg;cases hg
     .simp only at q1 q2;rw[Ud q2,q1];exact⟨λh=>h,λh=>h⟩
     .simp only at q1 q2;rw[Ud q1,q2]
  have hins:SD ops es st (λk=>(listed.setIfInBounds i zj).getD k zv) ops.size=(SD ops es st (λk=>listed.getD k zv) ops.size).eff oi.dst (es i):=by
   have hDs :∀k,(λk=>(listed.setIfInBounds i zj).getD k zv) k=if k=i then zj else listed.getD k zv:=H
   have c :∀k,(λk=>(listed.setIfInBounds i zj).getD k zv) k≠(λk=>listed.getD k zv) k->k=i:=by
    intro k h;simp only[H]at h;by_cases e:k=i
    .exact e
    .rw [QP e]at h;exact absurd rfl h
   have aeg :∀k,i<k->k<ops.size->(λk=>(listed.setIfInBounds i zj).getD k zv) k=zj->listed.getD k zv=zj:=by intro k K L M;simp only[H,QP (show k≠i by omega)]at M;exact M
   refine St.ext' (λt=>?_) (λg=>?_) (λg=>?_)
   .rw [OL];by_cases hd:oi.dst=zw t
    .rw [QR hd];refine OM (by simp[H]) ((hdst i oi Z).trans hd) hlt λk K L M=>?_;obtain⟨y,X,q1,_,_,q2,_⟩:=hap k L (by omega) (.inr ⟨K,aeg k K L M⟩);rw[hdst k y q1];exact q2 t hd
    .rw [QP hd];refine amk λk z hk'=>?_;rw[c k hk',hdst i oi Z];exact hd
   .rw [y9];cases hu:(es i).aK.lookup g with
    |some x=>refine OO (by simp[H]) hu hlt λk K L M=>?_;obtain⟨y,X,q1,_,_,_,_,q2,_,q3,_⟩:=hap k L (by omega) (.inr ⟨K,aeg k K L M⟩);rw[<-q3];exact λe=>q2 g e (XS.2 ⟨(g,x),jY hu,rfl⟩)
    |none=>
     refine aml λk z hk'=>?_;rw[c k hk'];intro hm;obtain⟨p,hp,rfl⟩:=XS.1 hm;have :∀{l:List (Nat×O)},p∈l->l.lookup p.1≠zz:=by
      intro l
      induction l with
      |nil=>intro h;cases h
      |cons q l ih=>
       intro h hn;simp only[List.lookup]at hn;split at hn
       .cases hn
       .rename_i hb;rcases XN.1 h with h|h
        .subst h;simp at hb
        .exact ih h hn
     exact this hp hu
   .rw [vI];by_cases hn:g∈(es i).new
    .rw [Ia (by simp[H]) hn hlt];simp[hn]
    .have:(es i).new.contains g=zv:=by simpa using hn
     rw[this,K9];refine QK λk z hk'=>?_;rw[c k hk'];exact hn
  refine KJ hT htt Z hg hc' λa' w' hg'=>ih _ a' w' (by simp[hsz]) hD' ?_ (by rw[hins];exact hg');have hlt2:(List.range ops.size).countP (λk=>!(listed.setIfInBounds i zj).getD k zv)<(List.range ops.size).countP (λk=>!listed.getD k zv):=by
   have gen :∀l:List Nat,i∈l->l.countP (λk=>!(listed.setIfInBounds i zj).getD k zv)<l.countP (λk=>!listed.getD k zv):=by
    intro l;have hle :∀l:List Nat,l.countP (λk=>!(listed.setIfInBounds i zj).getD k zv)<=l.countP (λk=>!listed.getD k zv):=λl=>List.countP_mono_left λk _ h=>by
     simp only[H]at h;by_cases e:k=i
     .simp [e]at h
     .simpa [e]using h
    induction l with
    |nil=>intro h;cases h
    |cons k l ihl=>
     intro h;simp only[List.countP_cons];by_cases e:k=i
     .subst e;have K:(!(listed.setIfInBounds k zj).getD k zv)=zv:=by simp[H]
      have L:(!listed.getD k zv)=zj:=by simp[hDi]
      rw[K,L];exact Nat.lt_succ_of_le (hle l)
     .have:=ihl (by rcases XN.1 h with h|h;exact absurd h.symm e;exact h);have e1:(!(listed.setIfInBounds i zj).getD k zv)=(!listed.getD k zv):=by rw[H,QP e]
      rw[e1];omega
   exact gen _ (Up.2 hlt)
  omega
theorem Xt(z :∀f sp,T f=zw sp->Sound Pg (f % 1000000) sp)(b:jm Pg tt){draw:Bool}{K:St->Prop}(h:tN T tt N ops draw st K)(hg:Good E N bH yM st a w)
  (B :∀st' c d,K st'->Good E N bH yM st' c d->Q .normal c d):(draw=zv/\wpOps Pg ops Q (List.range ops.size) a w)\/(draw=zj/\wpAny Pg .any ops Q ops.size (Array.replicate ops.size zv) a { w with drawn:=w.drawn+1 }):=by
 cases draw with
 |false=>exact .inl ⟨rfl,D6 z b B _ h hg⟩
 |true=>
  have h:pY T tt N ops (List.range ops.size) st [] (λst' H=>Y2 ops H=zj/\K st'):=h;rw[vi]at h;obtain⟨es,H,_,_,⟨L,J⟩,M⟩:=Ib (st:=st) ops.size 0 (λ_=>Eff.skip) [] rfl h;rw[Vi]at J;refine .inr ⟨rfl,?_⟩;refine abS z b L (λi hi=>M i (by omega) (by omega)) (λc d m=>B _ c d J m) ops.size _ a _ (by simp) ?_ ?_ ?_
  .intro j o _ g;simp only[WP]at g;rw[vr]at g;split at g<;>cases g
  .refine JS List.countP_le_length ?_;simp
  .obtain ⟨⟨U,X,Y⟩,q,y⟩:=hg;have e:SD ops es st (λk=>(Array.replicate ops.size zv).getD k zv) ops.size=st:=by
    have :∀n,SD ops es st (λk=>(Array.replicate ops.size zv).getD k zv) n=st:=by
     intro n
     induction n with
     |zero=>rfl
     |succ n Z=>
      have:(Array.replicate ops.size zv).getD n zv=zv:=by rw[WP,vr];split<;>rfl
      simp only[SD,this,Wb,if_false];exact Z
    exact this _
   rw[e];exact⟨⟨U,X.drew _,Y⟩,q,y⟩
theorem QM(j :∀f sp,T f=zw sp->Sound Pg (f % 1000000) sp)(b:jm Pg tt)(m:Pg.follows .mixedOrders=zj){id:Nat}{draw:Bool}{K:St->Prop}(h:tN T tt N ops draw st K)(hg:Good E N bH yM st a w)
  (q :∀st' d g,K st'->Good E N bH yM st' d g->Q .normal d g):(Code.region id ops draw).wp Pg Q a w:=by
 rcases Xt j b h hg q with⟨e,c⟩|⟨e,c⟩
 .rw [e];exact wp_region c
 .rw [e];exact wp_region_any m c
end
end Go.Fw

namespace Go.Fw
variable [fH]
def Y4(gs:List Nat)(o:Nat->O):W->W
 |.own g=>if gs.contains g=zj then match plainO o g with
  |some (a,i,b,l)=>.p a i (P.gQ b l)
  |none=>.own g
  else .own g
 |.vw g lo c=>if gs.contains g=zj then match plainO o g with
  |some (a,i,b,l)=>.p a i (P.gQ b ((l.take c.nat).drop lo.nat))
  |none=>.vw g lo c
  else .vw g lo c
 |x=>x
def plV(gs:List Nat)(o:Nat->O):V->V
 |.one x=>.one (Y4 gs o x)
 |.agg xs=>.agg (xs.map (Y4 gs o))
def plS(gs:List Nat)(o:Nat->O):S->S
 |.v x=>.v (plV gs o x)
 |.jq xs=>.jq (xs.map (plV gs o))
 |.no=>.no
def plO(gs:List Nat)(o:Nat->O)(g:Nat):O:=match o g with
 |.box b=>.box (b.map (Y4 gs o))
 |x=>if gs.contains g=zj then(Fw.bf o g).2 else x
def fO(gs:List Nat)(st:St):St:={ s:=λt=>plS gs st.o (st.s t),o:=λg=>plO gs st.o g,used:=st.used }
def ah7(o:Nat->O)(gs:List Nat):Bool:=gs.all λg=>(plainO o g).isSome&&(o g).names.all λd=>gs.contains d
theorem abT{o:Nat->O}{gs:List Nat}(h:ah7 o gs=zj):yN o gs:=λg hg=>by have:=(Zs.1 h) g hg;simp only[X1,Zs,Vc,Wa]at this;exact this
section
variable {E:Env} {st:St} {gh:Nat->Gh} {w:World} {val:Nat->Value}
theorem FK{gs:List Nat}{o:Nat->O}{x:W}{g:Nat}(h:g∈(Y4 gs o x).names):g∈x.names:=by
 unfold Y4 at h;split at h
 .split at h
  .split at h
   .simp [W.names]at h
   .exact h
  .exact h
 .split at h
  .split at h
   .simp [W.names]at h
   .exact h
  .exact h
 .exact h
theorem OU{gs:List Nat}{o:Nat->O}{x:V}{g:Nat}(h:g∈(plV gs o x).names):g∈x.names:=by
 cases x with
 |one x=>exact FK h
 |agg xs=>simp only[plV,V.names,Z6,XS]at h ⊢;obtain⟨_,⟨x,b,rfl⟩,hg⟩:=h;exact⟨x,b,FK hg⟩
theorem abU{gs:List Nat}{o:Nat->O}{x:S}{g:Nat}(h:g∈(plS gs o x).names):g∈x.names:=by
 cases x with
 |v x=>exact OU h
 |jq xs=>simp only[plS,S.names,Z6,XS]at h ⊢;obtain⟨_,⟨x,b,rfl⟩,hg⟩:=h;exact⟨x,b,OU hg⟩
 |no=>exact h
theorem K_(gs:List Nat)(st:St)(g:Nat):((fO gs st).o g=(st.aK (gs.map (Fw.bf st.o)) []).o g/\∀b,st.o g≠.box b)\/
  ∃b,st.o g=.box b/\(st.aK (gs.map (Fw.bf st.o)) []).o g=.box b/\(fO gs st).o g=.box (b.map (Y4 gs st.o)):=by
 rw[g_];cases c:st.o g with
 |box b=>
  refine .inr ⟨b,rfl,?_,by simp only[fO,plO,c]⟩;split
  .simp [Fw.bf,plainO,c]
  .rfl
 |_=>refine .inl ⟨?_,λb e=>by cases e⟩;simp only[fO,plO,c];simp only[Vc,Wa]
theorem Bd{gs:List Nat}{st:St}{g:Nat}(h:st.o g=.none):(fO gs st).o g=.none:=by
 simp only[fO,plO,h];split
 .simp [Fw.bf,plainO,h]
 .rfl
theorem Rel.plain(h:Rel E st gh val w)(gs:List Nat)(hgs:yN st.o gs):Rel E (fO gs st) gh val w:=by
 have L:=(h.freezes gs hgs).1;have hss:(st.aK (gs.map (Fw.bf st.o)) []).s=st.s:=rfl;have hun :∀g,(st.aK (gs.map (Fw.bf st.o)) []).used g=st.used g:=λg=>by simp[St.aK]
 have key:=K_ gs st;have hfr:=λg=>g_ (st:=st) gs g;generalize hst1:st.aK (gs.map (Fw.bf st.o)) []=z at L hss hun key hfr;have own :∀g,((fO gs st).o g).bW=(z.o g).bW:=λg=>by
  rcases key g with⟨e,_⟩|⟨Z,_,T,M⟩
  .rw [e]
  .rw [T,M];rfl
 have dim :∀g,((fO gs st).o g).dim=(z.o g).dim:=λg=>by
  rcases key g with⟨e,_⟩|⟨Z,_,T,M⟩
  .rw [e]
  .rw [T,M];rfl
 have inner :∀g,((fO gs st).o g).inner=(z.o g).inner:=λg=>by
  rcases key g with⟨e,_⟩|⟨Z,_,T,M⟩
  .rw [e]
  .rw [T,M];rfl
 have isd :∀g,((fO gs st).o g).o8=(z.o g).o8:=λg=>by
  rcases key g with⟨e,_⟩|⟨Z,_,T,M⟩
  .rw [e]
  .rw [T,M];rfl
 have ato :∀g Z,(fO gs st).o g=.box Z->∃H,z.o g=.box H:=λg Z hg=>by
  rcases key g with⟨e,_⟩|⟨H,_,T,M⟩
  .rw [e]at hg;exact⟨Z,hg⟩
  .exact ⟨H,T⟩
 have oit :∀g s n,(fO gs st).o g=.it s n->z.o g=.it s n:=λg s n hg=>by
  rcases key g with⟨e,_⟩|⟨H,_,T,M⟩
  .rw [e]at hg;exact hg
  .rw [M]at hg;cases hg
 have J:E.ok (fO gs st) gh w=E.ok z gh w:=by funext a i b;simp only[Env.ok,own]
 have hp :∀{g a i K l},gs.contains g=zj->plainO st.o g=zw (a,i,K,l)->z.o g=.arr zj a i K l:=λ{g a i K l} hc X=>by rw[hfr,QR (by simpa using hc),nX X]
 have same :∀{x:W} {v:Value},fV E z gh w x v->fV E (fO gs st) gh w x v:=by
  intro x v r
  induction r with
  |p a i x v q=>exact .p a i x v (by rw[J];exact q)
  |dJ=>exact .dJ
  |own g v B q=>exact .own g v B λK len hg=>q K len (by rw[<-dim];exact hg)
  |vw g lo hi v B q=>exact .vw g lo hi v B λK len hg=>q K len (by rw[<-dim];exact hg)
  |box g off v B q=>exact .box g off v B λZ hg=>by obtain⟨H,e⟩:=ato g Z hg;exact q H e
  |ep g n off v B q=>exact .ep g n off v B λK len hg=>q K len (by rw[<-dim];exact hg)
  |sp a i row off b o hb q=>exact .sp a i row off b o (by rw[J];exact hb) (by rw[J];exact q)
  |gl g=>exact .gl g
  |oD g v B q=>exact .oD g v B λs n hg=>q s n (oit g s n hg)
  |gd b x v q ih=>exact .gd b x v ih
  |clo f caps vs hl q ih=>exact .clo f caps vs hl ih
  |no v=>exact .no v
 have akI :∀{a i:Bool} {K:Nat} {l:List (List P)} {G:Gh},jk E z gh w a i K l G->jk E (fO gs st) gh w a i K l G:=by intro a i K l G r;simpa only[jk,J]using r
 have wd :∀{x:W} {v:Value},fV E z gh w x v->fV E (fO gs st) gh w (Y4 gs st.o x) v:=by
  intro x v r;unfold Y4;split
  .rename_i g;split
   .rename_i hc;split
    .rename_i a i K l X;have Y:=hp hc X;cases r with
     |own _ _ B q=>have B:=q _ _ (O.kY Y);have N:=L.bG g;rw[Y]at N;rw[B];exact .p a i _ _ (by rw[J];exact dB.gQ N)
    .exact same r
   .exact same r
  .rename_i g lo hi;split
   .rename_i hc;split
    .rename_i a i K l X;have Y:=hp hc X;cases r with
     |vw _ _ _ _ B q=>
      obtain⟨n,m,c,rfl,rfl,q1,q2,qc,he⟩:=q _ _ (O.kY Y);have N:=L.bG g;rw[Y]at N;rw[he];have T:(P.int .i64 (n:Int)).nat=n:=by simp[P.nat,P.num]
      have M:(P.int .i64 (m:Int)).nat=m:=by simp[P.nat,P.num]
      rw[T,M];exact .p a i _ _ (by rw[J];exact dB.gQ ((dB.sub N q1 q2).akv (by simp;omega)))
    .exact same r
   .exact same r
  .exact same r
 have wV :∀{x:V} {v:Value},sO E z gh w x v->sO E (fO gs st) gh w (plV gs st.o x) v:=by
  intro x v r;cases r with
  |one x v r=>exact .one _ _ (wd r)
  |agg xs cs hl B U=>refine .agg _ cs (by simpa using hl) B λj x v q B=>?_;simp only[Z2,Wg]at q;obtain⟨y,hy,rfl⟩:=q;exact wd (U j y v hy B)
 refine⟨λt=>?_,λg=>?_,?_,?_,?_,?_,L.wb,L.frame,L.size,L.os,L.tape,L.output,?_,?_,?_⟩
 .have hs:=L.slots t;rw[hss]at hs;show dR E _ gh w (plS gs st.o (st.s t)) (val t);cases hs':st.s t with
  |v x=>rw[hs']at hs;cases hs with|v _ _ r=>exact .v _ _ (wV r)
  |jq xs=>
   rw[hs']at hs;generalize hval:val t=vt at hs;cases hs with
   |jq _ vs hl U=>refine .jq _ vs (by simpa using hl) λj x v q B=>?_;simp only[Z2,Wg]at q;obtain⟨y,hy,rfl⟩:=q;exact wV (U j y v hy B)
  |no=>exact .no _
 .have N:=L.bG g;rcases key g with⟨e,_⟩|⟨H,_,T,M⟩
  .rw [e];generalize z.o g=x at N;cases x with
   |none=>trivial
   |box Z=>obtain⟨ad,c,ty,a1,a2,a3,a4,a5⟩:=N;exact⟨ad,c,ty,a1,a2,a3,a4,λj x q=>let ⟨v,b1,b2,b3⟩:=a5 j x q;⟨v,b1,b2,same b3⟩⟩
   |arr fz a i K l=>
    cases fz with
    |false=>exact akI N
    |true=>simpa only[ni,J]using N
   |aP a i K au l hole=>
    rcases N with N|⟨ad,c,ty,a1,a2,a3,a4,a5,a6,a7,a8⟩
    .exact .inl N
    .refine .inr ⟨ad,c,ty,a1,a2,a3,a4,a5,a6,a7,λn x q j y hy=>?_⟩;obtain⟨v,B,U⟩:=a8 n x q j y hy;refine⟨v,B,?_⟩;unfold jl at *;cases hcj:au.lookup j with
     |none=>rw[hcj]at U;exact(by rw[J];exact U:dB w (E.ok (fO gs st) gh w a i) y v)
     |some sz'=>
      rw[hcj]at U;simp only at *;cases hh:iK hole n j with
      |some d=>rw[hh]at U;exact⟨U.1,same U.2⟩
      |none=>rw[hh]at U;obtain⟨l',ao,k,q1,q2,q3,q4⟩:=U;exact⟨l',ao,k,q1,q2,akI q3,q4⟩
   |it s n=>exact N
  .rw [M];rw[T]at N;obtain⟨ad,c,ty,a1,a2,a3,a4,a5⟩:=N;refine⟨ad,c,ty,a1,a2,a3,by simpa using a4,λj x q=>?_⟩;simp only[Z2,Wg]at q;obtain⟨y,hy,rfl⟩:=q;obtain⟨v,b1,b2,b3⟩:=a5 j y hy;exact⟨v,b1,b2,wd b3⟩
 .intro g g' b ha ha';rw[own]at ha ha';exact L.inj g g' b ha ha'
 .intro g b ha;rw[own]at ha;exact L.wr g b ha
 .intro g i b hg;rw[inner]at hg;exact L.wi g i b hg
 .intro g ho hd;rw[own]at ho;rw[isd]at hd;exact L.ns g ho hd
 .intro t g hg;exact h.us t g (abU hg)
 .intro g g' hg;rcases key g with⟨e,_⟩|⟨H,e0,T,M⟩
  .rw [e]at hg;have:=L.uo g g' hg;rw[hun]at this;exact this
  .rw [M]at hg;simp only[O.names,Z6,XS]at hg;obtain⟨_,⟨x,q,rfl⟩,hg⟩:=hg;exact h.uo g g' (by rw[e0];simp only[O.names,Z6];exact⟨x,q,FK hg⟩)
 .intro g hg;exact h.ul g λe=>hg (Bd e)
theorem aej{gs:List Nat}{w:World}{gh:Nat->Gh}{st:St}{E:Env}{a i:Bool}{b:Nat}(h:E.ok st gh w a i b):E.ok (fO gs st) gh w a i b:=by
 refine⟨h.1,h.2.1,λg c d=>h.2.2 g ?_ d⟩;rcases K_ gs st g with⟨e,_⟩|⟨m,e,_⟩
 .rw [e,g_]at c;split at c
  .cases j:plainO st.o g with
   |none=>simpa[Fw.bf,j]using c
   |some x=>obtain⟨a,i,q,l⟩:=x;rw[nX j]at c;cases c
  .exact c
 .rw [e];rfl
theorem Rel.norm(h:Rel E st gh val w)(hs gs:List Nat)(d:ah7 (Fw.shuts hs st).o gs=zj):
  ∃c,Rel E (fO gs (Fw.shuts hs st)) c val w/\(∀x,(c x).ad=(gh x).ad/\(c x).cap=(gh x).cap)/\(∀a i b,E.ok st gh w a i b->E.ok (fO gs (Fw.shuts hs st)) c w a i b)/\
   ∀g,st.o g=.none->(fO gs (Fw.shuts hs st)).o g=.none:=by
 obtain⟨c,j,m,q⟩:=h.shuts hs;exact⟨c,j.plain gs (abT d),q,λa i b y=>aej (m.ok a i b y).1,λg hg=>Bd (Kr hs hg)⟩
end
end Go.Fw

namespace Go.Fw
open Go.RowKit
variable [fH]
def FR(ro:Option Nat):Fence:={ Fence.wide with round:=ro }
section
variable {Pg:Program} {ro:Option Nat} {n:Nat} {ops:Array Oper} {Q:Exit->Act->World->Prop}
theorem Xu{f:FuncId}{args:Array Value}{w:World}{R:Ending->World->Prop}(h:Calls Pg f args w R):CallsIn (FR ro) n Pg f args w R:=callsIn_wide.2 h
theorem abV{row:String}{args:Array Value}{w:World}{R:Value->World->Prop}(h:Rows Pg row args w R):RowsIn (FR ro) n Pg row args w R:=by intro c b _;obtain⟨v,d,g,j⟩:=h c b;exact⟨v,d,g,stepsIn_wide.2 j⟩
theorem atp{o:Oper}(m :∀c,o.op≠.defer c){a:Act}{w:World}{K j:Act->World->Prop}(d :∀a w,K a w->j a w)(h:o.wp Pg a w K Q):o.wpIn (FR ro) n Pg a w j Q:=by
 refine⟨λ_ _=>trivial,?_⟩;rw[Oper.semAt_eq _ _ _ m];unfold Oper.wp at h;have hd:(FR ro).depth.isSome=zj->1<=n:=λe=>absurd e (by simp[FR,Fence.wide]);generalize (execOp a.eval o).run Pg w=r at *;cases r with
 |ok x q=>
  cases x<;>simp only[Oper.upon]at h<;>simp only[Oper.uponIn]
  all_goals first
   |exact d _ _ h
   |exact⟨hd,Xu (Calls.mono h λe g b=>by cases e<;>first|exact d _ _ b|exact b)⟩
   |exact⟨hd,abV (Rows.mono h λv g b=>d _ _ b)⟩
 |halt x q=>cases x<;>simp only[Oper.upon]at h<;>simp only[Oper.uponIn]<;>exact h
theorem aek(q :∀o∈ops.toList,∀c,o.op≠.defer c)(b:¬ LetsOut Q){i:Nat}{a:Act}{w:World}{K m:Act->World->Prop}(d :∀a w,K a w->m a w)(h:wpOp Pg ops Q i K a w):wpOpIn (FR ro) n Pg ops Q i m a w:=by
 unfold wpOp at h;unfold wpOpIn;cases g:ops[i]? with
 |none=>rw[g]at h;exact d _ _ h
 |some o=>
  rw[g]at h;simp only at h ⊢;split
  .rename_i j;rw[QR j]at h;rcases h with h|h
   .exact atp (q o (by have:=(UP.1 g).2;rw[<-this];simp)) d h
   .exact absurd h.2 b
  .rename_i j;rw[QP j]at h;exact⟨λ_ _=>trivial,d _ _ h⟩
theorem apn(g :∀o∈ops.toList,∀c,o.op≠.defer c)(b:¬ LetsOut Q):∀(d:List Nat) (a:Act) (w:World),wpOps Pg ops Q d a w->wpOpsIn (FR ro) n Pg ops Q d a w
 | [],a,w,h=>h
 |i::d,a,w,h=>by rw[wpOps_cons]at h;rw[wpOpsIn_cons];exact aek g b (λa w=>apn g b d a w) h
theorem apo{md:Region.Mode}(d :∀o∈ops.toList,∀c,o.op≠.defer c)(b:¬ LetsOut Q):∀(fuel:Nat) (listed:Array Bool) (a:Act) (w:World),wpAny Pg md ops Q fuel listed a w->wpAnyIn (FR ro) n Pg md ops Q fuel listed a w
 |0,listed,a,w,h=>h
 |fuel+1,listed,a,w,h=>⟨h.1,λi g=>aek d b (λa w=>apo d b fuel _ a w) (h.2 i g)⟩
end
omit [fH] in
def P.lv:P->Value
 |.int k n=>.int k n
 |.bool b=>.bool b
 |.str s=>.string s
 |_=>undef
def P.lit:P->Bool
 |.int _ _=>zj
 |.bool _=>zj
 |.str _=>zj
 |_=>zv
theorem P.asn{w:World}{ok:Nat->Prop}{x:P}(h:x.lit=zj):dB w ok x x.lv:=by cases x<;>first|exact .int _ _|exact .bool _|exact .str _|cases h
omit [fH] in
def ael(Pg:Program)(w:World)(S:List Nat)(rows:List (List P))(v:Value):Prop:=
 ∃c d,v=.func (.func c) #[] d/\(∀(args:Array Value) (w:World),(callFunc c args).run Pg w=.ok (.enter c args) w)/\
  ∀(l:Nat) (J:Nat->List Nat->World->Prop) (W:World),(∀k D A,J k D A->∀b∈S,A.heap[b]?=w.heap[b]?)->(∀k D A B g,J k D A->DU A B->(∀b∈g,b∈D\/(A.heap.size<=b/\b<B.heap.size))->J k g B)->
   (∀k row D A,rows[k]?=zw row->J k D A->YieldAt Fence.wide 0 Pg l (row.map P.lv).toArray A λe B=>e=.returned (.bool zj)/\J (k+1) D B/\∀b∈D,B.heap[b]?=A.heap[b]?)->
   J 0 [] W->Calls Pg c (#[.func (.yield l) #[] #[]]++d) W λe B=>(∃v,e=.returned v)/\∃D,J rows.length D B
section
variable {Pg:Program}
theorem apq{g:Operand}{ps:Array Tmp}{x y:Code}{Q:Exit->Act->World->Prop}{a:Act}{w:World}{S:List Nat}{rows:List (List P)}(hit:ael Pg w S rows (a.eval g))(Y :∀row∈rows,row.length=ps.size)
  (J:Nat->List Nat->World->Prop) (hS :∀k D A,J k D A->∀b∈S,A.heap[b]?=w.heap[b]?) (d :∀k D A B D',J k D A->DU A B->(∀b∈D',b∈D\/(A.heap.size<=b/\b<B.heap.size))->J k D' B)
  (j :∀k D A b o o',w.heap.size<=b->b∉D->J k D A->A.heap[b]?=zw o->quiet o=zj->J k D (A.putObj b o')) (h0:J 0 [] w)
  (amn :∀k row D A,rows[k]?=zw row->J k D A->∀l,∃a₁,(∀(K:Act->World->Prop) W,K a₁ W->x.wpIn (FR (zw l)) 0 Pg (Exit.then K (λ_ _ _=>False)) { tmps:=(ps.zip (row.map P.lv).toArray).foldl (λt (p,v)=>t.setIfInBounds p v) a.tmps,defers:=[] } W)/\
   y.wpIn (FR (zw l)) 0 Pg (λe _ B=>e=.normal/\J (k+1) D B/\(∀b∈D,B.heap[b]?=A.heap[b]?)/\∀b o,A.heap[b]?=zw o->quiet o=zj->w.heap.size<=b->B.heap[b]?=zw o) a₁ A)
  (M :∀D B D',w.heap.size<=D->J rows.length D' B->B.heap[D]?=zw (.deferred (zw []))->Q .normal { a with defers:={ target:=.collected D,args:=#[] }::a.defers } B) :
  (Code.rangeFunc g ps x y).wp Pg Q a w:=by
 obtain⟨gf,lb,hg,eg,Z⟩:=hit;rw[<-wpIn_wide (n:=1)];refine wpIn_rangeFunc ?_;intro fn hfn;obtain⟨rec,c⟩ :∃rec:LoopState->Option Code->Loop,rec=λst pe=>{ state:=st,pending:=pe,fn,tmps:=a.tmps,params:=ps,assign:=x,body:=y,defers:=w.heap.size }:=⟨_,rfl⟩;obtain⟨z,H⟩ :∃z,(w.alloc (.deferred (zw []))).alloc (.loop (rec .ready zz))=z:=⟨_,rfl⟩;have hL1:z.heap[w.heap.size+1]?=zw (.loop (rec .ready zz)):=by rw[<-H];have:=World.alloc_heap_new (w.alloc (.deferred (zw []))) (.loop (rec .ready zz));rwa [World.size_alloc]at this
 have hK1:z.heap[w.heap.size]?=zw (.deferred (zw [])):=by rw[<-H];exact(Below.heap_alloc _ _ _ (by simp)).trans (World.alloc_heap_new w _)
 have hJ1:J 0 [] z:=by rw[<-H];exact d _ _ _ _ [] (d _ _ _ _ [] h0 (DU.alloc _ _) (λb hb=>by cases hb)) (DU.alloc _ _) (λb hb=>by cases hb)
 refine⟨w.heap.size+1,[{ target:=.collected w.heap.size,args:=#[] }],z,{ target:=.fn (.func gf) lb,args:=#[.func (.yield (w.heap.size+1)) #[] #[]] },z,gf,
  #[.func (.yield (w.heap.size+1)) #[] #[]]++lb,z,?_,?_,λ_ _=>trivial,?_,λ_=>Z1 _,?_⟩
 .rw [<-H,c];exact run_enterLoop_outer _ _ _ _ _
 .simp only[resolve,hg];simp[go_sem]
 .simp [invoke,go_sem,eg]
 refine callsIn_wide.2 (Calls.mono (Z (w.heap.size+1)
   (λk D A=>J k D A/\A.heap[w.heap.size+1]?=zw (.loop (rec .ready zz))/\A.heap[w.heap.size]?=zw (.deferred (zw []))/\∀b∈D,w.heap.size+1<b)
   z (λk D A h=>hS k D A h.1) (λk D A B D' h hg N=>?_) ?_ ⟨hJ1,hL1,hK1,λb hb=>by cases hb⟩) ?_)
 .have lt :∀{i o},A.heap[i]?=zw o->i<A.heap.size:=λh=>(UP.1 h).1;refine⟨d k D A B D' h.1 hg N,(hg.same _ (lt h.2.1)).trans h.2.1,(hg.same _ (lt h.2.2.1)).trans h.2.2.1,λb hb=>?_⟩;rcases N b hb with hb|hb
  .exact h.2.2.2 b hb
  .exact VV (lt h.2.1) hb.1
 .rintro k row D A L ⟨hj,T,hk,N⟩;have hy:=run_yield (P:=Pg) (args:=(row.map P.lv).toArray) T (by rw[c];simpa using Y row (Z3 L));rw[c]at hy;have hlt:w.heap.size+1<A.heap.size:=(UP.1 T).1;have m:w.heap.size+1∉D:=λhm=>qi _ (N _ hm);have apr :∀b∈D,b≠w.heap.size+1:=λb hb e=>m (e▸hb);have hj2:J k D (A.putObj (w.heap.size+1) (.loop { rec .ready zz with state:=.busy })):=j _ _ _ _ _ _ (by omega) m hj T rfl;obtain⟨a₁,hx,U⟩:=amn k row D _ L hj2 (w.heap.size+1);refine⟨fn,_,x,y,hy,roundIn_of_wpIn hfn (hx _ _ ⟨_,run_beginRound T (by rw[c]),wpIn_mono U ?_⟩)⟩;rintro e a3 B ⟨rfl,hj3,hkD,q⟩;have hl2:(A.putObj (w.heap.size+1) (.loop { rec .ready zz with state:=.busy })).heap[w.heap.size+1]?=zw (.loop { rec .ready zz with state:=.busy }):=World.putObj_heap_same hlt;have hk2:(A.putObj (w.heap.size+1) (.loop { rec .ready zz with state:=.busy })).heap[w.heap.size]?=zw (.deferred (zw [])):=(World.putObj_heap_other (by omega)).trans hk;have X:=q _ _ hl2 rfl (by omega);have hk3:=q _ _ hk2 rfl (by omega);have hr:=run_endRound (P:=Pg) zz X;refine⟨_,_,hr,rfl,⟨j _ _ _ _ _ _ (by omega) m hj3 X rfl,?_,(World.putObj_heap_other (by omega)).trans hk3,N⟩,λb hb=>?_⟩
  .rw [World.putObj_heap_same (UP.1 X).1,c];rfl
  .rw [World.putObj_heap_other (apr b hb),hkD b hb,World.putObj_heap_other (apr b hb)]
 .rintro e B ⟨⟨v,rfl⟩,D,hj,T,hk,N⟩;have m:w.heap.size+1∉D:=λhm=>qi _ (N _ hm);refine⟨zz,_,by have:=run_endLoop (P:=Pg) T (by rw[c];simp);rw[c]at this;exact this,M _ _ D (Z1 _) (j _ _ _ _ _ _ (by omega) m hj T rfl) ((World.putObj_heap_other (by omega)).trans hk)⟩
end
end Go.Fw

namespace Go.Fw
open Go.RowKit
variable [fH]
structure D8 where
 n:St->Prop
 x:Nat->St->Prop
 r:St->Prop
def keeps(bH:List Nat)(j:Shape)(m:Ren):Bool:=bH.all λg=>j.nms.contains g&&(match m.lookup g with
 |some (zw g')=>Nat.beq g' g
 |_=>zv)
inductive Back(bH:List Nat)(j:Shape)(st:St)(G:List P->Prop):Prop where
 |mk (hs gs:List Nat) (m:Ren) (vs:List P) (hgs:ah7 (Fw.shuts hs st).o gs=zj) (hm:keeps bH j m=zj) (h:coerce j m (fO gs (Fw.shuts hs st))=zw vs) (hG:G vs)
inductive akJ(bH:List Nat)(body:St->D8->Prop)(st:St)(K:D8):Prop where
 |mk (j:Shape) (I:List P->Prop) (μ:List P->Nat) (h0:Back bH j st I) (round :∀us,I us->body (Fw.mk j us) { n:=λst'=>Back bH j st' λvs=>I vs/\μ vs<μ us,x:=K.x,r:=K.r })
inductive Wk(bH:List Nat)(K:St->Prop)(st:St):Prop where
 |now (h:K st)
 |back (j:Shape) (h:Back bH j st λvs=>K (Fw.mk j vs))
def exec(T:Tab)(tt:TT)(N:Nat)(bH:List Nat):Code->St->D8->Prop
 |.skip,st,K=>K.n st
 |.region _ ops draw,st,K=>tN T tt N ops draw st (Wk bH K.n)
 |.seq x y,st,K=>exec T tt N bH x st { n:=λd=>exec T tt N bH y d K,x:=K.x,r:=K.r }
 |.cond c x y,st,K=>match st.dG c with
  |.v (.one (.p _ _ (.bool b)))=>bif b then exec T tt N bH x st { n:=Wk bH K.n,x:=K.x,r:=K.r } else exec T tt N bH y st { n:=Wk bH K.n,x:=K.x,r:=K.r }
  |_=>False
 |.block id c,st,K=>exec T tt N bH c st { n:=Wk bH K.n,x:=λg d=>bif Nat.beq g id then Wk bH K.n d else K.x g d,r:=K.r }
 |.loop c,st,K=>akJ bH (exec T tt N bH c) st K
 |.exit id,st,K=>K.x id st
 |.ret,st,K=>K.r st
 |.label _,st,K=>K.n st
 |.scope c,st,K=>exec T tt N bH c st K
 |_,_,_=>False
structure Fit(Pg:Program):Prop where
 mixed:Pg.follows .mixedOrders=zj
 sq :∀w S l v,fH.sq w S l v->ael Pg w S l v
section
variable {E:Env} {N:Nat} {bH:List Nat} {yM:Nat->Gh} {Pg:Program} {T:Tab} {tt:TT}
structure Knt(E:Env)(N:Nat)(bH:List Nat)(yM:Nat->Gh)(K:D8)(Q:Exit->Act->World->Prop):Prop where
 n :∀st a w,K.n st->Good E N bH yM st a w->Q .normal a w
 x :∀id st a w,K.x id st->Good E N bH yM st a w->Q (.exit id) a w
 r :∀st a w,K.r st->Good E N bH yM st a w->Q .ret a w
theorem Back.good{j:Shape}{st:St}{G:List P->Prop}(h:Back bH j st G){a:Act}{w:World}(hg:Good E N bH yM st a w):∃vs,G vs/\Good E N bH yM (Fw.mk j vs) a w:=by
 obtain⟨M,gs,m,vs,b,U,h,X⟩:=h;obtain⟨⟨gh,c,Y⟩,d,q⟩:=hg;obtain⟨Z,c,H,_,e3⟩:=c.norm M gs b;have J:=AZ h;refine⟨vs,X,⟨kN Z (Kw j m),c.adV J,λg hg=>?_⟩,d,q⟩;have:=(Zs.1 U) g hg;simp only[X1]at this;obtain⟨K,y⟩:=this;refine⟨K,?_⟩;have L:Kw j m g=zw g:=by
  unfold Kw;rw[QR K];split at y
  .rename_i g' hl;rw[hl,Q6 y];rfl
  .cases y
 have B:=J.bG g g L;rcases (Y g hg).2 with e|e
 .have e:=e3 g e;rw[e]at B;generalize (Fw.mk j vs).o g=z at B;cases B;exact .inl rfl
 .exact .inr (by simp only[kN,L];exact⟨(H g).1.trans e.1,(H g).2.trans e.2⟩)
theorem Wk.good{K:St->Prop}{st:St}(h:Wk bH K st){a:Act}{w:World}(hg:Good E N bH yM st a w):∃st',K st'/\Good E N bH yM st' a w:=by
 cases h with
 |now h=>exact⟨st,h,hg⟩
 |back j h=>obtain⟨vs,b,c⟩:=h.good hg;exact⟨_,b,c⟩
theorem Knt.wk{K:D8}{Q:Exit->Act->World->Prop}(h:Knt E N bH yM K Q):Knt E N bH yM { n:=Wk bH K.n,x:=K.x,r:=K.r } Q:=⟨λst a w c hg=>let ⟨b,d,g⟩:=c.good hg;h.n b a w d g,h.x,h.r⟩
theorem aem{sp:A_}{st:St}{dP:List P}{j:Nat->Gh}{L:Nat->Value}{M:World}(b:Rel E st j L M)(q :∀g∈sp.bH,st.used g=zj/\(st.o g=.none\/((j g).ad=(yM g).ad/\(j g).cap=(yM g).cap)))
  (w:Back sp.bH sp.aW st λvs=>vs=dP) :∃y,Rel E (Fw.mk sp.aW dP) y L M/\∀g∈sp.bH,(y g).ad=(yM g).ad/\(y g).cap=(yM g).cap:=by
 obtain⟨hs,gs,m,vs,B,H,J,rfl⟩:=w;obtain⟨AU,b,U,_,e3⟩:=b.norm hs gs B;have X:=AZ J;refine⟨kN AU (Kw sp.aW m),b.adV X,λg hg=>?_⟩;have:=(Zs.1 H) g hg;simp only[X1]at this;obtain⟨Y,d⟩:=this;have Z:Kw sp.aW m g=zw g:=by
  unfold Kw;rw[QR Y];split at d
  .rename_i g' hl;rw[hl,Q6 d];rfl
  .cases d
 have K:=X.bG g g Z;have c:(Fw.mk sp.aW vs).o g≠.none:=by
  have hm:g∈sp.aW.bG.map (·.1):=by simpa[Shape.nms]using Y
  obtain⟨x,h⟩:=xA (vs:=vs) (n:=(dQ vs 0 sp.aW.slots).2) hm;have e:(Fw.mk sp.aW vs).o g=x:=by show (match (iy vs (dQ vs 0 sp.aW.slots).2 sp.aW.bG).1.lookup g with|some x=>x|none=>O.none)=x;rw[h]
  obtain⟨k,n',_,d⟩:=lW h;rw[e,d];cases k<;>simp[u_]
 rcases (q g hg).2 with e|e
 .exfalso;have e:=e3 g e;rw[e]at K;generalize (Fw.mk sp.aW vs).o g=z at K c;cases K;exact c rfl
 .simp only[kN,Z];exact⟨(U g).1.trans e.1,(U g).2.trans e.2⟩
theorem Xv(hT :∀f sp,T f=zw sp->Sound Pg (f % 1000000) sp)(X:jm Pg tt)(hm:Fit Pg):∀(c:Code) {st:St} {K:D8} {Q:Exit->Act->World->Prop} {a:Act} {w:World},
  exec T tt N bH c st K->Good E N bH yM st a w->Knt E N bH yM K Q->c.wp Pg Q a w:=by
 intro c
 induction c with
 |skip=>intro st K Q a w h hg g;exact wp_skip (g.n _ _ _ h hg)
 |region id ops draw=>intro st K Q a w h hg g;exact QM hT X hm.mixed h hg λm z B q d=>g.wk.n _ _ _ q d
 |seq x y Y J=>intro st K Q a w h hg g;refine wp_seq (Y h hg ⟨λm z B q d=>J q d g,λid m z B q d=>g.x _ _ _ _ q d,λm z B q d=>g.r _ _ _ q d⟩)
 |cond c x y Y J=>
  intro st K Q a w h hg g;simp only[exec]at h;split at h
  .rename_i a1 i1 b hc;obtain⟨gh,hR,_⟩:=hg.ex;have U:=rX hR c;rw[hc]at U;have U:=U.gu.oI;refine wp_cond_split U (λL=>?_) (λL=>?_)
   .subst L;exact Y h hg g.wk
   .subst L;exact J h hg g.wk
  .cases h
 |block id c M=>
  intro st K Q a w h hg g;refine wp_block (M h hg ⟨λm z B q d=>g.wk.n _ _ _ q d,λH m z B q d=>?_,λm z B q d=>g.r _ _ _ q d⟩);simp only[Exit.inBlock];by_cases e:H=id
  .subst e;rw[QR rfl];have:Nat.beq H H=zj:=by simp
   simp only[this]at q;exact g.wk.n _ _ _ q d
  .rw [QP e];have:Nat.beq H id=zv:=by cases L:Nat.beq H id with|false=>rfl|true=>exact absurd (Q6 L) e
   simp only[this]at q;exact g.x _ _ _ _ q d
 |loop c M=>
  intro st K Q a w h hg g;obtain⟨j,I,μ,h0,round⟩:=(show akJ bH (exec T tt N bH c) st K from h);obtain⟨us,Z,hg0⟩:=h0.good hg;refine wp_loop_rounds (μ us+1) ?_;have key :∀n us,I us->μ us<n->∀a w,Good E N bH yM (Fw.mk j us) a w->Code.rounds Pg c Q n a w:=by
   intro n
   induction n with
   |zero=>intro us _ h;omega
   |succ n ihn=>intro us Z hlt a w hg;refine M (round us Z) hg ⟨λm z B q d=>?_,λid m z B q d=>g.x _ _ _ _ q d,λm z B q d=>g.r _ _ _ q d⟩;obtain⟨vs,⟨h1,h2⟩,h3⟩:=Back.good q d;exact ihn vs h1 (by omega) _ _ h3
  exact key _ us Z (by omega) a w hg0
 |exit id=>intro st K Q a w h hg g;exact wp_exit (g.x _ _ _ _ h hg)
 |ret=>intro st K Q a w h hg g;exact wp_ret (g.r _ _ _ h hg)
 |label l=>intro st K Q a w h hg g;exact wp_label (g.n _ _ _ h hg)
 |scope c M=>intro st K Q a w h hg g;exact wp_scope_straight (M h hg ⟨λm z B q d=>g.n _ _ _ q d,λid m z B q d=>g.x _ _ _ _ q d,λm z B q d=>g.r _ _ _ q d⟩)
 |_=>intro st K Q a w h;exact absurd h (by simp[exec])
def abW(tt:TT)(st:St):ResultVar->Option S
 |.tmp t=>zw (st.s t)
 |.cell a t=>match tt t,st.s a with
  |some i,.v (.one (.box g off))=>match st.o g with
   |.box b=>if off+i.size<=b.length/\0<i.size then zw (V.gB i.agg ((b.drop off).take i.size))else zz
   |_=>zz
  |_,_=>zz
def Ic(tt:TT)(st:St):List ResultVar->Option (List S)
 | []=>zw []
 |r::b=>match abW tt st r,Ic tt st b with
  |some x,zw xs=>zw (x::xs)
  |_,_=>zz
def UK(xs:List S)(st:St):St:={ s:=λk=>xs.getD k .no,o:=st.o,used:=st.used }
def Fin(tt:TT)(sp:A_)(ts:List ResultVar)(dP:List P)(st:St):Prop:=match Ic tt st ts with
 |some xs=>Back sp.bH sp.aW (UK xs st) λvs=>vs=dP
 |none=>False
def amq(tt:TT)(sp:A_)(ts:List ResultVar)(dP:List P):D8:={ n:=Fin tt sp ts dP,x:=λ_ _=>False,r:=Fin tt sp ts dP }
def FM(tmps:Array Value)(r:ResultVar):Sem Value:=match r with
 |.tmp t=>pure (tmps.getD t undef)
 |.cell a t=>do loadVar t (<-asAddr (tmps.getD a undef))
theorem Xw{fn:Func}{ts:List ResultVar}(b:fn.results=ts.toArray)(tmps:Array Value):results fn tmps=(do
  let vs <-List.toArray <$> ts.mapM (FM tmps)
  pure (if h:vs.size=1 then vs[0]else .tuple vs)):=by
 unfold results;rw[b,List.mapM_toArray];have :∀F:ResultVar->Sem Value,(∀r,F r=FM tmps r)->ts.mapM F=ts.mapM (FM tmps):=λF c=>by rw[funext c]
 rw[this _ λr=>by cases r<;>rfl]
theorem Xx(L:jm Pg tt){st:St}{gh:Nat->Gh}{a:Act}{w:World}(h:Rel E st gh (λt=>a.tmps.getD t undef) w){r:ResultVar}{x:S}(d:abW tt st r=zw x):
  ∃v,(FM a.tmps r).run Pg w=.ok v w/\dR E st gh w x v/\∀g∈x.names,st.used g=zj:=by
 cases r with
 |tmp t=>simp only[abW,Q0]at d;subst d;exact⟨_,rfl,h.slots t,h.us t⟩
 |cell ad t=>
  simp only[abW]at d;split at d
  .rename_i i g off ht hs;have rx:=h.slots ad;rw[hs]at rx;split at d
   .rename_i ws m;split at d
    .rename_i M;cases d;have Z:=h.bG g;rw[m]at Z;obtain⟨b,U,cs,hl,B,q,H⟩:=AB.cells Z;obtain⟨axO,Qi,hv⟩:=(by cases rx.dS with|box _ _ _ _ hb=>exact hb ws m :∃b,(gh g).ad=zw b/\a.tmps.getD ad undef=.pointer (zw ⟨b.block,b.off+off,zz⟩));rw[U]at Qi;cases Qi;have X:((cs.drop off).take i.size).length=i.size:=by simp;omega
     obtain⟨v,J,K⟩:=kZ (Pg:=Pg) (w:=w) (L _ _ ht) b.block (b.off+off) ((cs.drop off).take i.size) X (λj u hu=>by
      have Y:j<i.size:=by have:=(Q3.1 hu).1;omega
      rw[W0,QR Y,Wo]at hu;rw[J1];exact q _ _ hu) (λ_=>M.2)
     refine⟨v,by simp only[FM];rw[hv];simpa[asAddr]using J,lU (cs:=(cs.drop off).take i.size) (by simp;omega) (λc hc=>B c (UB (Wl hc)))
      (λj y u hy hu=>?_) v K,λg' z=>?_⟩
     .have Y:j<i.size:=by have:=(Q3.1 hu).1;omega
      rw[W0,QR Y,Wo]at hy hu;exact H _ _ _ hy hu
     .obtain ⟨x,d,z⟩:=jW z;exact h.uo g g' (by rw[m];simp only[O.names,Z6];exact⟨x,UB (Wl d),z⟩)
    .cases d
   .cases d
  .cases d
theorem Ie(c:jm Pg tt){st:St}{gh:Nat->Gh}{a:Act}{w:World}(h:Rel E st gh (λt=>a.tmps.getD t undef) w):∀{d:List ResultVar} {xs:List S},Ic tt st d=zw xs->
  ∃vs:List Value,(d.mapM (FM a.tmps)).run Pg w=.ok vs w/\vs.length=d.length/\
   ∀k,dR E st gh w (xs.getD k .no) (vs.getD k undef)/\∀g∈(xs.getD k .no).names,st.used g=zj
 | [],xs,b=>by simp only[Ic,Q0]at b;subst b;exact⟨[],rfl,rfl,λk=>⟨.no _,by simp[S.names]⟩⟩
 |r::d,xs,b=>by
  simp only[Ic]at b;split at b
  .rename_i x xs j m;cases b;obtain⟨v,q1,q2,q3⟩:=Xx c h j;obtain⟨vs,q,y,z⟩:=Ie c h m;refine⟨v::vs,?_,by simp[y],λk=>?_⟩
   .rw [vu,Sem.run_bind,q1];show Sem.run Pg _ w=_;rw[Sem.run_bind,q];rfl
   .cases k with
    |zero=>exact⟨q2,q3⟩
    |succ k=>simpa using z k
  .cases b
theorem NZ(b:jm Pg tt){st:St}{gh:Nat->Gh}{a:Act}{w:World}(h:Rel E st gh (λt=>a.tmps.getD t undef) w){fn:Func}{ts:List ResultVar}(c:fn.results=ts.toArray){xs:List S}(d:Ic tt st ts=zw xs):
  ∃vs:List Value,(results fn a.tmps).run Pg w=.ok (aby vs) w/\vs.length=ts.length/\∀k,dR E st gh w (xs.getD k .no) (vs.getD k undef)/\∀g∈(xs.getD k .no).names,st.used g=zj:=by
 obtain⟨vs,q1,q2,q3⟩:=Ie b h d;refine⟨vs,?_,q2,q3⟩;rw[Xw c,Sem.run_bind,Sem.run_map,q1]
 match vs with
 | []=>rfl
 | [v]=>rfl
 |v::u::vs=>simp[aby]
theorem aen{f:FuncId}{fn:Func}{c:Code}{sp:Spec}(ts:List ResultVar)(hf:Pg.funcs[f]?=some fn)(hb:fn.body=some c)(hname:(fn.name == "runtime.NumGoroutine")=false)(hres:fn.results=ts.toArray)
  (hok:sp.sig.ok=zj) (Ny:(sp.sig.bH.all λg=>sp.sig.pin.nms.contains g)=zj) (hlk :∀ins dP,sp.R ins dP->∀g∈sp.sig.bH,((Fw.mk sp.sig.pin ins).o g).like ((Fw.mk sp.sig.aW dP).o g)) (hn:sp.sig.bC<=fn.ntmps) (hnr:ts.length=sp.sig.cO)
  (hT :∀f sp,T f=zw sp->Sound Pg (f % 1000000) sp) (htt:jm Pg tt) (hm:Fit Pg)
  (h :∀ins dP,sp.R ins dP->exec T tt fn.ntmps sp.sig.bH c (Fw.mk sp.sig.pin ins) (amq tt sp.sig ts dP)):Sound Pg f sp:=by
 refine⟨hok,λargs w=>?_,λE w vals gh ins dP hR hB hw0 NT hlen=>?_⟩
 .have hname':¬ fn.name = "runtime.NumGoroutine" :=by simpa using hname
  simp[callFunc,hf,hname',hb]
 .have hsz:vals.toArray.size<=fn.ntmps:=by simp;omega
  refine callsIn_wide.1 (callsIn_of_wp_marks (n:=0) hf hb trivial (wpIn_wide.2 (Xv (E:=E) (N:=fn.ntmps) (bH:=sp.sig.bH) (yM:=gh) hT htt hm c (h ins dP hR) ⟨⟨gh,?_,λg hg=>⟨?_,.inr ⟨rfl,rfl⟩⟩⟩,by simp;omega,Marks.nil rfl⟩ ?_)) rfl)
  .have e:(λt=>(vals.toArray++Array.replicate (fn.ntmps-vals.toArray.size) undef).getD t undef)=λk=>vals.getD k undef:=by
    funext t;rw[WP,Q2,Array.getElem?_append];split
    .simp
    .rename_i ht;have ht:vals.length<=t:=by simpa using ht
     rw[Vn ht,vr];split<;>rfl
   rw[e];exact NT
  .exact (Zs.1 Ny) g hg
  .have fin :∀st a w',Fin tt sp.sig ts dP st->Good E fn.ntmps sp.sig.bH gh st a w'->LeavesInM Fence.wide 0 Pg fn a.tmps (λe w'=>∃(rs:List Value) (bQ:Nat->Gh),rs.length=sp.sig.cO/\e=.returned (aby rs)/\Rel E (Fw.mk sp.sig.aW dP) bQ (λk=>rs.getD k undef) w'/\∀g∈sp.sig.bH,((bQ g).ad=(gh g).ad/\(bQ g).cap=(gh g).cap)/\((Fw.mk sp.sig.pin ins).o g).like ((Fw.mk sp.sig.aW dP).o g)) a.defers .returning w':=by
    intro st a w' hBk hg;unfold Fin at hBk;split at hBk
    rotate_left
    .cases hBk
    rename_i xs hxs;obtain⟨⟨nY,hR1,amo⟩,_,Ds,hd1,hd2,hd3⟩:=hg;rw[hd1];clear hd1
    induction Ds generalizing w' with
    |nil=>
     obtain⟨rs,hrun,hrl,hrs⟩:=NZ htt hR1 hres hxs;refine⟨_,hrun,rs,?_⟩;have hfin:Rel E (UK xs st) nY (λk=>rs.getD k undef) w':=by refine⟨λk=>?_,λg=>ni.congr (st:=st) (st':=UK xs st) rfl (hR1.bG g),hR1.inj,hR1.wr,hR1.wi,hR1.ns,hR1.wb,hR1.frame,hR1.size,hR1.os,hR1.tape,hR1.output,λk g hg=>(hrs k).2 g hg,hR1.uo,hR1.ul⟩;exact dR.congr (st:=st) (st':=UK xs st) rfl (hrs k).1
     obtain⟨bQ,r1,r2⟩:=aem hfin amo hBk;exact⟨bQ,by omega,rfl,r1,λg hg=>⟨r2 g hg,hlk ins dP hR g hg⟩⟩
    |cons D Ds ih=>obtain⟨h1,h2⟩:=hd3 D (by simp);have hnd:=K5.1 hd2;refine⟨by simp,.inl ⟨D,_,rfl,run_takeDeferred h2,ih _ (hR1.turn h2 rfl h1 _) hnd.2 λD' hD'=>?_⟩⟩;obtain⟨q1,q2⟩:=hd3 D' (by simp[hD']);exact⟨q1,(World.putObj_heap_other (λe:D'=D=>hnd.1 (by rw[<-e];exact hD'))).trans q2⟩
   exact⟨λst a w' hk hg=>fin st a w' hk hg,λid st a w' hk=>hk.elim,λst a w' hk hg=>fin st a w' hk hg⟩
end
end Go.Fw

namespace Go.Fg
open Go.Fw
inductive Ty where
 |int (k:IntKind)
 |bool
 |str
 |sl (e:Ty)
 |prod (a b:Ty)
 |st (n:Nat)
 |opq
 |sq (e:Ty)
def aeo:(a b:IntKind)->Option (PLift (a=b))
 |.i8,.i8=>zw ⟨rfl⟩
 |.i16,.i16=>zw ⟨rfl⟩
 |.i32,.i32=>zw ⟨rfl⟩
 |.i64,.i64=>zw ⟨rfl⟩
 |.u8,.u8=>zw ⟨rfl⟩
 |.u16,.u16=>zw ⟨rfl⟩
 |.u32,.u32=>zw ⟨rfl⟩
 |.u64,.u64=>zw ⟨rfl⟩
 |_,_=>zz
def aep(a b:Nat):Option (PLift (a=b)):=match h:Nat.beq a b with
 |true=>zw ⟨Q6 h⟩
 |false=>zz
def Ty.eq:(a b:Ty)->Option (PLift (a=b))
 |.int k,.int c=>match aeo k c with
  |some ⟨h⟩=>zw ⟨h▸rfl⟩
  |none=>zz
 |.bool,.bool=>zw ⟨rfl⟩
 |.str,.str=>zw ⟨rfl⟩
 |.opq,.opq=>zw ⟨rfl⟩
 |.sl a,.sl b=>match Ty.eq a b with
  |some ⟨h⟩=>zw ⟨h▸rfl⟩
  |none=>zz
 |.sq a,.sq b=>match Ty.eq a b with
  |some ⟨h⟩=>zw ⟨h▸rfl⟩
  |none=>zz
 |.prod a b,.prod d g=>match Ty.eq a d,Ty.eq b g with
  |some ⟨h⟩,zw ⟨j⟩=>zw ⟨h▸j▸rfl⟩
  |_,_=>zz
 |.st n,.st m=>match aep n m with
  |some ⟨h⟩=>zw ⟨h▸rfl⟩
  |none=>zz
 |_,_=>zz
def Ty.word:Ty->Bool
 |.prod _ _=>zv
 |.st _=>zv
 |_=>zj
def Ty.flat:Ty->Bool
 |.int _=>zj
 |.bool=>zj
 |.str=>zj
 |.opq=>zj
 |_=>zv
def D(C:Nat->Type):Ty->Type
 |.int _=>Int
 |.bool=>Bool
 |.str=>List UInt8
 |.sl e=>List (D C e)
 |.prod a b=>D C a×D C b
 |.st n=>C n
 |.opq=>Value
 |.sq e=>List (D C e)
structure TP(C:Nat->Type) where
 t:Ty
 x:D C t
def TP.get{C:Nat->Type}(t:Ty)(d:D C t)(ws:List (TP C))(n:Nat):D C t:=match ws[n]? with
 |some w=>match Ty.eq w.t t with
  |some ⟨h⟩=>h▸w.x
  |none=>d
 |none=>d
theorem aS{C:Nat->Type}{b:List (TP C)}{t:Ty}{ts:List Ty}(h:b.map (·.t)=t::ts):∃x c,b=⟨t,x⟩::c/\c.map (·.t)=ts:=by
 cases b with
 |nil=>cases h
 |cons w b=>obtain⟨d,x⟩:=w;simp only[Qf,List.cons.injEq]at h;obtain⟨rfl,h⟩:=h;exact⟨x,b,rfl,h⟩
theorem dW{C:Nat->Type}{b:List (TP C)}(h:b.map (·.t)=[]):b=[]:=by simpa using h
def La{C:Nat->Type}(size:Ty->Nat)(lY:(t:Ty)->D C t->List P):(t:Ty)->D C t->P
 |.int k,x=>.int k x
 |.bool,b=>.bool b
 |.str,s=>.str ⟨s.toArray⟩
 |.sl e,l=>P.gQ (size e) (List.map (lY e) l)
 |.opq,v=>.opq v
 |.sq e,l=>.seq (List.map (lY e) l)
 |.prod _ _,_=>default
 |.st _,_=>default
def qy{C:Nat->Type}(F:Nat->List Ty)(er:(n:Nat)->C n->List P)(size:Ty->Nat):(t:Ty)->D C t->List P
 |.int k,x=>[.int k x]
 |.bool,b=>[.bool b]
 |.str,s=>[.str ⟨s.toArray⟩]
 |.sl e,l=>[P.gQ (size e) (List.map (qy F er size e) l)]
 |.opq,v=>[.opq v]
 |.sq e,l=>[.seq (List.map (qy F er size e) l)]
 |.prod a b,x=>qy F er size a x.1++qy F er size b x.2
 |.st n,x=>er n x
def jQ(F:Nat->List Ty):Ty->Nat
 |.prod a b=>jQ F a+jQ F b
 |.st n=>(F n).length
 |_=>1
class RE where
 C:Nat->Type
 F:Nat->List Ty
 dflt:(n:Nat)->C n
 un:(n:Nat)->C n->List (TP C)
 ro:(n:Nat)->List (TP C)->C n
 er:(n:Nat)->C n->List P
 Fwd :∀n,(F n).all Ty.word=zj
 akK :∀n x,(un n x).map (·.t)=F n
 akL :∀n ws,ws.map (·.t)=F n->un n (ro n ws)=ws
 akM :∀n x,er n x=(un n x).map λw=>La (jQ F) (qy F er (jQ F)) w.t w.x
 hd:Nat:=999999
 hdF:F hd=[]:=by rfl
 G:Nat->Option ((e:Ty)×List (D C e)):=λ_=>zz
 Q:World->List Nat->List (List P)->Value->Prop:=λ_ _ _ _=>False
 amr :∀{w w':World} {S:List Nat} {l:List (List P)} {v:Value},(∀b∈S,w'.heap[b]?=w.heap[b]?)->Q w S l v->Q w' S l v:=by intro _ _ _ _ _ _ h;exact h
section
variable [RE]
abbrev Dt(t:Ty):Type:=D RE.C t
abbrev Wd:=TP RE.C
def size:Ty->Nat:=jQ RE.F
def lY:(t:Ty)->Dt t->List P:=qy RE.F RE.er (jQ RE.F)
instance:fH:=⟨λg=>(RE.G g).map λx=>(size x.1,List.map (lY x.1) x.2),RE.Q,RE.amr⟩
theorem akN(g:Nat):fH.gt g=(RE.G g).map λx=>(size x.1,List.map (lY x.1) x.2):=rfl
def dH(w:Wd):P:=La (jQ RE.F) (qy RE.F RE.er (jQ RE.F)) w.t w.x
def dflt:(t:Ty)->Dt t
 |.int _=>(0:Int)
 |.bool=>zv
 |.str=>([]:List UInt8)
 |.sl e=>([]:List (Dt e))
 |.prod a b=>(dflt a,dflt b)
 |.st n=>RE.dflt n
 |.opq=>Value.nilFunc
 |.sq e=>([]:List (Dt e))
def TP.Df(t:Ty)(w:Wd):Option (Dt t):=match Ty.eq w.t t with
 |some ⟨h⟩=>zw (h▸w.x)
 |none=>zz
def TP.as(t:Ty)(w:Wd):Dt t:=match Ty.eq w.t t with
 |some ⟨h⟩=>h▸w.x
 |none=>dflt t
def gU:(t:Ty)->Dt t->List Wd
 |.prod a b,x=>gU a x.1++gU b x.2
 |.st n,x=>RE.un n x
 |.int k,x=>[⟨.int k,x⟩]
 |.bool,x=>[⟨.bool,x⟩]
 |.str,x=>[⟨.str,x⟩]
 |.sl e,x=>[⟨.sl e,x⟩]
 |.opq,x=>[⟨.opq,x⟩]
 |.sq e,x=>[⟨.sq e,x⟩]
def jR:Ty->List Ty
 |.prod a b=>jR a++jR b
 |.st n=>RE.F n
 |t=>[t]
def lZ:(t:Ty)->List Wd->Dt t
 |.prod a b,c=>(lZ a (c.take (size a)),lZ b (c.drop (size a)))
 |.st n,c=>RE.ro n c
 |.int k,c=>match c with
  |w::_=>w.as (.int k)
  | []=>dflt (.int k)
 |.bool,c=>match c with
  |w::_=>w.as .bool
  | []=>dflt .bool
 |.str,c=>match c with
  |w::_=>w.as .str
  | []=>dflt .str
 |.sl e,c=>match c with
  |w::_=>w.as (.sl e)
  | []=>dflt (.sl e)
 |.opq,c=>match c with
  |w::_=>w.as .opq
  | []=>dflt .opq
 |.sq e,c=>match c with
  |w::_=>w.as (.sq e)
  | []=>dflt (.sq e)
theorem Ty.eq_self:∀(t:Ty),∃h,Ty.eq t t=zw ⟨h⟩:=by
 intro t
 induction t with
 |int k=>cases k<;>exact⟨rfl,rfl⟩
 |bool=>exact⟨rfl,rfl⟩
 |str=>exact⟨rfl,rfl⟩
 |opq=>exact⟨rfl,rfl⟩
 |sl e c=>obtain⟨h,c⟩:=c;exact⟨rfl,by simp[Ty.eq,c]⟩
 |sq e c=>obtain⟨h,c⟩:=c;exact⟨rfl,by simp[Ty.eq,c]⟩
 |prod a b d g=>obtain⟨h,d⟩:=d;obtain⟨j,g⟩:=g;exact⟨rfl,by simp[Ty.eq,d,g]⟩
 |st n=>
  refine⟨rfl,?_⟩;have:aep n n=zw ⟨rfl⟩:=by
   unfold aep;split
   .rfl
   .rename_i h;simp at h
  simp[Ty.eq,this]
theorem tV(t:Ty)(x:Dt t):TP.as t ⟨t,x⟩=x:=by obtain⟨h,e⟩:=Ty.eq_self t;simp[TP.as,e]
theorem yx{t:Ty}{w:Wd}(h:w.t=t):(⟨t,w.as t⟩:Wd)=w:=by obtain⟨b,x⟩:=w;simp only at h;subst h;rw[tV]
theorem iJ{t:Ty}{w:Wd}{x:Dt t}(h:w.Df t=zw x):w=⟨t,x⟩:=by
 obtain⟨b,y⟩:=w;unfold TP.Df at h;split at h
 .rename_i e c;simp only at e;subst e;cases h;rfl
 .cases h
theorem ams{t:Ty}{w:Wd}{x:Dt t}(h:w.Df t=zw x):w.t=t:=by rw[iJ h]
theorem kT:∀(t:Ty),(jR t).length=size t
 |.prod a b=>by have c:=kT a;have d:=kT b;simp only[size]at c d;simp[jR,size,jQ,c,d]
 |.st n=>by simp[jR,size,jQ]
 |.int k=>rfl
 |.bool=>rfl
 |.str=>rfl
 |.sl e=>rfl
 |.opq=>rfl
 |.sq e=>rfl
theorem vJ:∀(t:Ty) (x:Dt t),(gU t x).map (·.t)=jR t
 |.prod a b,x=>by simp[gU,jR,vJ a,vJ b]
 |.st n,x=>by simp[gU,jR];exact RE.akK n x
 |.int k,x=>rfl
 |.bool,x=>rfl
 |.str,x=>rfl
 |.sl e,x=>rfl
 |.opq,x=>rfl
 |.sq e,x=>rfl
theorem rD(t:Ty)(x:Dt t):(gU t x).length=size t:=by rw[<-kT,<-vJ t x,We]
theorem iL:∀(t:Ty) (x:Dt t),lY t x=(gU t x).map dH
 |.prod a b,x=>by show lY a x.1++lY b x.2=_;rw[iL a x.1,iL b x.2];simp[gU]
 |.st n,x=>RE.akM n x
 |.int k,x=>rfl
 |.bool,x=>rfl
 |.str,x=>rfl
 |.sl e,x=>rfl
 |.opq,x=>rfl
 |.sq e,x=>rfl
theorem UL(t:Ty)(x:Dt t):(lY t x).length=size t:=by rw[iL,We,rD]
theorem xE{b:List Wd}{t:Ty}(h:b.map (·.t)=[t]):∃w,b=[w]/\w.t=t:=by
 match b with
 | []=>cases h
 | [w]=>exact⟨w,rfl,by simpa using h⟩
 |w::u::b=>simp at h
theorem Lc:∀(t:Ty) (c:List Wd),c.map (·.t)=jR t->gU t (lZ t c)=c
 |.prod a b,c,h=>by
  have g:(c.take (size a)).map (·.t)=jR a:=by rw[US,h];simp[jR,<-kT]
  have j:(c.drop (size a)).map (·.t)=jR b:=by rw[Vv,h];simp[jR,<-kT]
  show gU a (lZ a (c.take (size a)))++gU b (lZ b (c.drop (size a)))=c;rw[Lc a _ g,Lc b _ j,K2]
 |.st n,c,h=>RE.akL n c h
 |.int k,c,h=>by obtain⟨w,rfl,d⟩:=xE (t:=(.int k)) h;show [(⟨.int k,w.as (.int k)⟩:Wd)]=[w];rw[yx d]
 |.bool,c,h=>by obtain⟨w,rfl,d⟩:=xE (t:=.bool) h;show [(⟨.bool,w.as .bool⟩:Wd)]=[w];rw[yx d]
 |.str,c,h=>by obtain⟨w,rfl,d⟩:=xE (t:=.str) h;show [(⟨.str,w.as .str⟩:Wd)]=[w];rw[yx d]
 |.sl e,c,h=>by obtain⟨w,rfl,d⟩:=xE (t:=(.sl e)) h;show [(⟨.sl e,w.as (.sl e)⟩:Wd)]=[w];rw[yx d]
 |.opq,c,h=>by obtain⟨w,rfl,d⟩:=xE (t:=.opq) h;show [(⟨.opq,w.as .opq⟩:Wd)]=[w];rw[yx d]
 |.sq e,c,h=>by obtain⟨w,rfl,d⟩:=xE (t:=(.sq e)) h;show [(⟨.sq e,w.as (.sq e)⟩:Wd)]=[w];rw[yx d]
theorem xG{t:Ty}{b:List Wd}(h:b.map (·.t)=jR t):lY t (lZ t b)=b.map dH:=by rw[iL,Lc t b h]
def aN(e:Ty)(l:List (Dt e)):List (List P):=List.map (lY e) l
theorem Jk(e:Ty)(l:List (Dt e)):dH ⟨.sl e,l⟩=P.gQ (size e) (aN e l):=rfl
theorem jO(e:Ty)(l:List (Dt e)):(dH ⟨.sl e,l⟩).list=aN e l:=by rw[Jk,P.o9]
theorem abX{w:Wd}(h:w.t.flat=zj):(dH w).flat=zj:=by obtain⟨t,x⟩:=w;cases t<;>simp[Ty.flat]at h<;>rfl
end
end Go.Fg

namespace Go.Fg
open Go.Fw
section
variable [RE]
inductive TW where
 |p (a i:Bool) (w:Wd)
 |dJ
 |own (g:Nat)
 |vw (g:Nat) (lo hi:Int)
 |box (g off:Nat)
 |ep (g:Nat) (n:Int) (off:Nat)
 |sp (a i:Bool) (t:Ty) (x:Dt t) (off:Nat)
 |clo (f:FuncId) (caps:List TW)
 |gl (g:Nat)
 |oD (g:Nat)
 |no
inductive TV where
 |one (x:TW)
 |agg (xs:List TW)
inductive TS where
 |v (x:TV)
 |jq (xs:List TV)
 |no
inductive TO where
 |none
 |box (ws:List TW)
 |arr (fz a i:Bool) (e:Ty) (l:List (Dt e))
 |it (s:List UInt8) (n:Int)
 |aP (a i:Bool) (e:Ty) (au:List (Nat×Ty)) (l:List (Dt e)) (hole:Option (Nat×Nat×Nat))
mutual
def cZ:TW->W
 |.p a i w=>.p a i (dH w)
 |.dJ=>.dJ
 |.own g=>.own g
 |.vw g lo c=>.vw g (.int .i64 lo) (.int .i64 c)
 |.box g off=>.box g off
 |.ep g n off=>.ep g (.int .i64 n) off
 |.sp a i t x off=>.sp a i (lY t x) off
 |.clo f b=>.clo f (oM b)
 |.gl g=>.gl g
 |.oD g=>.oD g
 |.no=>.no
def oM:List TW->List W
 | []=>[]
 |x::xs=>cZ x::oM xs
end
theorem Ag:∀(l:List TW),oM l=l.map cZ
 | []=>rfl
 |x::xs=>by simp[oM,Ag xs]
def kE:TV->V
 |.one x=>.one (cZ x)
 |.agg xs=>.agg (xs.map cZ)
def bI:TS->S
 |.v x=>.v (kE x)
 |.jq xs=>.jq (xs.map kE)
 |.no=>.no
def gW(au:List (Nat×Ty)):List (Nat×Nat):=au.map λc=>(c.1,size c.2)
def d_:TO->O
 |.none=>.none
 |.box c=>.box (c.map cZ)
 |.arr d a i e l=>.arr d a i (size e) (aN e l)
 |.it s n=>.it (.str ⟨s.toArray⟩) (.int .i64 n)
 |.aP a i e g l b=>.aP a i (size e) (gW g) (aN e l) b
def jZ{α:Type}(d:α):List (Nat×α)->Nat->α
 | [],_=>d
 |(k,v)::r,t=>bif Nat.beq t k then v else jZ d r t
def zi{α:Type}(k:Nat)(v:α):List (Nat×α)->List (Nat×α)
 | []=>[(k,v)]
 |(b,c)::r=>bif Nat.beq k b then(k,v)::r else(b,c)::zi k v r
def gy(g:Nat):List Nat->Bool
 | []=>zv
 |x::xs=>Nat.beq g x||gy g xs
structure jI where
 s:List (Nat×TS)
 o:List (Nat×TO)
 u:List Nat
def jI.gs(st:jI)(t:Nat):TS:=jZ .no st.s t
def jI.go(st:jI)(g:Nat):TO:=jZ .none st.o g
def bg(st:jI):St:={ s:=λt=>bI (st.gs t),o:=λg=>d_ (st.go g),used:=λg=>gy g st.u }
def dh(o:Nat->TO):Nat->O:=λg=>d_ (o g)
def jv(k:IntKind)(x:Int):Wd:=⟨.int k,x⟩
def jC(x:Bool):Wd:=⟨.bool,x⟩
def UM(x:List UInt8):Wd:=⟨.str,x⟩
def vK(e:Ty)(x:List (Dt e)):Wd:=⟨.sl e,x⟩
def atq(x:Value):Wd:=⟨.opq,x⟩
def cvT:Value->TW
 |.int k n=>.p zv zv (jv k n)
 |.bool b=>.p zv zv (jC b)
 |.string s=>.p zv zv (UM s.data.toList)
 |.slice zz 0 0=>.dJ
 |v=>.p zv zv (atq v)
def Xy:Value->TS
 |.agg b=>bif b.toList.all Value.oneCell' then .v (.agg (b.toList.map cvT))else .no
 |.tuple _=>.no
 |.func (.func f) ⟨[]⟩ ⟨[]⟩=>.v (.one (.clo f []))
 |v=>bif v.oneCell' then .v (.one (cvT v))else .no
def jI.dG(st:jI):Operand->TS
 |.tmp t=>st.gs t
 |.const v=>Xy v
 |.func f=>.v (.one (.clo f []))
 |.global g=>match RE.G g with
  |some _=>.v (.one (.gl g))
  |none=>.no
structure uO where
 pre:Bool
 t:Ty
 val:Dt t
 dst:Dt t->TS
 aK:Dt t->List (Nat×TO)
 new:List Nat
def uO.pure(x:TS):uO:={ pre:=zj,t:=.bool,val:=zv,dst:=λ_=>x,aK:=λ_=>[],new:=[] }
def Y6(w:Wd):TS:=.v (.one (.p zv zv w))
def uO.calc(pre:Bool)(t:Ty)(x:Dt t):uO:={ pre,t,val:=x,dst:=λz=>Y6 ⟨t,z⟩,aK:=λ_=>[],new:=[] }
structure TA where
 a:Bool
 i:Bool
 e:Ty
 l:List (Dt e)
structure TH where
 a:Bool
 i:Bool
 e:Ty
 au:List (Nat×Ty)
 l:List (Dt e)
def tyB(a b:Ty):Bool:=match Ty.eq a b with
 |some _=>zj
 |none=>zv
def vM(c:Nat):List (Nat×Ty)->Option Ty
 | []=>zz
 |(k,t)::r=>bif Nat.beq c k then zw t else vM c r
def abY(e:Ty)(au:List (Nat×Ty))(c:Nat)(e':Ty):Bool:=(match vM c au with
 |some t=>tyB t e'
 |none=>zv)&&(match (jR e)[c]? with
 |some (.sl t)=>tyB t e'
 |_=>zv)
def N7(e:Ty)(whole:Bool)(x:Dt e)(off:Nat)(ps:List Wd):Dt e:=match whole with
 |true=>lZ e ps
 |false=>lZ e (aZ (gU e x) off ps)
def putRow(e:Ty)(l:List (Dt e))(n c:Nat)(w:Wd):List (Dt e):=List.set l n (N7 e (Nat.beq 1 (size e)) (l.getD n (dflt e)) c [w])
def oN(o:Nat->TO)(g:Nat):Option TA:=match o g with
 |.arr _ a i e l=>zw ⟨a,i,e,l⟩
 |.aP a i e j l b=>match b with
  |none=>zw ⟨a,i,e,l⟩
  |some (n,c,d)=>match o d with
   |.arr _ a' i' h m=>match abY e j c h with
    |true=>zw ⟨a||a',i||i',e,putRow e l n c (vK h m)⟩
    |false=>zz
   |_=>zz
 |_=>zz
def jw:TO->List Nat
 |.aP _ _ _ _ _ b=>match b with
  |some (_,_,d)=>[d]
  |none=>[]
 |_=>[]
def N8(o:Nat->TO)(g:Nat):Option (Ty×Nat):=match o g with
 |.arr _ _ _ e l=>zw (e,l.length)
 |.aP _ _ e _ l _=>zw (e,l.length)
 |_=>zz
def TW.toP(o:Nat->TO)(t:Ty):TW->Option (Dt t×Bool×Bool×List Nat)
 |.p a i w=>match w.Df t with
  |some x=>zw (x,a,i,[])
  |none=>zz
 |.dJ=>match t with
  |.sl e=>zw (([]:List (Dt e)),zv,zv,[])
  |_=>zz
 |.own g=>match oN o g with
  |some ⟨a,i,e,l⟩=>match (vK e l).Df t with
   |some x=>zw (x,a,i,jw (o g)++[g])
   |none=>zz
  |none=>zz
 |.vw g lo b=>match oN o g with
  |some ⟨a,i,e,l⟩=>match (vK e ((l.take b.toNat).drop lo.toNat)).Df t with
   |some x=>zw (x,a,i,jw (o g)++[g])
   |none=>zz
  |none=>zz
 |_=>zz
def tX(o:Nat->TO):List Ty->List TW->Option (List Wd×Bool×Bool×List Nat)
 | [],[]=>zw ([],zv,zv,[])
 |t::ts,x::xs=>match x.toP o t,tX o ts xs with
  |some (y,a,i,gs),zw (c,a',i',b)=>zw (⟨t,y⟩::c,a||a',i||i',gs++b)
  |_,_=>zz
 |_,_=>zz
def TV.words:TV->List TW
 |.one x=>[x]
 |.agg xs=>xs
def mP(o:Nat->TO)(g:Nat):Nat×TO:=
 (g,match oN o g with
  |some ⟨a,i,e,l⟩=>.arr zj a i e l
  |none=>o g)
def TV.gB(agg:Bool)(ws:List TW):TS:=match agg with
 |true=>.v (.agg ws)
 |false=>match ws with
  | [x]=>.v (.one x)
  |_=>.no
def TW.solid:TW->Bool
 |.no=>zv
 |_=>zj
def TV.solid:TV->Bool
 |.one x=>x.solid
 |.agg _=>zj
def D9(place:Nat->Option (Nat×Nat))(ws:List TW):List (Nat×TS)->Option (List TW)
 | []=>zw ws
 |(n,.v x)::rest=>match place n with
  |some (off,size)=>bif Nat.beq x.words.length size&&Nat.ble (off+size) ws.length&&x.solid then D9 place (aZ ws off x.words) rest else zz
  |none=>zz
 |_=>zz
def TW.rows(o:Nat->TO)(e:Ty):TW->Option (List (Dt e)×Bool×Bool)
 |.p a i w=>match w.Df (.sl e)with
  |some l=>zw (l,a,i)
  |none=>zz
 |.dJ=>zw ([],zv,zv)
 |.own g=>match o g with
  |.arr _ a i b l=>match (vK b l).Df (.sl e)with
   |some l=>zw (l,a,i)
   |none=>zz
  |_=>zz
 |.vw g lo c=>match o g with
  |.arr _ a i b l=>match (vK b ((l.take c.toNat).drop lo.toNat)).Df (.sl e)with
   |some l=>zw (l,a,i)
   |none=>zz
  |_=>zz
 |_=>zz
def UN(o:Nat->TO):TW->Option Int
 |.p _ _ ⟨.sl e,l⟩=>zw (List.length (α:=Dt e) l)
 |.dJ=>zw 0
 |.own g=>match N8 o g with
  |some (_,n)=>zw n
  |none=>zz
 |.vw g lo b=>match N8 o g with
  |some _=>zw (b.toNat-lo.toNat:Nat)
  |none=>zz
 |_=>zz
def TW.live(o:Nat->TO):TW->Bool
 |.box g _=>match o g with
  |.box _=>zj
  |_=>zv
 |.ep g _ _=>match N8 o g with
  |some _=>zj
  |none=>zv
 |.sp _ _ _ _ _=>zj
 |_=>zv
def TW.shift(n:Nat):TW->TW
 |.box g off=>.box g (off+n)
 |.ep g k off=>.ep g k (off+n)
 |.sp a i t x off=>.sp a i t x (off+n)
 |x=>x
def mQ(dflt:Int):Option TS->Option Int
 |none=>zw dflt
 |some (.v (.one (.p _ _ ⟨.int .i64,x⟩)))=>zw x
 |_=>zz
def atr(n:Int):Int:=0-n
def eqI(a b:Int):Bool:=decide (a=b)
def inB(n:Int)(len:Nat):Bool:=decide (0<=n)&&decide (n<len)
def I8(lo hi:Int)(len:Nat):Bool:=decide (0<=lo)&&decide (lo<=hi)&&decide (hi<=(len:Int))
def BR(bytes:Nat)(n c:Int):Bool:=decide (0<=n)&&decide (n<=c)&&decide (bytes*c<=281474976710656)&&decide (c<=9223372036854775807)
def strOf(l:List Int):List UInt8:=l.map λn=>UInt8.ofNat n.toNat
def amv(s:List UInt8):List Int:=s.map λb=>(b.toNat:Int)
def abZ(a b:Int):Int:=if b<a then b else a
def FP(a b:Int):Int:=if b>a then b else a
def Xz(op:BinOp)(k k':IntKind)(a b:Int):Option (Bool×Wd):=
 match op with
 |.shl=>zw (decide (0<=b),jv k (k.wrap (a*2 ^ min b.toNat k.bits)))
 |.shr=>zw (decide (0<=b),jv k (a.fdiv (2 ^ min b.toNat k.bits)))
 |_=>match aeo k k' with
  |none=>zz
  |some _=>match op with
   |.add=>zw (zj,jv k (k.wrap (a+b)))
   |.sub=>zw (zj,jv k (k.wrap (a-b)))
   |.mul=>zw (zj,jv k (k.wrap (a*b)))
   |.quo=>zw (!(decide (b=0)),jv k (k.wrap (a.tdiv b)))
   |.rem=>zw (!(decide (b=0)),jv k (a.tmod b))
   |.and=>zw (zj,jv k (bits .and k a b))
   |.or=>zw (zj,jv k (bits .or k a b))
   |.xor=>zw (zj,jv k (bits .xor k a b))
   |.andNot=>zw (zj,jv k (bits .andNot k a b))
   |.eql=>zw (zj,jC (decide (a=b)))
   |.neq=>zw (zj,jC (!(decide (a=b))))
   |.lss=>zw (zj,jC (decide (a<b)))
   |.leq=>zw (zj,jC (decide (a<=b)))
   |.gtr=>zw (zj,jC (decide (b<a)))
   |.geq=>zw (zj,jC (decide (b<=a)))
   |_=>zz
def D_(n m:Nat):Bool:=Nat.ble n (9223372036854775807-m)&&Nat.ble m 9223372036854775807
theorem pJ{n m:Nat}:D_ n m=zj↔n+m<=9223372036854775807:=by unfold D_;rw[X1,Nat.ble_eq,Nat.ble_eq];omega
def XA(op:BinOp)(a b:List UInt8):Option (Bool×Wd):=
 match op with
 |.add=>zw (D_ a.length b.length,UM (a++b))
 |.eql=>zw (zj,jC (a==b))
 |.neq=>zw (zj,jC (!(a==b)))
 |.lss=>zw (zj,jC (Op.bytesLess a b))
 |.leq=>zw (zj,jC (Op.bytesLess a b||a==b))
 |.gtr=>zw (zj,jC (!(Op.bytesLess a b||a==b)))
 |.geq=>zw (zj,jC (!Op.bytesLess a b))
 |_=>zz
def QN(op:BinOp)(a b:Bool):Option (Bool×Wd):=
 match op with
 |.eql=>zw (zj,jC (a==b))
 |.neq=>zw (zj,jC (a != b))
 |_=>zz
def aps(k:TK)(op:BinOp)(x y:Wd):Option (Bool×Wd):=
 match k,x,y with
 |.int _,⟨.int k,a⟩,⟨.int c,b⟩=>Xz op k c a b
 |.str,⟨.str,a⟩,⟨.str,b⟩=>XA op a b
 |.bool,⟨.bool,a⟩,⟨.bool,b⟩=>QN op a b
 |_,_,_=>zz
def unT(op:UnOp)(x:Wd):Option Wd:=
 match op,x with
 |.neg,⟨.int k,n⟩=>zw (jv k (k.wrap (atr n)))
 |.not,⟨.bool,b⟩=>zw (jC (!b))
 |_,_=>zz
def akP(k k':IntKind)(m n:Int):Option Bool:=
 match aeo k k' with
 |some _=>zw (decide (m=n))
 |none=>zz
def eqStr(a b:List UInt8):Option Bool:=zw (a==b)
def apt(a b:Bool):Option Bool:=zw (a==b)
def amw(k:TK)(x y:Wd):Option Bool:=
 match k,x,y with
 |.int _,⟨.int a,m⟩,⟨.int b,n⟩=>akP a b m n
 |.str,⟨.str,a⟩,⟨.str,b⟩=>eqStr a b
 |.bool,⟨.bool,a⟩,⟨.bool,b⟩=>apt a b
 |_,_,_=>zz
def I9(tt:TT):Nat->List (Nat×TypeId)->List TW->List TW->Option Bool
 |_,[],[],[]=>zw zj
 |n,(off,t)::d,.p _ _ x::xs,.p _ _ y::g=>match tt t with
  |some i=>bif Nat.beq off n&&i.k.flat&&Nat.beq i.size 1 then match amw i.k x y,I9 tt (n+1) d xs g with
   |some b,zw c=>zw (b&&c)
   |_,_=>zz
   else zz
  |none=>zz
 |_,_,_,_=>zz
def uO.pK(c:Bool×Wd):uO:=.calc c.1 c.2.t c.2.x
def aer:Wd->Value->Bool
 |⟨.int k,n⟩,.int c d=>(match aeo k c with|some _=>zj|none=>zv)&&eqI n d
 |⟨.bool,b⟩,.bool g=>BEq.beq (α:=Bool) b g
 |⟨.str,s⟩,.string h=>List.isEmpty (α:=UInt8) s&&h.data.toList.isEmpty
 |⟨.sl e,l⟩,.slice zz 0 0=>List.isEmpty (α:=Dt e) l
 |_,_=>zv
def uP:List Wd->List Value->Bool
 | [],[]=>zj
 |w::b,v::vs=>aer w v&&uP b vs
 |_,_=>zv
def tpw(a i:Bool)(ws:List Wd):List TW:=ws.map (TW.p a i)
def QO(tt:TT)(ety:TypeId->Option Ty)(d:Nat)(o:Nat->TO)(sT:TypeId)(s x:TW):Option uO:=
 match tt sT with
 |some { k:=.slice e,.. }=>match tt e,ety e with
  |some j,zw b=>bif Nat.beq j.bytes 0||!Nat.beq (size b) j.size then zz else match x.rows o b with
   |none=>zz
   |some (new,a',i')=>
    let c (pre:Bool) (h:List (Dt b)) (a i:Bool) (kill:List (Nat×TO)):uO:=
     { pre:=pre&&decide ((h.length+new.length)*j.bytes<=140737488355328),t:=.sl b,val:=List.append h new,dst:=λ_=>.v (.one (.own d)),aK:=λy=>kill++[(d,.arr zv (a||a') (i||i') b y)],new:=[d] }
    match s with
    |.dJ=>zw (c zj [] zv zv [])
    |.own g=>match o g with
     |.arr zv a i m l=>match (vK m l).Df (.sl b)with
      |some l=>bif Nat.beq g d then zz else zw (c zj l a i [(g,.none)])
      |none=>zz
     |_=>zz
    |.vw g lo q=>match o g with
     |.arr zv a i m l=>match (vK m (l.take q.toNat)).Df (.sl b)with
      |some l=>bif Nat.beq g d then zz else zw (c (decide (lo=0)) l a i [(g,.none)])
      |none=>zz
     |_=>zz
    |_=>zz
  |_,_=>zz
 |_=>zz
def Ea(e:Ty):Nat->List Wd->List (Dt e)
 |0,_=>[]
 |n+1,l=>lZ e (l.take (size e))::Ea e n (l.drop (size e))
def Ld{α:Type}(l:List α):Nat->List α
 |0=>[]
 |n+1=>l++Ld l n
def Y7(tt:TT)(o:Nat->TO)(t:TypeId)(x h m:TS):Option uO:=
 match tt t,x,h,m with
 |some { k:=.slice e,.. },.v (.one (.own g)),.v (.one (.p _ _ ⟨.int .i64,h⟩)),.v (.one (.p _ _ ⟨.int .i64,m⟩))=>match tt e,o g with
  |some b,.arr zv _ _ c l=>bif Nat.beq (size c) b.size then zw { pre:=I8 h m l.length,t:=.bool,val:=zv,dst:=λ_=>.v (.one (.vw g 0 h)),aK:=λ_=>[],new:=[] } else zz
  |_,_=>zz
 |some { k:=.slice e,.. },.v (.one .dJ),.v (.one (.p _ _ ⟨.int .i64,h⟩)),.v (.one (.p _ _ ⟨.int .i64,m⟩))=>match tt e with
  |some _=>zw { pre:=I8 h m 0,t:=.bool,val:=zv,dst:=λ_=>.v (.one .dJ),aK:=λ_=>[],new:=[] }
  |none=>zz
 |_,_,_,_=>zz
def eF(tt:TT)(ety:TypeId->Option Ty)(d:Nat)(o:Nat->TO)(f:Operand->TS)(op:Op)(ty:TypeId):Option uO:=
 match op with
 |.move x|.assign x=>match f x with
  |.no=>zz
  |s=>zw (.pure s)
 |.pick c x y=>match f c with
  |.v (.one (.p _ _ ⟨.bool,b⟩))=>match f x,f y with
   |.v (.one (.p a i w)),.v (.one (.p a' i' U))=>match U.Df w.t with
    |some z=>zw { pre:=zj,t:=w.t,val:=bif b then w.x else z,dst:=λz=>.v (.one (.p (a||a') (i||i') ⟨w.t,z⟩)),aK:=λ_=>[],new:=[] }
    |none=>zz
   |x,y=>match (bif b then x else y)with
    |.no=>zz
    |s=>zw (.pure s)
  |_=>zz
 |.alloc t=>match tt t with
  |some i=>zw { pre:=zj,t:=.bool,val:=zv,dst:=λ_=>.v (.one (.box d 0)),aK:=λ_=>[(d,.box (i.zero.map cvT))],new:=[d] }
  |none=>zz
 |.box t x=>match tt t,f x with
  |some i,.v x=>bif Nat.beq x.words.length i.size&&x.solid then zw { pre:=zj,t:=.bool,val:=zv,dst:=λ_=>.v (.one (.box d 0)),aK:=λ_=>[(d,.box x.words)],new:=[d] } else zz
  |_,_=>zz
 |.build t parts=>match tt t with
  |some i=>bif i.known tt then match D9 (placeOf tt t) (i.zero.map cvT) (parts.toList.map λp=>(p.1,f p.2))with
   |some B=>zw (.pure (.v (.agg B)))
   |none=>zz
   else zz
  |none=>zz
 |.buildSlice t n parts=>match tt t with
  |some { k:=.slice e,.. }=>match tt e,ety e with
   |some j,zw h=>match D9 (λm=>if m<n then zw (m*j.size,j.size)else zz) (Ld (j.zero.map cvT) n) (parts.toList.map λp=>(p.1,f p.2))with
    |some B=>match tX o (Ld (jR h) n) B with
     |some (H,a,i,gs)=>bif Nat.ble (n+n*j.size) 16777216&&Nat.beq (size h) j.size then
       zw { pre:=zj,t:=.sl h,val:=Ea h n H,dst:=λ_=>.v (.one (.own d)),aK:=λy=>gs.map (mP o)++[(d,.arr zv a i h y)],new:=[d] } else zz
     |none=>zz
    |none=>zz
   |_,_=>zz
  |_=>zz
 |.load t x=>match tt t,f x with
  |some i,.v (.one (.box g off))=>match o g with
   |.box B=>bif Nat.ble (off+i.size) B.length&&Nat.blt 0 i.size then zw (.pure (TV.gB i.agg ((B.drop off).take i.size)))else zz
   |_=>zz
  |some i,.v (.one (.ep g n off))=>match o g with
   |.arr _ a i' e l=>bif Nat.ble (off+i.size) (size e)&&Nat.blt 0 i.size&&uP (((gU e (dflt e)).drop off).take i.size) i.zero then
     zw { pre:=zj,t:=e,val:=l.getD n.toNat (dflt e),dst:=λz=>TV.gB i.agg (tpw a i' (((gU e z).drop off).take i.size)),aK:=λ_=>[],new:=[] } else zz
   |_=>zz
  |some i,.v (.one (.sp a i' e x off))=>bif Nat.blt 0 i.size&&Nat.ble (off+i.size) (size e)then
    zw (.pure (TV.gB i.agg (tpw a i' (((gU e x).drop off).take i.size))))else zz
  |_,_=>zz
 |.store t x y=>match tt t,f x,f y with
  |some i,.v (.one (.box g off)),.v y=>match o g with
   |.box B=>bif Nat.ble (off+i.size) B.length&&Nat.beq y.words.length i.size&&y.solid then
     zw { pre:=zj,t:=.bool,val:=zv,dst:=λ_=>.no,aK:=λ_=>[(g,.box (aZ B off y.words))],new:=[] } else zz
   |_=>zz
  |some i,.v (.one (.ep g n off)),.v y=>match o g with
   |.arr zv a i' e l=>match tX o (((jR e).drop off).take i.size) y.words with
    |some (H,a',i'',gs)=>bif Nat.ble (off+i.size) (size e)&&Nat.beq y.words.length i.size&&y.solid&&!gy g gs then
     zw { pre:=zj,t:=.sl e,val:=List.set l n.toNat (N7 e (Nat.beq i.size (size e)) (l.getD n.toNat (dflt e)) off H),dst:=λ_=>.no,aK:=λz=>gs.map (mP o)++[(g,.arr zv (a||a') (i'||i'') e z)],new:=[] } else zz
    |none=>zz
   |_=>zz
  |_,_,_=>zz
 |.nilCheck x=>match f x with
  |.v (.one x)=>bif x.live o then zw (.pure (.v (.one x)))else zz
  |_=>zz
 |.binOp op t x y _=>match f x,f y with
  |.v (.one (.p _ _ x)),.v (.one (.p _ _ y))=>match tt t with
   |some i=>match aps i.k op x y with
    |some c=>zw (.pK c)
    |none=>zz
   |none=>zz
  |.v (.agg xs),.v (.agg X)=>match tt t with
   |some i=>match I9 tt 0 i.k.parts xs X,ahQ op with
    |some b,zw zj=>bif i.eq then zw (.pK (zj,jC b))else zz
    |some b,zw zv=>bif i.eq then zw (.pK (zj,jC (!b)))else zz
    |_,_=>zz
   |none=>zz
  |_,_=>zz
 |.unOp op _ x=>match f x with
  |.v (.one (.p _ _ x))=>match unT op x with
   |some c=>zw (.pK (zj,c))
   |none=>zz
  |_=>zz
 |.convert s t x=>match tt s,tt t,f x with
  |some { k:=.int _,.. },zw { k:=.int k,.. },.v (.one (.p _ _ ⟨.int _,x⟩))=>zw (.calc zj (.int k) (k.wrap x))
  |some { k:=.slice e,.. },zw { k:=.str,.. },.v (.one x)=>match tt e with
   |some { k:=.int .u8,.. }=>match x.rows o (.int .u8)with
    |some (l,_,_)=>zw (.calc zj .str (strOf l))
    |none=>zz
   |_=>zz
  |some { k:=.str,.. },zw { k:=.slice e,.. },.v (.one (.p _ _ ⟨.str,x⟩))=>match tt e with
   |some { k:=.int .u8,.. }=>zw (.calc zj (.sl (.int .u8)) (amv x))
   |_=>zz
  |_,_,_=>zz
 |.makeSlice t n c=>match tt t,f n,f c with
  |some { k:=.slice e,.. },.v (.one (.p _ _ ⟨.int .i64,n⟩)),.v (.one (.p _ _ ⟨.int .i64,c⟩))=>match tt e,ety e with
   |some j,zw h=>match tX o (jR h) (j.zero.map cvT)with
    |some (H,zv,zv,[])=>bif Nat.blt 0 j.size&&Nat.beq (size h) j.size then
     zw { pre:=BR j.bytes n c,t:=.sl h,val:=List.replicate (Int.toNat n) (lZ h H),dst:=λ_=>.v (.one (.own d)),aK:=λy=>[(d,.arr zv zv zv h y)],new:=[d] } else zz
    |_=>zz
   |_,_=>zz
  |_,_,_=>zz
 |.slice t x lo q zz=>match tt t,f x with
  |some { k:=.slice e,.. },.v (.one x)=>match tt e,ety e,UN o x with
   |some j,zw h,zw len=>match mQ 0 (lo.map f),mQ len (q.map f)with
    |some lo,zw q=>match x with
     |.own g=>match N8 o g with
      |some (J,l)=>bif Nat.beq (size J) j.size then
        zw { pre:=I8 lo q l,t:=.bool,val:=zv,dst:=λ_=>.v (.one (.vw g lo q)),aK:=λ_=>[],new:=[] } else zz
      |none=>zz
     |.p a i w=>match w.Df (.sl h)with
      |some l=>bif Nat.beq (size h) j.size then zw { pre:=I8 lo q (List.length (α:=Dt h) l),t:=.sl h,val:=List.drop lo.toNat (List.take (α:=Dt h) q.toNat l),dst:=λz=>.v (.one (.p a i ⟨.sl h,z⟩)),aK:=λ_=>[],new:=[] } else zz
      |none=>zz
     |.dJ=>zw { pre:=decide (lo=0)&&decide (q=0),t:=.bool,val:=zv,dst:=λ_=>.v (.one .dJ),aK:=λ_=>[],new:=[] }
     |_=>zz
    |_,_=>zz
   |_,_,_=>zz
  |some { k:=.str,.. },.v (.one (.p _ _ ⟨.str,y⟩))=>match mQ 0 (lo.map f),mQ (List.length (α:=UInt8) y) (q.map f)with
   |some lo,zw q=>zw (.calc (I8 lo q (List.length (α:=UInt8) y)) .str (List.drop lo.toNat (List.take (α:=UInt8) q.toNat y)))
   |_,_=>zz
  |_,_=>zz
 |.slice t x zz (zw q) (zw Y)=>Y7 tt o t (f x) (f q) (f Y)
 |.fieldAddr t x n=>match tt t,placeOf tt t n,f x with
  |some { k:=.struct _,.. },zw (K,N),.v (.one x)=>bif Nat.blt 0 N&&x.live o then zw (.pure (.v (.one (x.shift K))))else zz
  |_,_,_=>zz
 |.field t x n=>match tt t,f x with
  |some { k:=.struct Z,.. },.v (.agg B)=>match Z[n]? with
   |some (off,u)=>match tt u with
    |some M=>bif Nat.ble (off+M.size) B.length&&Nat.blt 0 M.size then zw (.pure (TV.gB M.agg ((B.drop off).take M.size)))else zz
    |none=>zz
   |none=>zz
  |_,_=>zz
 |.indexAddr t x T=>match tt t,f x,f T with
  |some { k:=.slice e,.. },.v (.one x),.v (.one (.p _ _ ⟨.int _,n⟩))=>match tt e,ety e,x with
   |some j,zw h,.own g=>match N8 o g with
    |some (J,l)=>bif Nat.beq (size J) j.size then
      zw { pre:=inB n l,t:=.bool,val:=zv,dst:=λ_=>.v (.one (.ep g (Int.toNat n:Nat) 0)),aK:=λ_=>[],new:=[] } else zz
    |none=>zz
   |some j,zw h,.vw g lo q=>match N8 o g with
    |some (J,_)=>bif Nat.beq (size J) j.size then
      zw { pre:=inB n (q.toNat-lo.toNat),t:=.bool,val:=zv,dst:=λ_=>.v (.one (.ep g (lo.toNat+Int.toNat n:Nat) 0)),aK:=λ_=>[],new:=[] } else zz
    |none=>zz
   |some j,zw h,.p a i w=>match w.Df (.sl h)with
    |some l=>bif Nat.beq (size h) j.size then zw { pre:=inB n (List.length (α:=Dt h) l),t:=h,val:=List.getD (α:=Dt h) l (Int.toNat n) (dflt h),dst:=λz=>.v (.one (.sp a i h z 0)),aK:=λ_=>[],new:=[] } else zz
    |none=>zz
   |_,_,_=>zz
  |some { k:=.arr m e,.. },.v (.one (.gl g)),.v (.one (.p _ _ ⟨.int _,n⟩))=>match tt e,RE.G g with
   |some j,zw ⟨h,l⟩=>bif Nat.beq (size h) j.size&&Nat.beq (List.length (α:=Dt h) l) m then zw { pre:=inB n m,t:=h,val:=List.getD (α:=Dt h) l (Int.toNat n) (dflt h),dst:=λz=>.v (.one (.sp zv zv h z 0)),aK:=λ_=>[],new:=[] } else zz
   |_,_=>zz
  |some { k:=.arr m e,.. },.v (.one x),.v (.one (.p _ _ ⟨.int _,n⟩))=>match tt e with
   |some j=>bif inB n m&&x.live o then zw (.pure (.v (.one (x.shift (Int.toNat n*j.size)))))else zz
   |none=>zz
  |_,_,_=>zz
 |.index t x T=>match tt t,f x,f T with
  |some { k:=.str,.. },.v (.one (.p _ _ ⟨.str,s⟩)),.v (.one (.p _ _ ⟨.int _,n⟩))=>zw (.calc (inB n (List.length (α:=UInt8) s)) (.int .u8) ((List.getD (α:=UInt8) s (Int.toNat n) 0).toNat:Int))
  |_,_,_=>zz
 |.range t x=>match tt t,f x with
  |some { k:=.str,.. },.v (.one (.p _ _ ⟨.str,s⟩))=>zw { pre:=zj,t:=.str,val:=s,dst:=λ_=>.v (.one (.oD d)),aK:=λz=>[(d,.it z 0)],new:=[d] }
  |_,_=>zz
 |.extract t n=>match f t with
  |.jq xs=>match xs[n]? with
   |some x=>zw (.pure (.v x))
   |none=>zz
  |_=>zz
 |.makeFunc (.func g) first L=>bif Nat.beq first.size 0 then
   match L.toList.mapM (λx=>match f x with|.v (.one w)=>zw w|_=>zz)with
   |some B=>zw (.pure (.v (.one (.clo g B))))
   |none=>zz
   else zz
 |.call { callee:=.builtin .len,args,argTypes }=>match args.toList,argTypes.toList with
  | [x],[t]=>match tt t,f x with
   |some { k:=.slice _,.. },.v (.one x)=>match UN o x with
    |some n=>zw (.calc zj (.int .i64) n)
    |none=>zz
   |some { k:=.str,.. },.v (.one (.p _ _ ⟨.str,s⟩))=>zw (.calc zj (.int .i64) (List.length (α:=UInt8) s:Int))
   |_,_=>zz
  |_,_=>zz
 |.call { callee:=.builtin .append,args,argTypes }=>match args.toList,argTypes.toList with
  | [s,x],sT::xT::_=>match tt xT,f s,f x with
   |some { k:=.slice _,.. },.v (.one s),.v (.one x)=>QO tt ety d o sT s x
   |_,_,_=>zz
  |_,_=>zz
 |.call { callee:=.builtin .min,args,.. }=>match args.toList with
  | [x,y]=>match f x,f y with
   |.v (.one (.p _ _ ⟨.int k,x⟩)),.v (.one (.p _ _ ⟨.int _,y⟩))=>zw (.calc zj (.int k) (abZ x y))
   |_,_=>zz
  | [x,y,z]=>match f x,f y,f z with
   |.v (.one (.p _ _ ⟨.int k,x⟩)),.v (.one (.p _ _ ⟨.int _,y⟩)),.v (.one (.p _ _ ⟨.int _,z⟩))=>zw (.calc zj (.int k) (abZ (abZ x y) z))
   |_,_,_=>zz
  |_=>zz
 |.call { callee:=.builtin .max,args,.. }=>match args.toList with
  | [x,y]=>match f x,f y with
   |.v (.one (.p _ _ ⟨.int k,x⟩)),.v (.one (.p _ _ ⟨.int _,y⟩))=>zw (.calc zj (.int k) (FP x y))
   |_,_=>zz
  | [x,y,z]=>match f x,f y,f z with
   |.v (.one (.p _ _ ⟨.int k,x⟩)),.v (.one (.p _ _ ⟨.int _,y⟩)),.v (.one (.p _ _ ⟨.int _,z⟩))=>zw (.calc zj (.int k) (FP (FP x y) z))
   |_,_,_=>zz
  |_=>zz
 |_=>zz
end
end Go.Fg

namespace Go.Fg
open Go.Fw
section
variable [RE] {o:Nat->TO} {tt:TT} {ety:TypeId->Option Ty}
theorem fE(e:Ty)(l:List (Dt e)):(aN e l).length=l.length:=by simp[aN]
theorem tY(e:Ty)(l:List (Dt e))(lo hi:Int):((aN e l).take (P.nat (.int .i64 hi))).drop (P.nat (.int .i64 lo))=aN e ((l.take hi.toNat).drop lo.toNat):=by simp[aN,P.nat,P.num,US,Vv]
theorem qU(e:Ty)(l:List (Dt e))(hi:Int):(aN e l).take (P.nat (.int .i64 hi))=aN e (l.take hi.toNat):=by simp[aN,P.nat,P.num,US]
theorem iM{g:Nat}{fz a i:Bool}{e:Ty}{l:List (Dt e)}(h:o g=.arr fz a i e l):dh o g=.arr fz a i (size e) (aN e l):=by simp[dh,h,d_]
theorem pO{g:Nat}{b:List TW}(h:o g=.box b):dh o g=.box (b.map cZ):=by simp[dh,h,d_]
theorem qA{g n:Nat}{e:Ty}(h:N8 o g=zw (e,n)):(dh o g).dim=zw (size e,n):=by
 unfold N8 at h;unfold dh;cases b:o g with
 |arr d a i e l=>rw[b]at h;cases h;simp[d_,O.dim,aN]
 |aP a i e j l c=>rw[b]at h;cases h;simp[d_,O.dim,aN]
 |_=>rw[b]at h;cases h
theorem zk{a b:Ty}(h:tyB a b=zj):a=b:=by
 unfold tyB at h;split at h
 .rename_i p _;exact p.down
 .cases h
theorem FQ{c:Nat}:∀{au:List (Nat×Ty)} {t:Ty},vM c au=zw t->(gW au).lookup c=zw (size t)
 | [],t,h=>by cases h
 |(k,u)::r,t,h=>by
  simp only[vM]at h;simp only[gW,Qf,List.lookup];by_cases e:c=k
  .subst e;have:Nat.beq c c=zj:=by simp
   rw[this]at h;simp only[cond_true,Q0]at h;subst h;simp
  .have b:Nat.beq c k=zv:=by cases d:Nat.beq c k with|false=>rfl|true=>exact absurd (Q6 d) e
   have g:(c==k)=zv:=by simpa using e
   rw[b]at h;rw[g];exact FQ h
theorem Le{c:Nat}:∀{au:List (Nat×Ty)},vM c au=zz->(gW au).lookup c=zz
 | [],h=>rfl
 |(k,u)::r,h=>by
  simp only[vM]at h;simp only[gW,Qf,List.lookup];by_cases e:c=k
  .subst e;have:Nat.beq c c=zj:=by simp
   rw[this]at h;cases h
  .have b:Nat.beq c k=zv:=by cases d:Nat.beq c k with|false=>rfl|true=>exact absurd (Q6 d) e
   have g:(c==k)=zv:=by simpa using e
   rw[b]at h;rw[g];exact Le h
theorem vN{e b:Ty}{au:List (Nat×Ty)}{c:Nat}(h:abY e au c b=zj):(gW au).lookup c=zw (size b)/\(jR e)[c]?=zw (.sl b)/\c<size e:=by
 simp only[abY,X1]at h;obtain⟨d,g⟩:=h;have q:vM c au=zw b:=by
  split at d
  .rename_i t j;rw[j,zk d]
  .cases d
 have m:(jR e)[c]?=zw (.sl b):=by
  split at g
  .rename_i t j;rw[j,zk g]
  .cases g
 exact⟨FQ q,m,by have:=(Q3.1 m).1;rwa [kT]at this⟩
theorem Bf{α β:Type}(f:α->β)(l:List α)(off:Nat)(new:List α):(aZ l off new).map f=aZ (l.map f) off (new.map f):=by simp[aZ,US,Vv]
theorem aes{e:Ty}{x:Dt e}{off:Nat}{ps:List Wd}(c:ps.map (·.t)=((jR e).drop off).take ps.length)(h:off+ps.length<=size e):lY e (N7 e (Nat.beq ps.length (size e)) x off ps)=aZ (lY e x) off (ps.map dH):=by
 have b:(aZ (gU e x) off ps).map (·.t)=jR e:=by
  have j:jR e=(jR e).take off++(((jR e).drop off).take ps.length++(jR e).drop (off+ps.length)):=by rw[<-List.drop_drop,K2,K2]
  simp only[aZ,Ys,US,Vv,vJ,c,W4];exact j.symm
 unfold N7;cases d:Nat.beq ps.length (size e)with
 |true=>
  have d:=Q6 d;have m:off=0:=by omega
  subst m;have g:aZ (gU e x) 0 ps=ps:=by simp only[aZ,List.take_zero,qf,Vi];rw[List.drop_of_length_le (by rw[rD];omega),K6]
  have q:aZ (lY e x) 0 (ps.map dH)=ps.map dH:=by rw[iL,<-Bf,g]
  rw[g]at b;rw[q];exact xG b
 |false=>simp only;rw[xG b,Bf,<-iL]
theorem Ig{e:Ty}{l:List (Dt e)}{n off:Nat}{ps:List Wd}(c:ps.map (·.t)=((jR e).drop off).take ps.length)(d:off+ps.length<=size e):
  aN e (List.set l n (N7 e (Nat.beq ps.length (size e)) (l.getD n (dflt e)) off ps))=(aN e l).set n (aZ ((aN e l).getD n []) off (ps.map dH)):=by
 have g :∀x,aN e (List.set l n x)=(aN e l).set n (lY e x):=λx=>by simp[aN,List.map_set]
 rw[g];by_cases hn:n<l.length
 .have b:(aN e l).getD n []=lY e (l.getD n (dflt e)):=by simp[aN,Q2,hn]
  rw[b,aes c d]
 .have b :∀z,(aN e l).set n z=aN e l:=λz=>List.set_eq_of_length_le (by rw[fE];omega);rw[b,b]
theorem BU{e d:Ty}{l:List (Dt e)}{n c:Nat}{h:List (Dt d)}(g:(jR e)[c]?=zw (.sl d)):aN e (putRow e l n c (vK d h))=jJ (aN e l) n c (P.gQ (size d) (aN d h)):=by
 have j:c<size e:=by have:=(Q3.1 g).1;rwa [kT]at this
 have:=Ig (e:=e) (l:=l) (n:=n) (off:=c) (ps:=[vK d h]) (by
  show [Ty.sl d]=((jR e).drop c).take 1;have b:c<(jR e).length:=by rw[kT];exact j
  rw[Ks b];rw[Q1 b]at g;simp only[Q0]at g;rw[g];rfl) (by simp only[W5];omega)
 exact this
theorem pR{g:Nat}{a i:Bool}{e:Ty}{l:List (Dt e)}(h:oN o g=zw ⟨a,i,e,l⟩):plainO (dh o) g=zw (a,i,size e,aN e l)/\(dh o g).names=jw (o g):=by
 unfold oN at h;cases j:o g with
 |arr q w y z B=>rw[j]at h;cases h;have:=iM j;exact⟨by simp[plainO,this],by rw[this];rfl⟩
 |aP a0 i0 m H J b=>
  rw[j]at h;have hg:dh o g=.aP a0 i0 (size m) (gW H) (aN m J) b:=by simp[dh,j,d_]
  rcases b with _|⟨n,c,d⟩
  .cases h;exact⟨by simp[plainO,hg],by rw[hg];rfl⟩
  .simp only at h;cases hd:o d with
   |arr q w y z B=>
    rw[hd]at h;simp only at h;split at h
    .rename_i K;cases h;obtain⟨L,M,N⟩:=vN K;refine⟨?_,by rw[hg];rfl⟩;simp only[plainO,hg,iM hd];rw[QR ⟨L,N⟩,BU M]
    .cases h
   |_=>rw[hd]at h;cases h
 |_=>rw[j]at h;cases h
theorem pU{e:Ty}{l:List (Dt e)}{t:Ty}{x:Dt t}(h:(vK e l).Df t=zw x):∃h:Ty.sl e=t,x=h▸l:=by have:=iJ h;unfold vK at this;cases this;exact⟨rfl,rfl⟩
theorem QT{t:Ty}{x:TW}{y:Dt t}{a i:Bool}{gs:List Nat}(h:x.toP o t=zw (y,a,i,gs)):(cZ x).toP (dh o)=zw (dH ⟨t,y⟩,a,i,gs):=by
 cases x with
 |p j m w=>
  simp only[TW.toP]at h;split at h
  .rename_i x q;cases h;rw[iJ q];rfl
  .cases h
 |dJ=>
  simp only[TW.toP]at h;split at h
  .cases h;rfl
  .cases h
 |own g=>
  simp only[TW.toP]at h;split at h
  .rename_i j m e l hg;split at h
   .rename_i z b;cases h;rw[<-iJ b];obtain⟨c,d⟩:=pR hg;simp only[cZ,W.toP,c,d];rfl
   .cases h
  .cases h
 |vw g lo B=>
  simp only[TW.toP]at h;split at h
  .rename_i j m e l hg;split at h
   .rename_i z b;cases h;rw[<-iJ b];obtain⟨c,d⟩:=pR hg;simp only[cZ,W.toP,c,d,tY];rfl
   .cases h
  .cases h
 |_=>simp[TW.toP]at h
theorem Eb:∀{ts:List Ty} {xs:List TW} {b:List Wd} {a i:Bool} {gs:List Nat},tX o ts xs=zw (b,a,i,gs)->yG (dh o) (xs.map cZ)=zw (b.map dH,a,i,gs)/\b.map (·.t)=ts
 | [],[],b,a,i,gs,h=>by simp only[tX,Q0,QQ]at h;obtain⟨rfl,rfl,rfl,rfl⟩:=h;exact⟨rfl,rfl⟩
 | [],x::xs,b,a,i,gs,h=>by simp[tX]at h
 |t::ts,[],b,a,i,gs,h=>by simp[tX]at h
 |t::ts,x::xs,b,a,i,gs,h=>by
  simp only[tX]at h;split at h
  .rename_i c d;cases h;obtain⟨g,j⟩:=Eb d;refine⟨?_,by simp only[Qf,j]⟩;simp only[Qf,yG,QT c,g]
  .cases h
def je(l:List (Nat×TO)):List (Nat×O):=l.map λp=>(p.1,d_ p.2)
def Pl(o:Nat->TO)(gs:List Nat):Prop :=∀g∈gs,∃p,oN o g=zw p
theorem Pl.append{a b:List Nat}(h:Pl o a)(c:Pl o b):Pl o (a++b):=λg hg=>by
 rcases Z0.1 hg with x|x
 .exact h g x
 .exact c g x
theorem Pl.nil:Pl o []:=λg hg=>by cases hg
theorem OV{g:Nat}{p:TA}(h:oN o g=zw p):Pl o (jw (o g)++[g]):=by
 refine Pl.append (λd hd=>?_) (λg' b=>by rw[X2]at b;subst b;exact⟨p,h⟩);unfold oN at h;cases q:o g with
 |aP a i e H l j=>
  rw[q]at h hd;rcases j with _|⟨n,c,J⟩
  .cases hd
  .simp only[jw,X2]at hd;subst hd;simp only at h;cases m:o d with
   |arr K w y z B=>exact⟨⟨w,y,z,B⟩,by simp only[oN,m]⟩
   |_=>rw[m]at h;cases h
 |_=>rw[q]at hd;cases hd
theorem XB{t:Ty}{x:TW}{y:Dt t}{a i:Bool}{gs:List Nat}(h:x.toP o t=zw (y,a,i,gs)):Pl o gs:=by
 cases x with
 |p b c w=>
  simp only[TW.toP]at h;split at h
  .simp only[Q0,QQ]at h;obtain⟨_,_,_,rfl⟩:=h;exact Pl.nil
  .cases h
 |dJ=>
  simp only[TW.toP]at h;split at h
  .simp only[Q0,QQ]at h;obtain⟨_,_,_,rfl⟩:=h;exact Pl.nil
  .cases h
 |own g=>
  simp only[TW.toP]at h;split at h
  .rename_i hg;split at h
   .simp only[Q0,QQ]at h;obtain⟨_,_,_,rfl⟩:=h;exact OV hg
   .cases h
  .cases h
 |vw g lo d=>
  simp only[TW.toP]at h;split at h
  .rename_i hg;split at h
   .simp only[Q0,QQ]at h;obtain⟨_,_,_,rfl⟩:=h;exact OV hg
   .cases h
  .cases h
 |_=>simp[TW.toP]at h
theorem QU:∀{ts:List Ty} {xs:List TW} {b:List Wd} {a i:Bool} {gs:List Nat},tX o ts xs=zw (b,a,i,gs)->Pl o gs
 | [],[],b,a,i,gs,h=>by simp only[tX,Q0,QQ]at h;obtain⟨_,_,_,rfl⟩:=h;exact Pl.nil
 | [],x::xs,b,a,i,gs,h=>by simp[tX]at h
 |t::ts,[],b,a,i,gs,h=>by simp[tX]at h
 |t::ts,x::xs,b,a,i,gs,h=>by
  simp only[tX]at h;split at h
  .rename_i c d;simp only[Q0,QQ]at h;obtain⟨_,_,_,rfl⟩:=h;exact(XB c).append (QU d)
  .cases h
theorem Lh{g:Nat}(h :∃p,oN o g=zw p):Fw.bf (dh o) g=((mP o g).1,d_ (mP o g).2):=by obtain⟨⟨a,i,e,l⟩,b⟩:=h;simp only[Fw.bf,mP,b,(pR b).1];rfl
theorem qB{gs:List Nat}(h:Pl o gs):gs.map (Fw.bf (dh o))=je (gs.map (mP o)):=by simp only[je,UI];exact W8 λg hg=>Lh (h g hg)
theorem vO(x:TV):(kE x).words=x.words.map cZ:=by cases x<;>rfl
theorem vP(x:TV)(h:x.solid=zj):(kE x).solid=zj:=by
 cases x with
 |one x=>cases x<;>first|rfl|(simp[TV.solid,TW.solid]at h)
 |agg xs=>rfl
theorem mg(agg:Bool)(b:List TW):bI (TV.gB agg b)=V.gB agg (b.map cZ):=by
 cases agg with
 |true=>rfl
 |false=>
  match b with
  | []=>rfl
  | [x]=>rfl
  |x::y::b=>rfl
theorem qV{α β:Type}(f:α->β)(l:List α)(off:Nat)(new:List α):(aZ l off new).map f=aZ (l.map f) off (new.map f):=by simp[aZ,US,Vv]
theorem Ec{place:Nat->Option (Nat×Nat)}:∀{ps:List (Nat×TS)} {b r:List TW},D9 place b ps=zw r->ny place (b.map cZ) (ps.map λp=>(p.1,bI p.2))=zw (r.map cZ)
 | [],b,r,h=>by simp only[D9,Q0]at h;subst h;rfl
 |(n,.v x)::ps,b,r,h=>by
  simp only[D9]at h;split at h
  .rename_i off size g;cases c:(Nat.beq x.words.length size&&Nat.ble (off+size) b.length&&x.solid)with
   |false=>rw[c]at h;cases h
   |true=>rw[c,cond_true]at h;simp only[X1]at c;have j:=Q6 c.1.1;have m:=Wt c.1.2;have d:=Ec h;rw[qV]at d;simp only[Qf,bI,ny,g,vO,We];rw[QR ⟨j,m,vP x c.2⟩];exact d
  .cases h
 |(n,.jq xs)::ps,b,r,h=>by simp[D9]at h
 |(n,.no)::ps,b,r,h=>by simp[D9]at h
theorem ah8(sz:Nat)(l:List (List P)):(P.gQ sz l).WR sz:=by cases l<;>simp[P.gQ,P.WR]
theorem Lj(e:Ty)(l:List (Dt e)):(dH ⟨.sl e,l⟩).WR (size e):=ah8 _ _
theorem UO{e:Ty}{x:TW}{l:List (Dt e)}{a i:Bool}(h:x.rows o e=zw (l,a,i)):∃ask,(cZ x).rows (dh o) (size e)=zw (ask,aN e l,a,i)/\ask:=by
 cases x with
 |p d j w=>
  simp only[TW.rows]at h;split at h
  .rename_i y m;cases h;rw[iJ m];exact⟨(dH ⟨.sl e,l⟩).WR (size e),by simp only[cZ,W.rows,jO],Lj _ _⟩
  .cases h
 |dJ=>simp only[TW.rows,Q0,QQ]at h;obtain⟨rfl,rfl,rfl⟩:=h;exact⟨_,rfl,trivial⟩
 |own g=>
  simp only[TW.rows]at h;split at h
  .rename_i q d j B H hg;split at h
   .rename_i z b;cases h;obtain⟨c,b⟩:=pU b;cases c;subst b;exact⟨True,by simp only[cZ,W.rows,iM hg,if_true],trivial⟩
   .cases h
  .cases h
 |vw g lo J=>
  simp only[TW.rows]at h;split at h
  .rename_i q d j B H hg;split at h
   .rename_i z b;cases h;obtain⟨c,b⟩:=pU b;cases c;subst b;exact⟨True,by simp only[cZ,W.rows,iM hg,if_true,tY],trivial⟩
   .cases h
  .cases h
 |_=>simp[TW.rows]at h
theorem XC(sz:Nat)(l:List (List P)):(P.gQ sz l).isSlice:=by cases l<;>simp[P.gQ,P.isSlice]
theorem amx(sz:Nat)(l:List (List P)):(P.gQ sz l).len=.int .i64 l.length:=by cases l<;>rfl
theorem ah9(e:Ty)(l:List (Dt e)):(dH ⟨.sl e,l⟩).len=.int .i64 l.length:=by rw[Jk,amx,fE]
theorem Y8{x:TW}{n:Int}(h:UN o x=zw n):∃ask,lenOf (dh o) (cZ x)=zw (ask,.int .i64 n)/\ask:=by
 cases x with
 |p a i w=>
  obtain⟨t,x⟩:=w;cases t<;>simp only[UN]at h<;>try (cases h;done)
  rename_i e;cases h;refine⟨(dH ⟨.sl e,x⟩).isSlice,?_,XC _ _⟩;have b:(dH ⟨.sl e,x⟩).len=.int .i64 (List.length (α:=Dt e) x):=ah9 e x;simp only[cZ,lenOf];rw[b]
 |dJ=>simp only[UN,Q0]at h;subst h;exact⟨_,rfl,trivial⟩
 |own g=>
  simp only[UN]at h;split at h
  .rename_i hg;cases h;exact⟨True,by simp only[cZ,lenOf,qA hg],trivial⟩
  .cases h
 |vw g lo c=>
  simp only[UN]at h;split at h
  .rename_i hg;cases h;rename_i x;obtain⟨e,n⟩:=x;exact⟨True,by simp only[cZ,lenOf,qA hg,P.nat,P.num],trivial⟩
  .cases h
 |_=>simp[UN]at h
theorem Ll{x:TW}(h:x.live o=zj):(cZ x).live (dh o)=zj:=by
 cases x with
 |box g off=>
  simp only[TW.live]at h;split at h
  .rename_i hg;simp only[cZ,W.live,pO hg]
  .cases h
 |ep g n off=>
  simp only[TW.live]at h;split at h
  .rename_i x hg;obtain⟨e,n⟩:=x;simp only[cZ,W.live,qA hg];rfl
  .cases h
 |sp=>rfl
 |_=>simp[TW.live]at h
theorem OW(n:Nat)(x:TW):cZ (x.shift n)=(cZ x).shift n:=by cases x<;>simp[TW.shift,cZ,W.shift]
theorem aeu(v:Value):cZ (cvT v)=cv v:=by
 unfold cvT;split
 .rfl
 .rfl
 .rfl
 .rfl
 .rename_i x b c d g;show W.p zv zv (P.opq v)=cv v;unfold cv;split
  .exact (b _ _ rfl).elim
  .exact (c _ rfl).elim
  .exact (d _ rfl).elim
  .exact (g rfl).elim
  .rfl
theorem xH(l:List Value):(l.map cvT).map cZ=l.map cv:=by rw[UI];exact W8 λv _=>aeu v
theorem ab1(v:Value):bI (Xy v)=wO v:=by
 unfold Xy;split
 .rename_i b;unfold wO;have e:(b.toList.map cvT).map cZ=b.toList.map cv:=xH _;cases h:b.toList.all Value.oneCell'
  .simp only[h,cond_false,Wb,if_false];rfl
  .simp only[h,cond_true,if_true,bI,kE,e]
 .rfl
 .simp only[bI,kE,cZ,oM];rfl
 .rename_i x c d g;have e:wO v=if v.oneCell'=zj then .v (.one (cv v))else .no:=by
   unfold wO;split
   .exact (c _ rfl).elim
   .exact (d _ rfl).elim
   .exact (g _ rfl).elim
   .rfl
  rw[e];cases h:v.oneCell'
  .simp only[cond_false,Wb,if_false];rfl
  .simp only[cond_true,if_true,bI,kE,aeu]
theorem mD(st:jI)(x:Operand):(bg st).dG x=bI (st.dG x):=by
 cases x with
 |tmp t=>rfl
 |const v=>exact(ab1 v).symm
 |func f=>simp[St.dG,jI.dG,bI,kE,cZ,oM]
 |global g=>simp only[Fw.St.dG,jI.dG,akN];cases RE.G g<;>rfl
end
end Go.Fg

namespace Go.Fg
open Go.Fw
section
variable [RE] {o:Nat->TO} {tt:TT} {ety:TypeId->Option Ty} {d:Nat} {f:Operand->TS} {ty:TypeId}
structure gJ(r:uO)(r':EZ):Prop where
 pre:r.pre=zj->r'.pre
 dst:r'.dst r'.val=bI (r.dst r.val)
 aK:r'.aK r'.val=je (r.aK r.val)
 new:r'.new=r.new
def iW(tt:TT)(ety:TypeId->Option Ty)(d:Nat)(o:Nat->TO)(f:Operand->TS)(op:Op)(ty:TypeId):Prop:=∀r,eF tt ety d o f op ty=zw r->∃b,kernel tt d (dh o) (λx=>bI (f x)) op ty=zw b/\gJ r b
def apu(r:uO)(r':EZ):Prop:=(r.pre=zj->gJ r r')/\r'.new=r.new
theorem gJ.toC{r:uO}{b:EZ}(h:gJ r b):apu r b:=⟨λ_=>h,h.new⟩
def aev(tt:TT)(ety:TypeId->Option Ty)(d:Nat)(o:Nat->TO)(f:Operand->TS)(op:Op)(ty:TypeId):Prop:=∀r,eF tt ety d o f op ty=zw r->∃b,kernel tt d (dh o) (λx=>bI (f x)) op ty=zw b/\apu r b
theorem iW.toC{tt:TT}{ety:TypeId->Option Ty}{d:Nat}{o:Nat->TO}{f:Operand->TS}{op:Op}{ty:TypeId}(h:iW tt ety d o f op ty):aev tt ety d o f op ty:=λr b=>
 let ⟨c,g,j⟩:=h r b
 ⟨c,g,j.toC⟩
theorem gJ.pure(x:TS):gJ (.pure x) (.pure (bI x)):=⟨λ_=>trivial,rfl,rfl,rfl⟩
theorem QV{x:TS}(h:bI x=.no):x=.no:=by cases x<;>first|rfl|cases h
theorem ah_(x:Operand):iW tt ety d o f (.move x) ty:=by
 intro r h;simp only[eF]at h;split at h
 .cases h
 .rename_i s b;cases h;refine⟨.pure (bI (f x)),?_,gJ.pure _⟩;simp only[kernel];split
  .rename_i e;exact(b (QV e)).elim
  .rfl
theorem ab2(x:Operand):iW tt ety d o f (.assign x) ty:=by
 intro r h;simp only[eF]at h;split at h
 .cases h
 .rename_i s b;cases h;refine⟨.pure (bI (f x)),?_,gJ.pure _⟩;simp only[kernel];split
  .rename_i e;exact(b (QV e)).elim
  .rfl
theorem aew{x:TS}{a i:Bool}{y:P}(h:bI x=.v (.one (.p a i y))):∃w,x=.v (.one (.p a i w))/\dH w=y:=by
 cases x with
 |v x=>cases x with
  |one x=>cases x<;>simp[bI,kE,cZ]at h<;>exact⟨_,by rw[h.1,h.2.1],h.2.2⟩
  |agg xs=>cases h
 |_=>cases h
theorem aia(c x y:Operand):iW tt ety d o f (.pick c x y) ty:=by
 intro r h;simp only[eF]at h;split at h
 .rename_i a0 i0 b B;change Bool at b;have g:bI (f c)=.v (.one (.p a0 i0 (.bool b))):=by rw[B];rfl
  split at h
  .rename_i a i w H J K L M;split at h
   .rename_i z N;cases h;have j:bI (f x)=.v (.one (.p a i (dH w))):=by rw[L];rfl
    have m:bI (f y)=.v (.one (.p H J (dH K))):=by rw[M];rfl
    simp only[kernel,g,j,m];refine⟨_,rfl,⟨λ_=>trivial,?_,rfl,rfl⟩⟩;have e:=iJ N;rw[e];cases b<;>rfl
   .cases h
  .rename_i q;have T:(bif b then bI (f x)else bI (f y))=bI (bif b then f x else f y):=by cases b<;>rfl
   split at h
   .cases h
   .rename_i s U;cases h;refine⟨.pure (bI (bif b then f x else f y)),?_,gJ.pure _⟩;simp only[kernel,g];split
    .rename_i a1 i1 x1 a2 i2 y1 X Y;obtain⟨w1,Z,_⟩:=aew X;obtain⟨w2,e2,_⟩:=aew Y;exact(q _ _ _ _ _ _ Z e2).elim
    .rw [T];split
     .rename_i e;exact(U (QV e)).elim
     .rfl
 .cases h
theorem bZ{α:Type}{b:Bool}{x:Option α}{y:α}(h:(bif b then x else zz)=zw y):b=zj/\x=zw y:=by
 cases b
 .cases h
 .exact ⟨rfl,h⟩
theorem aex(t:TypeId):iW tt ety d o f (.alloc t) ty:=by
 intro r h;simp only[eF]at h;split at h
 .rename_i i b;cases h;simp only[kernel,b];refine⟨_,rfl,⟨λ_=>trivial,rfl,?_,rfl⟩⟩;simp only[je,Qf,V2,d_,xH]
 .cases h
theorem amy(t:TypeId)(x:Operand):iW tt ety d o f (.box t x) ty:=by
 intro r h;simp only[eF]at h;split at h
 .rename_i i j c g;obtain⟨b,h⟩:=bZ h;cases h;simp only[X1]at b;simp only[kernel,c,g,bI,vO,We];rw[QR ⟨Q6 b.1,vP _ b.2⟩];exact⟨_,rfl,⟨λ_=>trivial,rfl,rfl,rfl⟩⟩
 .cases h
theorem FT(ps:List (Nat×Operand)):(ps.map λp=>(p.1,bI (f p.2)))=(ps.map λp=>(p.1,f p.2)).map λp=>(p.1,bI p.2):=by rw[UI];rfl
theorem aey(t:TypeId)(ps:Array (Nat×Operand)):iW tt ety d o f (.build t ps) ty:=by
 intro r h;simp only[eF]at h;split at h
 .rename_i i b;obtain⟨c,h⟩:=bZ h;split at h
  .rename_i j g;cases h;have:=Ec g;rw[xH]at this;simp only[kernel,b,c,if_true,FT,this];exact⟨_,rfl,gJ.pure _⟩
  .cases h
 .cases h
theorem Lm{α β:Type}(g:α->β)(l:List α):∀n,(Ld l n).map g=iF (l.map g) n
 |0=>rfl
 |n+1=>by simp[Ld,iF,Lm g l n]
theorem BZ(e:Ty):∀(n:Nat) (b:List Wd),b.map (·.t)=Ld (jR e) n->aN e (Ea e n b)=chunks (size e) n (b.map dH)
 |0,b,h=>rfl
 |n+1,b,h=>by
  have c:(b.take (size e)).map (·.t)=jR e:=by rw[US,h,Ld,<-kT,Km]
  have g:(b.drop (size e)).map (·.t)=Ld (jR e) n:=by rw[Vv,h,Ld,<-kT,Jx]
  simp only[Ea,aN,Qf,chunks];rw[xG c,US];congr 1;rw[<-Vv];exact BZ e n _ g
theorem mF(a b:List (Nat×TO)):je (a++b)=je a++je b:=by simp[je]
theorem N9(t:TypeId)(n:Nat)(ps:Array (Nat×Operand)):iW tt ety d o f (.buildSlice t n ps) ty:=by
 intro r h;simp only[eF]at h;split at h
 .rename_i e i1 i2 i3 j;split at h
  .rename_i J m q w;split at h
   .rename_i K y;split at h
    .rename_i z a i gs g;obtain⟨b,h⟩:=bZ h;cases h;simp only[X1]at b;have c:=Q6 b.2;have:=Ec y;rw[Lm,xH]at this;obtain⟨B,H⟩:=Eb g;simp only[kernel,j,q,FT,this,B];rw[QR (Wt b.1)];refine⟨_,rfl,⟨λ_=>trivial,rfl,?_,rfl⟩⟩;simp only[mF,<-qB (QU g)];congr 1;simp only[P.list,je,Qf,V2,d_,BZ m n z H,c]
    .cases h
   .cases h
  .cases h
 .cases h
end
end Go.Fg

namespace Go.Fg
open Go.Fw
section
variable [RE] {o:Nat->TO} {tt:TT} {ety:TypeId->Option Ty} {d:Nat} {f:Operand->TS} {ty:TypeId}
theorem jg{a b:Bool}(h:(a&&b)=zj):a=zj/\b=zj:=by simpa using h
theorem aib(a i:Bool)(b:List Wd):(tpw a i b).map cZ=b.map λw=>W.p a i (dH w):=by simp only[tpw,UI];rfl
theorem zl(e:Ty)(x:Dt e)(a i:Bool)(off n:Nat)(h:off+n<=size e)(g:Nat->P):
  ((List.range n).map λj=>W.p a i ((lY e x).getD (off+j) (g j)))=(tpw a i (((gU e x).drop off).take n)).map cZ:=by
 rw[aib,iL];apply qn;intro j;simp only[Z2,W0,Wo];by_cases b:j<n
 .have c:off+j<(gU e x).length:=by rw[rD];omega
  rw[qS b,QR b];simp[Q2,Q1 c]
 .rw [Vn (by simp;omega),QP b];rfl
theorem N_{n:Nat}(h:Nat.blt 0 n=zj):0<n:=Wt h
theorem aez{w:Wd}{v:Value}(h:aer w v=zj):dH w=Tt [v] 0:=by
 unfold aer at h;split at h
 .rename_i k n j B;change Int at n;simp only[X1,eqI,Wa]at h;obtain⟨c,g⟩:=h;cases m:aeo k j with
  |none=>rw[m]at c;cases c
  |some p=>have e:=p.down;subst e;subst g;rfl
 .rename_i b q;change Bool at b;have h:b=q:=LawfulBEq.eq_of_beq h;subst h;rfl
 .rename_i s y;change List UInt8 at s;simp only[X1,List.isEmpty_iff]at h;obtain⟨c,g⟩:=h;subst c;obtain⟨⟨l⟩⟩:=y;simp only at g;subst g;rfl
 .rename_i e l;change List (Dt e)at l;have z:l=[]:=by simpa using h
  subst z;rfl
 .cases h
theorem FU:∀{b:List Wd} {vs:List Value},uP b vs=zj->∀j,(b.map dH)[j]?=if j<vs.length then zw (Tt vs j)else zz
 | [],[],h,j=>by simp
 |w::b,[],h,j=>by simp[uP]at h
 | [],v::vs,h,j=>by simp[uP]at h
 |w::b,v::vs,h,j=>by
  obtain⟨c,g⟩:=jg h;cases j with
  |zero=>simp only[Qf,K3,Wm,Nat.zero_lt_succ,if_true,aez c];rfl
  |succ j=>have:=FU g j;simp only[Qf,UX,Wm,this,Nat.succ_lt_succ_iff];rfl
theorem QW(e:Ty)(l:List (Dt e))(n off b:Nat)(z:List Value)(h:off+b<=size e)(q:uP (((gU e (dflt e)).drop off).take b) z=zj)(a i:Bool):
  ((List.range b).map λj=>W.p a i (((aN e l).getD n []).getD (off+j) (Tt z j)))=(tpw a i (((gU e (l.getD n (dflt e))).drop off).take b)).map cZ:=by
 by_cases hn:n<l.length
 .have c:(aN e l).getD n []=lY e (l.getD n (dflt e)):=by simp[aN,Q2,hn]
  rw[c];exact zl e _ a i off b h _
 .have c:(aN e l).getD n []=[]:=by simp[aN,Q2,Vn (vj hn)]
  have w:l.getD n (dflt e)=dflt e:=by simp[Q2,Vn (vj hn)]
  rw[c,w,<-zl e _ a i off b h (Tt z)];refine W8 λj g=>?_;have g:j<b:=Up.1 g;have:=FU q j;rw[US,Vv,W0,QR g,Wo,<-iL]at this;have m:off+j<(lY e (dflt e)).length:=by rw[UL];omega
  rw[Q2,Q2,this];split
  .rfl
  .rfl
theorem aic(t:TypeId)(x:Operand):iW tt ety d o f (.load t x) ty:=by
 intro r h;simp only[eF]at h;split at h
 .rename_i i g off q w;have b:bI (f x)=.v (.one (.box g off)):=by rw[w];rfl
  split at h
  .rename_i B hg;obtain⟨m,h⟩:=bZ h;cases h;obtain⟨c,j⟩:=jg m;simp only[kernel,q,b,pO hg,We];rw[QR ⟨Wt c,N_ j⟩];refine⟨_,rfl,?_⟩;have:=gJ.pure (TV.gB i.agg ((B.drop off).take i.size));rw[mg,US,Vv]at this;exact this
  .cases h
 .rename_i i g n off q w;have b:bI (f x)=.v (.one (.ep g (.int .i64 n) off)):=by rw[w];rfl
  split at h
  .rename_i K a y e l hg;obtain⟨m,h⟩:=bZ h;cases h;obtain⟨m,H⟩:=jg m;obtain⟨c,j⟩:=jg m;have c:=Wt c;simp only[kernel,q,b,iM hg];rw[QR ⟨c,N_ j⟩];refine⟨_,rfl,⟨λ_=>trivial,?_,rfl,rfl⟩⟩;simp only[EZ.pure,mg];congr 1;have J:(P.int .i64 n).nat=n.toNat:=rfl;rw[J];exact QW e l n.toNat off i.size i.zero c H a y
  .cases h
 .rename_i i a y e z off q w;have b:bI (f x)=.v (.one (.sp a y (lY e z) off)):=by rw[w];rfl
  obtain⟨m,h⟩:=bZ h;cases h;obtain⟨c,j⟩:=jg m;have j:=Wt j;simp only[kernel,q,b];rw[QR (N_ c)];refine⟨_,rfl,⟨λ_=>by rw[UL];exact j,?_,rfl,rfl⟩⟩;simp only[uO.pure,mg];congr 1;exact zl e z a y off i.size j λ_=>default
 .cases h
theorem bU(g:Nat):∀(l:List Nat),gy g l=l.contains g
 | []=>rfl
 |x::xs=>by simp only[gy,List.contains_cons,bU g xs];congr 1;rw[Bool.eq_iff_iff];simp
theorem aie(e:Ty)(l:List (Dt e))(n:Nat)(x:Dt e):aN e (l.set n x)=(aN e l).set n (lY e x):=by simp[aN,List.map_set]
theorem aeA(t:TypeId)(x y:Operand):iW tt ety d o f (.store t x y) ty:=by
 intro r h;simp only[eF]at h;split at h
 .rename_i i g off J K L M;have j:bI (f x)=.v (.one (.box g off)):=by rw[L];rfl
  have m:bI (f y)=.v (kE J):=by rw[M];rfl
  split at h
  .rename_i ws hg;obtain⟨b,h⟩:=bZ h;cases h;obtain⟨b,N⟩:=jg b;obtain⟨w,B⟩:=jg b;simp only[kernel,K,j,m,pO hg,We,vO];rw[QR ⟨Wt w,Q6 B,vP _ N⟩];refine⟨_,rfl,⟨λ_=>trivial,rfl,?_,rfl⟩⟩;simp only[je,Qf,V2,d_,qV]
  .cases h
 .rename_i i g n off J K L M;have j:bI (f x)=.v (.one (.ep g (.int .i64 n) off)):=by rw[L];rfl
  have m:bI (f y)=.v (kE J):=by rw[M];rfl
  split at h
  .rename_i a i' e l hg;split at h
   .rename_i c a' i'' gs T;obtain⟨b,h⟩:=bZ h;cases h;obtain⟨b,h4⟩:=jg b;obtain⟨b,N⟩:=jg b;obtain⟨w,B⟩:=jg b;have w:=Wt w;have B:=Q6 B;obtain⟨k1,U⟩:=Eb T;have X:c.length=i.size:=by have:=W3 List.length U;simp[kT]at this;omega
    simp only[kernel,K,j,m,iM hg,vO,k1,We];rw[QR ⟨w,X,B,vP _ N,by simpa[bU]using h4⟩];refine⟨_,rfl,⟨λ_=>trivial,rfl,?_,rfl⟩⟩;simp only[mF,<-qB (QU T)];congr 1;simp only[P.list,je,Qf,V2,d_,aie];have en:(P.int .i64 n).nat=n.toNat:=rfl;rw[en];by_cases hn:n.toNat<l.length
    .have H:(aN e l).getD n.toNat []=lY e (l.getD n.toNat (dflt e)):=by simp[aN,Q2,hn]
     have q:(aZ (gU e (l.getD n.toNat (dflt e))) off c).map (·.t)=jR e:=by
      have e0:jR e=(jR e).take off++(((jR e).drop off).take i.size++(jR e).drop (off+i.size)):=by rw[<-List.drop_drop,K2,K2]
      simp only[aZ,Ys,US,Vv,vJ,U,X,W4];exact e0.symm
     have key:lY e (N7 e (Nat.beq i.size (size e)) (l.getD n.toNat (dflt e)) off c)=aZ ((aN e l).getD n.toNat []) off (c.map dH):=by
      rw[H];unfold N7;cases Y:Nat.beq i.size (size e)with
      |true=>
       have Y:=Q6 Y;have h0:off=0:=by omega
       subst h0;have Z:aZ (gU e (l.getD n.toNat (dflt e))) 0 c=c:=by simp only[aZ,List.take_zero,qf,Vi];rw[List.drop_of_length_le (by rw[rD];omega),K6]
       have e3:aZ (lY e (l.getD n.toNat (dflt e))) 0 (c.map dH)=c.map dH:=by rw[iL,<-qV,Z]
       rw[Z]at q;rw[e3];exact xG q
      |false=>simp only;rw[xG q,qV,<-iL]
     rw[key]
    .have H :∀z,(aN e l).set n.toNat z=aN e l:=λz=>List.set_eq_of_length_le (by rw[fE];omega);rw[H,H]
   .cases h
  .cases h
 .cases h
theorem UQ(x:Operand):iW tt ety d o f (.nilCheck x) ty:=by
 intro r h;simp only[eF]at h;split at h
 .rename_i c g;obtain⟨j,h⟩:=bZ h;cases h;have b:bI (f x)=.v (.one (cZ c)):=by rw[g];rfl
  simp only[kernel,b];rw[QR (Ll j)];exact⟨_,rfl,gJ.pure _⟩
 .cases h
theorem XD{op:BinOp}{k g:IntKind}{a b:Int}{c:Bool×Wd}(h:Xz op k g a b=zw c):(c.1=zj->P.Tq op (.int k a) (.int g b))/\P.bin op (.int k a) (.int g b)=dH c.2:=by
 unfold Xz at h;cases op<;>simp only at h
 case shl=>cases h;exact⟨λh=>(by simpa using h:0<=b),rfl⟩
 case shr=>cases h;exact⟨λh=>(by simpa using h:0<=b),rfl⟩
 all_goals
  split at h
  .cases h
  .rename_i p m;obtain⟨e⟩:=p;subst e;simp only[Q0]at h
   first
    |(cases h;done)
    |(
      
      subst h;refine⟨λh=>?_,?_⟩
      .first
       |exact rfl
       |(simp at h;exact⟨rfl,h⟩)
      .first
       |rfl
       |(simp only[P.bin,jC,j];congr 1))
theorem ab3(a b:List UInt8):(⟨a.toArray⟩++⟨b.toArray⟩:ByteArray)=⟨(a++b).toArray⟩:=by apply ByteArray.ext;simp[ByteArray.data_append]
theorem FV(a:List UInt8):(⟨a.toArray⟩:ByteArray).toList=a:=by rw[ByteArray.toList_eq]
theorem XE{op:BinOp}{a b:List UInt8}{c:Bool×Wd}(h:XA op a b=zw c):(c.1=zj->P.Tq op (.str ⟨a.toArray⟩) (.str ⟨b.toArray⟩))/\P.bin op (.str ⟨a.toArray⟩) (.str ⟨b.toArray⟩)=dH c.2:=by
 unfold XA at h;cases op<;>simp only[Q0]at h<;>try (cases h;done)
 all_goals subst h
 case add=>
  refine⟨λh=>?_,?_⟩
  .simp only[pJ]at h;show a.toArray.size+b.toArray.size<=_;simp only[qq];omega
  .simp only[P.bin,ab3];rfl
 all_goals exact⟨λ_=>trivial,by simp only[P.bin,FV];rfl⟩
theorem UR{op:BinOp}{a b:Bool}{c:Bool×Wd}(h:QN op a b=zw c):(c.1=zj->P.Qd op (.bool a) (.bool b))/\P.bin op (.bool a) (.bool b)=dH c.2:=by
 unfold QN at h;cases op<;>simp only[Q0]at h<;>try (cases h;done)
 all_goals subst h
 .exact ⟨λ_=>.inl rfl,rfl⟩
 .exact ⟨λ_=>.inr rfl,rfl⟩
theorem gJ.pK{c:Bool×Wd}{pre:Prop}{x:P}(h:c.1=zj->pre)(b:x=dH c.2):gJ (.pK c) (.calc pre x):=by subst b;obtain⟨g,t,y⟩:=c;exact⟨h,rfl,rfl,rfl⟩
theorem aif(a b:List UInt8):P.eqB (.str ⟨a.toArray⟩) (.str ⟨b.toArray⟩)=(a==b):=by show ((⟨a.toArray⟩:ByteArray)==⟨b.toArray⟩)=_;rw[beq_toListBytes,FV,FV]
theorem aeB{k:TK}{x y:Wd}{b:Bool}(h:amw k x y=zw b):YM k (dH x) (dH y)/\P.eqB (dH x) (dH y)=b:=by
 unfold amw at h;split at h
 .unfold akP at h;split at h
  .rename_i p g;obtain⟨e⟩:=p;subst e;cases h;exact⟨rfl,rfl⟩
  .cases h
 .rename_i a c;simp only[eqStr,Q0]at h;subst h;exact⟨trivial,aif a c⟩
 .simp only[apt,Q0]at h;subst h;exact⟨trivial,rfl⟩
 .cases h
theorem UU{tt:TT}:∀(fs:List (Nat×TypeId)) (n:Nat) (xs m:List TW) (b:Bool),I9 tt n fs xs m=zw b->∃c,oG tt n fs (xs.map cZ) (m.map cZ)=zw c/\c.1/\c.2=b
 | [],n,[],[],b,h=>by simp only[I9,Q0]at h;subst h;exact⟨(True,zj),rfl,trivial,rfl⟩
 |(off,t)::fs,n,x::xs,y::m,b,h=>by
  cases x with
  |p L i1 x=>cases y with
   |p a2 i2 y=>
    simp only[I9]at h;split at h
    .rename_i i q;cases g:(Nat.beq off n&&i.k.flat&&Nat.beq i.size 1)with
     |false=>rw[g]at h;cases h
     |true=>
      rw[g]at h;simp only[cond_true]at h;split at h
      .rename_i M w z B;cases h;obtain⟨c,H,J,K⟩:=UU fs (n+1) xs m w B;obtain⟨q1,q2⟩:=aeB z;simp only[X1]at g;have j:off=n/\i.k.flat=zj/\i.size=1:=⟨Q6 g.1.1,g.1.2,Q6 g.2⟩;refine⟨(YM i.k (dH x) (dH y)/\c.1,P.eqB (dH x) (dH y)&&c.2),?_,⟨q1,J⟩,by rw[q2,K]⟩;simp only[Qf,cZ,oG,q];rw[QR j,H]
      .cases h
    .cases h
   |_=>simp[I9]at h
  |_=>simp[I9]at h
 | [],n,_::_,_,b,h=>by simp[I9]at h
 | [],n,[],_::_,b,h=>by simp[I9]at h
 |_::_,n,[],_,b,h=>by simp[I9]at h
 |_::_,n,x::xs,[],b,h=>by cases x<;>simp[I9]at h
theorem aeC(op:BinOp)(t:TypeId)(x y:Operand)(u:TypeId):iW tt ety d o f (.binOp op t x y u) ty:=by
 intro r h;simp only[eF]at h;split at h
 .rename_i U i1 X a2 i2 Y L M;have g:bI (f x)=.v (.one (.p U i1 (dH X))):=by rw[L];rfl
  have j:bI (f y)=.v (.one (.p a2 i2 (dH Y))):=by rw[M];rfl
  split at h
  .rename_i i z;split at h
   .rename_i c w;cases h;obtain⟨ik,Z,ib,iz⟩:=i;simp only at w;unfold aps at w;split at w
    .obtain ⟨B,H⟩:=XD w;simp only[kernel,g,j,z];exact⟨_,rfl,gJ.pK B H⟩
    .obtain ⟨B,H⟩:=XE w;simp only[kernel,g,j,z];exact⟨_,rfl,gJ.pK B H⟩
    .obtain ⟨B,H⟩:=UR w;simp only[kernel,g,j,z];exact⟨_,rfl,gJ.pK B H⟩
    .cases w
   .cases h
  .cases h
 .rename_i xs N L M;have g:bI (f x)=.v (.agg (xs.map cZ)):=by rw[L];rfl
  have j:bI (f y)=.v (.agg (N.map cZ)):=by rw[M];rfl
  split at h
  .rename_i i z;have key :∀{b q:Bool} {v:Bool},I9 tt 0 i.k.parts xs N=zw b->ahQ op=zw q->i.eq=zj->v=(b==q)->∃T,kernel tt d (dh o) (λa=>bI (f a)) (.binOp op t x y u) ty=zw T/\gJ (.pK (zj,jC v)) T:=by intro b q v J K m h4;obtain⟨c,e1,e2,e3⟩:=UU _ _ _ _ _ J;simp only[kernel,g,j,z,e1,K];rw[QR m];exact⟨_,rfl,gJ.pK (λ_=>e2) (by rw[e3,h4];rfl)⟩
   split at h
   .rename_i b J K;cases m:i.eq with
    |false=>rw[m]at h;cases h
    |true=>rw[m]at h;simp only[cond_true,Q0]at h;subst h;exact key (v:=b) J K m (by cases b<;>rfl)
   .rename_i b J K;cases m:i.eq with
    |false=>rw[m]at h;cases h
    |true=>rw[m]at h;simp only[cond_true,Q0]at h;subst h;exact key (v:=!b) J K m (by cases b<;>rfl)
   .cases h
  .cases h
 .cases h
theorem aii(op:UnOp)(t:TypeId)(x:Operand):iW tt ety d o f (.unOp op t x) ty:=by
 intro r h;simp only[eF]at h;split at h
 .rename_i j i1 m q;have g:bI (f x)=.v (.one (.p j i1 (dH m))):=by rw[q];rfl
  split at h
  .rename_i c b;cases h;simp only[kernel,g];unfold unT at b;split at b
   .cases b;exact⟨_,rfl,gJ.pK (λ_=>trivial) rfl⟩
   .cases b;exact⟨_,rfl,gJ.pK (λ_=>trivial) rfl⟩
   .cases b
  .cases h
 .cases h
theorem XF(s t:TypeId)(x:Operand):iW tt ety d o f (.convert s t x) ty:=by
 intro r h;simp only[eF]at h;split at h
 .rename_i Z J K z0 k L M N m i1 T c q w y;have g:bI (f x)=.v (.one (.p m i1 (.int T c))):=by rw[y];rfl
  cases h;simp only[kernel,q,w,g];exact⟨_,rfl,⟨λ_=>trivial,rfl,rfl,rfl⟩⟩
 .rename_i e J K z0 L M N c q w y;have g:bI (f x)=.v (.one (cZ c)):=by rw[y];rfl
  split at h
  .rename_i U X z2 H;split at h
   .rename_i l m i1 B;cases h;obtain⟨ask,j,z⟩:=UO B;have j:(cZ c).rows (dh o) 1=zw (ask,aN (.int .u8) l,m,i1):=j;simp only[kernel,q,w,g,H,j];refine⟨_,rfl,⟨λ_=>⟨z,λr B=>?_⟩,?_,rfl,rfl⟩⟩
    .simp only[aN,XS]at B;obtain⟨n,_,rfl⟩:=B;exact⟨n,rfl⟩
    .have e:JV (aN (.int .u8) l)=dH ⟨.str,strOf l⟩:=by show P.str _=P.str _;congr 2;simp only[aN,UI,strOf];congr 1
     show S.v (V.one (W.p zv zv (JV (aN (.int .u8) l))))=_;rw[e];rfl
   .cases h
  .cases h
 .rename_i J K z0 e L M N m i1 c q w y;change List UInt8 at c;have g:bI (f x)=.v (.one (.p m i1 (.str ⟨c.toArray⟩))):=by rw[y];rfl
  split at h
  .rename_i U X z2 H;cases h;simp only[kernel,q,w,g,H];refine⟨_,rfl,⟨λ_=>trivial,?_,rfl,rfl⟩⟩;have e:Qe (.str ⟨c.toArray⟩)=dH ⟨.sl (.int .u8),amv c⟩:=by
    show P.gQ 1 _=P.gQ 1 _;have key :∀l:List UInt8,(l.map λb=>[P.int .u8 (b.toNat:Int)])=aN (.int .u8) (amv l):=by
     intro l
     induction l with
     |nil=>rfl
     |cons a l Y=>exact W3 (List.cons _) Y
    exact W3 (P.gQ 1) (key c)
   show S.v (V.one (W.p zv zv (Qe (.str ⟨c.toArray⟩))))=_;rw[e];rfl
  .cases h
 .cases h
end
end Go.Fg

namespace Go.Fg
open Go.Fw
section
variable [RE] {o:Nat->TO} {tt:TT} {ety:TypeId->Option Ty} {d:Nat} {f:Operand->TS} {ty:TypeId}
theorem zn{k:IntKind}{n:Int}{m:Nat}(h:inB n m=zj):inRange (.int k n) m:=by simp only[inB,X1,Wa]at h;exact h
theorem QY(t:TypeId)(n c:Operand):iW tt ety d o f (.makeSlice t n c) ty:=by
 intro r h;simp only[eF]at h;split at h
 .rename_i e i1 i2 i3 B j1 b a2 j2 g H hn J;change Int at b;change Int at g;have m:bI (f n)=.v (.one (.p B j1 (.int .i64 b))):=by rw[hn];rfl
  have q:bI (f c)=.v (.one (.p a2 j2 (.int .i64 g))):=by rw[J];rfl
  split at h
  .rename_i y Z K L;split at h
   .rename_i ps j;obtain⟨M,h⟩:=bZ h;cases h;obtain⟨N,T⟩:=jg M;obtain⟨z,U⟩:=Eb j;have w:=Q6 T;rw[xH]at z;simp only[kernel,H,m,q,K,z];rw[QR (N_ N)];refine⟨_,rfl,⟨λj=>?_,rfl,?_,rfl⟩⟩
    .simp only[BR,X1,Wa]at j;obtain⟨⟨⟨X,p2⟩,p3⟩,p4⟩:=j;refine⟨b.toNat,g.toNat,by rw[JP X],by rw[JP (by omega)],by omega,?_,by omega⟩;have e:((y.bytes*g.toNat:Nat):Int)=y.bytes*g:=by rw[Int.natCast_mul,JP (by omega)]
     omega
    .simp only[P.list,je,Qf,V2,d_,w];have Y:(P.int .i64 b).nat=b.toNat:=rfl;rw[Y];simp only[aN,List.map_replicate];rw[xG U]
   .cases h
  .cases h
 .cases h
theorem mV{c:Int}{lo:Option Operand}{m:Int}(h:mQ c (lo.map f)=zw m):nC (.int .i64 c) (lo.map λx=>bI (f x))=zw (.int .i64 m):=by
 cases lo with
 |none=>simp only[KB,mQ,Q0]at h;subst h;rfl
 |some x=>
  simp only[W7]at h ⊢;unfold mQ at h;split at h
  .rename_i b;cases b
  .rename_i b;simp only[Q0]at b;cases h;rw[b];rfl
  .cases h
theorem vS{lo hi:Int}{len:Nat}(h:I8 lo hi len=zj):∃m k:Nat,P.int .i64 lo=.int .i64 m/\P.int .i64 hi=.int .i64 k/\m<=k/\k<=len:=by simp only[I8,X1,Wa]at h;exact⟨lo.toNat,hi.toNat,by rw[JP (by omega)],by rw[JP (by omega)],by omega,by omega⟩
theorem XG(y:List UInt8)(a b:Nat):(⟨y.toArray⟩:ByteArray).extract a b=⟨((y.take b).drop a).toArray⟩:=by apply ByteArray.ext;simp[ByteArray.data_extract,List.drop_take]
theorem ab4(t:TypeId)(x hi y:Operand):iW tt ety d o f (.slice t x zz (zw hi) (zw y)) ty:=by
 intro r h;simp only[eF]at h;unfold Y7 at h;split at h
 .rename_i e i1 i2 i3 g z j1 q a2 j2 w B H J K;change Int at q;change Int at w;have b:bI (f x)=.v (.one (.own g)):=by rw[H];rfl
  have c:bI (f hi)=.v (.one (.p z j1 (.int .i64 q))):=by rw[J];rfl
  have m:bI (f y)=.v (.one (.p a2 j2 (.int .i64 w))):=by rw[K];rfl
  split at h
  .rename_i U a i T l L hg;obtain⟨X,h⟩:=bZ h;cases h;have M:dh o g=.arr zv a i (size T) (aN T l):=by unfold dh;rw[hg];rfl
   simp only[kernel,Dn,B,b,c,m,L,M];rw[QR (Q6 X)];refine⟨_,rfl,⟨λN=>?_,rfl,rfl,rfl⟩⟩;obtain⟨k,j,q1,q2,q3,q4⟩:=vS N;exact⟨k,j,q1,q2,q3,by rw[fE];exact q4⟩
  .cases h
 .rename_i e i1 i2 i3 z j1 q a2 j2 w B H J K;change Int at q;change Int at w;have b:bI (f x)=.v (.one .dJ):=by rw[H];rfl
  have c:bI (f hi)=.v (.one (.p z j1 (.int .i64 q))):=by rw[J];rfl
  have m:bI (f y)=.v (.one (.p a2 j2 (.int .i64 w))):=by rw[K];rfl
  split at h
  .rename_i U L;cases h;simp only[kernel,Dn,B,b,c,m,L];refine⟨_,rfl,⟨λN=>?_,rfl,rfl,rfl⟩⟩;obtain⟨k,j,q1,q2,q3,q4⟩:=vS N;have Y:j=0:=by omega
   have Z:k=0:=by omega
   subst Y;subst Z;exact⟨q1,q2⟩
  .cases h
 .cases h
theorem aeD(t:TypeId)(x:Operand)(lo hi:Option Operand):iW tt ety d o f (.slice t x lo hi zz) ty:=by
 intro r h;simp only[eF]at h;split at h
 .rename_i e i1 i2 i3 x' M N;have j:bI (f x)=.v (.one (cZ x')):=by rw[N];rfl
  split at h
  .rename_i ie T len he het J;split at h
   .rename_i b c m q;obtain⟨ask,hl,K⟩:=Y8 J;have U:=mV m;have X:=mV q;have z:lQ 0=P.int .i64 0:=rfl;simp only[kernel,M,j,he,hl,z,U,X];split at h
    .rename_i g;split at h
     .rename_i e' l hg;obtain⟨Y,h⟩:=bZ h;cases h;simp only[cZ,qA hg];rw[QR (Q6 Y)];refine⟨_,rfl,⟨λB=>?_,rfl,rfl,rfl⟩⟩;exact vS B
     .cases h
    .rename_i a i w;split at h
     .rename_i l H;change List (Dt T)at l;obtain⟨Y,h⟩:=bZ h;cases h;have L:=Q6 Y;simp only[cZ];refine⟨_,rfl,⟨λB=>⟨K,?_,?_⟩,?_,rfl,rfl⟩⟩
      .rw [iJ H,<-L];exact Lj _ _
      .rw [iJ H,jO,fE];exact vS B
      .rw [iJ H];show S.v (V.one (W.p a i (P.sub ie.size (P.int .i64 b).nat (P.int .i64 c).nat (dH ⟨.sl T,l⟩))))=S.v (V.one (W.p a i (dH ⟨.sl T,List.drop b.toNat (List.take c.toNat l)⟩)));rw[P.sub,jO,tY,<-L];rfl
     .cases h
    .cases h;simp only[cZ];refine⟨_,rfl,⟨λB=>?_,rfl,rfl,rfl⟩⟩;obtain⟨Z,h2⟩:=jg B;have Z:b=0:=by simpa using Z
     have h2:c=0:=by simpa using h2
     subst Z;subst h2;exact⟨rfl,rfl⟩
    .cases h
   .cases h
  .cases h
 .rename_i s0 b0 z0 a1 i1 y M N;have j:bI (f x)=.v (.one (.p a1 i1 (.str ⟨y.toArray⟩))):=by rw[N];rfl
  change List UInt8 at y;split at h
  .rename_i b c m q;cases h;have U:=mV m;have X:=mV q;have z:lQ 0=P.int .i64 0:=rfl;have el:(P.str ⟨y.toArray⟩).len=P.int .i64 (y.length:Nat):=by show P.int .i64 (y.toArray.size:Nat)=_;simp
   simp only[kernel,M,j,z,el,U,X];refine⟨_,rfl,⟨λB=>⟨trivial,?_⟩,?_,rfl,rfl⟩⟩
   .have:=vS B;simpa[P.bytes,ByteArray.size]using this
   .show S.v (V.one (W.p zv zv (P.str ((⟨y.toArray⟩:ByteArray).extract b.toNat c.toNat))))=S.v (V.one (W.p zv zv (P.str ⟨(List.drop b.toNat (List.take c.toNat y)).toArray⟩)));rw[XG]
  .cases h
 .cases h
theorem QZ(t:TypeId)(x:Operand)(n:Nat):iW tt ety d o f (.fieldAddr t x n) ty:=by
 intro r h;simp only[eF]at h;split at h
 .rename_i H i1 i2 i3 b j g m q w;have c:bI (f x)=.v (.one (cZ g)):=by rw[w];rfl
  obtain⟨y,h⟩:=bZ h;cases h;obtain⟨z,B⟩:=jg y;simp only[kernel,m,q,c];rw[QR ⟨N_ z,Ll B⟩];refine⟨_,rfl,?_⟩;have:=gJ.pure (.v (.one (g.shift b)));simpa only[bI,kE,OW]using this
 .cases h
theorem aeE(t:TypeId)(x:Operand)(n:Nat):iW tt ety d o f (.field t x n) ty:=by
 intro r h;simp only[eF]at h;split at h
 .rename_i B i1 i2 i3 c j m;have b:bI (f x)=.v (.agg (c.map cZ)):=by rw[m];rfl
  split at h
  .rename_i off u q;split at h
   .rename_i g hu;obtain⟨w,h⟩:=bZ h;cases h;obtain⟨y,z⟩:=jg w;simp only[kernel,j,b,q,hu,We];rw[QR ⟨Wt y,N_ z⟩];refine⟨_,rfl,?_⟩;have:=gJ.pure (TV.gB g.agg ((c.drop off).take g.size));rw[mg,US,Vv]at this;exact this
   .cases h
  .cases h
 .cases h
theorem Q5(t:TypeId)(x T:Operand):aev tt ety d o f (.indexAddr t x T) ty:=by
 intro r h;simp only[eF]at h;split at h
 .rename_i e i1 i2 i3 K U j1 k n B X hn;change Int at n;have b:bI (f x)=.v (.one (cZ K)):=by rw[X];rfl
  have c:bI (f T)=.v (.one (.p U j1 (.int k n))):=by rw[hn];rfl
  have Z:(P.int k n).nat=n.toNat:=rfl;split at h
  .rename_i L q g y Y;split at h
   .rename_i e' l hg;obtain⟨z,h⟩:=bZ h;cases h;simp only[kernel,B,b,c,y,cZ,qA hg];rw[QR (Q6 z)];refine⟨_,rfl,gJ.toC ⟨λj=>?_,rfl,rfl,rfl⟩⟩;exact zn (k:=k) j
   .cases h
  .rename_i L q g lo hi y Y;split at h
   .rename_i e' l hg;obtain⟨z,h⟩:=bZ h;cases h;simp only[kernel,B,b,c,y,cZ,qA hg];rw[QR (Q6 z)];exact⟨_,rfl,gJ.toC ⟨λj=>zn (k:=k) j,rfl,rfl,rfl⟩⟩
   .cases h
  .rename_i L q a i w y Y;split at h
   .rename_i l M;change List (Dt q)at l;obtain⟨z,h⟩:=bZ h;cases h;have hsz:=Q6 z;simp only[kernel,B,b,c,y,cZ];refine⟨_,rfl,⟨λj=>⟨λ_=>⟨?_,?_⟩,?_,rfl,rfl⟩,rfl⟩⟩
    .rw [iJ M,<-hsz];exact Lj _ _
    .rw [iJ M,jO,fE];exact zn (k:=k) j
    .have H:n.toNat<l.length:=by have j:inB n l.length=zj:=j;simp only[inB,X1,Wa]at j;omega
     rw[iJ M];show S.v (V.one (W.sp a i ((dH ⟨.sl q,l⟩).list.getD (P.int k n).nat []) 0))=S.v (V.one (W.sp a i (lY q (List.getD l n.toNat (dflt q))) 0));rw[jO,Z];simp[aN,Q2,H]
   .cases h
  .cases h
 .rename_i m e i1 i2 i3 g U j1 k n B X hn;change Int at n;have b:bI (f x)=.v (.one (.gl g)):=by rw[X];rfl
  have c:bI (f T)=.v (.one (.p U j1 (.int k n))):=by rw[hn];rfl
  split at h
  .rename_i L q l y hg;obtain⟨z,h⟩:=bZ h;cases h;obtain⟨J,N⟩:=jg z;have J:=Q6 J;have N:=Q6 N;simp only[kernel,B,b,c,y,akN,hg,W7];rw[QR ⟨J,by rw[We];exact N⟩];refine⟨_,rfl,⟨λj=>⟨λ_=>zn (k:=k) j,?_,rfl,rfl⟩,rfl⟩⟩;have H:n.toNat<l.length:=by have j:inB n m=zj:=j;simp only[inB,X1,Wa]at j;omega
   show S.v (V.one (W.sp zv zv ((List.map (lY q) l).getD (P.int k n).nat []) 0))=S.v (V.one (W.sp zv zv (lY q (List.getD l n.toNat (dflt q))) 0));have Z:(P.int k n).nat=n.toNat:=rfl;rw[Z];simp[Q2,H]
  .cases h
 .rename_i m e i1 i2 i3 K U j1 k n hng B X hn;change Int at n;have b:bI (f x)=.v (.one (cZ K)):=by rw[X];rfl
  have c:bI (f T)=.v (.one (.p U j1 (.int k n))):=by rw[hn];rfl
  split at h
  .rename_i L y;obtain⟨z,h⟩:=bZ h;cases h;obtain⟨J,N⟩:=jg z;simp only[inB,X1,Wa]at J;have M:=Ll N;have key :∃r',kernel tt d (dh o) (λx=>bI (f x)) (.indexAddr t x T) ty=zw r'/\r'=.pure (.v (.one ((cZ K).shift (n.toNat*L.size)))):=by
    cases K<;>first
     |(cases N;done)
     |(
       simp only[cZ]at b M ⊢;simp only[kernel,B,b,c,y];rw[QR ⟨J.1,J.2,M⟩];exact⟨_,rfl,rfl⟩)
   obtain⟨r',e1,rfl⟩:=key;refine⟨_,e1,gJ.toC ?_⟩;have:=gJ.pure (.v (.one (K.shift (n.toNat*L.size))));simpa only[bI,kE,OW]using this
  .cases h
 .cases h
theorem aeF(t:TypeId)(x g:Operand):iW tt ety d o f (.index t x g) ty:=by
 intro r h;simp only[eF]at h;split at h
 .rename_i i1 i2 i3 j j1 s a2 j2 k n m q hn;change List UInt8 at s;change Int at n;have b:bI (f x)=.v (.one (.p j j1 (.str ⟨s.toArray⟩))):=by rw[q];rfl
  have c:bI (f g)=.v (.one (.p a2 j2 (.int k n))):=by rw[hn];rfl
  cases h;simp only[kernel,m,b,c];refine⟨_,rfl,⟨λw=>⟨trivial,?_⟩,?_,rfl,rfl⟩⟩
  .have:(P.str ⟨s.toArray⟩).bytes.size=s.length:=by show s.toArray.size=_;simp
   rw[this];exact zn (k:=k) w
  .have:(s.toArray.getD n.toNat 0)=s.getD n.toNat 0:=by simp[WP,Q2]
   simp only[P.akt,this];rfl
 .cases h
theorem aeG(t:TypeId)(x:Operand):iW tt ety d o f (.range t x) ty:=by
 intro r h;simp only[eF]at h;split at h
 .rename_i i1 i2 i3 c j1 s g j;change List UInt8 at s;have b:bI (f x)=.v (.one (.p c j1 (.str ⟨s.toArray⟩))):=by rw[j];rfl
  cases h;simp only[kernel,g,b];exact⟨_,rfl,⟨λ_=>trivial,rfl,rfl,rfl⟩⟩
 .cases h
theorem XH(t:Operand)(n:Nat):iW tt ety d o f (.extract t n) ty:=by
 intro r h;simp only[eF]at h;split at h
 .rename_i xs c;have b:bI (f t)=.jq (xs.map kE):=by rw[c];rfl
  split at h
  .rename_i x hn;cases h;simp only[kernel,b,Z2,hn,W7];exact⟨_,rfl,gJ.pure _⟩
  .cases h
 .cases h
theorem UW{F:Operand->Option TW}{G:Operand->Option W}(b :∀x w,F x=zw w->G x=zw (cZ w)):∀{xs:List Operand} {c:List TW},xs.mapM F=zw c->xs.mapM G=zw (c.map cZ)
 | [],c,h=>by simp at h;subst h;rfl
 |x::xs,c,h=>by simp only[vu,Option.bind_eq_bind,Option.bind_eq_some_iff]at h ⊢;obtain⟨w,m,g,j,h⟩:=h;cases h;exact⟨cZ w,b x w m,g.map cZ,UW b j,rfl⟩
theorem UY(g:FuncId)(first caps:Array Operand):iW tt ety d o f (.makeFunc (.func g) first caps) ty:=by
 intro r h;simp only[eF]at h;obtain⟨m,h⟩:=bZ h;split at h
 .rename_i j q;cases h;simp only[kernel];rw[QR (Q6 m)];have key :∀{G:Operand->Option W},(∀x,G x=match bI (f x)with|.v (.one w)=>zw w|_=>zz)->caps.toList.mapM G=zw (j.map cZ):=by
   intro G y;refine UW (λx w c=>?_) q;rw[y];split at c
   .rename_i z;cases c;rw[z];rfl
   .cases c
  split
  .rename_i B b;have e:=b.symm.trans (key λx=>rfl);cases e;refine⟨_,rfl,?_⟩;have:=gJ.pure (.v (.one (.clo g j)));simpa only[bI,kE,cZ,Ag]using this
  .rename_i b;exact nomatch b.symm.trans (key λx=>rfl)
 .cases h
theorem amA(args:Array Operand)(ts:Array TypeId):iW tt ety d o f (.call { callee:=.builtin .len,args:=args,argTypes:=ts }) ty:=by
 intro r h;simp only[eF]at h;split at h
 .rename_i x t q c;split at h
  .rename_i e i1 i2 i3 w j m;have b:bI (f x)=.v (.one (cZ w)):=by rw[m];rfl
   split at h
   .rename_i n hn;cases h;obtain⟨ask,y,g⟩:=Y8 hn;simp only[kernel,q,c,j,b,y];exact⟨_,rfl,⟨λ_=>g,rfl,rfl,rfl⟩⟩
   .cases h
  .rename_i i1 i2 i3 z j1 s j m;change List UInt8 at s;have b:bI (f x)=.v (.one (.p z j1 (.str ⟨s.toArray⟩))):=by rw[m];rfl
   cases h;simp only[kernel,q,c,j,b];refine⟨_,rfl,⟨λ_=>trivial,?_,rfl,rfl⟩⟩;have:(P.str ⟨s.toArray⟩).len=.int .i64 s.length:=by show P.int .i64 (s.toArray.size:Nat)=_;simp
   simp only[this];rfl
  .cases h
 .cases h
theorem amB(args:Array Operand)(ts:Array TypeId):iW tt ety d o f (.call { callee:=.builtin .min,args:=args,argTypes:=ts }) ty:=by
 intro r h;simp only[eF]at h;split at h
 .rename_i x y g;split at h
  .rename_i j j1 k m a2 j2 q w B H;have b:bI (f x)=.v (.one (.p j j1 (.int k m))):=by rw[B];rfl
   have c:bI (f y)=.v (.one (.p a2 j2 (.int q w))):=by rw[H];rfl
   cases h;simp only[kernel,g,b,c];exact⟨_,rfl,⟨λ_=>⟨trivial,trivial⟩,rfl,rfl,rfl⟩⟩
  .cases h
 .rename_i x y z g;split at h
  .rename_i j j1 k m a2 j2 q w a3 j3 K L B H M;have b:bI (f x)=.v (.one (.p j j1 (.int k m))):=by rw[B];rfl
   have c:bI (f y)=.v (.one (.p a2 j2 (.int q w))):=by rw[H];rfl
   have J:bI (f z)=.v (.one (.p a3 j3 (.int K L))):=by rw[M];rfl
   cases h;simp only[kernel,g,b,c,J];exact⟨_,rfl,⟨λ_=>⟨trivial,trivial,trivial⟩,rfl,rfl,rfl⟩⟩
  .cases h
 .cases h
theorem amC(args:Array Operand)(ts:Array TypeId):iW tt ety d o f (.call { callee:=.builtin .max,args:=args,argTypes:=ts }) ty:=by
 intro r h;simp only[eF]at h;split at h
 .rename_i x y g;split at h
  .rename_i j j1 k m a2 j2 q w B H;have b:bI (f x)=.v (.one (.p j j1 (.int k m))):=by rw[B];rfl
   have c:bI (f y)=.v (.one (.p a2 j2 (.int q w))):=by rw[H];rfl
   cases h;simp only[kernel,g,b,c];exact⟨_,rfl,⟨λ_=>⟨trivial,trivial⟩,rfl,rfl,rfl⟩⟩
  .cases h
 .rename_i x y z g;split at h
  .rename_i j j1 k m a2 j2 q w a3 j3 K L B H M;have b:bI (f x)=.v (.one (.p j j1 (.int k m))):=by rw[B];rfl
   have c:bI (f y)=.v (.one (.p a2 j2 (.int q w))):=by rw[H];rfl
   have J:bI (f z)=.v (.one (.p a3 j3 (.int K L))):=by rw[M];rfl
   cases h;simp only[kernel,g,b,c,J];exact⟨_,rfl,⟨λ_=>⟨trivial,trivial,trivial⟩,rfl,rfl,rfl⟩⟩
  .cases h
 .cases h
theorem zo(e:Ty)(a b:List (Dt e)):aN e (a++b)=aN e a++aN e b:=by simp[aN]
theorem XI{N:TypeId}{s x:TW}{r:uO}(h:QO tt ety d o N s x=zw r):∃T,wP tt d (dh o) N (cZ s) (cZ x)=zw T/\gJ r T:=by
 simp only[QO]at h;split at h
 .rename_i e i1 i2 i3 X;split at h
  .rename_i w q Y Z;cases B:(Nat.beq w.bytes 0||!Nat.beq (size q) w.size)with
   |true=>rw[B]at h;cases h
   |false=>
    rw[B,cond_false]at h;simp only[J2,va]at B;have m:=Q6 B.2;have L:¬ w.bytes=0:=λe=>by rw[e]at B;cases B.1
    split at h
    .cases h
    .rename_i new a' i' H;obtain⟨ask,U,J⟩:=UO H;rw[m]at U;simp only[wP,X,Y,QP L,U];have key :∀(pre:Bool) (c:Prop) (j:List (Dt q)) (a i:Bool) (kill:List (Nat×TO)),(pre=zj->c)->
       gJ { pre:=pre&&decide ((j.length+new.length)*w.bytes<=140737488355328),t:=.sl q,val:=List.append j new,dst:=λ_=>.v (.one (.own d)),aK:=λy=>kill++[(d,.arr zv (a||a') (i||i') q y)],new:=[d] }
        (.mk (ask/\c/\((aN q j).length+(aN q new).length)*w.bytes<=140737488355328) (.sl w.size (aN q j++aN q new)) (λ_=>.v (.one (.own d)))
         (λy=>je kill++[(d,.arr zv (a||a') (i||i') w.size y.list)]) [d]):=by
      intro pre c j a i kill K;refine⟨λhp=>?_,rfl,?_,rfl⟩
      .obtain ⟨h1,h2⟩:=jg hp;refine⟨J,K h1,?_⟩;rw[fE,fE];simpa using h2
      .simp only[mF];congr 1;simp only[P.list,je,Qf,V2,d_,m];rw[<-zo];rfl
     split at h
     .cases h;exact⟨_,rfl,key zj True [] zv zv [] λ_=>trivial⟩
     .rename_i g;split at h
      .rename_i a i e' l hg;split at h
       .rename_i l' z;cases b:Nat.beq g d with
        |true=>rw[b]at h;cases h
        |false=>rw[b,cond_false]at h;cases h;obtain⟨M,z⟩:=pU z;cases M;subst z;simp only[cZ,iM hg];rw[QR ⟨m,λe=>by subst e;simp at b⟩];exact⟨_,rfl,key zj True _ a i [(g,.none)] λ_=>trivial⟩
       .cases h
      .cases h
     .rename_i g lo hi;split at h
      .rename_i a i e' l hg;split at h
       .rename_i l' z;cases b:Nat.beq g d with
        |true=>rw[b]at h;cases h
        |false=>
         rw[b,cond_false]at h;cases h;obtain⟨M,z⟩:=pU z;cases M;subst z;simp only[cZ,iM hg,qU];rw[QR ⟨m,λe=>by subst e;simp at b⟩];refine⟨_,rfl,key (decide (lo=0)) (P.int .i64 lo=lQ 0) (l.take hi.toNat) a i [(g,.none)] λh=>?_⟩;have h:lo=0:=by simpa using h
         subst h;rfl
       .cases h
      .cases h
     .cases h
  .cases h
 .cases h
theorem ab5(args:Array Operand)(ts:Array TypeId):iW tt ety d o f (.call { callee:=.builtin .append,args:=args,argTypes:=ts }) ty:=by
 intro r h;simp only[eF]at h;split at h
 .rename_i s x B H rest j b;split at h
  .rename_i e i1 i2 i3 m q w y z;have c:bI (f s)=.v (.one (cZ m)):=by rw[y];rfl
   have g:bI (f x)=.v (.one (cZ q)):=by rw[z];rfl
   simp only[kernel,j,b,w,c,g];exact XI h
  .cases h
 .cases h
theorem XJ(op:Op):aev tt ety d o f op ty:=by
 cases op
 case move x=>exact iW.toC (ah_ x)
 case assign x=>exact iW.toC (ab2 x)
 case pick c x y=>exact iW.toC (aia c x y)
 case alloc t=>exact iW.toC (aex t)
 case box t x=>exact iW.toC (amy t x)
 case build t w=>exact iW.toC (aey t w)
 case buildSlice t n w=>exact iW.toC (N9 t n w)
 case load t x=>exact iW.toC (aic t x)
 case store t x y=>exact iW.toC (aeA t x y)
 case nilCheck x=>exact iW.toC (UQ x)
 case binOp op t x y u=>exact iW.toC (aeC op t x y u)
 case unOp op t x=>exact iW.toC (aii op t x)
 case convert s t x=>exact iW.toC (XF s t x)
 case makeSlice t n c=>exact iW.toC (QY t n c)
 case slice t x lo q B=>
  cases B with
  |none=>exact iW.toC (aeD t x lo q)
  |some m=>cases lo with
   |some l=>intro r h;simp[eF]at h
   |none=>cases q with
    |none=>intro r h;simp[eF]at h
    |some q=>exact iW.toC (ab4 t x q m)
 case fieldAddr t x n=>exact iW.toC (QZ t x n)
 case field t x n=>exact iW.toC (aeE t x n)
 case indexAddr t x z=>exact Q5 t x z
 case index t x z=>exact iW.toC (aeF t x z)
 case range t x=>exact iW.toC (aeG t x)
 case extract t n=>exact iW.toC (XH t n)
 case makeFunc fn first j=>
  cases fn
  case func g=>exact iW.toC (UY g first j)
  all_goals (intro r h;simp[eF]at h)
 case call c=>
  obtain⟨callee,args,ts⟩:=c;cases callee
  case builtin b=>
   cases b
   case len=>exact iW.toC (amA args ts)
   case append=>exact iW.toC (ab5 args ts)
   case min=>exact iW.toC (amB args ts)
   case max=>exact iW.toC (amC args ts)
   all_goals (intro r h;simp[eF]at h)
  all_goals (intro r h;simp[eF]at h)
 all_goals (intro r h;simp[eF]at h)
end
end Go.Fg

namespace Go.Fg
open Go.Fw
section
variable [RE]
def wdF:Wd:=⟨.bool,zv⟩
def placesOf:Ty->List Nat
 |.prod (.st c) r=>c::placesOf r
 |_=>[]
def XK(et:Ty):List Nat->List (Nat×Ty)
 | []=>[]
 |c::b=>match (jR et)[c]? with
  |some (.sl t)=>(c,t)::XK et b
  |_=>XK et b
def aeH(ety:TypeId->Option Ty)(e:TypeId)(et:Ty):List (Nat×Ty):=match ety (1000000+e)with
 |some t=>XK et (placesOf t)
 |none=>[]
def Ah(au:List (Nat×Ty))(off n:Nat):List (Nat×Ty):=match au with
 | []=>[]
 |(c,t)::r=>match Nat.ble off c&&Nat.blt c (off+n)with
  |true=>(c,t)::Ah r off n
  |false=>Ah r off n
def yA(o:Nat->TO)(g:Nat):Option TH:=match o g with
 |.aP a i e h l b=>match b with
  |none=>zw ⟨a,i,e,h,l⟩
  |some (n,c,d)=>match o d with
   |.arr zv a' i' j m=>match abY e h c j with
    |true=>zw ⟨a||a',i||i',e,h,putRow e l n c (vK j m)⟩
    |false=>zz
   |_=>zz
 |_=>zz
def apw:TO->Bool
 |.arr b _ _ _ _=>!b
 |_=>zv
def mG:List Nat->List (Nat×TO)
 | []=>[]
 |g::gs=>(g,.none)::mG gs
def cellT(e:Ty)(x:Dt e)(c:Nat)(e':Ty):List (Dt e'):=((gU e x).getD c wdF).as (.sl e')
def Q7(o:Nat->TO)(col:Nat->Option Ty):Nat->List Ty->List TW->Option (List Wd×Bool×Bool×List Nat×List (Nat×Nat))
 |_,[],[]=>zw ([],zv,zv,[],[])
 |j,t::ts,x::xs=>match Q7 o col (j+1) ts xs with
  |none=>zz
  |some (c,a',i',b,es)=>match col j with
   |none=>match x.toP o t with
    |some (y,a,i,gs)=>zw (⟨t,y⟩::c,a||a',i||i',gs++b,es)
    |none=>zz
   |some s=>match tyB t (.sl s)with
    |true=>match x with
     |.dJ=>zw (vK s []::c,a',i',b,es)
     |.own e=>match o e with
      |.arr zv a i g l=>match (vK g l).Df (.sl s)with
       |some l=>zw (vK s l::c,a||a',i||i',b,(j,e)::es)
       |none=>zz
      |_=>zz
     |_=>zz
    |false=>zz
 |_,_,_=>zz
def Ih:List (Nat×Ty)->List (Nat×Ty)->Bool
 | [],[]=>zj
 |(c,t)::r,(b,g)::h=>Nat.beq c b&&tyB t g&&Ih r h
 |_,_=>zv
def UZ(o:Nat->TO)(et:Ty)(au:List (Nat×Ty)):TW->Option (Bool×Bool×Bool×List (Dt et)×List Nat)
 |.dJ=>zw (zj,zv,zv,[],[])
 |.own g=>match yA o g with
  |some ⟨a,i,e,b,l⟩=>match (vK e l).Df (.sl et),Ih b au with
   |some l,zj=>zw (zj,a,i,l,g::jw (o g))
   |_,_=>zz
  |none=>zz
 |.vw g lo c=>match yA o g with
  |some ⟨a,i,e,b,l⟩=>match (vK e (l.take c.toNat)).Df (.sl et),Ih b au with
   |some l,zj=>zw (decide (lo=0),a,i,l,g::jw (o g))
   |_,_=>zz
  |none=>zz
 |_=>zz
def xI:Ty:=.st RE.hd
def ab6(n:Nat):List (Dt xI):=List.replicate n (dflt xI)
def Q8(tt:TT)(o:Nat->TO)(f:Operand->TS)(t:TypeId)(x:Operand):Option uO:=match tt t,f x with
 |some i,.v (.one (.ep g n off))=>match yA o g with
  |some ⟨a,h,e,c,l⟩=>match vM off c with
   |some b=>bif abY e c off b&&(Nat.beq i.size 1&&!i.agg)&&uP (((gU e (dflt e)).drop off).take i.size) i.zero then
     zw { pre:=zj,t:=.sl xI,val:=ab6 (List.length (α:=Dt b) (cellT e (l.getD n.toNat (dflt e)) off b)),dst:=λz=>.v (.one (.p zv zv ⟨.sl xI,z⟩)),aK:=λ_=>[],new:=[] } else zz
   |none=>zz
  |none=>zz
 |_,_=>zz
def jS(tt:TT)(ety:TypeId->Option Ty)(d:Nat)(o:Nat->TO)(f:Operand->TS)(op:Op)(ty:TypeId):Option uO:=
 match op with
 |.load t x=>match ety (3000000+d)with
  |some _=>Q8 tt o f t x
  |none=>match tt t,f x with
  |some i,.v (.one (.ep g n off))=>match o g with
   |.aP a0 i0 q Z K _=>bif Nat.ble (off+i.size) (size q)&&Nat.blt 0 i.size&&uP (((gU q (dflt q)).drop off).take i.size) i.zero then
     match Ah Z off i.size with
     | []=>zw { pre:=zj,t:=q,val:=K.getD n.toNat (dflt q),dst:=λz=>TV.gB i.agg (tpw a0 i0 (((gU q z).drop off).take i.size)),aK:=λ_=>[],new:=[] }
     | [(c,X)]=>match yA o g with
      |some ⟨a,i',e,w,l⟩=>match abY e w c X&&Nat.ble (off+i.size) (size e)&&uP (((gU e (dflt e)).drop off).take i.size) i.zero with
       |true=>zw { pre:=zj,t:=.sl e,val:=l,dst:=λ(y:List (Dt e))=>TV.gB i.agg ((tpw a i' (((gU e (y.getD n.toNat (dflt e))).drop off).take i.size)).set (c-off) (.own d)),aK:=λ(y:List (Dt e))=>(g,.aP a i' e w y (zw (n.toNat,c,d)))::(d,.arr zv a i' X (cellT e (y.getD n.toNat (dflt e)) c X))::mG (jw (o g)),new:=[d] }
       |false=>zz
      |none=>zz
     |_=>zz
     else zz
   |_=>zz
  |_,_=>zz
 |.store t x y=>match tt t,f x,f y with
  |some i,.v (.one (.ep g n off)),.v y=>match o g with
   |.aP a0 i0 q w K J=>match Q7 o (λj=>vM j w) off (((jR q).drop off).take i.size) y.words with
    |some (L,a',i',gs,es)=>bif Nat.ble (off+i.size) (size q)&&Nat.beq y.words.length i.size&&y.solid&&!gy g gs&&uD (es.map (·.2))&&Fj (es.map (·.2)) gs then
      let B (pre:Bool) (a i1:Bool) (e:Ty) (l:List (Dt e)) (iE:Option (Nat×Nat×Nat)) (T:List Nat):uO:=
       { pre,t:=.sl e,val:=List.set l n.toNat (N7 e (Nat.beq i.size (size e)) (l.getD n.toNat (dflt e)) off L),dst:=λ_=>.no,aK:=λz=>(g,.aP (a||a') (i1||i') e w z iE)::mG (es.map (·.2))++mG T++gs.map (mP o),new:=[] }
      match Ah w off i.size with
      | []=>zw (B zj a0 i0 q K J [])
      |_::_=>match J with
       |none=>zw (B zj a0 i0 q K zz [])
       |some (Y,U,d0)=>match yA o g with
        |some ⟨a,i1,e,iP,l⟩=>match !gy d0 (es.map (·.2))&&!gy d0 gs with
         |true=>match tyB e q with
          |true=>zw (B zj a i1 e l zz [d0])
          |false=>zz
         |false=>bif Nat.ble off U&&Nat.blt U (off+i.size)then zw (B (Nat.beq Y n.toNat) a0 i0 q K zz [])else zz
        |none=>match apw (o d0)with
         |true=>zz
         |false=>bif Nat.ble off U&&Nat.blt U (off+i.size)then zw (B (Nat.beq Y n.toNat) a0 i0 q K zz [])else zz
      else zz
    |none=>zz
   |_=>zz
  |_,_,_=>zz
 |.buildSlice t n parts=>match tt t with
  |some { k:=.slice e,.. }=>match tt e,ety e with
   |some h,zw b=>match aeH ety e b with
    | []=>zz
    |AX::M=>match D9 (λm=>if m<n then zw (m*h.size,h.size)else zz) (Ld (h.zero.map cvT) n) (parts.toList.map λp=>(p.1,f p.2))with
     |some ws=>match Q7 o (λj=>vM (j % h.size) (AX::M)) 0 (Ld (jR b) n) ws with
      |some (L,a,i,gs,es)=>bif Nat.ble (n+n*h.size) 16777216&&Nat.beq (size b) h.size&&uD (es.map (·.2))&&Fj (es.map (·.2)) gs then
        zw { pre:=zj,t:=.sl b,val:=Ea b n L,dst:=λ_=>.v (.one (.own d)),aK:=λy=>(d,.aP a i b (AX::M) y zz)::mG (es.map (·.2))++gs.map (mP o),new:=[d] } else zz
      |none=>zz
     |none=>zz
   |_,_=>zz
  |_=>zz
 |.makeSlice t n c=>match tt t,f n,f c with
  |some { k:=.slice e,.. },.v (.one (.p _ _ ⟨.int .i64,n⟩)),.v (.one (.p _ _ ⟨.int .i64,c⟩))=>match tt e,ety e with
   |some h,zw b=>match aeH ety e b with
    | []=>zz
    |AX::M=>match Q7 o (λj=>vM j (AX::M)) 0 (jR b) (h.zero.map cvT)with
     |some (L,zv,zv,[],[])=>bif Nat.blt 0 h.size&&Nat.beq (size b) h.size then
      zw { pre:=BR h.bytes n c,t:=.sl b,val:=List.replicate (Int.toNat n) (lZ b L),dst:=λ_=>.v (.one (.own d)),aK:=λy=>[(d,.aP zv zv b (AX::M) y zz)],new:=[d] } else zz
     |_=>zz
   |_,_=>zz
  |_,_,_=>zz
 |.call { callee:=.builtin .append,args,argTypes }=>match args.toList,argTypes.toList with
  | [s,x],sT::xT::_=>match tt sT,tt xT,f s,f x with
   |some { k:=.slice e,.. },zw { k:=.slice _,.. },.v (.one s),.v (.one (.own g2))=>match tt e,yA o g2 with
    |some h,zw ⟨a2,i2,b,w,new⟩=>match UZ o b w s with
     |some (pre,a,i,N,T)=>bif !Nat.beq h.bytes 0&&Nat.beq (size b) h.size&&uD (T++g2::jw (o g2))then
       zw { pre:=pre&&decide ((N.length+new.length)*h.bytes<=140737488355328),t:=.sl b,val:=List.append N new,dst:=λ_=>.v (.one (.own d)),aK:=λy=>(d,.aP (a||a2) (i||i2) b w y zz)::mG (T++g2::jw (o g2)),new:=[d] } else zz
     |none=>zz
    |_,_=>zz
   |_,_,_,_=>zz
  |_,_=>zz
 |.slice t x zz H zz=>match ety 2000000 with
  |none=>zz
  |some _=>match tt t,f x with
   |some { k:=.slice e,.. },.v (.one (.own g))=>match tt e,o g with
    |some h,.arr zv a i b l=>bif Nat.beq (size b) h.size then match mQ (List.length (α:=Dt b) l) (H.map f)with
     |some H=>zw { pre:=decide (0<=H)&&decide (H<=(List.length (α:=Dt b) l:Int)),t:=.sl b,val:=List.take (α:=Dt b) H.toNat l,dst:=λ_=>.v (.one (.own d)),aK:=λy=>[(d,.arr zv a i b y),(g,.none)],new:=[d] }
     |none=>zz
     else zz
    |some h,.aP a i b w l zz=>bif Nat.beq (size b) h.size then match mQ (List.length (α:=Dt b) l) (H.map f)with
     |some H=>zw { pre:=decide (0<=H)&&decide (H<=(List.length (α:=Dt b) l:Int)),t:=.sl b,val:=List.take (α:=Dt b) H.toNat l,dst:=λ_=>.v (.one (.own d)),aK:=λy=>[(d,.aP a i b w y zz),(g,.none)],new:=[d] }
     |none=>zz
     else zz
    |_,_=>zz
   |_,_=>zz
 |_=>zz
section
variable {o:Nat->TO} {tt:TT} {ety:TypeId->Option Ty} {d:Nat} {f:Operand->TS} {ty:TypeId}
theorem rY(off n:Nat):∀(au:List (Nat×Ty)),jE (gW au) off n=gW (Ah au off n)
 | []=>rfl
 |(c,t)::r=>by
  have b:=rY off n r;simp only[jE,gW,Qf,za,Ah]at b ⊢;cases g:(Nat.ble off c&&Nat.blt c (off+n))with
  |true=>simp only[if_true,Qf,b]
  |false=>simp only[Wb,if_false,b]
theorem FW(c:Nat)(au:List (Nat×Ty)):(gW au).lookup c=(vM c au).map size:=by
 cases h:vM c au with
 |none=>exact Le h
 |some t=>exact FQ h
theorem rE(g:Nat)(x:TO)(r:List (Nat×TO)):je ((g,x)::r)=(g,d_ x)::je r:=rfl
theorem rF:∀(gs:List Nat),je (mG gs)=kills gs
 | []=>rfl
 |g::gs=>by show (g,O.none)::je (mG gs)=(g,O.none)::kills gs;rw[rF gs]
theorem rG{g:Nat}{a i:Bool}{e:Ty}{au:List (Nat×Ty)}{l:List (Dt e)}(h:yA o g=zw ⟨a,i,e,au,l⟩):jF (dh o) g=zw (a,i,size e,gW au,aN e l)/\(dh o g).hn=jw (o g):=by
 unfold yA at h;cases j:o g with
 |aP a0 i0 m q w b=>
  rw[j]at h;have hg:dh o g=.aP a0 i0 (size m) (gW q) (aN m w) b:=by simp[dh,j,d_]
  rcases b with _|⟨n,c,d⟩
  .cases h;exact⟨by simp[jF,hg],by rw[hg];rfl⟩
  .simp only at h;cases hd:o d with
   |arr y K L M N=>
    rw[hd]at h;cases y with
    |true=>cases h
    |false=>
     simp only at h;split at h
     .rename_i z;cases h;obtain⟨B,H,J⟩:=vN z;refine⟨?_,by rw[hg];rfl⟩;simp only[jF,hg,iM hd];rw[QR ⟨B,J⟩,BU H]
     .cases h
   |_=>rw[hd]at h;cases h
 |_=>rw[j]at h;cases h
theorem XL{g n c d0:Nat}{a0 i0:Bool}{b:Ty}{au:List (Nat×Ty)}{m:List (Dt b)}(j:o g=.aP a0 i0 b au m (zw (n,c,d0)))(h:apw (o d0)=zv):jF (dh o) g=zz:=by
 have hg:dh o g=.aP a0 i0 (size b) (gW au) (aN b m) (zw (n,c,d0)):=by simp[dh,j,d_]
 simp only[jF,hg];cases hd:o d0 with
 |arr q a i e l=>
  rw[hd]at h;cases q with
  |true=>simp[dh,hd,d_]
  |false=>cases h
 |_=>simp[dh,hd,d_]
theorem U0{e g:Ty}{x:Dt e}{c:Nat}(h:(jR e)[c]?=zw (.sl g)):(lY e x)[c]?=zw (dH ⟨.sl g,cellT e x c g⟩):=by
 rw[iL,Z2];have b:c<(gU e x).length:=by rw[rD,<-kT];exact(Q3.1 h).1
 rw[Q1 b,W7];have m:((gU e x)[c]).t=.sl g:=by have:=vJ e x;have j:=W3 (λl=>l[c]?) this;simp only[Z2,Q1 b,W7,h,Q0]at j;exact j
 have hg:(gU e x).getD c wdF=(gU e x)[c]:=by rw[Q2,Q1 b];rfl
 unfold cellT;rw[hg,yx m]
theorem Ed{c:Nat->Option Ty}{col':Nat->Option Nat}(m :∀j,col' j=(c j).map size):∀{ts:List Ty} {xs:List TW} {j:Nat} {g:List Wd} {a i:Bool} {gs:List Nat} {es:List (Nat×Nat)},Q7 o c j ts xs=zw (g,a,i,gs,es)->
  S_ (dh o) col' j (xs.map cZ)=zw (g.map dH,a,i,gs,es)/\g.map (·.t)=ts/\Pl o gs
 | [],[],j,g,a,i,gs,es,h=>by simp only[Q7,Q0,QQ]at h;obtain⟨rfl,rfl,rfl,rfl,rfl⟩:=h;exact⟨rfl,rfl,Pl.nil⟩
 | [],x::xs,j,g,a,i,gs,es,h=>by simp[Q7]at h
 |t::ts,[],j,g,a,i,gs,es,h=>by simp[Q7]at h
 |t::ts,x::xs,j,g,a,i,gs,es,h=>by
  simp only[Q7]at h;split at h
  .cases h
  .rename_i J U X K L M;obtain⟨N,q,w⟩:=Ed m M;simp only[Qf,S_,N,m j];cases B:c j with
   |none=>
    rw[B]at h;simp only at h;split at h
    .rename_i H;cases h;refine⟨by simp only[KB,QT H,Qf],by simp only[Qf,q],(XB H).append w⟩
    .cases h
   |some s=>
    rw[B]at h;simp only at h;split at h
    .rename_i b;have b:=zk b;split at h
     .cases h;exact⟨by simp only[W7,cZ,Qf];rfl,by simp only[Qf,q,b];rfl,w⟩
     .rename_i e;split at h
      .rename_i Y i1 Z l y;split at h
       .rename_i l1 z;cases h;obtain⟨T,z⟩:=pU z;cases T;subst z;refine⟨?_,by simp only[Qf,q,b];rfl,w⟩;simp only[W7,cZ,iM y,if_true,Qf];rfl
       .cases h
      .cases h
     .cases h
    .cases h
def Lp(tt:TT)(ety:TypeId->Option Ty)(d:Nat)(o:Nat->TO)(f:Operand->TS)(op:Op)(ty:TypeId):Prop:=∀r,jS tt ety d o f op ty=zw r->∃c b,dX tt c d (dh o) (λx=>bI (f x)) op ty=zw b/\gJ r b
theorem OX{i:TI}{e g:Ty}{l:List (Dt e)}{n off c:Nat}(q:uP (((gU e (dflt e)).drop off).take i.size) i.zero=zj)(c2:(jR e)[c]?=zw (.sl g))(w:off<=c)(y:c<off+i.size):
  (((aN e l).getD n []).getD c default).list=aN g (cellT e (l.getD n (dflt e)) c g):=by
 by_cases hn:n<l.length
 .have h:(aN e l).getD n []=lY e (l.getD n (dflt e)):=by simp[aN,Q2,hn]
  rw[h,Q2,U0 c2];exact jO _ _
 .have h:(aN e l).getD n []=[]:=by simp[aN,Q2,Vn (vj hn)]
  have z:l.getD n (dflt e)=dflt e:=by simp[Q2,Vn (vj hn)]
  rw[h,z];have b:=FU q (c-off);rw[US,Vv,W0,QR (by omega),Wo,<-iL]at b;have B:off+(c-off)=c:=by omega
  rw[B,U0 c2]at b;split at b
  .simp only[Q0]at b;have m:=W3 P.list b;rw[jO]at m;rw[m];have:(Tt i.zero (c-off)).list=[]:=by have j :∃H l,Tt i.zero (c-off)=P.gQ H l:=⟨_,_,b.symm⟩;unfold Tt at j ⊢;split<;>rfl
   rw[this];rfl
  .cases b
theorem aij(n:Nat):dH ⟨.sl xI,ab6 n⟩=hdr (List.replicate n ([]:List P)):=by
 have g :∀x,lY xI x=[]:=λx=>by
  have c:=rD xI x;have h:size xI=0:=by simp[xI,size,jQ,RE.hdF]
  rw[h]at c;rw[iL,Uv c];rfl
 rw[Jk];have b:aN xI (ab6 n)=List.replicate n []:=by
  have :∀(n:Nat),List.map (lY xI) (ab6 n)=List.replicate n []:=λn=>by
   induction n with
   |zero=>rfl
   |succ n j=>have b:lY xI (dflt xI)=[]:=g _;show lY xI (dflt xI)::List.map (lY xI) (ab6 n)=[]::List.replicate n [];rw[j,b]
  exact this n
 have m:size xI=0:=by simp[xI,size,jQ,RE.hdF]
 rw[b,m];unfold hdr;rw[Kf];cases n<;>rfl
theorem XM{t:TypeId}{x:Operand}{r:uO}(h:Q8 tt o f t x=zw r):∃w,uF tt (dh o) (λx=>bI (f x)) t x=zw w/\gJ r w:=by
 unfold Q8 at h;split at h
 .rename_i i g n off z B;have c:bI (f x)=.v (.one (.ep g (.int .i64 n) off)):=by rw[B];rfl
  have H:(P.int .i64 n).nat=n.toNat:=rfl;split at h
  .rename_i a X e Y l J;split at h
   .rename_i y K;obtain⟨b,h⟩:=bZ h;obtain⟨b,L⟩:=jg b;obtain⟨j,b⟩:=jg b;obtain⟨m,q⟩:=jg b;have m:=Q6 m;have q:i.agg=zv:=by simpa using q
    cases h;obtain⟨M,Z⟩:=rG J;obtain⟨N,T,U⟩:=vN j;unfold uF;simp only[z,c,M,N];rw[QR ⟨U,m,q⟩];refine⟨_,rfl,⟨λ_=>trivial,?_,rfl,rfl⟩⟩;have key:(((aN e l).getD (P.int .i64 n).nat []).getD off default).list=aN y (cellT e (l.getD n.toNat (dflt e)) off y):=by rw[H];exact OX L T (Z1 _) (by omega)
    show S.v (.one (.p zv zv (hdr (((aN e l).getD (P.int .i64 n).nat []).getD off default).list)))=S.v (.one (.p zv zv (dH ⟨.sl xI,ab6 _⟩)));rw[aij,key];unfold hdr;rw[fE,Kf]
   .cases h
  .cases h
 .cases h
theorem aeI(t:TypeId)(x:Operand):Lp tt ety d o f (.load t x) ty:=by
 intro r h;simp only[jS]at h;split at h
 .obtain ⟨r',q,M⟩:=XM h;exact⟨[(0,0)],r',q,M⟩
 split at h
 .rename_i i g n off ht hx;have B:bI (f x)=.v (.one (.ep g (.int .i64 n) off)):=by rw[hx];rfl
  have T:(P.int .i64 n).nat=n.toNat:=rfl;split at h
  .rename_i a0 i0 U N l0 H X;have hg:dh o g=.aP a0 i0 (size U) (gW N) (aN U l0) H:=by simp[dh,X,d_]
   obtain⟨J,h⟩:=bZ h;obtain⟨J,h3⟩:=jg J;obtain⟨q,M⟩:=jg J;have q:=Wt q;split at h
   .rename_i b;cases h;refine⟨[],?_⟩;simp only[dX,Ua,cond_false,ht,B,hg];rw[QR ⟨q,N_ M⟩];have w:jE (gW N) off i.size=[]:=by rw[rY,b];rfl
    simp only[w];refine⟨_,rfl,⟨λ_=>trivial,?_,rfl,rfl⟩⟩;simp only[EZ.pure,mg];congr 1;rw[T];exact QW U l0 n.toNat off i.size i.zero q h3 a0 i0
   .rename_i c K b;split at h
    .rename_i a Y e au l hh;split at h
     .rename_i y;obtain⟨y,hz⟩:=jg y;obtain⟨Z,z⟩:=jg y;have z:=Wt z;cases h;obtain⟨k1,k2⟩:=rG hh;obtain⟨c1,c2,c3⟩:=vN Z;have m:off<=c/\c<off+i.size:=by
       have hm:(c,size K)∈jE (gW N) off i.size:=by rw[rY,b];simp[gW]
       have:=(v8.1 hm).2;simp only[X1,Nat.ble_eq,Nat.blt_eq]at this;exact this
      refine⟨[],?_⟩;simp only[dX,Ua,cond_false,ht,B,hg];rw[QR ⟨q,N_ M⟩];rw[hg]at k2;have w:jE (gW N) off i.size=[(c,size K)]:=by rw[rY,b];rfl
      simp only[w,k1];refine⟨_,rfl,⟨λ_=>trivial,?_,?_,rfl⟩⟩
      .simp only[mg];congr 1;rw[T];have key:=QW e l n.toNat off i.size i.zero z hz a Y;simp only[P.list];rw[List.map_set,<-key];apply qn;intro j;rw[KM];simp only[Z2,We,qr];by_cases hj:j<i.size
       .rw [qS hj];by_cases L:c-off=j
        .rw [QR L,QR (by omega)];have:Nat.beq (off+j) c=zj:=by simp;omega
         simp only[W7,this,if_true];rfl
        .rw [QP L];have:Nat.beq (off+j) c=zv:=by
          cases J:Nat.beq (off+j) c with
          |false=>rfl
          |true=>have:=Q6 J;omega
         simp only[W7,this,Wb,if_false]
       .rw [Vn (by simp;omega),QP (by omega)];rfl
      .have key:(((aN e l).getD n.toNat []).getD c default).list=aN K (cellT e (l.getD n.toNat (dflt e)) c K):=OX hz c2 m.1 m.2;show (g,O.aP a Y (size e) (gW au) (aN e l) (zw ((P.int .i64 n).nat,c,d)))::(d,O.arr zv a Y (size K) ((((aN e l).getD (P.int .i64 n).nat []).getD c default).list))::kills _=je (_::_::mG _);rw[rE,rE,rF,k2,T,key];rfl
     .cases h
    .cases h
   .cases h
  .cases h
 .cases h
theorem Lr{g:Nat}{l:List Nat}:(!gy g l)=zj->l.contains g=zv:=by intro h;rw[bU]at h;simpa using h
theorem pV:∀{a b:List (Nat×Ty)},Ih a b=zj->a=b
 | [],[],_=>rfl
 | [],_::_,h=>by cases h
 |_::_,[],h=>by cases h
 |(c,t)::r,(g,j)::m,h=>by simp only[Ih,X1]at h;rw[Q6 h.1.1,zk h.1.2,pV h.2]
theorem ab7(t:TypeId)(x y:Operand):Lp tt ety d o f (.store t x y) ty:=by
 intro r h;simp only[jS]at h;split at h
 .rename_i i g n off Z ht hx hy;have hx':bI (f x)=.v (.one (.ep g (.int .i64 n) off)):=by rw[hx];rfl
  have hy':bI (f y)=.v (kE Z):=by rw[hy];rfl
  have en:(P.int .i64 n).nat=n.toNat:=rfl;split at h
  .rename_i a0 i0 b m H J L;have hg:dh o g=.aP a0 i0 (size b) (gW m) (aN b H) J:=by simp[dh,L,d_]
   split at h
   .rename_i ps a' i' gs es hD;obtain⟨q,h⟩:=bZ h;obtain⟨q,h6⟩:=jg q;obtain⟨q,h5⟩:=jg q;obtain⟨q,h4⟩:=jg q;obtain⟨q,h3⟩:=jg q;obtain⟨h1,h2⟩:=jg q;have h1:=Wt h1;have h2:=Q6 h2;obtain⟨k1,k2,k3⟩:=Ed (col':=λj=>(gW m).lookup j) (λj=>FW j m) hD;have hl:ps.length=i.size:=by have:=W3 List.length k2;simp[kT]at this;omega
    have hgl:gs.contains g=zv:=Lr h4;have M:off+i.size<=size b/\(Z.words.map cZ).length=i.size/\(kE Z).solid=zj/\gs.contains g=zv/\uD (es.map (·.2))=zj/\Fj (es.map (·.2)) gs=zj:=⟨h1,by rw[We];exact h2,vP _ h3,hgl,h5,h6⟩
    have key :∀(pre:Bool) (w:Prop) (a i1:Bool) (e:Ty) (l:List (Dt e)) (T:Option (Nat×Nat×Nat)) (U:List Nat),e=b->(pre=zj->w)->
      gJ { pre,t:=.sl e,val:=List.set l n.toNat (N7 e (Nat.beq i.size (size e)) (l.getD n.toNat (dflt e)) off ps),dst:=λ_=>.no,aK:=λz=>(g,.aP (a||a') (i1||i') e m z T)::mG (es.map (·.2))++mG U++gs.map (mP o),new:=[] }
       (.mk w (.sl (size b) ((aN e l).set (P.int .i64 n).nat (aZ ((aN e l).getD (P.int .i64 n).nat []) off (ps.map dH)))) (λ_=>.no)
        (λz=>(g,.aP (a||a') (i1||i') (size b) (gW m) z.list T)::kills (es.map (·.2))++kills U++gs.map (Fw.bf (dh o))) []):=by
     intro pre w a i1 e l T U he N;subst he;refine⟨N,rfl,?_,rfl⟩;show (g,O.aP (a||a') (i1||i') (size e) (gW m) ((aN e l).set (P.int .i64 n).nat (aZ ((aN e l).getD (P.int .i64 n).nat []) off (ps.map dH))) T)::kills (es.map (·.2))++kills U++gs.map (Fw.bf (dh o))=je ((_::mG _)++mG _++_);rw[mF,mF,rE,rF,rF,qB k3,en];have X:=Ig (e:=e) (l:=l) (n:=n.toNat) (off:=off) (ps:=ps) (by rw[hl];exact k2) (by omega);rw[hl]at X;rw[<-X];rfl
    have c:=rY off i.size m;have hk:dX tt [] d (dh o) (λx=>bI (f x)) (.store t x y) ty=dX tt [] d (dh o) (λx=>bI (f x)) (.store t x y) ty:=rfl;refine⟨[],?_⟩;simp only[dX,ht,hx',hy',hg,vO,k1];rw[QR M];split at h
    .rename_i K;cases h;have c:jE (gW m) off i.size=[]:=by rw[c,K];rfl
     simp only[c];exact⟨_,rfl,key zj True a0 i0 b H J [] rfl λ_=>trivial⟩
    .rename_i c0 cs K;have c:jE (gW m) off i.size=(c0.1,size c0.2)::gW cs:=by rw[c,K];rfl
     simp only[c];split at h
     .cases h;exact⟨_,rfl,key zj True a0 i0 b H zz [] rfl λ_=>trivial⟩
     .rename_i n0 Y d0 _;have over :∀(r:uO),(bif Nat.ble off Y&&Nat.blt Y (off+i.size)then zw
         ({ pre:=Nat.beq n0 n.toNat,t:=.sl b,val:=List.set H n.toNat (N7 b (Nat.beq i.size (size b)) (H.getD n.toNat (dflt b)) off ps),dst:=λ_=>.no,aK:=λz=>(g,.aP (a0||a') (i0||i') b m z zz)::mG (es.map (·.2))++mG []++gs.map (mP o),new:=[] }:uO)else zz)=zw r->
        (off<=Y/\Y<off+i.size)/\gJ r (.mk (n0=(P.int .i64 n).nat) (.sl (size b) ((aN b H).set (P.int .i64 n).nat (aZ ((aN b H).getD (P.int .i64 n).nat []) off (ps.map dH)))) (λ_=>.no)
         (λz=>(g,.aP (a0||a') (i0||i') (size b) (gW m) z.list zz)::kills (es.map (·.2))++kills []++gs.map (Fw.bf (dh o))) []):=by
       intro r hr;obtain⟨q,hr⟩:=bZ hr;cases hr;obtain⟨q1,q2⟩:=jg q;exact⟨⟨Wt q1,Wt q2⟩,key _ _ a0 i0 b H zz [] rfl λX=>by rw[en];exact Q6 X⟩
      split at h
      .rename_i a i1 e iP l hh;obtain⟨j1,j2⟩:=rG hh;simp only[j1];split at h
       .rename_i B;obtain⟨q1,q2⟩:=jg B;split at h
        .rename_i hty;cases h;rw[QR ⟨Lr q1,Lr q2⟩];exact⟨_,rfl,key zj True a i1 e l zz [d0] (zk hty) λ_=>trivial⟩
        .cases h
       .rename_i B;obtain⟨q1,q2⟩:=over r h;rw[QP (by rintro ⟨z1,z2⟩;rw[<-bU]at z1 z2;rw[z1,z2]at B;cases B),QR q1]
        exact⟨_,rfl,q2⟩
      .split at h
       .cases h
       .rename_i har;obtain⟨q1,q2⟩:=over r h;simp only[XL L har];rw[QR q1];exact⟨_,rfl,q2⟩
   .cases h
  .cases h
 .cases h
theorem Oa(t:TypeId)(n c:Operand):Lp tt ety d o f (.makeSlice t n c) ty:=by
 intro r h;simp only[jS]at h;split at h
 .rename_i e i1 i2 i3 K j1 b a2 j2 w L hn M;change Int at b;change Int at w;have y:bI (f n)=.v (.one (.p K j1 (.int .i64 b))):=by rw[hn];rfl
  have z:bI (f c)=.v (.one (.p a2 j2 (.int .i64 w))):=by rw[M];rfl
  split at h
  .rename_i B et N T;split at h
   .cases h
   .rename_i AX m U;split at h
    .rename_i X q;obtain⟨Y,h⟩:=bZ h;cases h;obtain⟨Z,h2⟩:=jg Y;have H:=Q6 h2;obtain⟨J,k2,_⟩:=Ed (col':=λj=>(gW (AX::m)).lookup j) (λj=>FW j (AX::m)) q;rw[xH]at J;refine⟨gW (AX::m),?_⟩;have g:gW (AX::m)=(AX.1,size AX.2)::gW m:=rfl;simp only[dX,L,y,z,g,N];rw[g]at J;simp only[J];rw[QR (N_ Z)];refine⟨_,rfl,⟨λq=>?_,rfl,?_,rfl⟩⟩
     .have q:BR B.bytes b w=zj:=q;simp only[BR,X1,Wa]at q;obtain⟨⟨⟨q1,q2⟩,q3⟩,q4⟩:=q;exact⟨b.toNat,w.toNat,by congr 1;omega,by congr 1;omega,by omega,by
       have:((B.bytes*w.toNat:Nat):Int)<=281474976710656:=by rw[Int.natCast_mul,JP (by omega)];exact q3
       omega,by omega⟩
     .show [(d,O.aP zv zv B.size ((AX.1,size AX.2)::gW m) (List.replicate (P.int .i64 b).nat (X.map dH)) zz)]=je [(d,_)];have en:(P.int .i64 b).nat=b.toNat:=rfl;rw[rE,en];simp only[d_,g,H,aN,List.map_replicate,xG k2];rfl
    .cases h
  .cases h
 .cases h
theorem Ls(t:TypeId)(n:Nat)(ps:Array (Nat×Operand)):Lp tt ety d o f (.buildSlice t n ps) ty:=by
 intro r h;simp only[jS]at h;split at h
 .rename_i e i1 i2 i3 z;split at h
  .rename_i q B H J;split at h
   .cases h
   .rename_i AX c K;split at h
    .rename_i ws L;split at h
     .rename_i w a i gs es M;obtain⟨g,h⟩:=bZ h;cases h;obtain⟨g,N⟩:=jg g;obtain⟨g,T⟩:=jg g;obtain⟨U,X⟩:=jg g;have m:=Q6 X;have:=Ec L;rw[Lm,xH]at this;have b:gW (AX::c)=(AX.1,size AX.2)::gW c:=rfl;obtain⟨Y,Z,k3⟩:=Ed (col':=λj=>((AX.1,size AX.2)::gW c).lookup (j % q.size)) (λj=>by rw[<-b];exact FW (j % q.size) (AX::c)) M;refine⟨gW (AX::c),?_⟩;simp only[dX,z,b,H,FT,this,Y];rw[QR ⟨Wt U,T,N⟩];refine⟨_,rfl,⟨λ_=>trivial,rfl,?_,rfl⟩⟩;show (d,O.aP a i q.size ((AX.1,size AX.2)::gW c) (chunks q.size n (w.map dH)) zz)::kills (es.map (·.2))++gs.map (Fw.bf (dh o))=je ((_::mG _)++_);rw[mF,rE,rF,qB k3];have y:=BZ B n w Z;rw[m]at y;simp only[d_,b,m];rw[<-y]
     .cases h
    .cases h
  .cases h
 .cases h
theorem XO(args:Array Operand)(ts:Array TypeId):Lp tt ety d o f (.call { callee:=.builtin .append,args:=args,argTypes:=ts }) ty:=by
 intro r h;simp only[jS]at h;split at h
 .rename_i s x sT xT rest ha w;split at h
  .rename_i e i1 i2 i3 e' j1 j2 j3 y g2 z B hs hx;have H:bI (f s)=.v (.one (cZ y)):=by rw[hs];rfl
   have J:bI (f x)=.v (.one (.own g2)):=by rw[hx];rfl
   split at h
   .rename_i ie a2 i2' c Y new he hh;obtain⟨K,m⟩:=rG hh;split at h
    .rename_i pre a i q Z b;obtain⟨L,h⟩:=bZ h;cases h;obtain⟨L,h3⟩:=jg L;obtain⟨h1,h2⟩:=jg L;have M:=Q6 h2;have N:ie.bytes≠0:=λe=>by rw[e]at h1;cases h1
     have hB :∃ask src,baseD (dh o) (cZ y)=zw (ask,a,i,aN c q,Z,src)/\(src=zz\/src=zw (size c,gW Y))/\(pre=zj->ask):=by
      cases y with
      |dJ=>simp only[UZ,Q0,QQ]at b;obtain⟨rfl,rfl,rfl,rfl,rfl⟩:=b;exact⟨True,zz,rfl,.inl rfl,λ_=>trivial⟩
      |own g=>
       simp only[UZ]at b;split at b
       .rename_i a1 i1 e1 T l hg;obtain⟨q1,q2⟩:=rG hg;split at b
        .rename_i l1 j U;cases b;obtain⟨X,j⟩:=pU j;cases X;subst j;have:=pV U;subst this;exact⟨True,zw (size c,gW T),by simp only[cZ,baseD,q1,q2],.inr rfl,λ_=>trivial⟩
        .cases b
       .cases b
      |vw g lo hi=>
       simp only[UZ]at b;split at b
       .rename_i a1 i1 e1 T l hg;obtain⟨q1,q2⟩:=rG hg;split at b
        .rename_i l1 j U;cases b;obtain⟨X,j⟩:=pU j;cases X;subst j;have:=pV U;subst this;refine⟨P.int .i64 lo=lQ 0,zw (size c,gW T),by simp only[cZ,baseD,q1,q2,qU],.inr rfl,λh=>?_⟩;have h:lo=0:=by simpa using h
         subst h;rfl
        .cases b
       .cases b
      |_=>simp[UZ]at b
     obtain⟨ask,src,q1,q2,q3⟩:=hB;refine⟨[],?_⟩;simp only[dX,ha,w,z,B,H,J,he,q1,K];rw[QR ⟨N,M,q2,by rw[m];exact h3⟩];refine⟨_,rfl,⟨λhp=>?_,rfl,?_,rfl⟩⟩
     .obtain ⟨p1,p2⟩:=jg hp;refine⟨q3 p1,?_⟩;rw[fE,fE];simpa using p2
     .show (d,O.aP (a||a2) (i||i2') (size c) (gW Y) (aN c q++aN c new) zz)::kills (Z++g2::(dh o g2).hn)=je (_::mG _);rw[rE,rF,m,<-zo];rfl
    .cases h
   .cases h
  .cases h
 .cases h
theorem ab8(t:TypeId)(x:Operand)(lo hi M:Option Operand):Lp tt ety d o f (.slice t x lo hi M) ty:=by
 intro r h;cases lo with
 |some _=>simp[jS]at h
 |none=>
 cases M with
 |some _=>simp[jS]at h
 |none=>
 simp only[jS]at h;split at h
 .cases h
 .split at h
  .rename_i e i1 i2 i3 g N T;have w:bI (f x)=.v (.one (.own g)):=by rw[T];rfl
   split at h
   .rename_i U a i b l z hg;change List (Dt b)at l;obtain⟨B,h⟩:=bZ h;split at h
    .rename_i c j;cases h;have H:=mV j;have m:dh o g=.arr zv a i (size b) (aN b l):=iM hg;refine⟨[],?_⟩;have J:lQ (aN b l).length=P.int .i64 (List.length (α:=Dt b) l:Int):=by rw[fE];rfl
     simp only[dX,N,w,z,m];rw[QR (Q6 B)];simp only[J,H];refine⟨_,rfl,⟨λK=>?_,rfl,?_,rfl⟩⟩
     .obtain ⟨q,y⟩:=jg K;have q:=ZS q;have y:=ZS y;exact⟨c.toNat,by rw[JP q],by rw[fE];omega⟩
     .show [(d,O.arr zv a i (size b) ((aN b l).take (P.nat (.int .i64 c)))),(g,O.none)]=[(d,O.arr zv a i (size b) (aN b (List.take c.toNat l))),(g,O.none)];rw[qU]
    .cases h
   .rename_i U a i b L l z hg;change List (Dt b)at l;obtain⟨B,h⟩:=bZ h;split at h
    .rename_i c j;cases h;have H:=mV j;have m:dh o g=.aP a i (size b) (gW L) (aN b l) zz:=by simp[dh,hg,d_]
     refine⟨[],?_⟩;have J:lQ (aN b l).length=P.int .i64 (List.length (α:=Dt b) l:Int):=by rw[fE];rfl
     simp only[dX,N,w,z,m];rw[QR (Q6 B)];simp only[J,H];refine⟨_,rfl,⟨λK=>?_,rfl,?_,rfl⟩⟩
     .obtain ⟨q,y⟩:=jg K;have q:=ZS q;have y:=ZS y;exact⟨c.toNat,by rw[JP q],by rw[fE];omega⟩
     .show [(d,O.aP a i (size b) (gW L) ((aN b l).take (P.nat (.int .i64 c))) zz),(g,O.none)]=[(d,O.aP a i (size b) (gW L) (aN b (List.take c.toNat l)) zz),(g,O.none)];rw[qU]
    .cases h
   .cases h
  .cases h
theorem U1(op:Op):Lp tt ety d o f op ty:=by
 cases op
 case load t x=>exact aeI t x
 case store t x y=>exact ab7 t x y
 case buildSlice t n g=>exact Ls t n g
 case makeSlice t n c=>exact Oa t n c
 case slice t x lo j m=>exact ab8 t x lo j m
 case call c=>
  obtain⟨callee,args,ts⟩:=c;cases callee
  case builtin b=>
   cases b
   case append=>exact XO args ts
   all_goals (intro r h;simp[jS]at h)
  all_goals (intro r h;simp[jS]at h)
 all_goals (intro r h;simp[jS]at h)
end
end
end Go.Fg

namespace Go.Fg
open Go.Fw
inductive Prog:Type->Type 1 where
 |ret {R:Type} (r:R):Prog R
 |stuck {R:Type} (n:Nat):Prog R
 |cond {R:Type} (b:Bool) (x y:Prog R):Prog R
 |chk {R:Type} (b:Bool) (x:Prog R):Prog R
 |any {R:Type} (x y:Prog R):Prog R
 |let_ {A R:Type} (x:A) (k:A->Prog R):Prog R
 |join {A R:Type} (x:Prog A) (k:A->Prog R):Prog R
 |OY {A R:Type} (x:Prog (A ⊕ R)) (k:A->Prog R):Prog R
 |loop {A R:Type} (a:A) (body:A->Prog (A ⊕ R)):Prog R
 |call {A B R:Type} (n:Nat) (f:A->Option B) (a:A) (k:B->Prog R):Prog R
def Prog.map:{R R':Type}->(R->R')->Prog R->Prog R'
 |_,_,f,.ret r=>.ret (f r)
 |_,_,_,.stuck n=>.stuck n
 |_,_,f,.cond b x y=>.cond b (x.map f) (y.map f)
 |_,_,f,.chk b x=>.chk b (x.map f)
 |_,_,f,.any x y=>.any (x.map f) (y.map f)
 |_,_,f,.let_ x k=>.let_ x λz=>(k z).map f
 |_,_,f,.join x k=>.join x λz=>(k z).map f
 |_,_,f,.OY x k=>.OY (x.map (Sum.map id f)) λz=>(k z).map f
 |_,_,f,.loop a body=>.loop a λz=>(body z).map (Sum.map id f)
 |_,_,f,.call n g a k=>.call n g a λz=>(k z).map f
def kC{A R:Type}(body:A->Option (A ⊕ R)):Nat->A->Option R
 |0,_=>zz
 |n+1,a=>(body a).bind λ
  |.inl b=>kC body n b
  |.inr r=>zw r
open Classical in
noncomputable def bn{A R:Type}(body:A->Option (A ⊕ R))(a:A):Option R:=if h :∃n r,kC body n a=zw r then kC body (Classical.choose h) a else zz
open Classical in
noncomputable def both{R:Type}(x y:Option R):Option R:=if x=y then x else zz
def ck{R:Type}(b:Bool)(x:Option R):Option R:=bif b then x else zz
def dN{A R:Type}(x:Option (A ⊕ R))(k:A->Option R):Option R:=x.bind λ
 |.inl z=>k z
 |.inr r=>zw r
def bT(x:Int):Int:=IntKind.i64.wrap x
noncomputable def Prog.run:{R:Type}->Prog R->Option R
 |_,.ret r=>zw r
 |_,.stuck _=>zz
 |_,.cond b x y=>bif b then x.run else y.run
 |_,.chk b x=>ck b x.run
 |_,.any x y=>both x.run y.run
 |_,.let_ x k=>(k x).run
 |_,.join x k=>x.run.bind λz=>(k z).run
 |_,.OY x k=>dN x.run λz=>(k z).run
 |_,.loop a body=>bn (λz=>(body z).run) a
 |_,.call _ g a k=>(g a).bind λz=>(k z).run
section
variable [RE]
inductive kG where
 |p (a i:Bool) (t:Ty)
 |dJ
 |own (g:Nat)
 |box (g off:Nat)
 |fn (f:FuncId) (gs:List Nat)
 |oD (g:Nat)
 |no
 |vw (g:Nat)
 |ep (g off:Nat)
inductive lq where
 |one (x:kG)
 |agg (xs:List kG)
inductive iY where
 |box (ws:List kG)
 |arr (fz a i:Bool) (e:Ty)
 |it
 |aP (a i:Bool) (e:Ty) (au:List (Nat×Ty))
structure OZ where
 slots:List (Nat×lq)
 bG:List (Nat×iY)
def kG.er:kG->WS
 |.p a i _=>.p a i
 |.dJ=>.dJ
 |.own g=>.own g
 |.box g off=>.box g off
 |.fn f gs=>.fn f gs
 |.oD g=>.oD g
 |.no=>.no
 |.vw g=>.vw g
 |.ep g off=>.ep g off
def lq.er:lq->SS
 |.one x=>.one x.er
 |.agg xs=>.agg (xs.map kG.er)
def iY.er:iY->OS
 |.box b=>.box (b.map kG.er)
 |.arr c a i e=>.arr c a i (size e)
 |.it=>.it
 |.aP a i e d=>.aP a i (size e) (gW d)
def OZ.er(j:OZ):Shape:=⟨j.slots.map λp=>(p.1,p.2.er),j.bG.map λp=>(p.1,p.2.er)⟩
def kG.tys:kG->List Ty
 |.p _ _ t=>[t]
 |.vw _=>[.int .i64,.int .i64]
 |.ep _ _=>[.int .i64]
 |_=>[]
def lq.tys:lq->List Ty
 |.one x=>x.tys
 |.agg xs=>xs.flatMap kG.tys
def iY.tys:iY->List Ty
 |.box b=>b.flatMap kG.tys
 |.arr _ _ _ e=>[.sl e]
 |.it=>[.str,.int .i64]
 |.aP _ _ e _=>[.sl e]
def OZ.tys(j:OZ):List Ty:=j.slots.flatMap (λp=>p.2.tys)++j.bG.flatMap λp=>p.2.tys
def Tup:List Ty->Type
 | []=>Unit
 | [t]=>Dt t
 |t::u::ts=>Dt t×Tup (u::ts)
def Tup.m_:(ts:List Ty)->Tup ts->List Wd
 | [],_=>[]
 | [t],x=>[⟨t,x⟩]
 |t::u::ts,x=>⟨t,x.1⟩::Tup.m_ (u::ts) x.2
def Tup.ofL:(ts:List Ty)->List Wd->Option (Tup ts)
 | [],[]=>zw ()
 | [t],[w]=>w.Df t
 |t::u::ts,w::b=>match w.Df t,Tup.ofL (u::ts) b with
  |some x,zw xs=>zw (x,xs)
  |_,_=>zz
 |_,_=>zz
def Jl(m:Ren):List Nat->List TW->Bool
 | [],[]=>zj
 |g'::gs,.box g off::b=>decide (m.lookup g'=zw (zw g))&&(Nat.beq off 0&&Jl m gs b)
 |_,_=>zv
def FX:List Nat->List TW
 | []=>[]
 |g::gs=>.box g 0::FX gs
def FY(m:Ren):kG->TW->Option (List Wd)
 |.p a i t,.p d h w=>match w.Df t with
  |some _=>bif(imp d a&&imp h i)||w.t.flat then zw [w]else zz
  |none=>zz
 |.p _ _ t,.dJ=>match t with
  |.sl e=>zw [vK e []]
  |_=>zz
 |.dJ,.dJ=>zw []
 |.own g',.own g=>if m.lookup g'=zw (zw g)then zw []else zz
 |.own g',.dJ=>if m.lookup g'=zw zz then zw []else zz
 |.box g' off,.box g b=>if m.lookup g'=zw (zw g)/\off=b then zw []else zz
 |.fn f gs,.clo j c=>bif Nat.beq f j&&Jl m gs c then zw []else zz
 |.oD g',.oD g=>if m.lookup g'=zw (zw g)then zw []else zz
 |.no,_=>zw []
 |.vw g',.vw g lo q=>if m.lookup g'=zw (zw g)then zw [jv .i64 lo,jv .i64 q]else zz
 |.ep g' off,.ep g n b=>if m.lookup g'=zw (zw g)/\off=b then zw [jv .i64 n]else zz
 |_,_=>zz
def zq(m:Ren):List kG->List TW->Option (List Wd)
 | [],[]=>zw []
 |k::b,x::xs=>match FY m k x,zq m b xs with
  |some u,zw v=>zw (u++v)
  |_,_=>zz
 |_,_=>zz
def aik(m:Ren):lq->TS->Option (List Wd)
 |.one k,.v (.one x)=>FY m k x
 |.agg b,.v (.agg xs)=>zq m b xs
 |_,_=>zz
def XP(m:Ren):iY->TO->Option (List Wd)
 |.box j,.box xs=>zq m j xs
 |.arr q a i e,.arr c d g h l=>match (vK h l).Df (.sl e)with
  |some l=>if q=c/\(imp d a&&imp g i)=zj then zw [vK e l]else zz
  |none=>zz
 |.it,.it s n=>zw [UM s,jv .i64 n]
 |.aP a i e w,.aP d g h y l b=>match b,(vK h l).Df (.sl e),Ih w y with
  |none,zw l,zj=>if(imp d a&&imp g i)=zj then zw [vK e l]else zz
  |_,_,_=>zz
 |_,_=>zz
def oO(m:Ren)(s:Nat->TS):List (Nat×lq)->Option (List Wd)
 | []=>zw []
 |(t,k)::rest=>match aik m k (s t),oO m s rest with
  |some u,zw v=>zw (u++v)
  |_,_=>zz
def qW(m:Ren)(o:Nat->TO):List (Nat×iY)->Option (List Wd)
 | []=>zw []
 |(g',k)::rest=>match (match m.lookup g' with
   |some (zw g)=>XP m k (o g)
   |some zz=>(match k with
    |.arr zv _ _ e=>zw [vK e []]
    |.aP _ _ e _=>zw [vK e []]
    |_=>zz)
   |none=>zz),qW m o rest with
  |some u,zw v=>zw (u++v)
  |_,_=>zz
def Ee(j:OZ)(m:Ren)(st:jI):Option (List Wd):=
 match j.er.ok&&aky j.er m with
 |true=>match oO m st.gs j.slots,qW m st.go j.bG with
  |some u,zw v=>zw (u++v)
  |_,_=>zz
 |false=>zz
def B_:Wd:=⟨.bool,zv⟩
def Cb(vs:List Wd)(n:Nat):kG->TW×Nat
 |.p a i _=>(.p a i (vs.getD n B_),n+1)
 |.dJ=>(.dJ,n)
 |.own g=>(.own g,n)
 |.box g off=>(.box g off,n)
 |.fn f gs=>(.clo f (FX gs),n)
 |.oD g=>(.oD g,n)
 |.no=>(.no,n)
 |.vw g=>(.vw g ((vs.getD n B_).as (.int .i64)) ((vs.getD (n+1) B_).as (.int .i64)),n+2)
 |.ep g off=>(.ep g ((vs.getD n B_).as (.int .i64)) off,n+1)
def vT(vs:List Wd):Nat->List kG->List TW×Nat
 |n,[]=>([],n)
 |n,k::b=>((Cb vs n k).1::(vT vs (Cb vs n k).2 b).1,(vT vs (Cb vs n k).2 b).2)
def I_(vs:List Wd)(n:Nat):lq->TS×Nat
 |.one k=>(.v (.one (Cb vs n k).1),(Cb vs n k).2)
 |.agg b=>(.v (.agg (vT vs n b).1),(vT vs n b).2)
def FZ(vs:List Wd)(n:Nat):iY->TO×Nat
 |.box b=>(.box (vT vs n b).1,(vT vs n b).2)
 |.arr c a i e=>(.arr c a i e ((vs.getD n B_).as (.sl e)),n+1)
 |.it=>(.it ((vs.getD n B_).as .str) ((vs.getD (n+1) B_).as (.int .i64)),n+2)
 |.aP a i e d=>(.aP a i e d ((vs.getD n B_).as (.sl e)) zz,n+1)
def h_(vs:List Wd):Nat->List (Nat×lq)->List (Nat×TS)×Nat
 |n,[]=>([],n)
 |n,(t,k)::rest=>((t,(I_ vs n k).1)::(h_ vs (I_ vs n k).2 rest).1,(h_ vs (I_ vs n k).2 rest).2)
def kH(vs:List Wd):Nat->List (Nat×iY)->List (Nat×TO)×Nat
 |n,[]=>([],n)
 |n,(g,k)::rest=>((g,(FZ vs n k).1)::(kH vs (FZ vs n k).2 rest).1,(kH vs (FZ vs n k).2 rest).2)
def mkT(j:OZ)(vs:List Wd):jI:=
 { s:=(h_ vs 0 j.slots).1,o:=(kH vs (h_ vs 0 j.slots).2 j.bG).1,u:=j.bG.map (·.1) }
def Y9:List Nat->List TW->Ren
 |g'::gs,.box g _::b=>(g',zw g)::Y9 gs b
 |_,_=>[]
def apx:kG->TW->Ren
 |.own g',.own g=>[(g',zw g)]
 |.own g',.dJ=>[(g',zz)]
 |.box g' _,.box g _=>[(g',zw g)]
 |.oD g',.oD g=>[(g',zw g)]
 |.fn _ gs,.clo _ b=>Y9 gs b
 |.vw g',.vw g _ _=>[(g',zw g)]
 |.ep g' _,.ep g _ _=>[(g',zw g)]
 |_,_=>[]
def aeJ:List kG->List TW->Ren
 |k::b,x::xs=>apx k x++aeJ b xs
 |_,_=>[]
def att:lq->TS->Ren
 |.one k,.v (.one x)=>apx k x
 |.agg b,.v (.agg xs)=>aeJ b xs
 |_,_=>[]
def U2(s:Nat->TS):List (Nat×lq)->Ren
 | []=>[]
 |(t,k)::r=>att k (s t)++U2 s r
def Jm(m:Ren)(o:Nat->TO):List (Nat×iY)->Ren
 | []=>[]
 |(g',.box b)::r=>(match m.lookup g' with
  |some (zw g)=>match o g with
   |.box c=>aeJ b c
   |_=>[]
  |_=>[])++Jm m o r
 |_::r=>Jm m o r
def derive(bH:List Nat)(j:OZ)(st:jI):Ren:=
 let b:=bH.map (λg=>(g,zw g))++U2 st.gs j.slots
 let c:=b++Jm b st.go j.bG
 c++Jm c st.go j.bG
structure dn where
 bC:Nat
 pin:OZ
 aW:OZ
 cO:Nat
 bH:List Nat
 aY:List Nat
 kept:List Nat:=[]
def dn.er(s:dn):A_:={ bC:=s.bC,pin:=s.pin.er,aW:=s.aW.er,cO:=s.cO,bH:=s.bH,aY:=s.aY }
open Classical in
noncomputable def zu{A R:Type}(x y:A)(r:Option R):Option R:=if x=y then r else zz
noncomputable def Lu{R:Type}(a b:Nat->TO)(r:R):List Nat->Option R
 | []=>zw r
 |g::gs=>match a g,b g with
  |.arr zv _ _ e l,.arr zv _ _ d h=>match (vK d h).Df (.sl e)with
   |some c=>zu (A:=List (Dt e)) c l (Lu a b r gs)
   |none=>zz
  |.aP _ _ e j l zz,.aP _ _ d m h zz=>match (vK d h).Df (.sl e),Ih j m with
   |some c,zj=>zu (A:=List (Dt e)) c l (Lu a b r gs)
   |_,_=>zz
  |_,_=>zz
structure aX where
 sig:dn
 f:Tup sig.pin.tys->Option (Tup sig.aW.tys)
noncomputable def aX.ff(s:aX):Tup s.sig.pin.tys->Option (Tup s.sig.aW.tys):=match s.sig.kept with
 | []=>s.f
 |g::gs=>λx=>(s.f x).bind λy=>Lu (mkT s.sig.pin (Tup.m_ s.sig.pin.tys x)).go (mkT s.sig.aW (Tup.m_ s.sig.aW.tys y)).go y (g::gs)
abbrev lK:=FuncId->Option aX
structure Ja where
 ins:List Wd
 A:Bool×Bool
 I:Bool×Bool
 wK:List Nat
 ren:List (Nat×Nat)
def qC:List Nat->List TW->Option (List (Nat×Nat))
 | [],[]=>zw []
 |g'::gs,.box g off::b=>bif Nat.beq off 0 then match qC gs b with
  |some r=>zw ((g',g)::r)
  |none=>zz
  else zz
 |_,_=>zz
def O1(o:Nat->TO):kG->TW->Option (List Wd×(Bool×Bool)×List Nat×List (Nat×Nat))
 |.p _ _ t,x=>match x.toP o t with
  |some (y,a,i,gs)=>zw ([⟨t,y⟩],(a,i),gs,[])
  |none=>zz
 |.own g',.own g=>zw ([],(zv,zv),[],[(g',g)])
 |.box g' b,.box g off=>bif Nat.beq b 0&&Nat.beq off 0 then zw ([],(zv,zv),[],[(g',g)])else zz
 |.fn f gs,.clo d c=>bif Nat.beq f d then match qC gs c with
  |some r=>zw ([],(zv,zv),[],r)
  |none=>zz
  else zz
 |_,_=>zz
def qO(o:Nat->TO):List kG->List TW->Option (List Wd×(Bool×Bool)×List Nat×List (Nat×Nat))
 | [],[]=>zw ([],(zv,zv),[],[])
 |k::b,x::xs=>match O1 o k x,qO o b xs with
  |some (u,c,g,r),zw (d,h,g',j)=>zw (u++d,yH c h,g++g',r++j)
  |_,_=>zz
 |_,_=>zz
def Y_(o:Nat->TO):lq->TS->Option (List Wd×(Bool×Bool)×List Nat×List (Nat×Nat))
 |.one k,.v (.one x)=>O1 o k x
 |.agg b,.v (.agg xs)=>qO o b xs
 |_,_=>zz
def oh(o:Nat->TO)(args:List TS):List (Nat×lq)->Option (List Wd×(Bool×Bool)×List Nat×List (Nat×Nat))
 | []=>zw ([],(zv,zv),[],[])
 |(t,k)::rest=>match Y_ o k (args.getD t .no),oh o args rest with
  |some (u,c,g,r),zw (b,d,g',h)=>zw (u++b,yH c d,g++g',r++h)
  |_,_=>zz
def amE:kG->TW->Option (List Wd×(Bool×Bool)×List (Nat×Nat))
 |.p _ _ t,.p a i w=>match w.Df t with
  |some x=>zw ([⟨t,x⟩],(a,i),[])
  |none=>zz
 |.p _ _ t,.dJ=>match t with
  |.sl e=>zw ([vK e []],(zv,zv),[])
  |_=>zz
 |.own g',.own g=>zw ([],(zv,zv),[(g',g)])
 |.box g' b,.box g off=>bif Nat.beq b 0&&Nat.beq off 0 then zw ([],(zv,zv),[(g',g)])else zz
 |.fn f gs,.clo d c=>bif Nat.beq f d then match qC gs c with
  |some r=>zw ([],(zv,zv),r)
  |none=>zz
  else zz
 |_,_=>zz
def LC:List kG->List TW->Option (List Wd×(Bool×Bool)×List (Nat×Nat))
 | [],[]=>zw ([],(zv,zv),[])
 |k::b,x::xs=>match amE k x,LC b xs with
  |some (u,c,r),zw (d,g,h)=>zw (u++d,yH c g,r++h)
  |_,_=>zz
 |_,_=>zz
def xJ(o:Nat->TO):List (Nat×Nat)->List (Nat×iY)->Option (List Wd×(Bool×Bool)×List (Nat×Nat))
 |ren,[]=>zw ([],(zv,zv),ren)
 |ren,(g',k)::rest=>match ren.lookup g' with
  |some g=>match k,o g with
   |.box q,.box w=>match LC q w with
    |some (u,c,r)=>match xJ o (ren++r) rest with
     |some (b,d,h)=>zw (u++b,yH c d,h)
     |none=>zz
    |none=>zz
   |.arr _ _ _ e,.arr zv a i m l=>match (vK m l).Df (.sl e)with
    |some l=>match xJ o ren rest with
     |some (b,d,h)=>zw (vK e l::b,yH (a,i) d,h)
     |none=>zz
    |none=>zz
   |.aP _ _ e y,.aP a i m z l j=>match j,(vK m l).Df (.sl e),Ih y z with
    |none,zw l,zj=>match xJ o ren rest with
     |some (b,d,h)=>zw (vK e l::b,yH (a,i) d,h)
     |none=>zz
    |_,_,_=>zz
   |_,_=>zz
  |none=>zz
def Ai(s:dn)(o:Nat->TO)(args:List TS):Option Ja:=
 match oh o args s.pin.slots with
 |some (u,A,gs,r)=>match xJ o r s.pin.bG with
  |some (b,I,c)=>zw { ins:=u++b,A,I,wK:=gs,ren:=kP c }
  |none=>zz
 |none=>zz
def Ja.er(c:Ja):Oy:={ ins:=c.ins.map dH,A:=c.A,I:=c.I,wK:=c.wK,ren:=c.ren }
def zx(f:Nat->Nat):List TW->List TW
 | []=>[]
 |.box g off::r=>.box (f g) off::zx f r
 |_::r=>.no::zx f r
def ab9(A I:Bool×Bool)(f:Nat->Nat):TW->TW
 |.p a i x=>.p (rW A I a i).1 (rW A I a i).2 x
 |.dJ=>.dJ
 |.own g=>.own (f g)
 |.box g off=>.box (f g) off
 |.clo fn b=>.clo fn (zx f b)
 |_=>.no
def amF(A I:Bool×Bool)(f:Nat->Nat):TV->TV
 |.one x=>.one (ab9 A I f x)
 |.agg xs=>.agg (xs.map (ab9 A I f))
def aeK(A I:Bool×Bool)(f:Nat->Nat):TS->TV
 |.v x=>amF A I f x
 |_=>.one .no
def Q9(A I:Bool×Bool)(f:Nat->Nat):TO->TO
 |.none=>.none
 |.box b=>.box (b.map (ab9 A I f))
 |.arr c a i e l=>.arr c (rW A I a i).1 (rW A I a i).2 e l
 |.it s n=>.it s n
 |.aP a i e d l _=>.aP (rW A I a i).1 (rW A I a i).2 e d l zz
structure jT where
 x:TS
 aK:List (Nat×TO)
 new:List Nat
def jT.er(e:jT):Eff:={ x:=bI e.x,aK:=je e.aK,new:=e.new }
def aeL(vs:List TV):TS:=match vs with
 | [x]=>.v x
 |xs=>.jq xs
def vU(s:dn)(d:Nat)(o:Nat->TO)(c:Ja)(dP:List Wd):jT:=
 let x:=mkT s.aW dP
 let f:=callName d s.er c.ren
 { x:=aeL ((List.range s.cO).map λk=>aeK c.A c.I f (x.gs k)),aK:=(bif s.er.nG then c.wK.map (mP o)else[])++c.ren.map (λp=>(p.2,bif s.bH.contains p.1 then Q9 c.A c.I f (x.go p.1)else .none))++s.aY.map (λg=>(f g,Q9 c.A c.I f (x.go g))),new:=s.aY.map f }
def amG:Bool->Bool->Bool
 |true,zj=>zj
 |false,zv=>zj
 |_,_=>zv
def XQ:TO->Option (Bool×Bool)
 |.arr c a i _ _=>match c with
  |true=>zz
  |false=>zw (a,i)
 |.aP a i _ _ _ b=>match b with
  |none=>zw (a,i)
  |some _=>zz
 |_=>zz
def Ef(s:dn)(o f:Nat->TO):List (Nat×Nat)->List Nat
 | []=>[]
 |(g',g)::r=>match gy g' s.kept&&s.bH.contains g',XQ (o g),XQ (f g')with
  |true,zw (a,i),zw (b,c)=>match amG a b&&amG i c with
   |true=>g::Ef s o f r
   |false=>Ef s o f r
  |_,_,_=>Ef s o f r
def O4(same:List Nat):List (Nat×TO)->List (Nat×TO)
 | []=>[]
 |(g,x)::r=>match gy g same with
  |true=>O4 same r
  |false=>(g,x)::O4 same r
def Aj(s:dn)(d:Nat)(o:Nat->TO)(c:Ja)(dP:List Wd):jT:=match s.kept with
 | []=>vU s d o c dP
 |_::_=>
  let e:=vU s d o c dP
  { e with aK:=O4 (Ef s o (λg'=>Q9 c.A c.I (callName d s.er c.ren) ((mkT s.aW dP).go g')) c.ren) e.aK }
def jT.skip:jT:={ x:=.jq [],aK:=[],new:=[] }
def Eh(l:List (Nat×TO)):List (Nat×TO)->List (Nat×TO)
 | []=>l
 |(g,x)::r=>zi g x (Eh l r)
structure kF where
 st:jI
 ds:List Nat
 od:List Nat
def jI.put(st:jI)(dst:Option Tmp)(x:TS):jI:=match dst with
 |some t=>{ st with s:=zi t x st.s }
 |none=>st
def kF.eff(q:kF)(dst:Option Tmp)(e:jT):kF:=
 { st:={ s:=(q.st.put dst e.x).s,o:=Eh q.st.o e.aK,u:=e.new++q.st.u },ds:=(match dst with|some t=>t::q.ds|none=>q.ds),od:=e.aK.map (·.1)++q.od }
def frB{β:Type 1}(b:Bool)(k:Bool->β):β:=match b with
 |true=>k zj
 |false=>k zv
def Q_{β:Type 1}:Ty->(Ty->β)->β
 |.int .i8,k=>k (.int .i8)
 |.int .i16,k=>k (.int .i16)
 |.int .i32,k=>k (.int .i32)
 |.int .i64,k=>k (.int .i64)
 |.int .u8,k=>k (.int .u8)
 |.int .u16,k=>k (.int .u16)
 |.int .u32,k=>k (.int .u32)
 |.int .u64,k=>k (.int .u64)
 |.bool,k=>k .bool
 |.str,k=>k .str
 |.sl e,k=>Q_ e λe=>k (.sl e)
 |.prod a b,k=>Q_ a λa=>Q_ b λb=>k (.prod a b)
 |.st n,k=>k (.st n)
 |.opq,k=>k .opq
 |.sq e,k=>Q_ e λe=>k (.sq e)
def frW{β:Type 1}:TW->(TW->β)->β
 |.p a i ⟨t,x⟩,k=>frB a λa=>frB i λi=>k (.p a i ⟨t,x⟩)
 |.dJ,k=>k .dJ
 |.own g,k=>k (.own g)
 |.vw g lo c,k=>k (.vw g lo c)
 |.box g off,k=>k (.box g off)
 |.ep g n off,k=>k (.ep g n off)
 |.sp a i t x off,k=>frB a λa=>frB i λi=>k (.sp a i t x off)
 |.clo f b,k=>k (.clo f b)
 |.gl g,k=>k (.gl g)
 |.oD g,k=>k (.oD g)
 |.no,k=>k .no
def aeN{β:Type 1}:List TW->(List TW->β)->β
 | [],k=>k []
 |x::xs,k=>frW x λx=>aeN xs λxs=>k (x::xs)
def frV{β:Type 1}:TV->(TV->β)->β
 |.one x,k=>frW x λx=>k (.one x)
 |.agg xs,k=>aeN xs λxs=>k (.agg xs)
def ail{β:Type 1}:List TV->(List TV->β)->β
 | [],k=>k []
 |x::xs,k=>frV x λx=>ail xs λxs=>k (x::xs)
def frS{β:Type 1}:TS->(TS->β)->β
 |.v x,k=>frV x λx=>k (.v x)
 |.jq xs,k=>ail xs λxs=>k (.jq xs)
 |.no,k=>k .no
def frC{β:Type 1}:List (Nat×Ty)->(List (Nat×Ty)->β)->β
 | [],k=>k []
 |(c,t)::r,k=>Q_ t λt=>frC r λr=>k ((c,t)::r)
def frH{β:Type 1}:Option (Nat×Nat×Nat)->(Option (Nat×Nat×Nat)->β)->β
 |none,k=>k zz
 |some (n,c,d),k=>k (zw (n,c,d))
def frO{β:Type 1}:TO->(TO->β)->β
 |.none,k=>k .none
 |.box c,k=>aeN c λc=>k (.box c)
 |.arr d a i e l,k=>frB d λd=>frB a λa=>frB i λi=>k (.arr d a i e l)
 |.it s n,k=>k (.it s n)
 |.aP a i e g l b,k=>frB a λa=>frB i λi=>frC g λg=>frH b λb=>k (.aP a i e g l b)
def ain{β:Type 1}:List (Nat×TS)->(List (Nat×TS)->β)->β
 | [],k=>k []
 |(t,x)::r,k=>frS x λx=>ain r λr=>k ((t,x)::r)
def aio{β:Type 1}:List (Nat×TO)->(List (Nat×TO)->β)->β
 | [],k=>k []
 |(t,x)::r,k=>frO x λx=>aio r λr=>k ((t,x)::r)
def Ob{β:Type 1}:List Nat->(List Nat->β)->β
 | [],k=>k []
 |x::r,k=>Ob r λr=>k (x::r)
def frX{β:Type 1}(q:kF)(k:kF->β):β:=ain q.st.s λs=>aio q.st.o λo=>Ob q.st.u λu=>Ob q.ds λds=>Ob q.od λod=>k ⟨⟨s,o,u⟩,ds,od⟩
def aeO:TS->Option Nat
 |.v (.one (.clo g _))=>zw g
 |_=>zz
def LD:List TS->Option Nat
 | []=>zz
 |x::l=>match aeO x with
  |some g=>zw g
  |none=>LD l
def F7(fn:Nat)(l:List TS):Nat:=match LD l with
 |some g=>fn+1000000*(g+1)
 |none=>fn
def Za(T:lK)(fn:Nat)(l:List TS):Option aX:=match Nat.blt fn 1000000 with
 |true=>match T (F7 fn l)with
  |some sp=>zw sp
  |none=>T fn
 |false=>zz
def pkT(T:lK)(fn:Nat)(l:List TS):Nat:=match T (F7 fn l)with
 |some _=>F7 fn l
 |none=>fn
def zy:List TW->List Nat
 | []=>[]
 |.box g _::r=>g::zy r
 |x::r=>(cZ x).names++zy r
def W.namesT:TW->List Nat
 |.own g|.vw g _ _|.box g _|.ep g _ _|.oD g=>[g]
 |.clo _ b=>zy b
 |_=>[]
def V.namesT:TV->List Nat
 |.one x=>W.namesT x
 |.agg xs=>xs.flatMap W.namesT
def S.namesT:TS->List Nat
 |.v x=>V.namesT x
 |.jq xs=>xs.flatMap V.namesT
 |.no=>[]
def U3:TO->Option Nat
 |.aP _ _ _ _ _ b=>match b with
  |some (_,_,d)=>zw d
  |none=>zz
 |_=>zz
def F8:TO->List Nat
 |.box b=>b.flatMap W.namesT
 |_=>[]
def Ei(o:Nat->TO):Nat->List Nat->List Nat
 |0,gs=>gs
 |n+1,gs=>gs++Ei o n (gs.flatMap λg=>F8 (o g))
def Ak(st:jI)(o:Oper):List Nat:=match o.op with
 |.call { callee:=.value _,args,.. }=>args.toList.flatMap λx=>S.namesT (st.dG x)
 |.slice _ x _ _ _=>S.namesT (st.dG x)
 |_=>[]
def Jo(st:jI)(o:Oper):List Nat:=Ei st.go 2 (Ak st o)
def Jp(st:jI)(o:Oper):List Nat:=(Jo st o).filter λg=>match jw (st.go g)with
 | []=>zv
 |d::_=>!gy d (Ak st o)
def LG:List Nat->jI->Option jI
 | [],st=>zw st
 |g::gs,st=>match U3 (st.go g),yA st.go g with
  |some d,zw ⟨a,i,e,b,l⟩=>LG gs { st with o:=Eh st.o [(g,.aP a i e b l zz),(d,.none)] }
  |_,_=>zz
def XR(hs:List Nat)(st st1:jI):List (Nat×TO):=hs.flatMap λg=>(g,st1.go g)::(jw (st.go g)).map λd=>(d,st1.go d)
noncomputable def Zb{R:Type}(T:lK)(tt:TT)(ety:TypeId->Option Ty)(d:Nat)(st:jI)(o:Oper)(K:jT->Prog R):Prog R:=
 match o.op with
 |.call { callee:=.value f,args,.. }=>match st.dG f with
  |.v (.one (.clo fn b))=>match Za T fn (args.toList.map st.dG)with
   |some sp=>match Ai sp.sig st.go ((args.toList.map st.dG)++b.map λx=>TS.v (.one x))with
    |some c=>match c.er.fine sp.sig.er&&Nat.beq (args.size+b.length) sp.sig.bC with
     |true=>match Tup.ofL sp.sig.pin.tys c.ins with
      |some x=>match sp.sig.er.ok with
       |true=>.call (pkT T fn (args.toList.map st.dG)) sp.ff x λy=>K (Aj sp.sig d st.go c (Tup.m_ sp.sig.aW.tys y))
       |false=>.stuck 17
      |none=>.stuck 11
     |false=>.stuck 12
    |none=>.stuck 13
   |none=>.stuck 14
  |_=>.stuck 15
 |op=>match jS tt ety d st.go st.dG op o.type with
  |some r=>.chk r.pre (.let_ r.val λz=>K { x:=r.dst z,aK:=r.aK z,new:=r.new })
  |none=>match eF tt ety d st.go st.dG op o.type with
   |some r=>.chk r.pre (.let_ r.val λz=>K { x:=r.dst z,aK:=r.aK z,new:=r.new })
   |none=>.stuck 16
noncomputable def ab_{R:Type}(T:lK)(tt:TT)(ety:TypeId->Option Ty)(d:Nat)(st:jI)(o:Oper)(K:jT->Prog R):Prog R:=
 match Jp st o with
 | []=>Zb T tt ety d st o K
 |g::gs=>match LG (g::gs) st with
  |some b=>Zb T tt ety d b o λe=>K { x:=e.x,aK:=e.aK++XR (g::gs) st b,new:=e.new }
  |none=>.stuck 18
def Cc(u:List Nat):List Nat->Bool
 | []=>zj
 |g::gs=>!gy g u&&Cc u gs
def XT(ops:Array Oper)(st:jI)(j:Nat):Option (Tmp×Option (Bool×Bool×Bool)):=
 match (ops[j]?).bind (·.dst)with
 |some t=>match st.gs t with
  |.v (.one (.p a i ⟨.bool,b⟩))=>zw (t,zw (a,i,b))
  |.jq []=>zw (t,zz)
  |_=>zz
 |none=>zz
def Zc(N:Nat):Option Tmp->Bool
 |some d=>Nat.blt d N
 |none=>zj
def kF.know(q:kF)(t:Tmp)(a i b:Bool):kF:={ q with st:={ q.st with s:=zi t (.v (.one (.p a i (jC b)))) q.st.s } }
def kF.U4(q:kF)(t:Tmp)(a i:Bool)(k:IntKind)(n:Int):kF:={ q with st:={ q.st with s:=zi t (.v (.one (.p a i (jv k n)))) q.st.s } }
def aeP(tt:TT)(st:jI)(t:TypeId)(x:Operand)(j:Tmp):Option (Bool×Bool×IntKind×Int×Nat):=
 match tt t with
 |some { k:=.arr n _,.. }=>match st.dG x with
  |.v (.one (.box _ _))=>match st.gs j with
   |.v (.one (.p a i ⟨.int k,v⟩))=>bif Nat.ble n 4 then zw (a,i,k,v,n)else zz
   |_=>zz
  |.v (.one (.ep _ _ _))=>match st.gs j with
   |.v (.one (.p a i ⟨.int k,v⟩))=>bif Nat.ble n 4 then zw (a,i,k,v,n)else zz
   |_=>zz
  |.v (.one (.sp _ _ _ _ _))=>match st.gs j with
   |.v (.one (.p a i ⟨.int k,v⟩))=>bif Nat.ble n 4 then zw (a,i,k,v,n)else zz
   |_=>zz
  |_=>zz
 |_=>zz
def amH(tt:TT)(st:jI)(o:Oper):Option (Tmp×Bool×Bool×IntKind×Int×Nat):=
 match o.op with
 |.indexAddr t x (.tmp j)=>match aeP tt st t x j with
  |some r=>zw (j,r)
  |none=>zz
 |_=>zz
def Zd{R:Type}(v:Int)(k:Int->Prog R):Nat->Nat->Prog R
 |_,0=>.stuck 24
 |m,1=>.chk (eqI v (Int.ofNat m)) (k (Int.ofNat m))
 |m,n+2=>.cond (eqI v (Int.ofNat m)) (k (Int.ofNat m)) (Zd v k (m+1) (n+1))
noncomputable def stepT{R:Type}(T:lK)(tt:TT)(ety:TypeId->Option Ty)(N:Nat)(ops:Array Oper)(o:Oper)(q:kF)(K:kF->jT->Prog R):Prog R:=
 match Zc N o.dst with
 |false=>.stuck 20
 |true=>match o.guard with
  |none=>match amH tt q.st o with
   |none=>ab_ T tt ety (o.dst.getD 0) q.st o λe=>match Cc q.st.u e.new with
    |true=>K q e
    |false=>.stuck 21
   |some (t,a,i,k,v,n)=>Zd v (λz=>frX (q.U4 t a i k z) λq=>ab_ T tt ety (o.dst.getD 0) q.st o λe=>match Cc q.st.u e.new with
    |true=>K q e
    |false=>.stuck 21) 0 n
  |some (j,want)=>match XT ops q.st j with
   |none=>.stuck 22
   |some (t,zz)=>K q jT.skip
   |some (t,zw (a,i,b))=>
    let on (q:kF):Prog R:=ab_ T tt ety (o.dst.getD 0) q.st o λe=>match Cc q.st.u e.new with
     |true=>K q e
     |false=>.stuck 21
    .cond b (frX (q.know t a i zj) λq=>bif want then on q else K q jT.skip) (frX (q.know t a i zv) λq=>bif want then K q jT.skip else on q)
inductive Rf where
 |yes
 |no
 |may (empty:Bool)
def LH(o:Nat->TO):TS->Option Rf
 |.v (.one (.p _ _ ⟨.sl e,l⟩))=>zw (.may (List.isEmpty (α:=Dt e) l))
 |.v (.one (.own g))=>match o g with
  |.arr _ _ _ _ l=>zw (.may l.isEmpty)
  |.aP _ _ _ _ l _=>zw (.may l.isEmpty)
  |_=>zz
 |.v (.one .dJ)=>zw .yes
 |_=>zz
def LJ(o:Nat->TO):TS->Option Rf
 |.v (.one (.box g _))=>match o g with
  |.box _=>zw .no
  |_=>zz
 |.v (.one (.p _ _ ⟨.opq,.pointer zz⟩))=>zw .yes
 |_=>zz
def Rh(o:Nat->TO)(x:TS)(k:TK)(c:Value):Option Rf:=
 match k,c with
 |.slice _,.slice zz 0 0=>LH o x
 |.ptr,.pointer zz=>LJ o x
 |_,_=>zz
def amI(tt:TT)(st:jI)(o:Oper):Option (Bool×Rf):=
 match o.guard with
 |some _=>zz
 |none=>match o.op with
  |.binOp op t x (.const c) _=>match tt t with
   |some i=>match op,Rh st.go (st.dG x) i.k c with
    |.eql,zw p=>zw (zj,p)
    |.neq,zw p=>zw (zv,p)
    |_,_=>zz
   |none=>zz
  |_=>zz
def Ri(s:List UInt8)(n:Int):Bool:=decide (n.toNat<s.length)
def j_(s:List UInt8)(n:Int):Int:=((Utf8.decode ⟨s.toArray⟩ n.toNat).1:Nat)
def rH(s:List UInt8)(n:Int):Int:=((n.toNat+(Utf8.decode ⟨s.toArray⟩ n.toNat).2:Nat):Int)
def U5(n:Int):Int:=((n.toNat:Nat):Int)
def aeQ(st:jI)(o:Oper):Option (Nat×List UInt8×Int):=
 match o.guard with
 |some _=>zz
 |none=>match o.op with
  |.next x zj=>match st.dG x with
   |.v (.one (.oD g))=>match st.go g with
    |.it s n=>zw (g,s,n)
    |_=>zz
   |_=>zz
  |_=>zz
def Rj(g:Nat)(s:List UInt8)(n:Int):jT:={ x:=.jq [.one (.p zv zv (jC zj)),.one (.p zv zv (jv .i64 (U5 n))),.one (.p zv zv (jv .i32 (j_ s n)))],aK:=[(g,.it s (rH s n))],new:=[] }
def XU:jT:={ x:=.jq [.one (.p zv zv (jC zv))],aK:=[],new:=[] }
def rZ(b:Bool):jT:={ x:=Y6 (jC b),aK:=[],new:=[] }
noncomputable def XV{R:Type}(T:lK)(tt:TT)(ety:TypeId->Option Ty)(N:Nat)(ops:Array Oper)(o:Oper)(q:kF)(K:kF->jT->Prog R):Prog R:=
 match amI tt q.st o with
 |some (pos,c)=>match Zc N o.dst with
  |false=>.stuck 23
  |true=>match c with
   |.yes=>K q (rZ pos)
   |.no=>K q (rZ (!pos))
   |.may e=>.cond e (.any (K q (rZ zj)) (K q (rZ zv))) (K q (rZ (!pos)))
 |none=>match aeQ q.st o with
  |some (g,s,n)=>match Zc N o.dst with
   |false=>.stuck 23
   |true=>.cond (Ri s n) (K q (Rj g s n)) (K q XU)
  |none=>stepT T tt ety N ops o q K
noncomputable def runT{R:Type}(T:lK)(tt:TT)(ety:TypeId->Option Ty)(N:Nat)(ops:Array Oper):List Oper->kF->(kF->Prog R)->Prog R
 | [],q,K=>K q
 |o::os,q,K=>XV T tt ety N ops o q λq e=>frX (q.eff o.dst e) λq=>runT T tt ety N ops os q K
def Ze(args:List TS):List (Nat×lq)->Bool
 | []=>zv
 |(t,_)::rest=>match args.getD t .no with
  |.no=>zj
  |.jq _=>zj
  |_=>Ze args rest
def XW(T:lK)(st:jI)(o:Oper):Option (List Nat):=
 match o.op with
 |.call { callee:=.value f,args,.. }=>match st.dG f with
  |.v (.one (.clo fn b))=>match Za T fn (args.toList.map st.dG)with
   |some sp=>match Ai sp.sig st.go ((args.toList.map st.dG)++b.map λx=>TS.v (.one x))with
    |some c=>zw (c.ren.map (·.2))
    |none=>bif Ze ((args.toList.map st.dG)++b.map λx=>TS.v (.one x)) sp.sig.pin.slots then zw []else zz
   |none=>zw []
  |_=>zw []
 |_=>zw []
def XY(T:lK)(st:jI)(o:Oper):Option (List Nat):=match XW T st o with
 |some r=>zw ((bif looks o.op then(o.op.operands.toList.flatMap λx=>(S.namesT (st.dG x)).flatMap λg=>g::jw (st.go g))else[])++r)
 |none=>zz
def aeR(T:lK)(st:jI)(o:Oper):Option (List Nat):=match LG (Jp st o) st with
 |some b=>match XY T b o with
  |some l=>zw (l++(Jo st o).flatMap λg=>g::jw (st.go g))
  |none=>zz
 |none=>zz
def aip{β:Type 1}:List (Nat×Nat)->(List (Nat×Nat)->β)->β
 | [],k=>k []
 |(a,b)::r,k=>aip r λr=>k ((a,b)::r)
def frF{β:Type 1}(f:uN)(k:uN->β):β:=Ob f.rd λrd=>Ob f.wr λwr=>Ob f.new λnew=>frH f.ld λld=>aip f.kp λkp=>frB f.pk λpk=>Ob f.kd λkd=>k ⟨rd,wr,new,ld,kp,pk,kd⟩
def aeS:TW->TW->Bool
 |.own g,.own g'=>Nat.beq g g'
 |.box g off,.box g' b=>Nat.beq g g'&&Nat.beq off b
 |_,_=>zv
def F9(g:Nat):Nat->List TW->List TW->Option (List (Nat×Nat))
 |_,[],[]=>zw []
 |j,x::xs,y::b=>match F9 g (j+1) xs b with
  |some r=>zw (match aeS x y with
   |true=>(g,j)::r
   |false=>r)
  |none=>zz
 |_,_,_=>zz
def XZ(g:Nat):TO->Option TO->List (Nat×Nat)
 |.box c,zw (.box b)=>match F9 g 0 c b with
  |some r=>r
  |none=>[]
 |_,_=>[]
def aeT(g:Nat):TO->Option TO->List (Nat×Nat)
 |.aP _ _ _ _ _ b,zw (.aP _ _ _ _ _ _)=>match b with
  |none=>[(g,5000000)]
  |some _=>[]
 |_,_=>[]
def kpT(st:jI)(o:Oper)(aK:List (Nat×TO)):List (Nat×Nat):=(bif nU o.op then(o.op.operands.toList.flatMap λx=>S.namesT (st.dG x)).map λg=>(g,0)else[]) ++
 (aK.map (·.1)).flatMap λg=>XZ g (st.go g) (aK.lookup g)++bif KP o.op then aeT g (st.go g) (aK.lookup g)else[]
def aeU:TO->Nat
 |.box _=>1
 |.arr _ _ _ _ _=>2
 |.aP _ _ _ _ _ _=>2
 |.it _ _=>3
 |.none=>0
def kdT(st:jI)(aK:List (Nat×TO)):List Nat:=(aK.map (·.1)).filterMap λg=>match aK.lookup g with
 |some x=>bif Nat.beq (aeU x) (aeU (st.go g))then zw g else zz
 |none=>zz
def ldT(tt:TT)(st:jI)(o:Oper):Option (Nat×Nat×Nat):=match o.op with
 |.load t x=>match tt t,st.dG x with
  |some i,.v (.one (.box g off))=>zw (g,off,i.size)
  |some i,.v (.one (.ep g _ off))=>match st.go g with
   |.aP _ _ _ b _ _=>bif(jE (gW b) off i.size).isEmpty then zw (g,5000000,1)else zz
   |_=>zz
  |_,_=>zz
 |_=>zz
noncomputable def runNT{R:Type}(T:lK)(tt:TT)(ety:TypeId->Option Ty)(N:Nat)(ops:Array Oper):List Oper->kF->List uN->(kF->List uN->Prog R)->Prog R
 | [],q,b,K=>K q b
 |o::os,q,b,K=>match aeR T q.st o with
  |none=>.stuck 25
  |some rd=>stepT T tt ety N ops o q λc e=>frF { rd,wr:=e.aK.map (·.1),new:=e.new,ld:=ldT tt q.st o,kp:=kpT q.st o e.aK,pk:=nU o.op,kd:=kdT q.st e.aK } λd=>frX (c.eff o.dst e) λq=>runNT T tt ety N ops os q (b++[d]) K
noncomputable def xK{R:Type}(T:lK)(tt:TT)(ety:TypeId->Option Ty)(N:Nat)(ops:Array Oper)(draw:Bool)(q:kF)(K:kF->Prog R):Prog R:=
 match draw with
 |false=>runT T tt ety N ops ops.toList q K
 |true=>runNT T tt ety N ops ops.toList q [] λq b=>match Y2 ops b with
  |true=>K q
  |false=>.stuck 24
inductive Md where
 |keep
 |sl (k:lq)
inductive Mo where
 |keep
 |ob (k:iY)
structure JT where
 slots:List (Nat×Md)
 bG:List (Nat×Mo)
def Ej:List TW->Option (List Nat)
 | []=>zw []
 |.box g off::b=>bif Nat.beq off 0 then match Ej b with
  |some gs=>zw (g::gs)
  |none=>zz
  else zz
 |_=>zz
def U6:TW->Option (kG×List Wd)
 |.p a i w=>zw (.p a i w.t,[w])
 |.dJ=>zw (.dJ,[])
 |.own g=>zw (.own g,[])
 |.box g off=>zw (.box g off,[])
 |.clo f b=>match Ej b with
  |some gs=>zw (.fn f gs,[])
  |none=>zz
 |.oD g=>zw (.oD g,[])
 |.vw g lo c=>zw (.vw g,[jv .i64 lo,jv .i64 c])
 |.ep g n off=>zw (.ep g off,[jv .i64 n])
 |_=>zz
def yB:List TW->Option (List kG×List Wd)
 | []=>zw ([],[])
 |x::xs=>match U6 x,yB xs with
  |some (k,u),zw (b,us)=>zw (k::b,u++us)
  |_,_=>zz
def Rk:TS->Option (lq×List Wd)
 |.v (.one x)=>match U6 x with
  |some (k,u)=>zw (.one k,u)
  |none=>zz
 |.v (.agg xs)=>match yB xs with
  |some (b,u)=>zw (.agg b,u)
  |none=>zz
 |_=>zz
def yJ:TO->Option (iY×List Wd)
 |.box c=>match yB c with
  |some (d,u)=>zw (.box d,u)
  |none=>zz
 |.arr g a i e l=>zw (.arr g a i e,[vK e l])
 |.it s n=>zw (.it,[UM s,jv .i64 n])
 |.aP a i e h l b=>match b with
  |none=>zw (.aP a i e h,[vK e l])
  |some _=>zz
 |.none=>zz
def Ce(s:Nat->TS):List (Nat×Md)->Option (List (Nat×lq×Option (List Wd)))
 | []=>zw []
 |(t,.keep)::r=>match Rk (s t),Ce s r with
  |some (k,u),zw l=>zw ((t,k,zw u)::l)
  |_,_=>zz
 |(t,.sl k)::r=>match Ce s r with
  |some l=>zw ((t,k,zz)::l)
  |none=>zz
def LK(o:Nat->TO):List (Nat×Mo)->Option (List (Nat×iY×Option (List Wd)))
 | []=>zw []
 |(t,.keep)::r=>match yJ (o t),LK o r with
  |some (k,u),zw l=>zw ((t,k,zw u)::l)
  |_,_=>zz
 |(t,.ob k)::r=>match LK o r with
  |some l=>zw ((t,k,zz)::l)
  |none=>zz
structure JF where
 slots:List (Nat×lq×Option (List Wd))
 bG:List (Nat×iY×Option (List Wd))
def JF.sh(j:JF):OZ:=⟨j.slots.map λp=>(p.1,p.2.1),j.bG.map λp=>(p.1,p.2.1)⟩
def kD:List (Nat×lq×Option (List Wd))->List Ty
 | []=>[]
 |(_,k,zz)::r=>k.tys++kD r
 |(_,_,zw _)::r=>kD r
def qE:List (Nat×iY×Option (List Wd))->List Ty
 | []=>[]
 |(_,k,zz)::r=>k.tys++qE r
 |(_,_,zw _)::r=>qE r
def JF.tys(j:JF):List Ty:=kD j.slots++qE j.bG
def nI:List (Nat×lq×Option (List Wd))->List Wd->List Wd×List Wd
 | [],b=>([],b)
 |(_,k,zz)::r,b=>(b.take k.tys.length++(nI r (b.drop k.tys.length)).1,(nI r (b.drop k.tys.length)).2)
 |(_,_,zw u)::r,b=>(u++(nI r b).1,(nI r b).2)
def r_:List (Nat×iY×Option (List Wd))->List Wd->List Wd×List Wd
 | [],b=>([],b)
 |(_,k,zz)::r,b=>(b.take k.tys.length++(r_ r (b.drop k.tys.length)).1,(r_ r (b.drop k.tys.length)).2)
 |(_,_,zw u)::r,b=>(u++(r_ r b).1,(r_ r b).2)
def JF.pay(j:JF)(ws:List Wd):List Wd:=(nI j.slots ws).1++(r_ j.bG (nI j.slots ws).2).1
def Rl:List (Nat×lq×Option (List Wd))->List Wd->List Wd×List Wd
 | [],b=>([],b)
 |(_,k,zz)::r,b=>(b.take k.tys.length++(Rl r (b.drop k.tys.length)).1,(Rl r (b.drop k.tys.length)).2)
 |(_,k,zw u)::r,b=>((Rl r (b.drop u.length)).1,(Rl r (b.drop u.length)).2)
def U7:List (Nat×iY×Option (List Wd))->List Wd->List Wd×List Wd
 | [],b=>([],b)
 |(_,k,zz)::r,b=>(b.take k.tys.length++(U7 r (b.drop k.tys.length)).1,(U7 r (b.drop k.tys.length)).2)
 |(_,k,zw u)::r,b=>((U7 r (b.drop u.length)).1,(U7 r (b.drop u.length)).2)
def JF.ext(j:JF)(ws:List Wd):List Wd:=(Rl j.slots ws).1++(U7 j.bG (Rl j.slots ws).2).1
def hasK{α:Type}(t:Nat):List (Nat×α)->Bool
 | []=>zv
 |(k,_)::r=>Nat.beq t k||hasK t r
def U8(s:List (Nat×TS))(ds:List Nat):List (Nat×lq×Option (List Wd))->Bool
 | []=>zj
 |(t,_,zw _)::r=>hasK t s&&!gy t ds&&U8 s ds r
 |(_,_,zz)::r=>U8 s ds r
def U9(s:List (Nat×TO))(ds:List Nat):List (Nat×iY×Option (List Wd))->Bool
 | []=>zj
 |(t,_,zw _)::r=>hasK t s&&!gy t ds&&U9 s ds r
 |(_,_,zz)::r=>U9 s ds r
def keysB(bH:List Nat)(j:OZ)(m:Ren):Bool:=keeps bH j.er m
def O5:List (Nat×iY×Option (List Wd))->Ren
 | []=>[]
 |(t,_,zw _)::r=>(t,zw t)::O5 r
 |(_,_,zz)::r=>O5 r
def tpW(gs:List Nat)(o:Nat->TO):TW->TW
 |.own g=>bif gy g gs then match oN o g with
  |some ⟨a,i,e,l⟩=>.p a i (vK e l)
  |none=>.own g
  else .own g
 |.vw g lo b=>bif gy g gs then match oN o g with
  |some ⟨a,i,e,l⟩=>.p a i (vK e ((l.take b.toNat).drop lo.toNat))
  |none=>.vw g lo b
  else .vw g lo b
 |x=>x
def tpV(gs:List Nat)(o:Nat->TO):TV->TV
 |.one x=>.one (tpW gs o x)
 |.agg xs=>.agg (xs.map (tpW gs o))
def tpS(gs:List Nat)(o:Nat->TO):TS->TS
 |.v x=>.v (tpV gs o x)
 |.jq xs=>.jq (xs.map (tpV gs o))
 |.no=>.no
def tpO(gs:List Nat)(o:Nat->TO)(g:Nat):TO->TO
 |.none=>.none
 |.box c=>.box (c.map (tpW gs o))
 |.arr d a i e l=>.arr (d||gy g gs) a i e l
 |.it s n=>.it s n
 |.aP a i e h l b=>bif gy g gs then(mP o g).2 else .aP a i e h l b
def Oc(gs:List Nat)(st:jI):jI:=match gs with
 | []=>st
 |g::r=>{ s:=st.s.map λp=>(p.1,tpS (g::r) st.go p.2),o:=st.o.map λp=>(p.1,tpO (g::r) st.go p.1 p.2),u:=st.u }
def plB(o:Nat->TO)(g:Nat):Bool:=match oN o g with
 |some _=>zj
 |none=>zv
def amJ(o:Nat->TO)(gs:List Nat):Bool:=gs.all λg=>plB o g&&(jw (o g)).all λd=>gy d gs
def oP(keep:List Nat):List Nat->jI->List Nat×jI
 | [],st=>([],st)
 |g::gs,st=>match U3 (st.go g),yA st.go g with
  |some d,zw ⟨a,i,e,b,l⟩=>match !gy g keep&&!gy d keep with
   |true=>let r:=oP keep gs { st with o:=Eh st.o [(g,.aP a i e b l zz),(d,.none)] }
    (g::r.1,r.2)
   |false=>oP keep gs st
  |_,_=>oP keep gs st
def Ro:List (Nat×TO)->List Nat
 | []=>[]
 |(g,x)::r=>match U3 x with
  |some _=>g::Ro r
  |none=>Ro r
def Bg:List (Nat×iY×Option (List Wd))->List Nat
 | []=>[]
 |(t,_,zw _)::r=>t::Bg r
 |(_,_,zz)::r=>Bg r
def fzW(o:Nat->TO):kG->TW->List Nat
 |.p _ _ _,.own g=>bif plB o g then jw (o g)++[g]else[]
 |.p _ _ _,.vw g _ _=>bif plB o g then jw (o g)++[g]else[]
 |_,_=>[]
def amK(o:Nat->TO):List kG->List TW->List Nat
 |k::b,x::xs=>fzW o k x++amK o b xs
 |_,_=>[]
def fzS(o:Nat->TO):lq->TS->List Nat
 |.one k,.v (.one x)=>fzW o k x
 |.agg b,.v (.agg xs)=>amK o b xs
 |_,_=>[]
def Zf(st:jI):List (Nat×lq)->List Nat
 | []=>[]
 |(t,k)::r=>fzS st.go k (st.gs t)++Zf st r
def X0(m:Ren)(st:jI):List (Nat×iY)->List Nat
 | []=>[]
 |(g',.box b)::r=>(match m.lookup g' with
  |some (zw g)=>match st.go g with
   |.box c=>amK st.go b c
   |_=>[]
  |_=>[])++X0 m st r
 |_::r=>X0 m st r
def amL(bH:List Nat)(j:OZ)(st:jI):List Nat:=Zf st j.slots++X0 (derive bH j st) st j.bG
def X3(gs:List Nat)(x:TS):Bool:=(S.namesT x).all λg=>!gy g gs
def LM(gs:List Nat)(g:Nat):TO->Bool
 |.none=>zj
 |.box b=>(b.flatMap W.namesT).all λg=>!gy g gs
 |.arr _ _ _ _ _=>!gy g gs
 |.it _ _=>zj
 |.aP _ _ _ _ _ _=>!gy g gs
def aeW(gs:List Nat)(s:Nat->TS):List (Nat×lq×Option (List Wd))->Bool
 | []=>zj
 |(t,_,zw _)::r=>X3 gs (s t)&&aeW gs s r
 |(_,_,zz)::r=>aeW gs s r
def aeX(gs:List Nat)(o:Nat->TO):List (Nat×iY×Option (List Wd))->Bool
 | []=>zj
 |(t,_,zw _)::r=>LM gs t (o t)&&aeX gs o r
 |(_,_,zz)::r=>aeX gs o r
def yC{R:Type}(bH:List Nat)(j:JF)(q:kF)(K:Tup j.tys->Prog R):Prog R:=
 let b:=(oP (Bg j.bG) (Ro q.st.o) q.st).2
 let gs:=amL bH j.sh b
 let st:=Oc gs b
 let m:=O5 j.bG++derive bH j.sh st
 match U8 q.st.s q.ds j.slots&&U9 q.st.o q.od j.bG&&keysB bH j.sh m&&amJ b.go gs&&aeW gs b.gs j.slots&&aeX gs b.go j.bG with
 |false=>.stuck 30
 |true=>match Ee j.sh m st with
  |none=>.stuck 31
  |some vs=>match Tup.ofL j.tys (j.ext vs)with
   |none=>.stuck 32
   |some x=>K x
def zA(j:JF)(x:Tup j.tys):jI:=mkT j.sh (j.pay (Tup.m_ j.tys x))
def newS:List (Nat×lq×Option (List Wd))->List Nat
 | []=>[]
 |(t,_,zz)::r=>t::newS r
 |(_,_,zw _)::r=>newS r
def vV:List (Nat×iY×Option (List Wd))->List Nat
 | []=>[]
 |(t,_,zz)::r=>t::vV r
 |(_,_,zw _)::r=>vV r
def kF.fresh(q:kF):kF:={ q with ds:=[],od:=[] }
def kF.since(q' q:kF):kF:={ q' with ds:=q'.ds++q.ds,od:=q'.od++q.od }
structure TK(R:Type) where
 n:kF->Prog R
 x:Nat->kF->Prog R
 r:kF->Prog R
inductive fU where
 |nil
 |seq (a b:fU)
 |meet (early:Bool) (j:JT) (a:fU)
 |loop (j:JT) (a:fU)
 |range (j:JT) (sg:dn) (a:fU)
def fU.fst:fU->fU
 |.seq a _=>a
 |_=>.nil
def fU.snd:fU->fU
 |.seq _ b=>b
 |_=>.nil
def aeY(nw:List Nat):List (Nat×lq×Option (List Wd))->Bool
 | []=>zj
 |(t,_,zw _)::r=>!gy t nw&&aeY nw r
 |(_,_,zz)::r=>aeY nw r
def aeZ(nw:List Nat):List (Nat×iY×Option (List Wd))->Bool
 | []=>zj
 |(t,_,zw _)::r=>!gy t nw&&aeZ nw r
 |(_,_,zz)::r=>aeZ nw r
def jOf(st:jI)(j:JT):Option JF:=match Ce st.gs j.slots,LK st.go j.bG with
 |some s,zw o=>match aeY (newS s) s&&aeZ (vV o) o with
  |true=>zw ⟨s,o⟩
  |false=>zz
 |_,_=>zz
def knT(c:Operand)(a i b:Bool)(q:kF):kF:=match c with
 |.tmp t=>q.know t a i b
 |_=>q
def Zg{R:Type}(c:Operand)(q:kF)(x y:kF->Prog R):Prog R:=match q.st.dG c with
 |.v (.one (.p a i ⟨.bool,b⟩))=>.cond b (frX (knT c a i zj q) x) (frX (knT c a i zv q) y)
 |_=>.stuck 50
def O6{R:Type}(bH:List Nat)(early:Bool)(jt:JT)(here:Nat->Bool)(q:kF)(inner:(R':Type)->kF->TK R'->Prog R')(K:TK R):Prog R:=
 match jOf q.st jt with
 |none=>.stuck 40
 |some j=>match early with
  |false=>.join (inner (Tup j.tys) q.fresh { n:=λb=>yC bH j b .ret,x:=λid b=>bif here id then yC bH j b .ret else .stuck 41,r:=λ_=>.stuck 42 })
    λx=>frX ⟨zA j x,newS j.slots++q.ds,vV j.bG++q.od⟩ K.n
  |true=>.OY (inner (Tup j.tys ⊕ R) q.fresh { n:=λb=>yC bH j b λx=>.ret (.inl x),x:=λid b=>bif here id then yC bH j b (λx=>.ret (.inl x))else(K.x id (b.since q)).map .inr,r:=λb=>(K.r (b.since q)).map .inr })
    λx=>frX ⟨zA j x,newS j.slots++q.ds,vV j.bG++q.od⟩ K.n
noncomputable def oQ(T:lK)(tt:TT)(ety:TypeId->Option Ty)(N:Nat)(bH:List Nat):Code->(R:Type)->fU->kF->TK R->Prog R
 |.skip,R,_,q,K=>K.n q
 |.region _ ops draw,R,a,q,K=>match a with
  |.meet e j _=>O6 bH e j (λ_=>zv) q (λ_ q K=>xK T tt ety N ops draw q K.n) K
  |_=>xK T tt ety N ops draw q K.n
 |.seq x y,R,a,q,K=>oQ T tt ety N bH x R a.fst q { n:=λb=>oQ T tt ety N bH y R a.snd b K,x:=K.x,r:=K.r }
 |.cond c x y,R,a,q,K=>match a with
  |.meet e j a=>O6 bH e j (λ_=>zv) q (λR q K=>Zg c q (λq=>oQ T tt ety N bH x R a.fst q K) λq=>oQ T tt ety N bH y R a.snd q K) K
  |a=>Zg c q (λq=>oQ T tt ety N bH x R a.fst q K) λq=>oQ T tt ety N bH y R a.snd q K
 |.block id c,R,a,q,K=>match a with
  |.meet e j a=>O6 bH e j (Nat.beq id) q (λR q K=>oQ T tt ety N bH c R a q K) K
  |a=>oQ T tt ety N bH c R a.fst q { n:=K.n,x:=λd b=>bif Nat.beq d id then K.n b else K.x d b,r:=K.r }
 |.loop c,R,a,q,K=>match a with
  |.loop g a=>match jOf q.st g with
   |none=>.stuck 43
   |some j=>yC bH j q.fresh λx=>.loop x λx=>
     frX ⟨zA j x,[],[]⟩ λb=>oQ T tt ety N bH c (Tup j.tys ⊕ R) a b
      { n:=λb=>yC bH j b λx=>.ret (.inl x),x:=λid b=>(K.x id (b.since ⟨b.st,newS j.slots++q.ds,vV j.bG++q.od⟩)).map .inr,r:=λb=>(K.r (b.since ⟨b.st,newS j.slots++q.ds,vV j.bG++q.od⟩)).map .inr }
  |_=>.stuck 44
 |.exit id,R,_,q,K=>K.x id q
 |.ret,R,_,q,K=>K.r q
 |.label _,R,_,q,K=>K.n q
 |.scope c,R,a,q,K=>oQ T tt ety N bH c R a q K
 |_,R,_,_,_=>.stuck 45
def Zh(tt:TT)(st:jI):ResultVar->Option TS
 |.tmp t=>zw (st.gs t)
 |.cell a t=>match tt t,st.gs a with
  |some i,.v (.one (.box g off))=>match st.go g with
   |.box b=>bif Nat.ble (off+i.size) b.length&&Nat.blt 0 i.size then zw (TV.gB i.agg ((b.drop off).take i.size))else zz
   |_=>zz
  |_,_=>zz
def LQ(tt:TT)(st:jI):List ResultVar->Option (List TS)
 | []=>zw []
 |r::b=>match Zh tt st r,LQ tt st b with
  |some x,zw xs=>zw (x::xs)
  |_,_=>zz
def X4(n:Nat):List TS->List (Nat×TS)
 | []=>[]
 |x::xs=>(n,x)::X4 (n+1) xs
def ais(tt:TT)(sp:dn)(ts:List ResultVar)(q:kF):Prog (Tup sp.aW.tys):=
 match LQ tt q.st ts with
 |none=>.stuck 60
 |some xs=>
  let b:jI:=(oP [] (Ro q.st.o) { s:=X4 0 xs,o:=q.st.o,u:=q.st.u }).2
  let gs:=amL sp.bH sp.aW b
  let st:=Oc gs b
  let m:=derive sp.bH sp.aW st
  match keysB sp.bH sp.aW m&&amJ b.go gs with
  |false=>.stuck 61
  |true=>match Ee sp.aW m st with
   |none=>.stuck 62
   |some vs=>match Tup.ofL sp.aW.tys vs with
    |none=>.stuck 63
    |some x=>.ret x
inductive LkC where
 |yes
 |no
 |len (n m:Nat)
def U_:TO->TO->LkC
 |.box _,.box _=>.yes
 |.arr _ _ _ e l,.arr _ _ _ b c=>bif Nat.beq (size e) (size b)then .len (List.length (α:=Dt e) l) (List.length (α:=Dt b) c)else .no
 |.aP _ _ e _ l _,.aP _ _ b _ c _=>bif Nat.beq (size e) (size b)then .len (List.length (α:=Dt e) l) (List.length (α:=Dt b) c)else .no
 |_,_=>.no
def Ci{R:Type}(a b:Nat->TO)(K:Prog R):List Nat->Prog R
 | []=>K
 |g::gs=>match U_ (a g) (b g)with
  |.yes=>Ci a b K gs
  |.no=>.stuck 90
  |.len n m=>.chk (decide (n=m)) (Ci a b K gs)
noncomputable def tfun(T:lK)(tt:TT)(ety:TypeId->Option Ty)(N:Nat)(sp:dn)(ts:List ResultVar)(c:Code)(a:fU)(x:Tup sp.pin.tys):Prog (Tup sp.aW.tys):=frX ⟨mkT sp.pin (Tup.m_ sp.pin.tys x),[],[]⟩ λq=>oQ T tt ety N sp.bH c (Tup sp.aW.tys) a q { n:=ais tt sp ts,x:=λ_ _=>.stuck 64,r:=ais tt sp ts }
noncomputable def ae0(T:lK)(tt:TT)(ety:TypeId->Option Ty)(N:Nat)(sp:dn)(ts:List ResultVar)(c:Code)(a:fU)(x:Tup sp.pin.tys):Prog (Tup sp.aW.tys):=
 match sp.er.ama with
 |true=>tfun T tt ety N sp ts c a x
 |false=>.join (tfun T tt ety N sp ts c a x) λy=>Ci (mkT sp.pin (Tup.m_ sp.pin.tys x)).go (mkT sp.aW (Tup.m_ sp.aW.tys y)).go (.ret y) sp.bH
end
end Go.Fg

namespace Go.Fg
open Go.Fw
theorem Jq(a b:Nat):(a==b)=Nat.beq a b:=by rw[Bool.eq_iff_iff];simp
theorem zB{α:Type}(d:α):∀(l:List (Nat×α)) (t:Nat),jZ d l t=match l.lookup t with|some x=>x|none=>d
 | [],t=>rfl
 |(k,v)::r,t=>by
  simp only[jZ,List.lookup,Jq];cases h:Nat.beq t k with
  |true=>rfl
  |false=>exact zB d r t
theorem rJ{α:Type}(d:α)(k:Nat)(v:α):∀(l:List (Nat×α)) (t:Nat),jZ d (zi k v l) t=bif Nat.beq t k then v else jZ d l t
 | [],t=>rfl
 |(b,j)::r,t=>by
  simp only[zi];cases h:Nat.beq k b with
  |true=>simp only[cond_true,jZ];have:k=b:=Q6 h;subst this;cases Nat.beq t k<;>rfl
  |false=>
   simp only[cond_false,jZ,rJ d k v r t];cases c:Nat.beq t b with
   |true=>
    have:t=b:=Q6 c;subst this;have:Nat.beq t k=zv:=by
     cases g:Nat.beq t k with
     |false=>rfl
     |true=>have:=Q6 g;subst this;simp at h
    rw[this];rfl
   |false=>rfl
theorem qF{α β:Type}(g:α->β)(t:Nat):∀(l:List (Nat×α)),(l.map λp=>(p.1,g p.2)).lookup t=(l.lookup t).map g
 | []=>rfl
 |(k,v)::r=>by
  simp only[Qf,List.lookup];cases t==k with
  |true=>rfl
  |false=>exact qF g t r
section
variable [RE] {β:Type 1}
theorem Rq(b:Bool)(k:Bool->β):frB b k=k b:=by cases b<;>rfl
theorem ae1(x:TW)(k:TW->β):frW x k=k x:=by
 cases x with
 |p a i w=>obtain⟨t,x⟩:=w;simp only[frW,Rq]
 |sp a i t x off=>simp only[frW,Rq]
 |_=>rfl
theorem Ru:∀(x:List TW) (k:List TW->β),aeN x k=k x
 | [],k=>rfl
 |x::xs,k=>by simp only[aeN,ae1,Ru xs]
theorem ae2(x:TV)(k:TV->β):frV x k=k x:=by cases x<;>simp only[frV,ae1,Ru]
theorem Zi:∀(x:List TV) (k:List TV->β),ail x k=k x
 | [],k=>rfl
 |x::xs,k=>by simp only[ail,ae2,Zi xs]
theorem amN(x:TS)(k:TS->β):frS x k=k x:=by cases x<;>simp only[frS,ae2,Zi]
theorem Em:∀(t:Ty) (k:Ty->β),Q_ t k=k t
 |.int c,k=>by cases c<;>rfl
 |.bool,k=>rfl
 |.str,k=>rfl
 |.sl e,k=>by simp only[Q_,Em e]
 |.prod a b,k=>by simp only[Q_,Em a,Em b]
 |.st n,k=>rfl
 |.opq,k=>rfl
 |.sq e,k=>by simp only[Q_,Em e]
theorem ae3:∀(x:List (Nat×Ty)) (k:List (Nat×Ty)->β),frC x k=k x
 | [],k=>rfl
 |(c,t)::xs,k=>by simp only[frC,Em,ae3 xs]
theorem ae4(x:Option (Nat×Nat×Nat))(k:Option (Nat×Nat×Nat)->β):frH x k=k x:=by
 cases x with
 |none=>rfl
 |some p=>obtain⟨n,c,d⟩:=p;rfl
theorem amO(x:TO)(k:TO->β):frO x k=k x:=by cases x<;>simp only[frO,Ru,Rq,ae3,ae4]
theorem Zj:∀(x:List (Nat×TS)) (k:List (Nat×TS)->β),ain x k=k x
 | [],k=>rfl
 |(t,x)::xs,k=>by simp only[ain,amN,Zj xs]
theorem Zk:∀(x:List (Nat×TO)) (k:List (Nat×TO)->β),aio x k=k x
 | [],k=>rfl
 |(t,x)::xs,k=>by simp only[aio,amO,Zk xs]
theorem Rw:∀(x:List Nat) (k:List Nat->β),Ob x k=k x
 | [],k=>rfl
 |x::xs,k=>by simp only[Ob,Rw xs]
theorem uQ(q:kF)(k:kF->β):frX q k=k q:=by obtain⟨⟨s,o,u⟩,ds,od⟩:=q;simp only[frX,Zj,Zk,Rw]
theorem ait(l:List (Nat×Nat))(k:List (Nat×Nat)->β):aip l k=k l:=by
 induction l generalizing k with
 |nil=>rfl
 |cons p r c=>obtain⟨a,b⟩:=p;simp only[aip,c]
theorem amP(f:uN)(k:uN->β):frF f k=k f:=by simp only[frF,Rw,ae4,ait,Rq]
end
section
variable [RE]
theorem vW(vs:List Wd)(n:Nat):dH (vs.getD n B_)=(vs.map dH).getD n default:=by simp only[Q2,Z2];cases vs[n]?<;>rfl
theorem En(vs:List Wd)(n:Nat)(k:kG):(Cb vs n k).2=n+k.tys.length:=by cases k<;>simp[Cb,kG.tys]
def xM(vs:List Wd)(n:Nat)(ts:List Ty):Prop :=∀(k:Nat) t,ts[k]?=zw t->∃w,vs[n+k]?=zw w/\w.t=t
theorem xM.left{vs:List Wd}{n:Nat}{a b:List Ty}(h:xM vs n (a++b)):xM vs n a:=λk t c=>h k t (by rw[Wf (Q3.1 c).1];exact c)
theorem xM.right{vs:List Wd}{n:Nat}{a b:List Ty}(h:xM vs n (a++b)):xM vs (n+a.length) b:=λk t c=>by obtain⟨w,d,g⟩:=h (a.length+k) t (by rw[Wc (by omega)];simpa using c);exact⟨w,by rw[<-d];congr 1;omega,g⟩
theorem xM.of{vs:List Wd}{ts:List Ty}(h:vs.map (·.t)=ts):xM vs 0 ts:=λk t b=>by rw[<-h,Z2,Wg]at b;obtain⟨w,c,d⟩:=b;exact⟨w,by simpa using c,d⟩
theorem xM.get{vs:List Wd}{n k:Nat}{t:Ty}{ts:List Ty}(h:xM vs n ts)(b:ts[k]?=zw t):dH (vs.getD (n+k) B_)=dH ⟨t,(vs.getD (n+k) B_).as t⟩:=by
 obtain⟨w,c,d⟩:=h k t b;have g:vs.getD (n+k) B_=w:=by rw[Q2,c];rfl
 rw[g,yx d]
theorem O7:∀(gs:List Nat),oM (FX gs)=iw gs
 | []=>rfl
 |g::gs=>by simp only[FX,oM,cZ,iw,O7 gs]
theorem Zl{vs:List Wd}{n:Nat}{k:kG}(h:xM vs n k.tys):qY (vs.map dH) n k.er=(cZ (Cb vs n k).1,(Cb vs n k).2):=by
 cases k with
 |vw g=>have b:=h.get (k:=0) (t:=.int .i64) rfl;have c:=h.get (k:=1) (t:=.int .i64) rfl;simp only[kG.er,qY,Cb,cZ,<-vW];rw[Jn]at b;rw[b,c];rfl
 |ep g off=>have b:=h.get (k:=0) (t:=.int .i64) rfl;simp only[kG.er,qY,Cb,cZ,<-vW];rw[Jn]at b;rw[b];rfl
 |fn f gs=>simp only[kG.er,qY,Cb,cZ,O7]
 |_=>simp only[kG.er,qY,Cb,cZ,oM,vW]
theorem Gf(vs:List Wd):∀(n:Nat) (b:List kG),(vT vs n b).2=n+(b.flatMap kG.tys).length
 |n,[]=>rfl
 |n,k::b=>by simp only[vT,Gf vs,En,ZD,XX];omega
theorem LU{vs:List Wd}:∀{n:Nat} {b:List kG},xM vs n (b.flatMap kG.tys)->lV (vs.map dH) n (b.map kG.er)=((vT vs n b).1.map cZ,(vT vs n b).2)
 |n,[],_=>rfl
 |n,k::b,h=>by rw[ZD]at h;have c:=h.right;simp only[Qf,lV,vT,Zl h.left,En];rw[LU c]
theorem Eo(vs:List Wd)(n:Nat)(k:lq):(I_ vs n k).2=n+k.tys.length:=by cases k<;>simp only[I_,lq.tys,En,Gf]
theorem aiu{vs:List Wd}{n:Nat}{k:lq}(h:xM vs n k.tys):mkS (vs.map dH) n k.er=(bI (I_ vs n k).1,(I_ vs n k).2):=by
 cases k with
 |one k=>simp only[lq.er,mkS,I_,bI,kE,Zl h]
 |agg b=>simp only[lq.er,mkS,I_,bI,kE,LU h]
theorem Ii{vs:List Wd}:∀{n:Nat} {l:List (Nat×lq)},xM vs n (l.flatMap λp=>p.2.tys)->dQ (vs.map dH) n (l.map λp=>(p.1,p.2.er))=((h_ vs n l).1.map λp=>(p.1,bI p.2),(h_ vs n l).2)
 |n,[],_=>rfl
 |n,(t,k)::l,h=>by rw[ZD]at h;have b:=h.right;simp only[Qf,dQ,h_,aiu h.left,Eo];rw[Ii b]
theorem xO(vs:List Wd):∀(n:Nat) (l:List (Nat×lq)),(h_ vs n l).2=n+(l.flatMap λp=>p.2.tys).length
 |n,[]=>rfl
 |n,(t,k)::l=>by simp only[h_,xO vs,Eo,ZD,XX];omega
theorem aiv{vs:List Wd}{n:Nat}{k:iY}(h:xM vs n k.tys):u_ (vs.map dH) n k.er=(d_ (FZ vs n k).1,(FZ vs n k).2):=by
 cases k with
 |box H=>simp only[iY.er,u_,FZ,d_,LU h]
 |arr J a i e=>
  obtain⟨w,b,c⟩:=h 0 (.sl e) rfl;have d:(vs.getD n B_)=w:=by simp only[Q2];rw[show vs[n]?=zw w from b];rfl
  simp only[iY.er,u_,FZ,d_,<-vW,d];have g:=yx c;have j:(dH w).list=aN e (w.as (.sl e)):=by
   conv=>lhs;rw[<-g]
   exact jO e _
  rw[j]
 |it=>
  obtain⟨w1,b,c⟩:=h 0 .str rfl;obtain⟨q,y,z⟩:=h 1 (.int .i64) rfl;have d:(vs.getD n B_)=w1:=by simp only[Q2];rw[show vs[n]?=zw w1 from b];rfl
  have g:(vs.getD (n+1) B_)=q:=by simp only[Q2];rw[show vs[n+1]?=zw q from y];rfl
  simp only[iY.er,u_,FZ,d_,<-vW,d,g];have B:=yx c;have a2:=yx z
  conv=>lhs;rw[<-B,<-a2]
  rfl
 |aP a i e K=>
  obtain⟨w,b,c⟩:=h 0 (.sl e) rfl;have d:(vs.getD n B_)=w:=by simp only[Q2];rw[show vs[n]?=zw w from b];rfl
  simp only[iY.er,u_,FZ,d_,<-vW,d];have g:=yx c;have j:(dH w).list=aN e (w.as (.sl e)):=by
   conv=>lhs;rw[<-g]
   exact jO e _
  rw[j]
theorem LV(vs:List Wd)(n:Nat)(k:iY):(FZ vs n k).2=n+k.tys.length:=by cases k<;>simp only[FZ,iY.tys,Gf]<;>rfl
theorem LW{vs:List Wd}:∀{n:Nat} {l:List (Nat×iY)},xM vs n (l.flatMap λp=>p.2.tys)->iy (vs.map dH) n (l.map λp=>(p.1,p.2.er))=((kH vs n l).1.map λp=>(p.1,d_ p.2),(kH vs n l).2)
 |n,[],_=>rfl
 |n,(g,k)::l,h=>by rw[ZD]at h;simp only[Qf,iy,kH,aiv h.left,LV];rw[LW h.right]
theorem zC{j:OZ}{vs:List Wd}(h:vs.map (·.t)=j.tys):bg (mkT j vs)=mk j.er (vs.map dH):=by
 have b:=Ii (vs:=vs) (n:=0) (l:=j.slots) (by have:=(xM.of h);unfold OZ.tys at this;exact this.left)
 have c:xM vs (h_ vs 0 j.slots).2 (j.bG.flatMap λp=>p.2.tys):=by have:=(xM.of h);unfold OZ.tys at this;have:=this.right;rw[xO];exact this
 have d:=LW c;have q:(dQ (vs.map dH) 0 j.er.slots)=_:=b;have w:iy (vs.map dH) (h_ vs 0 j.slots).2 j.er.bG=_:=d;unfold Fw.mk;rw[q];simp only[w];refine St.ext' (λt=>?_) (λg=>?_) λg=>?_
 .simp only[bg,jI.gs,mkT,zB,qF];cases (h_ vs 0 j.slots).1.lookup t<;>rfl
 .simp only[bg,jI.go,mkT,zB,qF];cases (kH vs (h_ vs 0 j.slots).2 j.bG).1.lookup g<;>rfl
 .simp only[bg,mkT,bU,Shape.nms,OZ.er,UI];rfl
variable {m:Ren}
theorem Ep{a:Bool}{α:Type}{x y:α}(h:(bif a then zw x else zz)=zw y):a=zj/\x=y:=by
 cases a
 .cases h
 .exact ⟨rfl,by simpa using h⟩
theorem LX:∀{gs:List Nat} {caps:List TW},Jl m gs caps=uH m gs (oM caps)
 | [],[]=>rfl
 | [],c::b=>by cases c<;>rfl
 |g::gs,[]=>rfl
 |g::gs,c::b=>by cases c<;>first|(simp only[Jl,oM,cZ,uH,LX (gs:=gs) (caps:=b)];done)|rfl
theorem Zm{k:kG}{x:TW}{us:List Wd}(h:FY m k x=zw us):Nw m k.er (cZ x)=zw (us.map dH)/\us.map (·.t)=k.tys:=by
 cases k<;>cases x<;>try simp only[FY,reduceCtorEq]at h
 case p.p a i t j q w=>
  split at h
  .rename_i z B;obtain⟨y,rfl⟩:=Ep h;have b:((imp j a&&imp q i)||(dH w).flat)=zj:=by simp only[Ka]at y ⊢;exact y.imp id abX
   refine⟨?_,by simp[kG.tys,ams B]⟩;show (if((imp j a&&imp q i)||(dH w).flat)=zj then zw [dH w]else zz)=_;rw[QR b];rfl
  .cases h
 case p.dJ a i t=>
  split at h
  .cases h;exact⟨rfl,rfl⟩
  .cases h
 case dJ.dJ=>cases h;exact⟨rfl,rfl⟩
 case own.own g g'=>
  split at h
  .rename_i b;cases h;refine⟨?_,rfl⟩;show (if m.lookup g=zw (zw g')then zw []else zz)=_;rw[QR b];rfl
  .cases h
 case own.dJ g=>
  split at h
  .rename_i b;cases h;refine⟨?_,rfl⟩;show (if m.lookup g=zw zz then zw []else zz)=_;rw[QR b];rfl
  .cases h
 case box.box g off g' c=>
  split at h
  .rename_i b;cases h;refine⟨?_,rfl⟩;show (if m.lookup g=zw (zw g')/\off=c then zw []else zz)=_;rw[QR b];rfl
  .cases h
 case fn.clo f gs H d=>obtain⟨b,rfl⟩:=Ep h;simp only[X1]at b;refine⟨?_,rfl⟩;show (if f=H/\uH m gs (oM d)=zj then zw []else zz)=_;rw[QR ⟨Q6 b.1,by rw[<-LX];exact b.2⟩];rfl
 case oD.oD g g'=>
  split at h
  .rename_i b;cases h;refine⟨?_,rfl⟩;show (if m.lookup g=zw (zw g')then zw []else zz)=_;rw[QR b];rfl
  .cases h
 case vw.vw g g' lo J=>
  split at h
  .rename_i b;cases h;refine⟨?_,rfl⟩;show (if m.lookup g=zw (zw g')then zw [P.int .i64 lo,P.int .i64 J]else zz)=_;rw[QR b];rfl
  .cases h
 case ep.ep g off g' n c=>
  split at h
  .rename_i b;cases h;refine⟨?_,rfl⟩;show (if m.lookup g=zw (zw g')/\off=c then zw [P.int .i64 n]else zz)=_;rw[QR b];rfl
  .cases h
 all_goals (cases h;exact⟨rfl,rfl⟩)
theorem LY:∀{b:List kG} {xs:List TW} {us:List Wd},zq m b xs=zw us->NQ m (b.map kG.er) (xs.map cZ)=zw (us.map dH)/\us.map (·.t)=b.flatMap kG.tys
 | [],[],us,h=>by simp only[zq,Q0]at h;subst h;exact⟨rfl,rfl⟩
 | [],x::xs,us,h=>by simp[zq]at h
 |k::b,[],us,h=>by simp[zq]at h
 |k::b,x::xs,us,h=>by
  simp only[zq]at h;split at h
  .rename_i u v c d;cases h;obtain⟨g,a2⟩:=Zm c;obtain⟨j,q⟩:=LY d;exact⟨by simp only[Qf,NQ,g,j,Ys],by simp only[Ys,a2,q,ZD]⟩
  .cases h
theorem Zn{k:lq}{x:TS}{us:List Wd}(h:aik m k x=zw us):coS m k.er (bI x)=zw (us.map dH)/\us.map (·.t)=k.tys:=by
 unfold aik at h;split at h
 .exact Zm h
 .exact LY h
 .cases h
theorem Zo{k:iY}{x:TO}{us:List Wd}(h:XP m k x=zw us):coO m k.er (d_ x)=zw (us.map dH)/\us.map (·.t)=k.tys:=by
 unfold XP at h;split at h
 .exact LY h
 .rename_i B a i e d g j H l;split at h
  .rename_i J b;split at h
   .rename_i c;cases h;obtain⟨q,b⟩:=pU b;cases q;subst b;refine⟨?_,rfl⟩;show (if B=d/\size e=size e/\(imp g a&&imp j i)=zj then zw [P.gQ (size e) (aN e _)]else zz)=_;rw[QR ⟨c.1,rfl,c.2⟩];rfl
   .cases h
  .cases h
 .cases h;exact⟨rfl,rfl⟩
 .rename_i a i e y g j H K l z;split at h
  .rename_i J b w;split at h
   .rename_i c;cases h;obtain⟨q,b⟩:=pU b;cases q;subst b;have:=pV w;subst this;refine⟨?_,rfl⟩;show (if size e=size e/\gW y=gW y/\(imp g a&&imp j i)=zj then zw [P.gQ (size e) (aN e _)]else zz)=_;rw[QR ⟨rfl,rfl,c⟩];rfl
   .cases h
  .cases h
 .cases h
theorem Ij{st:jI}:∀{l:List (Nat×lq)} {us:List Wd},oO m st.gs l=zw us->tu m (bg st).s (l.map λp=>(p.1,p.2.er))=zw (us.map dH)/\us.map (·.t)=l.flatMap λp=>p.2.tys
 | [],us,h=>by simp only[oO,Q0]at h;subst h;exact⟨rfl,rfl⟩
 |(t,k)::l,us,h=>by
  simp only[oO]at h;split at h
  .rename_i u v c d;cases h;obtain⟨b,a2⟩:=Zn c;obtain⟨g,j⟩:=Ij d;refine⟨?_,by simp only[Ys,a2,j,ZD]⟩;have b:coS m k.er ((bg st).s t)=_:=b;simp only[Qf,tu,b,g,Ys]
  .cases h
theorem LZ{st:jI}:∀{l:List (Nat×iY)} {us:List Wd},qW m st.go l=zw us->xq m (bg st).o (l.map λp=>(p.1,p.2.er))=zw (us.map dH)/\us.map (·.t)=l.flatMap λp=>p.2.tys
 | [],us,h=>by simp only[qW,Q0]at h;subst h;exact⟨rfl,rfl⟩
 |(g',k)::l,us,h=>by
  simp only[qW]at h;split at h
  .rename_i u v b q;cases h;obtain⟨c,d⟩:=LZ q;cases hg:m.lookup g' with
   |none=>rw[hg]at b;cases b
   |some w=>
    rw[hg]at b;cases w with
    |some g=>obtain⟨j,a2⟩:=Zo b;have j:coO m k.er ((bg st).o g)=_:=j;refine⟨?_,by simp only[Ys,a2,d,ZD]⟩;simp only[Qf,xq,hg,j,c,Ys]
    |none=>
     simp only at b;split at b
     .cases b;refine⟨?_,by simp only[Ys,d,ZD];rfl⟩;simp only[Qf,xq,hg,c,Ys];rfl
     .cases b;refine⟨?_,by simp only[Ys,d,ZD];rfl⟩;simp only[Qf,xq,hg,c,Ys];rfl
     .cases b
  .cases h
theorem L6{j:OZ}{st:jI}{vs:List Wd}(h:Ee j m st=zw vs):coerce j.er m (bg st)=zw (vs.map dH)/\vs.map (·.t)=j.tys:=by
 unfold Ee at h;split at h
 .rename_i b;split at h
  .rename_i u v c d;cases h;obtain⟨g,a2⟩:=Ij c;obtain⟨q,w⟩:=LZ d;refine⟨?_,by simp only[Ys,a2,w,OZ.tys]⟩;unfold coerce;rw[QR b];show (match tu m (bg st).s (j.slots.map λp=>(p.1,p.2.er)),xq m (bg st).o (j.bG.map λp=>(p.1,p.2.er))with|some u,zw v=>zw (u++v)|_,_=>zz)=_;rw[g,q,Ys]
  .cases h
 .cases h
end
end Go.Fg

namespace Go.Fg
open Go.Fw
section
variable [RE] {o:Nat->TO}
theorem zD:∀{gs:List Nat} {caps:List TW} {r:List (Nat×Nat)},qC gs caps=zw r->oK gs (oM caps)=zw r
 | [],[],r,h=>h
 | [],_::_,r,h=>by simp[qC]at h
 |_::_,[],r,h=>by simp[qC]at h
 |g::gs,c::j,r,h=>by
  cases c with
  |box g' off=>
   simp only[qC]at h;obtain⟨b,h⟩:=bZ h;have b:=Q6 b;subst b;split at h
   .rename_i m d;simp only[oM,cZ,oK,zD d];exact h
   .cases h
  |_=>simp[qC]at h
theorem Va{k:kG}{x:TW}{us:List Wd}{c:Bool×Bool}{gs:List Nat}{r:List (Nat×Nat)}(h:O1 o k x=zw (us,c,gs,r)):
  gI (dh o) k.er (cZ x)=zw (us.map dH,c,gs,r)/\us.map (·.t)=k.tys:=by
 unfold O1 at h;split at h
 .rename_i a i t x;split at h
  .rename_i y J K w z;cases h;exact⟨by simp only[kG.er,gI,QT z,Qf,V2],rfl⟩
  .cases h
 .cases h;exact⟨rfl,rfl⟩
 .rename_i g' m g off;obtain⟨b,h⟩:=bZ h;cases h;obtain⟨d,j⟩:=jg b;have d:=Q6 d;have j:=Q6 j;subst d;subst j;exact⟨rfl,rfl⟩
 .rename_i f B L q;obtain⟨b,h⟩:=bZ h;split at h
  .rename_i M H;cases h;refine⟨?_,rfl⟩;simp only[kG.er,cZ,gI,zD H];rw[QR (Q6 b)];rfl
  .cases h
 .cases h
theorem O8:∀{b:List kG} {xs:List TW} {us:List Wd} {c:Bool×Bool} {gs:List Nat} {r:List (Nat×Nat)},qO o b xs=zw (us,c,gs,r)->
  ku (dh o) (b.map kG.er) (xs.map cZ)=zw (us.map dH,c,gs,r)/\us.map (·.t)=b.flatMap kG.tys
 | [],[],us,c,gs,r,h=>by simp only[qO,Q0,QQ]at h;obtain⟨rfl,rfl,rfl,rfl⟩:=h;exact⟨rfl,rfl⟩
 | [],x::xs,us,c,gs,r,h=>by simp[qO]at h
 |k::b,[],us,c,gs,r,h=>by simp[qO]at h
 |k::b,x::xs,us,c,gs,r,h=>by
  simp only[qO]at h;split at h
  .rename_i d g;cases h;obtain⟨j,a2⟩:=Va d;obtain⟨m,q⟩:=O8 g;exact⟨by simp only[Qf,ku,j,m,Ys],by simp only[Ys,a2,q,ZD]⟩
  .cases h
theorem ae5{k:lq}{x:TS}{us:List Wd}{c:Bool×Bool}{gs:List Nat}{r:List (Nat×Nat)}(h:Y_ o k x=zw (us,c,gs,r)):
  pz (dh o) k.er (bI x)=zw (us.map dH,c,gs,r)/\us.map (·.t)=k.tys:=by
 unfold Y_ at h;split at h
 .exact Va h
 .exact O8 h
 .cases h
theorem O9(args:List TS)(t:Nat):(args.map bI).getD t .no=bI (args.getD t .no):=by simp only[Q2,Z2];cases args[t]?<;>rfl
theorem Es{args:List TS}:∀{l:List (Nat×lq)} {us:List Wd} {c:Bool×Bool} {gs:List Nat} {r:List (Nat×Nat)},oh o args l=zw (us,c,gs,r)->
  fM (dh o) (args.map bI) (l.map λp=>(p.1,p.2.er))=zw (us.map dH,c,gs,r)/\us.map (·.t)=l.flatMap λp=>p.2.tys
 | [],us,c,gs,r,h=>by simp only[oh,Q0,QQ]at h;obtain⟨rfl,rfl,rfl,rfl⟩:=h;exact⟨rfl,rfl⟩
 |(t,k)::l,us,c,gs,r,h=>by
  simp only[oh]at h;split at h
  .rename_i d g;cases h;obtain⟨b,a2⟩:=ae5 d;obtain⟨j,m⟩:=Es g;rw[<-O9]at b;exact⟨by simp only[Qf,fM,b,j,Ys],by simp only[Ys,a2,m,ZD]⟩
  .cases h
theorem aiw{k:kG}{x:TW}{us:List Wd}{c:Bool×Bool}{r:List (Nat×Nat)}(h:amE k x=zw (us,c,r)):WO k.er (cZ x)=zw (us.map dH,c,r)/\us.map (·.t)=k.tys:=by
 unfold amE at h;split at h
 .rename_i M N t a i w;split at h
  .rename_i y m;cases h;rw[iJ m];exact⟨rfl,rfl⟩
  .cases h
 .split at h
  .cases h;exact⟨rfl,rfl⟩
  .cases h
 .cases h;exact⟨rfl,rfl⟩
 .rename_i g' d g off;obtain⟨b,h⟩:=bZ h;simp only[X1]at b;have q:=Q6 b.1;have z:=Q6 b.2;subst q;subst z;injection h with h
  injection h with B h
  injection h with H J
  subst B H J;exact⟨rfl,rfl⟩
 .rename_i f K T j;obtain⟨b,h⟩:=bZ h;split at h
  .rename_i U L;cases h;refine⟨?_,rfl⟩;simp only[kG.er,cZ,WO,zD L];rw[QR (Q6 b)];rfl
  .cases h
 .cases h
theorem Vb:∀{b:List kG} {xs:List TW} {us:List Wd} {c:Bool×Bool} {r:List (Nat×Nat)},LC b xs=zw (us,c,r)->
  Qy (b.map kG.er) (xs.map cZ)=zw (us.map dH,c,r)/\us.map (·.t)=b.flatMap kG.tys
 | [],[],us,c,r,h=>by simp only[LC,Q0,QQ]at h;obtain⟨rfl,rfl,rfl⟩:=h;exact⟨rfl,rfl⟩
 | [],x::xs,us,c,r,h=>by simp[LC]at h
 |k::b,[],us,c,r,h=>by simp[LC]at h
 |k::b,x::xs,us,c,r,h=>by
  simp only[LC]at h;split at h
  .rename_i d g;cases h;obtain⟨j,a2⟩:=aiw d;obtain⟨m,q⟩:=Vb g;exact⟨by simp only[Qf,Qy,j,m,Ys],by simp only[Ys,a2,q,ZD]⟩
  .cases h
theorem xP:∀{l:List (Nat×iY)} {ren b:List (Nat×Nat)} {us:List Wd} {c:Bool×Bool},xJ o ren l=zw (us,c,b)->
  jX (dh o) ren (l.map λp=>(p.1,p.2.er))=zw (us.map dH,c,b)/\us.map (·.t)=l.flatMap λp=>p.2.tys
 | [],ren,b,us,c,h=>by simp only[xJ,Q0,QQ]at h;obtain⟨rfl,rfl,rfl⟩:=h;exact⟨rfl,rfl⟩
 |(g',k)::l,ren,b,us,c,h=>by
  simp only[xJ]at h;split at h
  .rename_i g hg;split at h
   .rename_i K ws d;split at h
    .rename_i u c1 r1 Y;split at h
     .rename_i L M N m;cases h;obtain⟨Z,a2⟩:=Vb Y;obtain⟨q,w⟩:=xP m;have y:(iY.box K).er=.box (K.map kG.er):=rfl;exact⟨by simp only[Qf,jX,hg,y,pO d,Z,q,Ys],by simp only[Ys,a2,w,ZD];rfl⟩
     .cases h
    .cases h
   .rename_i T a0 i0 e a i e' l' d;split at h
    .rename_i U j;split at h
     .rename_i L M N m;cases h;obtain⟨q,w⟩:=xP m;obtain⟨z,j⟩:=pU j;cases z;subst j;refine⟨?_,by simp only[Qf,w,ZD];rfl⟩;have y:(iY.arr T a0 i0 e).er=.arr T a0 i0 (size e):=rfl;simp only[Qf,jX,hg,y,iM d,if_true,q];rfl
     .cases h
    .cases h
   .rename_i a0 i0 e B a i e' iP l' X d;split at h
    .rename_i U j H;split at h
     .rename_i L M N m;cases h;obtain⟨q,w⟩:=xP m;obtain⟨z,j⟩:=pU j;cases z;subst j;have:=pV H;subst this;refine⟨?_,by simp only[Qf,w,ZD];rfl⟩;have y:(iY.aP a0 i0 e B).er=.aP a0 i0 (size e) (gW B):=rfl;have J:dh o g=.aP a i (size e) (gW B) (aN e U) zz:=by simp only[dh,d,d_]
      simp only[Qf,jX,hg,y,J,and_self,if_true,q];rfl
     .cases h
    .cases h
   .cases h
  .cases h
theorem Zp{k:kG}{x:TW}{us:List Wd}{c:Bool×Bool}{gs:List Nat}{r:List (Nat×Nat)}(h:O1 o k x=zw (us,c,gs,r)):Pl o gs:=by
 unfold O1 at h;split at h
 .split at h
  .rename_i b;simp only[Q0,QQ]at h;obtain⟨_,_,rfl,_⟩:=h;exact XB b
  .cases h
 .simp only[Q0,QQ]at h;obtain⟨_,_,rfl,_⟩:=h;exact Pl.nil
 .obtain ⟨d,h⟩:=bZ h;simp only[Q0,QQ]at h;obtain⟨_,_,rfl,_⟩:=h;exact Pl.nil
 .obtain ⟨d,h⟩:=bZ h;split at h
  .simp only[Q0,QQ]at h;obtain⟨_,_,rfl,_⟩:=h;exact Pl.nil
  .cases h
 .cases h
theorem Vd:∀{b:List kG} {xs:List TW} {us:List Wd} {c:Bool×Bool} {gs:List Nat} {r:List (Nat×Nat)},qO o b xs=zw (us,c,gs,r)->Pl o gs
 | [],[],us,c,gs,r,h=>by simp only[qO,Q0,QQ]at h;obtain⟨_,_,rfl,_⟩:=h;exact Pl.nil
 | [],x::xs,us,c,gs,r,h=>by simp[qO]at h
 |k::b,[],us,c,gs,r,h=>by simp[qO]at h
 |k::b,x::xs,us,c,gs,r,h=>by
  simp only[qO]at h;split at h
  .rename_i d g;simp only[Q0,QQ]at h;obtain⟨_,_,rfl,_⟩:=h;exact(Zp d).append (Vd g)
  .cases h
theorem Ik{args:List TS}:∀{l:List (Nat×lq)} {us:List Wd} {c:Bool×Bool} {gs:List Nat} {r:List (Nat×Nat)},oh o args l=zw (us,c,gs,r)->Pl o gs
 | [],us,c,gs,r,h=>by simp only[oh,Q0,QQ]at h;obtain⟨_,_,rfl,_⟩:=h;exact Pl.nil
 |(t,k)::l,us,c,gs,r,h=>by
  simp only[oh]at h;split at h
  .rename_i b d;simp only[Q0,QQ]at h;obtain⟨_,_,rfl,_⟩:=h;refine Pl.append ?_ (Ik d);unfold Y_ at b;split at b
   .exact Zp b
   .exact Vd b
   .cases b
  .cases h
theorem acd{s:dn}{args:List TS}{c:Ja}(h:Ai s o args=zw c):Pl o c.wK:=by
 unfold Ai at h;split at h
 .rename_i b;split at h
  .cases h;exact Ik b
  .cases h
 .cases h
theorem L8{s:dn}{args:List TS}{c:Ja}(h:Ai s o args=zw c):jh s.er (dh o) (args.map bI)=zw c.er/\c.ins.map (·.t)=s.pin.tys:=by
 unfold Ai at h;split at h
 .rename_i u A gs r g;split at h
  .rename_i q I w j;cases h;obtain⟨b,a2⟩:=Es g;obtain⟨d,m⟩:=xP j;refine⟨?_,by simp only[Ys,a2,m,OZ.tys]⟩;unfold jh;have b:fM (dh o) (args.map bI) s.er.pin.slots=_:=b;have d:jX (dh o) r s.er.pin.bG=_:=d;rw[b];simp only;rw[d];simp only[Ja.er,Ys]
  .cases h
 .cases h
theorem Il(f:Nat->Nat):∀(caps:List TW),oM (zx f caps)=lF f (oM caps)
 | []=>rfl
 |c::b=>by cases c<;>simp only[zx,oM,cZ,lF,Il f b]
theorem Zq(A I:Bool×Bool)(f:Nat->Nat)(x:TW):cZ (ab9 A I f x)=WQ A I f (cZ x):=by cases x<;>simp only[ab9,cZ,WQ,Il]
theorem Ve(A I:Bool×Bool)(f:Nat->Nat)(xs:List TW):(xs.map (ab9 A I f)).map cZ=(xs.map cZ).map (WQ A I f):=by simp only[UI];exact W8 λx _=>Zq A I f x
theorem aix(A I:Bool×Bool)(f:Nat->Nat)(x:TV):kE (amF A I f x)=reV A I f (kE x):=by cases x<;>simp only[amF,kE,reV,Zq,Ve]
theorem aiy(A I:Bool×Bool)(f:Nat->Nat)(x:TS):kE (aeK A I f x)=YP A I f (bI x):=by
 cases x with
 |v x=>exact aix A I f x
 |jq xs=>simp only[aeK,bI,YP,kE,cZ]
 |no=>simp only[aeK,bI,YP,kE,cZ]
theorem Rx(A I:Bool×Bool)(f:Nat->Nat)(x:TO):d_ (Q9 A I f x)=yI A I f (d_ x):=by cases x<;>simp only[Q9,d_,yI,Ve]
theorem ae6(vs:List TV):bI (aeL vs)=abw (vs.map kE):=by
 match vs with
 | []=>rfl
 | [x]=>rfl
 |x::y::vs=>rfl
theorem Zr{α β:Type}(g:α->β)(b:Bool)(x y:α):g (bif b then x else y)=if b=zj then g x else g y:=by cases b<;>rfl
theorem Vf{s:dn}{d:Nat}{c:Ja}{dP:List Wd}(h:dP.map (·.t)=s.aW.tys)(j:Pl o c.wK):(vU s d o c dP).er=lG s.er d (dh o) c.er (dP.map dH):=by
 have q:=zC h;have m :∀k,bI ((mkT s.aW dP).gs k)=(mk s.aW.er (dP.map dH)).s k:=λk=>by rw[<-q];rfl
 have b :∀k,d_ ((mkT s.aW dP).go k)=(mk s.aW.er (dP.map dH)).o k:=λk=>by rw[<-q];rfl
 have w:s.er.aW=s.aW.er:=rfl;have y:s.er.bH=s.bH:=rfl;have z:s.er.aY=s.aY:=rfl;have B:s.er.cO=s.cO:=rfl;have H:c.er.A=c.A:=rfl;have J:c.er.I=c.I:=rfl;have K:c.er.wK=c.wK:=rfl;have N:c.er.ren=c.ren:=rfl;unfold vU lG jT.er;rw[w,y,z,B,H,J,K,N];generalize mk s.aW.er (dP.map dH)=M at m b;generalize mkT s.aW dP=X at m b;generalize s.er.nG=L;have T:bI (aeL ((List.range s.cO).map λk=>aeK c.A c.I (callName d s.er c.ren) (X.gs k)))=abw ((List.range s.cO).map λk=>YP c.A c.I (callName d s.er c.ren) (M.s k)):=by rw[ae6,UI];congr 1;refine W8 λk _=>?_;simp only[Function.comp,aiy,m]
 have U:je (bif L then c.wK.map (mP o)else[])=if L=zj then c.wK.map (Fw.bf (dh o))else[]:=by rw[Zr je,qB j];rfl
 have Y:je (c.ren.map λp=>(p.2,bif s.bH.contains p.1 then Q9 c.A c.I (callName d s.er c.ren) (X.go p.1)else .none))=c.ren.map λp=>(p.2,if s.bH.contains p.1=zj then yI c.A c.I (callName d s.er c.ren) (M.o p.1)else .none):=by simp only[je,UI];refine W8 λp _=>?_;simp only[Function.comp,Zr d_,Rx,b];rfl
 have Z:je (s.aY.map λg=>(callName d s.er c.ren g,Q9 c.A c.I (callName d s.er c.ren) (X.go g)))=s.aY.map λg=>(callName d s.er c.ren g,yI c.A c.I (callName d s.er c.ren) (M.o g)):=by simp only[je,UI];refine W8 λp _=>?_;simp only[Function.comp,Rx,b]
 simp only[mF,T,U,Y,Z]
theorem Jr(ts:List Ty):∀{b:List Wd} {x:Tup ts},Tup.ofL ts b=zw x->Tup.m_ ts x=b:=by
 induction ts with
 |nil=>
  intro b x h;cases b with
  |nil=>rfl
  |cons w b=>cases h
 |cons t ts c=>
  cases ts with
  |nil=>
   intro b x h;cases b with
   |nil=>cases h
   |cons w b=>
    cases b with
    |nil=>have h:w.Df t=zw x:=h;rw[iJ h];rfl
    |cons u b=>cases h
  |cons u ts=>
   intro b x h;cases b with
   |nil=>cases h
   |cons w b=>
    have h:(match w.Df t,Tup.ofL (u::ts) b with|some x,zw xs=>zw (x,xs)|_,_=>zz)=zw x:=h;split at h
    .rename_i y d g j;cases h;show (⟨t,y⟩:Wd)::Tup.m_ (u::ts) d=w::b;rw[c j,iJ g]
    .cases h
theorem xQ:∀(ts:List Ty) (x:Tup ts),(Tup.m_ ts x).map (·.t)=ts
 | [],x=>rfl
 | [t],x=>rfl
 |t::u::ts,x=>by simp only[Tup.m_,Qf,xQ (u::ts)]
def aX.er(s:aX):Fw.Spec:={ sig:=s.sig.er,R:=λins dP=>∃x y,s.ff x=zw y/\ins=(Tup.m_ s.sig.pin.tys x).map dH/\dP=(Tup.m_ s.sig.aW.tys y).map dH }
theorem Vg{A R:Type}{x y:A}{r:Option R}{z:R}(h:zu x y r=zw z):x=y/\r=zw z:=by
 unfold zu at h;split at h
 .rename_i e;exact⟨e,h⟩
 .cases h
theorem Cj{R:Type}{a b:Nat->TO}{r z:R}:∀{gs:List Nat},Lu a b r gs=zw z->r=z/\∀g∈gs,tH (d_ (b g))=tH (d_ (a g))
 | [],h=>by simp only[Lu,Q0]at h;exact⟨h,λg hg=>by cases hg⟩
 |g::gs,h=>by
  simp only[Lu]at h;split at h
  .rename_i e l _ _ B H d j;split at h
   .rename_i m c;obtain⟨q,h⟩:=Vg h;obtain⟨q1,q2⟩:=Cj h;refine⟨q1,λg' hg=>?_⟩;rcases XN.1 hg with rfl|hg
    .rw [d,j];subst q;obtain⟨w,c⟩:=pU c;cases w;subst c;rfl
    .exact q2 g' hg
   .cases h
  .rename_i e J l _ _ B K H d j;split at h
   .rename_i m c y;obtain⟨q,h⟩:=Vg h;obtain⟨q1,q2⟩:=Cj h;refine⟨q1,λg' hg=>?_⟩;rcases XN.1 hg with rfl|hg
    .rw [d,j];subst q;obtain⟨w,c⟩:=pU c;cases w;subst c;have:=pV y;subst this;rfl
    .exact q2 g' hg
   .cases h
  .cases h
theorem Ry{s:aX}{x:Tup s.sig.pin.tys}{y:Tup s.sig.aW.tys}(h:s.ff x=zw y):s.f x=zw y/\∀g∈s.sig.kept,tH (d_ ((mkT s.sig.aW (Tup.m_ s.sig.aW.tys y)).go g))=tH (d_ ((mkT s.sig.pin (Tup.m_ s.sig.pin.tys x)).go g)):=by
 obtain⟨⟨na,pin,aW,d,j,m,kept⟩,f⟩:=s;cases kept with
 |nil=>exact⟨h,λg hg=>by cases hg⟩
 |cons g0 gs=>
  have h:(f x).bind (λy=>Lu (mkT pin (Tup.m_ pin.tys x)).go (mkT aW (Tup.m_ aW.tys y)).go y (g0::gs))=zw y:=h;cases b:f x with
  |none=>rw[b]at h;cases h
  |some z=>rw[b]at h;obtain⟨e,c⟩:=Cj h;subst e;exact⟨b,c⟩
theorem O_(same:List Nat):∀(l:List (Nat×TO)),je (O4 same l)=(je l).filter λp=>!same.contains p.1
 | []=>rfl
 |(g,x)::r=>by
  have b:=O_ same r;simp only[O4];have e:je ((g,x)::r)=(g,d_ x)::je r:=rfl;rw[e,za,<-bU];cases h:gy g same with
  |true=>simp only[Bool.not_true,Wb,if_false];exact b
  |false=>simp only[vv,if_true];show (g,d_ x)::je (O4 same r)=_;rw[b]
def L9(s:dn)(d:Nat)(o:Nat->TO)(c:Ja)(dP:List Wd):List Nat:=match s.kept with
 | []=>[]
 |_::_=>Ef s o (λg'=>Q9 c.A c.I (callName d s.er c.ren) ((mkT s.aW dP).go g')) c.ren
theorem Rz{s:dn}{d:Nat}{o:Nat->TO}{c:Ja}{dP:List Wd}:(Aj s d o c dP).er=DK (L9 s d o c dP) (vU s d o c dP).er:=by
 obtain⟨na,pin,b,g,h,j,kept⟩:=s;cases kept with
 |nil=>
  show (vU _ d o c dP).er=DK [] _;have :∀(e:Eff),e=DK [] e:=λe=>by unfold DK;have:e.aK.filter (λp=>!([]:List Nat).contains p.1)=e.aK:=List.filter_eq_self.2 λp _=>rfl;rw[this]
  exact this _
 |cons g0 gs=>unfold Aj DK L9 jT.er;simp only[O_]
theorem Ph{a b:Bool}(h:amG a b=zj):a=b:=by cases a<;>cases b<;>first|rfl|cases h
theorem Io{x:TO}{a i:Bool}(h:XQ x=zw (a,i)):uK (d_ x)=(a,i)/\Xe (d_ x)=zj:=by
 cases x with
 |arr c d g e l=>cases c<;>cases h;exact⟨rfl,rfl⟩
 |aP d g e j l b=>cases b<;>cases h;exact⟨rfl,rfl⟩
 |_=>cases h
theorem L_{s:dn}{o f:Nat->TO}{g:Nat}:∀{r:List (Nat×Nat)},g∈Ef s o f r->∃g',(g',g)∈r/\g'∈s.kept/\s.bH.contains g'=zj/\uK (d_ (f g'))=uK (d_ (o g))/\Xe (d_ (o g))=zj
 | [],h=>by cases h
 |(c,g1)::r,h=>by
  simp only[Ef]at h;have b:g∈Ef s o f r->∃g',(g',g)∈(c,g1)::r/\g'∈s.kept/\s.bH.contains g'=zj/\uK (d_ (f g'))=uK (d_ (o g))/\Xe (d_ (o g))=zj:=λh=>
   let ⟨g',q,w⟩:=L_ h
   ⟨g',V1 _ q,w⟩
  split at h
  .rename_i a i K L y z B;split at h
   .rename_i H;rcases XN.1 h with rfl|h
    .obtain ⟨d,j⟩:=jg H;have d:=Ph d;have j:=Ph j;subst d;subst j;obtain⟨m,J⟩:=jg y;obtain⟨f1,f2⟩:=Io z;obtain⟨f3,_⟩:=Io B;rw[bU]at m;exact⟨c,by simp,by simpa using m,J,by rw[f1,f3],f2⟩
    .exact b h
   .exact b h
  .exact b h
theorem Vh{sp:aX}(b:sp.sig.er.ok=zj){d:Nat}{o:Nat->TO}{args:List S}{c:Ja}(q:jh sp.sig.er (dh o) args=zw c.er)(w:c.er.fine sp.sig.er=zj){x:Tup sp.sig.pin.tys}{y:Tup sp.sig.aW.tys}(z:Tup.m_ sp.sig.pin.tys x=c.ins)(B:sp.ff x=zw y):
  ∀g∈L9 sp.sig d o c (Tup.m_ sp.sig.aW.tys y),g∈c.er.ren.map (·.2)/\(lG sp.sig.er d (dh o) c.er ((Tup.m_ sp.sig.aW.tys y).map dH)).aK.lookup g=zw (dh o g):=by
 intro g hg;have hg:g∈Ef sp.sig o (λg'=>Q9 c.A c.I (callName d sp.sig.er c.ren) ((mkT sp.sig.aW (Tup.m_ sp.sig.aW.tys y)).go g')) c.ren:=by
  unfold L9 at hg;split at hg
  .cases hg
  .exact hg
 obtain⟨g',H,J,K,h,L⟩:=L_ hg;have j:(g',g)∈c.er.ren:=H;refine⟨XS.2 ⟨(g',g),j,rfl⟩,?_⟩;have m:d_ ((mkT sp.sig.aW (Tup.m_ sp.sig.aW.tys y)).go g')=(Fw.mk sp.sig.er.aW ((Tup.m_ sp.sig.aW.tys y).map dH)).o g':=W3 (λs=>s.o g') (zC (xQ _ y));have M:d_ ((mkT sp.sig.pin (Tup.m_ sp.sig.pin.tys x)).go g')=(Fw.mk sp.sig.er.pin c.er.ins).o g':=by have:=W3 (λs=>s.o g') (zC (xQ _ x));rw[z]at this ⊢;exact this
 refine abE b q w j K ?_ L ?_
 .rw [<-m,<-M];exact(Ry B).2 g' J
 .rw [Rx]at h;rw[<-m];exact h
def nJ(T:lK):Tab:=λf=>(T f).map aX.er
theorem zF(l:List (Nat×TO)):∀(u:List (Nat×TO)) (g:Nat),jZ .none (Eh l u) g=match u.lookup g with|some x=>x|none=>jZ .none l g
 | [],g=>rfl
 |(k,x)::u,g=>by simp only[Eh,rJ,List.lookup,Jq,zF l u g];cases h:Nat.beq g k<;>rfl
theorem Pj(q:kF)(dst:Option Tmp)(e:jT):bg (q.eff dst e).st=(bg q.st).eff dst e.er:=by
 have b :∀g,d_ (jZ .none (Eh q.st.o e.aK) g)=match (je e.aK).lookup g with|some x=>x|none=>d_ (jZ .none q.st.o g):=λg=>by rw[zF];have:(je e.aK).lookup g=(e.aK.lookup g).map d_:=qF d_ g e.aK;rw[this];cases e.aK.lookup g<;>rfl
 have hu :∀g,gy g (e.new++q.st.u)=(e.new.contains g||gy g q.st.u):=λg=>by simp[bU]
 cases dst with
 |none=>
  refine St.ext' (λt=>rfl) (λg=>?_) λg=>?_
  .exact b g
  .exact hu g
 |some d=>
  refine St.ext' (λt=>?_) (λg=>?_) λg=>?_
  .show bI (jZ .no (zi d e.x q.st.s) t)=bif Nat.beq t d then bI e.x else bI (jZ .no q.st.s t)
   rw[rJ];cases Nat.beq t d<;>rfl
  .exact b g
  .exact hu g
end
end Go.Fg

namespace Go.Fg
open Go.Fw
section
variable [fH]
theorem Gg{T:Tab}{tt:TT}{N:Nat}{ops:Array Oper}{o:Oper}{st:St}{K g:Eff->Prop}(d :∀e,K e->g e)(h:stepW T tt N ops o st K):stepW T tt N ops o st g:=by
 unfold stepW at *;refine⟨h.1,?_⟩;have h:=h.2;split at h
 .exact pF (λe c=>⟨c.1,d e c.2⟩) h
 .split at h
  .rename_i b j;cases b with
   |true=>simp only[cond_true]at h ⊢;exact pF (λe c=>⟨c.1,d e c.2⟩) h
   |false=>exact d _ h
  .exact h
theorem Mc{T:Tab}{tt:TT}{N:Nat}{ops:Array Oper}{o:Oper}{st:St}{K g:Eff->Prop}(d :∀e,K e->g e)(h:DZ T tt N ops o st K):DZ T tt N ops o st g:=by
 unfold DZ at *;split at h
 .exact ⟨h.1,λb c=>d _ (h.2 b c)⟩
 .split at h
  .exact ⟨h.1,λc=>d _ (h.2.1 c),λc=>d _ (h.2.2 c)⟩
  .exact Gg d h
end
theorem aiz{R:Type}{b:Bool}{x:Option R}{r:R}(h:ck b x=zw r):b=zj/\x=zw r:=by
 cases b
 .cases h
 .exact ⟨rfl,h⟩
theorem ace{R:Type}{x y:Option R}{r:R}(h:both x y=zw r):x=zw r/\y=zw r:=by
 unfold both at h;split at h
 .rename_i e;exact⟨h,e▸h⟩
 .cases h
section
variable [RE]
theorem Zt{R:Type}{b:Bool}{x:Prog R}{r:R}(h:(Prog.chk b x).run=zw r):b=zj/\x.run=zw r:=aiz h
theorem ae7{A B R:Type}{n:Nat}{f:A->Option B}{a:A}{k:B->Prog R}{r:R}(h:(Prog.call n f a k).run=zw r):∃y,f a=zw y/\(k y).run=zw r:=by
 have h:(f a).bind (λz=>(k z).run)=zw r:=h;cases b:f a with
 |none=>rw[b]at h;cases h
 |some y=>rw[b]at h;exact⟨y,rfl,h⟩
theorem dD{R:Type}{n:Nat}{r:R}(h:(Prog.stuck n:Prog R).run=zw r):False:=by cases h
theorem Et(st:jI):(bg st).dG=λx=>bI (st.dG x):=funext (mD st)
theorem ae8(x:TS):ao9 (bI x)=aeO x:=by
 cases x with
 |v x=>cases x with
  |one x=>cases x<;>rfl
  |agg xs=>rfl
 |jq xs=>rfl
 |no=>rfl
theorem Pm:∀l:List TS,YQ (l.map bI)=LD l
 | []=>rfl
 |x::l=>by simp only[Qf,YQ,LD,ae8 x,Pm l];cases aeO x<;>rfl
theorem Me{T:lK}{fn:Nat}{st:jI}{args:List Operand}:pick (nJ T) fn (args.map (bg st).dG)=(Za T fn (args.map st.dG)).map aX.er:=by
 have e:args.map (bg st).dG=(args.map st.dG).map bI:=by rw[Et,UI];rfl
 have b:Ue fn ((args.map st.dG).map bI)=F7 fn (args.map st.dG):=by unfold Ue F7;rw[Pm];cases LD (args.map st.dG)<;>rfl
 rw[e];unfold pick Za;rw[b];cases Nat.blt fn 1000000 with
 |false=>rfl
 |true=>simp only[nJ];cases T (F7 fn (args.map st.dG))<;>rfl
theorem Zu{x:TS}{fn:FuncId}{caps:List TW}(h:x=.v (.one (.clo fn caps))):bI x=.v (.one (.clo fn (caps.map cZ))):=by subst h;simp only[bI,kE,cZ,Ag]
theorem MB(st:jI)(args:List Operand)(caps:List TW):
  (args.map (bg st).dG)++(caps.map cZ).map (λx=>S.v (.one x))=((args.map st.dG)++caps.map λx=>TS.v (.one x)).map bI:=by
 simp only[Ys,UI,Et];rfl
theorem Pn{o:Nat->TO}{g d:Nat}{a i:Bool}{e:Ty}{au:List (Nat×Ty)}{l:List (Dt e)}(j:U3 (o g)=zw d)(b:yA o g=zw ⟨a,i,e,au,l⟩):Fw.lu (dh o) g=je [(g,.aP a i e au l zz),(d,.none)]:=by
 unfold yA at b;cases m:o g with
 |aP a0 i0 q w y h=>
  rw[m]at j b;have hg:dh o g=.aP a0 i0 (size q) (gW w) (aN q y) h:=by simp[dh,m,d_]
  rcases h with _|⟨n,c,z⟩
  .cases j
  .simp only[U3,Q0]at j;subst j;simp only at b;cases hd:o z with
   |arr B M N T U=>
    rw[hd]at b;cases B with
    |true=>cases b
    |false=>
     simp only at b;split at b
     .rename_i H;cases b;obtain⟨J,K,L⟩:=vN H;simp only[Fw.lu,hg,iM hd];rw[QR ⟨J,L⟩,<-BU K];rfl
     .cases b
   |_=>rw[hd]at b;cases b
 |_=>rw[m]at j;cases j
theorem MC(st:jI)(u:List (Nat×TO)):bg { st with o:=Eh st.o u }=(bg st).aK (je u) []:=by
 refine St.ext' (λt=>rfl) (λg=>?_) λg=>by simp[bg,St.aK]
 show d_ (jZ .none (Eh st.o u) g)=match (je u).lookup g with|some x=>x|none=>d_ (jZ .none st.o g)
 rw[zF];have:(je u).lookup g=(u.lookup g).map d_:=qF d_ g u;rw[this];cases u.lookup g<;>rfl
theorem gK{α β:Type}{f g:α->List β}:∀{l:List α},(∀x∈l,f x=g x)->l.flatMap f=l.flatMap g
 | [],_=>rfl
 |x::l,h=>by simp only[ZD,h x (by simp),gK (l:=l) λy b=>h y (by simp[b])]
theorem vC(f:FuncId)(caps:List W):(W.clo f caps).names=caps.flatMap W.names:=by
 rw[W.names];have :∀(l:List {x // x∈caps}),(l.flatMap λx=>x.1.names)=(l.map (·.1)).flatMap W.names:=λl=>by rw[zb]
 rw[this,List.attach_map_subtype_val]
theorem Ip:∀(caps:List TW),zy caps=(oM caps).flatMap W.names
 | []=>rfl
 |c::b=>by cases c<;>simp[zy,oM,cZ,W.names,Ip b]
theorem Cm(x:TW):W.namesT x=(cZ x).names:=by
 cases x with
 |clo f b=>simp only[W.namesT,cZ,vC,Ip]
 |_=>simp only[W.namesT,cZ,W.names]
theorem MF(x:TV):V.namesT x=(kE x).names:=by
 cases x with
 |one x=>exact Cm x
 |agg xs=>simp only[V.namesT,kE,V.names,zb];exact gK λx _=>Cm x
theorem xR(x:TS):S.namesT x=(bI x).names:=by
 cases x with
 |v x=>exact MF x
 |jq xs=>simp only[S.namesT,bI,S.names,zb];exact gK λx _=>MF x
 |no=>rfl
theorem Po{R:Type}{T:lK}{tt:TT}{ety:TypeId->Option Ty}{d:Nat}{st:jI}{o:Oper}{K:jT->Prog R}{r:R}(h:(Zb T tt ety d st o K).run=zw r):
  lg (nJ T) tt d (bg st) o λe=>∃g:jT,e=g.er/\(K g).run=zw r:=by
 have plain :∀op,(match jS tt ety d st.go st.dG op o.type with
   |some r=>Prog.chk r.pre (.let_ r.val λz=>K { x:=r.dst z,aK:=r.aK z,new:=r.new })
   |none=>match eF tt ety d st.go st.dG op o.type with
    |some r=>Prog.chk r.pre (.let_ r.val λz=>K { x:=r.dst z,aK:=r.aK z,new:=r.new })
    |none=>.stuck 16).run=zw r->(∃L b,dX tt L d (bg st).o (bg st).dG op o.type=zw b/\b.pre/\NR b.val λz=>∃g:jT,({ x:=b.dst z,aK:=b.aK z,new:=b.new }:Eff)=g.er/\(K g).run=zw r)\/(match kernel tt d (bg st).o (bg st).dG op o.type with
   |some b=>b.pre/\bif Ht op then NR b.val λz=>(∃g:jT,({ x:=b.dst z,aK:=b.aK z,new:=b.new }:Eff)=g.er/\(K g).run=zw r)else(∃g:jT,({ x:=b.dst b.val,aK:=b.aK b.val,new:=b.new }:Eff)=g.er/\(K g).run=zw r)
   |none=>False):=by
  intro op h;split at h
  .rename_i j M;obtain⟨H,N⟩:=Zt h;obtain⟨L,b,m,q⟩:=U1 op j M;refine .inl ⟨L,b,by rw[Et];exact m,q.pre H,NR.iff.2 ⟨{ x:=j.dst j.val,aK:=j.aK j.val,new:=j.new },?_,N⟩⟩;simp only[jT.er,q.dst,q.aK,q.new]
  refine .inr ?_;split at h
  .rename_i j M;obtain⟨H,N⟩:=Zt h;obtain⟨b,m,q,hn⟩:=XJ op j M;have q:=q H;have m:kernel tt d (bg st).o (bg st).dG op o.type=zw b:=by rw[Et];exact m
   rw[m];refine⟨q.pre H,?_⟩;have key :∃g:jT,({ x:=b.dst b.val,aK:=b.aK b.val,new:=b.new }:Eff)=g.er/\(K g).run=zw r:=⟨{ x:=j.dst j.val,aK:=j.aK j.val,new:=j.new },by simp only[jT.er,q.dst,q.aK,hn],N⟩
   cases Ht op with
   |true=>exact NR.iff.2 key
   |false=>exact key
  .exact (dD h).elim
 unfold Zb at h;unfold lg;split at h
 .rename_i f args ts w;rw[w];simp only;split at h
  .rename_i fn B hf;have U:=Zu hf;rw[mD,U];simp only;split at h
   .rename_i sp hT;have X:pick (nJ T) fn (args.toList.map (bg st).dG)=zw sp.er:=by rw[Me,hT];rfl
    rw[X];simp only;split at h
    .rename_i c hc;obtain⟨J,k2⟩:=L8 hc;have J:jh sp.er.sig (bg st).o ((args.toList.map (bg st).dG)++(B.map cZ).map λx=>S.v (.one x))=zw c.er:=by rw[MB];exact J
     rw[J];simp only;split at h
     .rename_i Y0;split at h
      .rename_i x hx;split at h
       rotate_left
       .exact (dD h).elim
       rename_i Y;obtain⟨y,hy,h⟩:=ae7 h;obtain⟨f1,f2⟩:=jg Y0;refine⟨?_,(Tup.m_ sp.sig.aW.tys y).map dH,L9 sp.sig d st.go c (Tup.m_ sp.sig.aW.tys y),⟨x,y,hy,?_,rfl⟩,Vh Y J f1 (Jr _ hx) hy,Aj sp.sig d st.go c (Tup.m_ sp.sig.aW.tys y),?_,h⟩
       .have f2:=Q6 f2;simp only[X1,Wa,We];exact⟨f1,f2⟩
       .rw [Jr _ hx];rfl
       .rw [Rz];exact W3 _ (Vf (xQ _ _) (acd hc)).symm
      .exact (dD h).elim
     .exact (dD h).elim
    .exact (dD h).elim
   .exact (dD h).elim
  .exact (dD h).elim
 .rename_i Z;have h:=plain _ h;split
  .rename_i f args ts w;exact(Z _ _ _ w).elim
  .exact h
theorem Gi(x:TO):(d_ x).hn=jw x:=by
 cases x with
 |aP a i e c l b=>cases b<;>rfl
 |_=>rfl
theorem RD(x:TO):yT (d_ x)=F8 x:=by
 cases x with
 |box b=>show (b.map cZ).flatMap W.names=b.flatMap W.namesT;rw[zb];exact gK λx _=>(Cm x).symm
 |_=>rfl
theorem Iq(st:jI):∀(n:Nat) (gs:List Nat),qx (bg st).o n gs=Ei st.go n gs
 |0,_=>rfl
 |n+1,gs=>by have e:(gs.flatMap λg=>yT ((bg st).o g))=gs.flatMap λg=>F8 (st.go g):=gK λg _=>RD (st.go g);simp only[qx,Ei,e,Iq st n]
theorem Eu(st:jI)(o:Oper):argNames (bg st) o=Ak st o:=by
 unfold argNames Ak;generalize o.op=op;cases op with
 |call c=>
  obtain⟨callee,args,ats⟩:=c;cases callee with
  |value f=>refine gK λx _=>?_;rw[mD,xR]
  |_=>rfl
 |slice t x lo b d=>show ((bg st).dG x).names=S.namesT (st.dG x);rw[mD,xR]
 |_=>rfl
theorem MG(st:jI)(o:Oper):uJ (bg st) o=Jo st o:=by unfold uJ Jo;rw[Eu,Iq]
theorem MH(st:jI)(o:Oper):jG (bg st) o=Jp st o:=by
 unfold jG Jp;rw[MG,Eu];refine List.filter_congr λg _=>?_;have:((bg st).o g).hn=jw (st.go g):=Gi _;rw[this];cases jw (st.go g)with
 |nil=>rfl
 |cons d _=>simp only[bU]
theorem Am:∀{gs:List Nat} {st b:jI},LG gs st=zw b->bg b=Fw.shuts gs (bg st)
 | [],st,b,h=>by simp only[LG,Q0]at h;subst h;rfl
 |g::gs,st,b,h=>by
  simp only[LG]at h;split at h
  .rename_i d a i e m l c j;rw[Am h,MC];have:=Pn c j;have this:Fw.lu (bg st).o g=_:=this;simp only[Fw.shuts];rw[this]
  .cases h
theorem acf{hs:List Nat}{st b:jI}(h:LG hs st=zw b):Ba hs (bg st)=je (XR hs st b):=by have e:=Am h;unfold Ba XR je;rw[<-e,List.map_flatMap];refine gK λg _=>?_;have:((bg st).o g).hn=jw (st.go g):=Gi _;rw[this,Qf,UI];rfl
theorem ae9{R:Type}{T:lK}{tt:TT}{ety:TypeId->Option Ty}{d:Nat}{st:jI}{o:Oper}{K:jT->Prog R}{r:R}(h:(ab_ T tt ety d st o K).run=zw r):
  jH (nJ T) tt d (bg st) o λe=>∃c:jT,e=c.er/\(K c).run=zw r:=by
 unfold ab_ at h;unfold jH;rw[MH];split at h
 .rename_i b;rw[b];exact Po h
 .rename_i g gs b;rw[b];split at h
  .rename_i m j;have:=Po h;rw[Am j]at this;refine tK ?_ this;rintro e ⟨c,rfl,h⟩;refine⟨_,?_,h⟩;simp only[DL,jT.er,acf j];simp only[je,Ys]
  .exact (dD h).elim
structure tZ(q q':kF):Prop where
 s :∀t,hasK t q'.st.s=zj->gy t q'.ds=zv->hasK t q.st.s=zj/\gy t q.ds=zv/\q'.st.gs t=q.st.gs t
 o :∀g,hasK g q'.st.o=zj->gy g q'.od=zv->hasK g q.st.o=zj/\gy g q.od=zv/\q'.st.go g=q.st.go g
theorem tZ.refl(q:kF):tZ q q:=⟨λt b c=>⟨b,c,rfl⟩,λt b c=>⟨b,c,rfl⟩⟩
theorem tZ.trans{a b c:kF}(z:tZ a b)(B:tZ b c):tZ a c:=
 ⟨λt d g=>let ⟨h,j,m⟩:=B.s t d g;let ⟨q,w,y⟩:=z.s t h j;⟨q,w,m.trans y⟩,
  λt d g=>let ⟨h,j,m⟩:=B.o t d g;let ⟨q,w,y⟩:=z.o t h j;⟨q,w,m.trans y⟩⟩
theorem vX{α:Type}(k:Nat)(v:α)(t:Nat):∀(l:List (Nat×α)),hasK t (zi k v l)=(Nat.beq t k||hasK t l)
 | []=>by simp[zi,hasK]
 |(b,c)::r=>by
  simp only[zi];cases h:Nat.beq k b with
  |true=>have e:=Q6 h;subst e;simp only[cond_true,hasK];cases Nat.beq t k<;>simp
  |false=>simp only[cond_false,hasK,vX k v t r];cases Nat.beq t k<;>cases Nat.beq t b<;>simp
theorem vY{α:Type}(d:α):∀(l:List (Nat×α)) (t:Nat),hasK t l=zv->jZ d l t=d
 | [],t,_=>rfl
 |(k,v)::r,t,h=>by simp only[hasK,J2]at h;simp only[jZ,h.1,cond_false];exact vY d r t h.2
theorem Vj(l:List (Nat×TO))(g:Nat):∀(u:List (Nat×TO)),hasK g (Eh l u)=(gy g (u.map (·.1))||hasK g l)
 | []=>rfl
 |(k,x)::u=>by simp only[Eh,vX,Vj l g u,Qf,gy,Bool.or_assoc]
theorem yD{α:Type}(g:Nat):∀{u:List (Nat×α)},gy g (u.map (·.1))=zv->u.lookup g=zz
 | [],_=>rfl
 |(k,x)::u,h=>by simp only[Qf,gy,J2]at h;simp only[List.lookup,Jq,h.1];exact yD g h.2
theorem tZ.eff(q:kF)(dst:Option Tmp)(e:jT):tZ q (q.eff dst e):=by
 refine⟨λt c b=>?_,λg c b=>?_⟩
 .cases dst with
  |none=>exact⟨c,b,rfl⟩
  |some d=>have b:gy t (d::q.ds)=zv:=b;have c:hasK t (zi d e.x q.st.s)=zj:=c;simp only[gy,J2]at b;rw[vX,b.1,K9]at c;refine⟨c,b.2,?_⟩;show jZ .no (zi d e.x q.st.s) t=jZ .no q.st.s t;rw[rJ,b.1];rfl
 .have c:hasK g (Eh q.st.o e.aK)=zj:=c;have b:gy g (e.aK.map (·.1)++q.od)=zv:=b;rw[bU]at b;simp only[vl,J2]at b;rw[<-bU,<-bU]at b;rw[Vj,b.1,K9]at c;refine⟨c,b.2,?_⟩;show jZ .none (Eh q.st.o e.aK) g=jZ .none q.st.o g;rw[zF,yD g b.1]
theorem Zv{q:kF}{t:Tmp}{a i b:Bool}(h:q.st.gs t=.v (.one (.p a i (jC b))))(u:Nat):(q.know t a i b).st.gs u=q.st.gs u:=by
 show jZ .no (zi t (.v (.one (.p a i (jC b)))) q.st.s) u=jZ .no q.st.s u;rw[rJ];cases c:Nat.beq u t with
 |false=>rfl
 |true=>have e:=Q6 c;subst e;exact h.symm
theorem ae_{q:kF}{t:Tmp}{a i b:Bool}(h:q.st.gs t=.v (.one (.p a i (jC b))))(u:Nat):hasK u (q.know t a i b).st.s=hasK u q.st.s:=by
 show hasK u (zi t (.v (.one (.p a i (jC b)))) q.st.s)=hasK u q.st.s;rw[vX];cases c:Nat.beq u t with
 |false=>rfl
 |true=>
  have e:=Q6 c;subst e;cases d:hasK u q.st.s with
  |true=>rfl
  |false=>have:=vY TS.no q.st.s u d;rw[jI.gs]at h;rw[this]at h;cases h
theorem zG{q:kF}{t:Tmp}{a i b:Bool}(h:q.st.gs t=.v (.one (.p a i (jC b)))):bg (q.know t a i b).st=bg q.st:=St.ext' (λu=>by show bI _=bI _;rw[Zv h]) (λg=>rfl) λg=>rfl
theorem zH{q:kF}{t:Tmp}{a i b:Bool}(h:q.st.gs t=.v (.one (.p a i (jC b)))):tZ q (q.know t a i b):=⟨λu c d=>⟨by rw[<-ae_ h];exact c,d,Zv h u⟩,λg c d=>⟨c,d,rfl⟩⟩
theorem Vk{q:kF}{t:Tmp}{a i:Bool}{k:IntKind}{n:Int}(h:q.st.gs t=.v (.one (.p a i (jv k n))))(u:Nat):(q.U4 t a i k n).st.gs u=q.st.gs u:=by
 show jZ .no (zi t (.v (.one (.p a i (jv k n)))) q.st.s) u=jZ .no q.st.s u;rw[rJ];cases b:Nat.beq u t with
 |false=>rfl
 |true=>have e:=Q6 b;subst e;exact h.symm
theorem acg{q:kF}{t:Tmp}{a i:Bool}{k:IntKind}{n:Int}(h:q.st.gs t=.v (.one (.p a i (jv k n))))(u:Nat):hasK u (q.U4 t a i k n).st.s=hasK u q.st.s:=by
 show hasK u (zi t (.v (.one (.p a i (jv k n)))) q.st.s)=hasK u q.st.s;rw[vX];cases b:Nat.beq u t with
 |false=>rfl
 |true=>
  have e:=Q6 b;subst e;cases c:hasK u q.st.s with
  |true=>rfl
  |false=>have:=vY TS.no q.st.s u c;rw[jI.gs]at h;rw[this]at h;cases h
theorem ach{q:kF}{t:Tmp}{a i:Bool}{k:IntKind}{n:Int}(h:q.st.gs t=.v (.one (.p a i (jv k n)))):bg (q.U4 t a i k n).st=bg q.st:=St.ext' (λu=>by show bI _=bI _;rw[Vk h]) (λg=>rfl) λg=>rfl
theorem aci{q:kF}{t:Tmp}{a i:Bool}{k:IntKind}{n:Int}(h:q.st.gs t=.v (.one (.p a i (jv k n)))):tZ q (q.U4 t a i k n):=⟨λu b c=>⟨by rw[<-acg h];exact b,c,Vk h u⟩,λg b c=>⟨b,c,rfl⟩⟩
theorem Vl{R:Type}{v:Int}{k:Int->Prog R}{r:R}:∀(n m:Nat),(Zd v k m n).run=zw r->(k v).run=zw r
 |0,_,h=>(dD h).elim
 |1,m,h=>by
  have h:ck (eqI v (Int.ofNat m)) (k (Int.ofNat m)).run=zw r:=h;cases b:eqI v (Int.ofNat m)with
  |true=>rw[b]at h;have e:v=Int.ofNat m:=ZS b;rw[e];exact h
  |false=>rw[b]at h;cases h
 |n+2,m,h=>by
  have h:(bif eqI v (Int.ofNat m)then(k (Int.ofNat m)).run else(Zd v k (m+1) (n+1)).run)=zw r:=h;cases b:eqI v (Int.ofNat m)with
  |true=>rw[b]at h;have e:v=Int.ofNat m:=ZS b;rw[e];exact h
  |false=>rw[b]at h;exact Vl (n+1) (m+1) h
theorem afa{tt:TT}{st:jI}{t:TypeId}{x:Operand}{j:Tmp}{a i:Bool}{k:IntKind}{v:Int}{n:Nat}(h:aeP tt st t x j=zw (a,i,k,v,n)):st.gs j=.v (.one (.p a i (jv k v))):=by
 have key :∀{y:TS} {m:Nat},(match y with
   |.v (.one (.p a i ⟨.int k,v⟩))=>bif Nat.ble m 4 then zw (a,i,k,v,m)else zz
   |_=>zz)=zw (a,i,k,v,n)->y=.v (.one (.p a i (jv k v))):=by
  intro y m h;split at h
  .cases b:Nat.ble m 4 with
   |true=>rw[b]at h;simp only[cond_true,Q0,QQ]at h;obtain⟨rfl,rfl,rfl,rfl,rfl⟩:=h;rfl
   |false=>rw[b]at h;cases h
  .cases h
 unfold aeP at h;split at h
 .split at h
  .exact key h
  .exact key h
  .exact key h
  .cases h
 .cases h
theorem aiA{tt:TT}{st:jI}{o:Oper}{t:Tmp}{a i:Bool}{k:IntKind}{v:Int}{n:Nat}(h:amH tt st o=zw (t,a,i,k,v,n)):st.gs t=.v (.one (.p a i (jv k v))):=by
 unfold amH at h;split at h
 .split at h
  .rename_i r b;cases h;exact afa b
  .cases h
 .cases h
theorem MI{u:List Nat}:∀{gs:List Nat},Cc u gs=zj->(gs.all λg=>!gy g u)=zj
 | [],_=>rfl
 |g::gs,h=>by simp only[Cc,X1]at h;simp only[List.all_cons,X1];exact⟨h.1,MI h.2⟩
theorem CB{N:Nat}:∀(dst:Option Tmp),Zc N dst=zj->(match dst with|some d=>decide (d<N)|none=>zj)=zj
 |none,_=>rfl
 |some d,h=>YY (Wt h)
def Zw{R:Type}(q:kF)(K:kF->jT->Prog R)(r:R)(e:Eff):Prop :=∃(b:kF) (c:jT),e=c.er/\bg b.st=bg q.st/\tZ q b/\(K b c).run=zw r
theorem RF{R:Type}{T:lK}{tt:TT}{ety:TypeId->Option Ty}{d:Nat}{q0 q:kF}{o:Oper}{K:kF->jT->Prog R}{r:R}(b:bg q.st=bg q0.st)(c:tZ q0 q)
  (h:(ab_ T tt ety d q.st o λe=>match Cc q.st.u e.new with|true=>K q e|false=>.stuck 21).run=zw r) :
  jH (nJ T) tt d (bg q0.st) o λe=>(e.new.all λg=>!(bg q0.st).used g)=zj/\Zw q0 K r e:=by
 have h:=ae9 h;rw[b]at h;refine pF ?_ h;rintro e ⟨j,rfl,h⟩;split at h
 .rename_i m;refine⟨?_,q,j,rfl,b,c,h⟩;rw[<-b];exact MI m
 .exact (dD h).elim
theorem Vm{R:Type}{T:lK}{tt:TT}{ety:TypeId->Option Ty}{N:Nat}{ops:Array Oper}{o:Oper}{q:kF}{K:kF->jT->Prog R}{r:R}(h:(stepT T tt ety N ops o q K).run=zw r):
  stepW (nJ T) tt N ops o (bg q.st) (Zw q K r):=by
 unfold stepT at h;split at h
 .exact (dD h).elim
 .rename_i hd;unfold stepW;refine⟨CB _ hd,?_⟩;split at h
  .rename_i hg;rw[hg];split at h
   .exact RF rfl (tZ.refl q) h
   .rename_i t a i k v n m;have h:=Vl _ _ h;simp only[uQ]at h;have c:=aiA m;exact RF (ach c) (aci c) h
  .rename_i j want hg;rw[hg];simp only;split at h
   .exact (dD h).elim
   .rename_i t d;have:guardOf ops (bg q.st) j want=zw zv:=by
     unfold XT at d;split at d
     .rename_i w g;split at d
      .cases d
      .rename_i m;simp only[guardOf,g];show (match bI (q.st.gs w)with|.v (.one (.p _ _ (.bool b)))=>_|.jq []=>_|_=>_)=_;rw[m];rfl
      .cases d
     .cases d
    rw[this];exact⟨q,jT.skip,rfl,rfl,tZ.refl q,h⟩
   .rename_i t a i b d;have z:q.st.gs t=.v (.one (.p a i (jC b)))/\guardOf ops (bg q.st) j want=zw (bif want then b else !b):=by
     unfold XT at d;split at d
     .rename_i w g;split at d
      .rename_i B H J m;simp only[Q0,QQ]at d;obtain⟨rfl,rfl,rfl,rfl⟩:=d;refine⟨m,?_⟩;simp only[guardOf,g];show (match bI (q.st.gs w)with|.v (.one (.p _ _ (.bool b)))=>_|.jq []=>_|_=>_)=_;rw[m];rfl
      .cases d
      .cases d
     .cases d
    obtain⟨c,y⟩:=z;rw[y];simp only;have h:(bif b then _ else _:Option R)=zw r:=h;cases b with
    |true=>
     have h:(frX (q.know t a i zj) λq=>bif want then _ else K q jT.skip).run=zw r:=h;rw[uQ]at h;cases want with
     |true=>exact RF (zG c) (zH c) h
     |false=>exact⟨_,jT.skip,rfl,zG c,zH c,h⟩
    |false=>
     have h:(frX (q.know t a i zv) λq=>bif want then K q jT.skip else _).run=zw r:=h;rw[uQ]at h;cases want with
     |true=>exact⟨_,jT.skip,rfl,zG c,zH c,h⟩
     |false=>exact RF (zG c) (zH c) h
end
end Go.Fg

