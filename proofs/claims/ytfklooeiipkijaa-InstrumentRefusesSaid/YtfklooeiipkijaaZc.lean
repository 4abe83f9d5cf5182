/-
  The framework (a machine on plain data that answers as the program does), part 3.
-/
import Derived.RangeFuncLeaves
import Derived.RangeFuncCalls
import Derived.OrdersIn
import Derived.LoopNIn
import Derived.LoopN
import Derived.Tactics
import Derived.Laws.Strings
import Derived.Test.YtfklooeiipkijaaZb
set_option linter.unusedSimpArgs false
set_option linter.unusedVariables false
set_option linter.unusedSectionVars false
namespace Go.Fw
variable [d_]
theorem L8 (st:St) (dst:Option Tmp) (e:Eff) (t:Nat):(st.eff dst e).s t=if dst=some t then e.x else st.s t:=by
 cases dst with
 |none=>simp [St.eff,St.put,St.aK]
 |some d=>
  simp only [St.eff,St.put,St.aK,Q0]
  by_cases h:t=d
  ·subst h;simp
  ·have h1:Nat.beq t d=false:=by cases hb:Nat.beq t d with | false=>rfl | true=>exact absurd (Q4 hb) h
   rw [h1,if_neg (fun e=>h e.symm)];rfl
theorem xY (st:St) (dst:Option Tmp) (e:Eff) (g:Nat):(st.eff dst e).o g=match e.aK.lookup g with | some x=>x | none=>st.o g:=by
 cases dst<;>rfl
theorem uG (st:St) (dst:Option Tmp) (e:Eff) (g:Nat):(st.eff dst e).used g=(e.new.contains g||st.used g):=by
 cases dst<;>rfl
theorem jI {α:Type} {g:Nat} :∀{l:List (Nat×α)},g∉l.map (·.1)→l.lookup g=none
 | [],_=>rfl
 |(k,v)::l,h=>by
  simp only [Qf,QR,not_or] at h
  have:(g==k)=false:=by simpa using h.1
  simp only [List.lookup,this]
  exact jI h.2
theorem St.ext' {a b:St} (h1 :∀t,a.s t=b.s t) (h2 :∀g,a.o g=b.o g) (h3 :∀g,a.used g=b.used g):a=b:=by
 obtain ⟨s,o,u⟩:=a
 obtain ⟨s',o',u'⟩:=b
 simp only at h1 h2 h3
 rw [funext h1,funext h2,funext h3]
section
variable {ops:Array Oper} {es es':Nat→Eff} {st:St} {D D':Nat→Bool}
def SD (ops:Array Oper) (es:Nat→Eff) (st:St) (D:Nat→Bool):Nat→St
 |0=>st
 |k+1=>if D k=true then (SD ops es st D k).eff ((ops[k]?).bind (·.dst)) (es k) else SD ops es st D k
theorem IL :∀{n:Nat},(∀k<n,es k=es' k)→SD ops es st D n=SD ops es' st D n
 |0,_=>rfl
 |n+1,h=>by simp only [SD];rw [IL fun k hk=>h k (by omega),h n (by omega)]
theorem D6 :∀{n:Nat},(∀k<n,D k=D' k)→SD ops es st D n=SD ops es st D' n
 |0,_=>rfl
 |n+1,h=>by simp only [SD];rw [D6 fun k hk=>h k (by omega),h n (by omega)]
theorem ahS {t:Nat} :∀{n:Nat},(∀k<n,D k≠D' k→(ops[k]?).bind (·.dst)≠some t)→(SD ops es st D n).s t=(SD ops es st D' n).s t
 |0,_=>rfl
 |n+1,h=>by
  have ih:=ahS (n:=n) fun k hk=>h k (by omega)
  have hn:=h n (by omega)
  simp only [SD]
  cases h1:D n<;>cases h2:D' n
  ·simpa using ih
  ·have:=hn (by rw [h1,h2];simp)
   simp only [if_true,L8,if_neg this];simpa using ih
  ·have:=hn (by rw [h1,h2];simp)
   simp only [if_true,L8,if_neg this];simpa using ih
  ·simp only [if_true,L8,ih]
theorem ahT {g:Nat} :∀{n:Nat},(∀k<n,D k≠D' k→g∉(es k).aK.map (·.1))→(SD ops es st D n).o g=(SD ops es st D' n).o g
 |0,_=>rfl
 |n+1,h=>by
  have ih:=ahT (n:=n) fun k hk=>h k (by omega)
  have hn:=h n (by omega)
  simp only [SD]
  cases h1:D n<;>cases h2:D' n
  ·simpa using ih
  ·have:=jI (hn (by rw [h1,h2];simp))
   simp only [if_true,xY,this];simpa using ih
  ·have:=jI (hn (by rw [h1,h2];simp))
   simp only [if_true,xY,this];simpa using ih
  ·simp only [if_true,xY,ih]
theorem Ov {g:Nat} :∀{n:Nat},(∀k<n,D k≠D' k→g∉(es k).new)→(SD ops es st D n).used g=(SD ops es st D' n).used g
 |0,_=>rfl
 |n+1,h=>by
  have ih:=Ov (n:=n) fun k hk=>h k (by omega)
  have hn:=h n (by omega)
  simp only [SD]
  cases h1:D n<;>cases h2:D' n
  ·simpa using ih
  ·have:=hn (by rw [h1,h2];simp)
   have:(es n).new.contains g=false:=by simpa using this
   simp only [if_true,uG,this,UT];simpa using ih
  ·have:=hn (by rw [h1,h2];simp)
   have:(es n).new.contains g=false:=by simpa using this
   simp only [if_true,uG,this,UT];simpa using ih
  ·simp only [if_true,uG,ih]
theorem L9 {t i:Nat} (hi:D i=true) (hd:(ops[i]?).bind (·.dst)=some t) :∀{n:Nat},i<n→(∀k,i<k→k<n→D k=true→(ops[k]?).bind (·.dst)≠some t)→(SD ops es st D n).s t=(es i).x
 |0,h,_=>by omega
 |n+1,hin,h=>by
  simp only [SD]
  by_cases e:n=i
  ·subst e;simp [hi,L8,hd]
  ·have ih:=L9 hi hd (n:=n) (by omega) fun k h1 h2=>h k h1 (by omega)
   cases hn:D n with
   |false=>simpa using ih
   |true=>
    have:=h n (by omega) (by omega) hn
    simp only [if_true,L8,if_neg this,ih]
theorem L_ {g i:Nat} {x:O} (hi:D i=true) (hd:(es i).aK.lookup g=some x) :∀{n:Nat},i<n→(∀k,i<k→k<n→D k=true→g∉(es k).aK.map (·.1))→(SD ops es st D n).o g=x
 |0,h,_=>by omega
 |n+1,hin,h=>by
  simp only [SD]
  by_cases e:n=i
  ·subst e;simp [hi,xY,hd]
  ·have ih:=L_ hi hd (n:=n) (by omega) fun k h1 h2=>h k h1 (by omega)
   cases hn:D n with
   |false=>simpa using ih
   |true=>
    have:=jI (h n (by omega) (by omega) hn)
    simp only [if_true,xY,this,ih]
theorem Fz {g i:Nat} (hi:D i=true) (hd:g∈(es i).new) :∀{n:Nat},i<n→(SD ops es st D n).used g=true
 |0,h=>by omega
 |n+1,hin=>by
  simp only [SD]
  by_cases e:n=i
  ·subst e;simp [hi,uG,hd]
  ·have ih:=Fz hi hd (n:=n) (by omega)
   cases hn:D n with
   |false=>simpa using ih
   |true=>simp only [if_true,uG,ih,Bool.or_true]
structure Apart (ops:Array Oper) (x y:Oper) (fx fy:tV):Prop where
 dy :∀t,x.dst=some t→t∉y.looksAt ops
 dx :∀t,y.dst=some t→t∉x.looksAt ops
 dd :∀t,x.dst=some t→y.dst≠some t
 wr:(∀g∈fx.wr,g∉fy.rd)∨Fv fx fy=true
 rw:(∀g∈fy.wr,g∉fx.rd)∨Fv fy fx=true
 ww :∀g∈fx.wr,g∉fy.wr
 nn :∀g∈fx.new,g∉fy.new
theorem xZ {x:Option Tmp} {ts:List Tmp} (h:IK x ts=true) :∀t,x=some t→t∉ts:=by
 intro t e
 subst e
 simpa [IK] using h
theorem zi {xs ys:List Nat} (h:Oe xs ys=true) :∀x∈xs,x∉ys:=by
 intro x hx
 have:=(X2.1 h) x hx
 simpa using this
theorem UH {x y:Oper} {fx fy:tV} (h:aaL ops x y fx fy=true):Apart ops x y fx fy:=by
 simp only [aaL,Q6,UX] at h
 obtain ⟨⟨⟨⟨⟨⟨h1,h2⟩,h3⟩,h4⟩,h5⟩,h6⟩,h7⟩:=h
 exact ⟨xZ h1,xZ h2,fun t e e'=>xZ h3 t e (by simp [e']),h4.imp zi id,h5.imp zi id,zi h6,zi h7⟩
theorem Mc {acc:List Nat} {i:Nat} :∀{l:List Edge} {s:Nat},(l.foldl (fun s e=>if Region.binds .any e=true then s ||| (2 ^ e.on) ||| acc.getD e.on 0 else s) s).testBit i=true↔
  s.testBit i=true∨∃e∈l,Region.binds .any e=true∧(e.on=i∨(acc.getD e.on 0).testBit i=true)
 | [],s=>by simp
 |e::l,s=>by
  simp only [K3]
  rw [Mc]
  by_cases hb:Region.binds .any e=true
  ·simp only [hb,if_true,Nat.testBit_or,UX,Nat.testBit_two_pow,decide_eq_true_eq,QR]
   constructor
   ·rintro (((h | h) | h) | ⟨e',h1,h2⟩)
    ·exact .inl h
    ·exact .inr ⟨e,.inl rfl,hb,.inl h⟩
    ·exact .inr ⟨e,.inl rfl,hb,.inr h⟩
    ·exact .inr ⟨e',.inr h1,h2⟩
   ·rintro (h | ⟨e',h1 | h1,h2,h3 | h3⟩)
    ·exact .inl (.inl (.inl h))
    ·subst h1;exact .inl (.inl (.inr h3))
    ·subst h1;exact .inl (.inr h3)
    ·exact .inr ⟨e',h1,h2,.inl h3⟩
    ·exact .inr ⟨e',h1,h2,.inr h3⟩
  ·simp only [hb,QR]
   constructor
   ·rintro (h | ⟨e',h1,h2⟩)
    ·exact .inl (by simpa using h)
    ·exact .inr ⟨e',.inr h1,h2⟩
   ·rintro (h | ⟨e',h1 | h1,h2,h3⟩)
    ·exact .inl (by simpa using h)
    ·subst h1;exact absurd h2 hb
    ·exact .inr ⟨e',h1,h2,h3⟩
theorem IQ :∀{os:List Oper} {acc:List Nat},∃t,oz os acc=acc++t
 | [],acc=>⟨[],by simp [oz]⟩
 |o::os,acc=>by
  obtain ⟨t,h⟩:=IQ (os:=os) (acc:=acc++[lg acc o])
  exact ⟨lg acc o::t,by simp [oz,h]⟩
theorem IU :∀{os:List Oper} {acc:List Nat} {j:Nat} {o:Oper},os[j]?=some o→∃acc',(∃t,oz os acc=acc'++lg acc' o::t)∧acc'.length=acc.length+j
 | [],acc,j,o,h=>by simp at h
 |o'::os,acc,0,o,h=>by
  simp only [UP,Q0] at h
  subst h
  obtain ⟨t,h⟩:=IQ (os:=os) (acc:=acc++[lg acc o'])
  exact ⟨acc,⟨t,by simp [oz,h]⟩,rfl⟩
 |o'::os,acc,j+1,o,h=>by
  simp only [Vi] at h
  obtain ⟨acc',h1,h2⟩:=IU (acc:=acc++[lg acc o']) h
  exact ⟨acc',h1,by simp at h2;omega⟩
def Down (ops:Array Oper) (D:Nat→Bool):Prop :=∀(j:Nat) o,ops[j]?=some o→D j=true→∀e∈o.after,Region.binds .any e=true→D e.on=true
theorem IV {j:Nat} {o:Oper} (ho:ops[j]?=some o) {i:Nat}:((oz ops.toList []).getD j 0).testBit i=true↔
  ∃e∈o.after,Region.binds .any e=true∧(e.on=i∨(e.on<j∧((oz ops.toList []).getD e.on 0).testBit i=true)):=by
 have hl:ops.toList[j]?=some o:=by simpa using ho
 obtain ⟨acc,⟨t,h1⟩,h2⟩:=IU (acc:=[]) hl
 simp only [Kc,We] at h2
 rw [h1]
 have e1:(acc++lg acc o::t).getD j 0=lg acc o:=by
  rw [List.getD_eq_getElem?_getD,Z2 (by omega),h2];simp
 have e2 :∀k,(acc++lg acc o::t).getD k 0=if k<j then acc.getD k 0 else (acc++lg acc o::t).getD k 0:=by
  intro k
  split
  ·rename_i hk
   rw [List.getD_eq_getElem?_getD,Zs (by omega),←List.getD_eq_getElem?_getD]
  ·rfl
 rw [e1]
 unfold lg
 rw [Mc]
 simp only [Nat.zero_testBit,W7,false_or,Array.mem_toList_iff]
 constructor
 ·rintro ⟨e,q1,q2,q3⟩
  refine ⟨e,q1,q2,q3.imp id fun q => ?_⟩
  by_cases hk:e.on<j
  ·refine ⟨hk,?_⟩
   have:=e2 e.on
   rw [if_pos hk] at this
   unfold lg at this
   rw [this];exact q
  ·have:acc.getD e.on 0=0:=by rw [List.getD_eq_getElem?_getD,Wg (by omega)];rfl
   rw [this] at q;simp at q
 ·rintro ⟨e,q1,q2,q3⟩
  refine ⟨e,q1,q2,q3.imp id fun ⟨hk,q⟩ => ?_⟩
  have:=e2 e.on
  rw [if_pos hk] at this
  unfold lg at this
  rw [this] at q;exact q
theorem x9 (hD:Down ops D) :∀(j:Nat) {o:Oper},ops[j]?=some o→D j=true→∀i,((oz ops.toList []).getD j 0).testBit i=true→D i=true:=by
 intro j
 induction j using Nat.strongRecOn with
 |_ j ih=>
  intro o ho hj i hb
  obtain ⟨e,h1,h2,h3 | ⟨h3,h4⟩⟩:=(IV ho).1 hb
  ·rw [←h3];exact hD j o ho hj e h1 h2
  ·have hlt:j<ops.size:=(Wc.1 ho).1
   have hlt':e.on<ops.size:=by omega
   exact ih e.on h3 (Kg hlt') (hD j o ho hj e h1 h2) i h4
theorem QV {j:Nat} {o:Oper} (ho:ops[j]?=some o) (h:(oz ops.toList []).getD j 0<2 ^ j) {e:Edge} (he:e∈o.after) (hb:Region.binds .any e=true):e.on<j:=by
 have:=(IV ho (i:=e.on)).2 ⟨e,he,hb,.inl rfl⟩
 by_cases hk:e.on<j
 ·exact hk
 ·rw [Nat.testBit_lt_two_pow (Wo h (Nat.pow_le_pow_right (by omega) (by omega)))] at this;cases this
end
section
variable {E:Env} {N:Nat} {bg:List Nat} {pO:Nat→Gh} {st:St} {a:Act} {w:World} {Pg:Program} {T:Tab} {tt:TT} {ops:Array Oper} {Q:Exit→Act→World→Prop}
theorem QW {gh:Nat→Gh} (h:Rel E st gh (fun t=>a.tmps.getD t undef) w) {x:S} {v:Value} (hx:dG E st gh w x v) {i:TI} {t:TypeId} (ht:pJ Pg t i) {c:Value} {p:Bool→Prop} (hp:xX st.o x i.k c=some p) :
  ∃b,(Op.equal t v c).run Pg w=.ok b w∧p b:=by
 unfold xX at hp
 split at hp
 ·rename_i e hk
  have hu:=ht.kind
  rw [hk] at hu
  have hu:Pg.underlying t=some (.slice e):=hu
  have eqs :∀ao n cap,(Op.equal t (.slice ao n cap) (.slice none 0 0)).run Pg w=.ok ao.isNone w:=by
   intro ao n cap
   unfold Op.equal Op.maxDepth
   show (Op.equalIn (9999+1) t _ _).run Pg w=_
   unfold Op.equalIn
   cases ao<;>simp [dZ hu]
  unfold LZ at hp
  split at hp
  ·simp only [Q0] at hp;subst hp
   have r:=hx.fC
   generalize hl:(P.sl _ _)=y at r
   cases r with
   |nil sz ao cap=>cases hl;exact ⟨_,eqs _ _ _,fun h=>absurd rfl h⟩
   |sl sz l ad cap f _ _ _ _ _ _=>cases hl;exact ⟨_,eqs _ _ _,fun _=>rfl⟩
   |_=>cases hl
  ·rename_i g
   split at hp
   ·rename_i sz l ho
    simp only [Q0] at hp;subst hp
    cases hx.dJ with
    |own _ _ _ hb=>
     rw [hb _ _ ho]
     refine ⟨_,eqs _ _ _,fun hl => ?_⟩
     obtain ⟨ad,had,_⟩:=(vH (h.bf g) ho).2 (by omega)
     rw [had];rfl
   ·cases hp
  ·simp only [Q0] at hp;subst hp
   cases hx.dJ
   exact ⟨_,eqs _ _ _,rfl⟩
  ·cases hp
 ·rename_i hk
  have hu:=ht.kind
  rw [hk] at hu
  obtain ⟨e,hu⟩:=(hu :∃e,Pg.underlying t=some (.pointer e))
  have eqp :∀ao,(Op.equal t (.pointer ao) (.pointer none)).run Pg w=.ok ao.isNone w:=by
   intro ao
   unfold Op.equal Op.maxDepth
   show (Op.equalIn (9999+1) t _ _).run Pg w=_
   unfold Op.equalIn
   cases ao<;>simp [dZ hu]
  unfold Fq at hp
  split at hp
  ·rename_i g off
   split at hp
   ·rename_i ws ho
    simp only [Q0] at hp;subst hp
    cases hx.dJ with
    |box _ _ _ _ hb=>
     obtain ⟨ad,_,rfl⟩:=hb ws ho
     exact ⟨_,eqp _,rfl⟩
   ·cases hp
  ·simp only [Q0] at hp;subst hp
   cases hx.fC with
   |opq _ _=>exact ⟨_,eqp _,rfl⟩
  ·cases hp
 ·cases hp
theorem QX (hT :∀f sp,T f=some sp→Sound Pg (f % 1000000) sp) (htt:ig Pg tt) {i:Nat} {o:Oper} (hi:ops[i]?=some o) (hg:Good E N bg pO st a w) {K':Eff→Prop} (h:CG T tt N ops o st K')
  {K:Act→World→Prop} (hK :∀e a' w',K' e→Good E N bg pO (st.eff o.dst e) a' w'→K a' w'):wpOp Pg ops Q i K a w:=by
 unfold CG at h
 split at h
 ·rename_i pos p hn
  obtain ⟨hd,h⟩:=h
  have hd :∀d,o.dst=some d→d<a.tmps.size:=by
   intro d e
   rw [e] at hd
   rw [hg.size];simpa using hd
  unfold Ot at hn
  split at hn
  ·cases hn
  ·rename_i hgd
   split at hn
   ·rename_i op t x c u hop
    split at hn
    ·rename_i ti ht
     obtain ⟨gh,hR,Fe⟩:=hg.ex
     have hx:=nJ hR x
     have key :∀p',xX st.o (st.dH x) ti.k c=some p'→∃b,(Op.equal t (a.eval x) c).run Pg w=.ok b w∧p' b:=fun p' hp=>QW hR hx (htt _ _ ht) hp
     have fin :∀b,(execOp a.eval o).run Pg w=.ok (.value (.bool (bif pos then b else !b))) w→p b→wpOp Pg ops Q i K a w:=by
      intro b hrun hb
      unfold wpOp
      rw [hi]
      simp only
      have:Region.wanted o (yielded ops a.tmps)=true:=by simp [Region.wanted,hgd]
      rw [if_pos this]
      left
      show o.upon Pg a K Q ((execOp a.eval o).run Pg w)
      rw [hrun]
      refine hK _ _ _ (h b hb) ⟨⟨gh,?_,fun g hg' => ?_⟩,by rw [xU];exact hg.size,hg.defers.put _ _⟩
      ·rw [xR _ _ hd]
       unfold St.eff
       simp only [GY]
       exact hR.put o.dst (dG.ofP (.bool _)) (by simp [scalar,S.names,V.names,W.names])
      ·have ho:(st.eff o.dst { x:=scalar (.bool (bif pos then b else !b)),aK:=[],new:=[] }).o g=st.o g:=by unfold St.eff St.put;cases o.dst<;>simp [St.aK]
       have hu:(st.eff o.dst { x:=scalar (.bool (bif pos then b else !b)),aK:=[],new:=[] }).used g=st.used g:=by unfold St.eff St.put;cases o.dst<;>simp [St.aK]
       rw [ho,hu];exact Fe g hg'
     have hcv :∀b,(Op.equal t (a.eval x) c).run Pg w=.ok b w→(c=.slice none 0 0∨c=.pointer none)∧True→(eqGuard op t x (.const c) (a.eval x) c).run Pg w=.ok () w:=by
      intro b _ hc
      unfold eqGuard
      rcases hc.1 with rfl | rfl
      ·cases op<;>first | rfl | (simp only;split<;>first | rfl | simp_all)
      ·cases op<;>first | rfl | (simp only;split<;>first | rfl | simp_all)
     have hcc :∀p',xX st.o (st.dH x) ti.k c=some p'→c=.slice none 0 0∨c=.pointer none:=by
      intro p' hp
      unfold xX at hp
      split at hp
      ·exact .inl rfl
      ·exact .inr rfl
      ·cases hp
     split at hn
     ·rename_i p' hp
      simp only [Q0,Q1] at hn
      obtain ⟨rfl,rfl⟩:=hn
      obtain ⟨b,hb1,hb2⟩:=key _ hp
      refine fin b ?_ hb2
      have hge:=hcv b hb1 ⟨hcc _ hp,trivial⟩
      unfold execOp
      rw [hop]
      refine gI ?_
      show (eqGuard _ t x (.const c) (a.eval x) c >>= fun _=>binOp _ t (a.eval x) c).run Pg w=_
      rw [Sem.run_bind,hge]
      rcases hcc _ hp with rfl | rfl<;>simp [binOp,hb1]
     ·rename_i p' hp
      simp only [Q0,Q1] at hn
      obtain ⟨rfl,rfl⟩:=hn
      obtain ⟨b,hb1,hb2⟩:=key _ hp
      refine fin b ?_ hb2
      have hge:=hcv b hb1 ⟨hcc _ hp,trivial⟩
      unfold execOp
      rw [hop]
      refine gI ?_
      show (eqGuard _ t x (.const c) (a.eval x) c >>= fun _=>binOp _ t (a.eval x) c).run Pg w=_
      rw [Sem.run_bind,hge]
      rcases hcc _ hp with rfl | rfl<;>simp [binOp,hb1]
     ·cases hn
    ·cases hn
   ·cases hn
 ·split at h
  ·rename_i g s n hn
   obtain ⟨hd,h1,h2⟩:=h
   have hd :∀d,o.dst=some d→d<a.tmps.size:=by
    intro d e
    rw [e] at hd
    rw [hg.size];simpa using hd
   unfold Ou at hn
   split at hn
   ·cases hn
   ·rename_i hgd
    split at hn
    ·rename_i x hop
     split at hn
     ·rename_i g' hx
      split at hn
      ·rename_i s' n' hog
       simp only [Q0,Q1] at hn
       obtain ⟨rfl,rfl,rfl⟩:=hn
       obtain ⟨gh,hR,Fe⟩:=hg.ex
       have hrx:=nJ hR x
       rw [hx] at hrx
       obtain ⟨ad,had,hv⟩ :∃ad,(gh g').ad=some ad∧a.eval x=.pointer (some ⟨ad.block,0,none⟩):=by
        have:=hrx.dJ
        generalize a.eval x=z at this
        cases this with | m_ _ _ _ hb=>exact hb _ _ hog
       have hO:=hR.bf g'
       rw [hog] at hO
       obtain ⟨ad',bs,k,q1,rfl,rfl,q4⟩:=hO
       rw [had] at q1;cases q1
       have hlt:ad.block<w.heap.size:=(hR.wr g' ad.block (by rw [hog];rfl) (Gh.jQ had)).2
       have hkn:(P.int .i64 (k:Int)).nat=k:=by simp [P.nat,P.num]
       have hget:(getObj ad.block).run Pg w=.ok (.stringIter bs k) w:=by simp [getObj,Sem.run,q4]
       have fin :∀(v:Value) (w':World) (e:Eff),(∀b,b≠ad.block→w'.heap[b]?=w.heap[b]?)→(Instr.next (a.eval x) true o.type).run Pg w=.ok v w'→K' e→Rel E (st.aK e.aK e.new) gh (fun t=>a.tmps.getD t undef) w'→dG E (st.aK e.aK e.new) gh w' e.x v→(∀g∈e.x.names,(st.aK e.aK e.new).used g=true)→
         (∀g,st.used g=true→(st.aK e.aK e.new).used g=true)→(∀g,((st.aK e.aK e.new).o g=.none∨True)∧(st.o g=.none→(st.aK e.aK e.new).o g=.none))→wpOp Pg ops Q i K a w:=by
        intro v w' e hmm hrun hke hR' hx' hn' hu' ho'
        unfold wpOp
        rw [hi]
        simp only
        have:Region.wanted o (yielded ops a.tmps)=true:=by simp [Region.wanted,hgd]
        rw [if_pos this]
        left
        show o.upon Pg a K Q ((execOp a.eval o).run Pg w)
        have:(execOp a.eval o).run Pg w=.ok (.value v) w':=by
         unfold execOp
         rw [hop]
         exact gI hrun
        rw [this]
        refine hK e _ _ hke ⟨⟨gh,?_,fun g hg' => ?_⟩,by rw [xU];exact hg.size,hg.defers.same (fun D _ h3=>hmm D fun e'=>by rw [e',q4] at h3;cases h3) _ _⟩
        ·rw [xR _ _ hd]
         exact hR'.put o.dst hx' hn'
        ·obtain ⟨p1,p2⟩:=Fe g hg'
         have ho2:(st.eff o.dst e).o g=(st.aK e.aK e.new).o g:=by unfold St.eff St.put;cases o.dst<;>rfl
         have hu2:(st.eff o.dst e).used g=(st.aK e.aK e.new).used g:=by unfold St.eff St.put;cases o.dst<;>rfl
         refine ⟨by rw [hu2];exact hu' g p1,?_⟩
         rw [ho2]
         rcases p2 with p2 | p2
         ·exact .inl ((ho' g).2 p2)
         ·exact .inr p2
       cases hb:QT (.str bs) (.int .i64 k) with
       |true=>
        have hkb:k<bs.size:=by
         have:=of_decide_eq_true hb
         rw [hkn] at this;exact this
        have hrun:(Instr.next (a.eval x) true o.type).run Pg w=.ok (.tuple #[.bool true,.int .i64 k,.int .i32 (Utf8.decode bs k).1]) { w with heap:=w.heap.setIfInBounds ad.block (.stringIter bs (k+(Utf8.decode bs k).2)) }:=by
         rw [hv]
         simp only [Instr.next,Sem.run_bind,hget,Result.andThen_ok]
         rw [if_pos hkb]
         have hset:(setObj ad.block (.stringIter bs (k+(Utf8.decode bs k).2))).run Pg w=.ok () { w with heap:=w.heap.setIfInBounds ad.block (.stringIter bs (k+(Utf8.decode bs k).2)) }:=by
          simp [setObj,Sem.run,q4]
         simp only [Sem.run_bind,hset,Result.andThen_ok,Sem.run_pure]
         rfl
        obtain ⟨w1,w2⟩:=hR.write g' ad (by rw [hog];rfl) had (.it (.str bs) (UD (.str bs) (.int .i64 k))) (by rw [hog];trivial) { w with heap:=w.heap.setIfInBounds ad.block (.stringIter bs (k+(Utf8.decode bs k).2)) }
         (fun b hb=>by simp [Array.getElem?_setIfInBounds,Ne.symm hb]) (by simp) rfl rfl rfl rfl (fun _ e=>by cases e) (fun _=>by rw [hog];rfl)
         (fun _=>⟨ad,bs,k+(Utf8.decode bs k).2,had,rfl,by simp only [UD,lN,hkn];rfl,by simp [hlt]⟩) (fun g hg=>by simp [O.names] at hg)
        have hold :∀g,g≠g'→(st.aK (II g' (.str bs) (.int .i64 k)).aK (II g' (.str bs) (.int .i64 k)).new).o g=st.o g:=by
         intro g hne
         have:(g==g')=false:=by simpa using hne
         simp [II,St.aK,List.lookup,this]
        refine fin _ _ (II g' (.str bs) (.int .i64 k)) (fun b hb=>by simp [Array.getElem?_setIfInBounds,Ne.symm hb]) hrun (h1 hb) w1 ?_ ?_ ?_ ?_
        ·refine .lG _ _ rfl fun j x v hx hv => ?_
         match j,hx,hv with
         |0,hx,hv=>cases hx;cases hv;exact .one _ _ (.p _ _ _ _ (.bool _))
         |1,hx,hv=>cases hx;cases hv;exact .one _ _ (.p _ _ _ _ (by rw [hkn];exact .int _ _))
         |2,hx,hv=>cases hx;cases hv;exact .one _ _ (.p _ _ _ _ (by simp only [aaJ,hkn];exact .int _ _))
         |j+3,hx,_=>cases hx
        ·intro g hg'
         simp [II,S.names,V.names,W.names] at hg'
        ·intro g hg';simp [St.aK,hg']
        ·intro g
         refine ⟨.inr trivial,fun h0 => ?_⟩
         by_cases e:g=g'
         ·subst e;rw [hog] at h0;cases h0
         ·rw [hold g e];exact h0
       |false=>
        have hkb:¬ k<bs.size:=by
         have:=of_decide_eq_false hb
         rw [hkn] at this;exact this
        have hrun:(Instr.next (a.eval x) true o.type).run Pg w=.ok (.tuple #[.bool false]) w:=by
         rw [hv]
         simp only [Instr.next,Sem.run_bind,hget,Result.andThen_ok]
         rw [if_neg hkb];rfl
        refine fin _ _ L6 (fun _ _=>rfl) hrun (h2 hb) (by rw [show L6.aK=[] from rfl,show L6.new=[] from rfl,GY];exact hR) ?_ ?_ ?_ ?_
        ·refine .lG _ _ rfl fun j x v hx hv => ?_
         match j,hx,hv with
         |0,hx,hv=>cases hx;cases hv;exact .one _ _ (.p _ _ _ _ (.bool _))
         |j+1,hx,_=>cases hx
        ·intro g hg'
         simp [L6,S.names,V.names,W.names] at hg'
        ·intro g hg';simp [St.aK,hg']
        ·intro g;exact ⟨.inr trivial,fun h0=>by simpa [L6,St.aK] using h0⟩
      ·cases hn
     ·cases hn
    ·cases hn
  ·obtain ⟨e,hc,h⟩:=QM h
   exact IC hT htt hi hg hc fun a' w' hg'=>hK e a' w' h hg'
theorem CO (hT :∀f sp,T f=some sp→Sound Pg (f % 1000000) sp) (htt:ig Pg tt) {K:St→Prop} (hK :∀st' a' w',K st'→Good E N bg pO st' a' w'→Q .normal a' w') :
  ∀(is:List Nat) {st:St} {a:Act} {w:World},vV T tt N ops is st K→Good E N bg pO st a w→wpOps Pg ops Q is a w
 | [],st,a,w,h,hg=>hK st a w h hg
 |i::is,st,a,w,h,hg=>by
  simp only [vV] at h
  split at h
  ·rename_i o ho
   rw [wpOps_cons]
   exact QX hT htt ho hg h fun e a' w' h hg'=>CO hT htt hK is h hg'
  ·cases h
theorem FB {K:St→List tV→Prop} :∀(m k:Nat) (es:Nat→Eff) (fs:List tV),fs.length=k→oO T tt N ops (List.range' k m) (SD ops es st (fun _=>true) k) fs K→
  ∃(es':Nat→Eff) (fs':List tV),(∀i<k,es' i=es i)∧(∀i<k,fs'[i]?=fs[i]?)∧K (SD ops es' st (fun _=>true) (k+m)) fs'∧
   ∀i,k≤i→i<k+m→∃o,ops[i]?=some o∧Can T tt N ops (SD ops es' st (fun _=>true) i) o (es' i)∧fs'[i]?=some { rd:=qM T (SD ops es' st (fun _=>true) i) o,wr:=(es' i).aK.map (·.1),new:=(es' i).new,ld:=IJ tt (SD ops es' st (fun _=>true) i) o,kp:=UE (SD ops es' st (fun _=>true) i) (es' i),pk:=tX o.op,kd:=UG (SD ops es' st (fun _=>true) i) (es' i) }
 |0,k,es,fs,hl,h=>⟨es,fs,fun _ _=>rfl,fun _ _=>rfl,h,fun i h1 h2=>by omega⟩
 |m+1,k,es,fs,hl,h=>by
  simp only [Kh,oO] at h
  split at h
  ·rename_i o ho
   obtain ⟨e,hc,h⟩:=QM h
   let es1:Nat→Eff:=fun i=>if i=k then e else es i
   have e1:SD ops es1 st (fun _=>true) k=SD ops es st (fun _=>true) k:=IL fun i hi=>by simp only [es1];rw [if_neg (by omega)]
   have e2:SD ops es1 st (fun _=>true) (k+1)=(SD ops es st (fun _=>true) k).eff o.dst e:=by
    simp only [SD,if_true]
    rw [e1,ho]
    simp [es1]
   rw [←e2] at h
   obtain ⟨es',fs',q1,q2,q3,q4⟩:=FB m (k+1) es1 _ (by simp [hl]) h
   have e3:SD ops es' st (fun _=>true) k=SD ops es st (fun _=>true) k:=(IL fun i hi=>q1 i (by omega)).trans e1
   refine ⟨es',fs',fun i hi => ?_,fun i hi => ?_,by rw [show k+(m+1)=k+1+m by omega];exact q3,fun i h1 h2 => ?_⟩
   ·rw [q1 i (by omega)];simp only [es1];rw [if_neg (by omega)]
   ·rw [q2 i (by omega),Zs (by omega)]
   ·by_cases e:i=k
    ·subst e
     have hei:es' i=e:=by rw [q1 i (by omega)];simp [es1]
     refine ⟨o,ho,by rw [e3,hei];exact hc,?_⟩
     rw [q2 i (by omega),Z2 (by omega),e3,hei]
     simp [hl]
    ·exact q4 i (by omega) (by omega)
  ·cases h
def Rng (ws:List W) (off n:Nat) (x:O):Prop :=∃wc,x=.box wc∧wc.length=ws.length∧∀off',off≤off'→off'<off+n→wc[off']?=ws[off']?
theorem IW {g:Nat} :∀{j:Nat} {xs ys:List W} {r:List (Nat×Nat)},CJ g j xs ys=some r→xs.length=ys.length∧∀p∈r,p.1=g∧j≤p.2∧xs[p.2-j]?=ys[p.2-j]?
 |j,[],[],r,h=>by simp only [CJ,Q0] at h;subst h;exact ⟨rfl,fun p hp=>by cases hp⟩
 |j,[],y::ys,r,h=>by simp [CJ] at h
 |j,x::xs,[],r,h=>by simp [CJ] at h
 |j,x::xs,y::ys,r,h=>by
  simp only [CJ] at h
  split at h
  ·rename_i r' hr
   obtain ⟨h1,h2⟩:=IW hr
   have old :∀p∈r',p.1=g∧j≤p.2∧(x::xs)[p.2-j]?=(y::ys)[p.2-j]?:=fun p hp=>by
    obtain ⟨a1,a2,a3⟩:=h2 p hp
    refine ⟨a1,by omega,?_⟩
    rw [show p.2-j=(p.2-(j+1))+1 by omega,Vi,Vi];exact a3
   simp only [Q0] at h
   refine ⟨by simp [h1],fun p hp => ?_⟩
   rw [←h] at hp
   split at hp
   ·rename_i hs
    rcases QR.1 hp with rfl | hp
    ·refine ⟨rfl,YY _,?_⟩
     have:x=y:=by
      cases x<;>cases y<;>simp only [aaK] at hs<;>first | (cases hs) | skip
      ·rw [Q4 hs]
      ·simp only [Q6] at hs
       rw [Q4 hs.1,Q4 hs.2]
     simp [this]
    ·exact old p hp
   ·exact old p hp
  ·cases h
theorem YN {st:St} {e:Eff} {p:Nat×Nat} (h:p∈UE st e) :∃wa wb,st.o p.1=.box wa∧e.aK.lookup p.1=some (.box wb)∧wa.length=wb.length∧wa[p.2]?=wb[p.2]?:=by
 unfold UE at h
 obtain ⟨g,_,hp⟩:=Ys.1 h
 cases ho:st.o g with
 |box ws=>
  cases hl:e.aK.lookup g with
  |none=>rw [ho,hl] at hp;cases hp
  |some x=>
   cases x with
   |box ws'=>
    rw [ho,hl] at hp
    simp only [QU] at hp
    split at hp
    ·rename_i r hr
     obtain ⟨h1,h2⟩:=IW hr
     obtain ⟨rfl,_,a3⟩:=h2 p hp
     exact ⟨ws,ws',ho,hl,h1,by simpa using a3⟩
    ·cases hp
   |_=>rw [ho,hl] at hp;cases hp
 |_=>rw [ho] at hp;cases hp
theorem Ox {st:St} {o:Oper} {g off n:Nat} (h:IJ tt st o=some (g,off,n)) :∃t x i,o.op=.load t x∧tt t=some i∧i.size=n∧st.dH x=.v (.one (.box g off)):=by
 unfold IJ at h
 split at h
 ·rename_i t x hop
  split at h
  ·rename_i i g' off' ht hx
   simp only [Q0,Q1] at h
   obtain ⟨rfl,rfl,rfl⟩:=h
   exact ⟨t,x,i,hop,ht,rfl,hx⟩
  ·cases h
 ·cases h
theorem YO {st:St} {o:Oper} {g off n:Nat} (h:IJ tt st o=some (g,off,n)):g∈qM T st o:=by
 obtain ⟨t,x,i,h1,_,_,h4⟩:=Ox h
 unfold qM
 rw [h1]
 refine W3 _ (Ys.2 ⟨x,by simp [Op.operands],Ys.2 ⟨g,?_,by simp⟩⟩)
 rw [h4];simp [S.names,V.names,W.names]
theorem QY {es:Nat→Eff} {D:Nat→Bool} {g:Nat} :∀(n:Nat),∃m,(∀k,m≤k→k<n→D k=true→g∉(es k).aK.map (·.1))∧(SD ops es st D n).o g=(SD ops es st (fun _=>true) m).o g∧(m=0∨∃k,m=k+1∧k<n∧D k=true∧g∈(es k).aK.map (·.1))
 |0=>⟨0,fun k _ h=>by omega,rfl,.inl rfl⟩
 |n+1=>by
  obtain ⟨m,h1,h2,h3⟩:=QY (D:=D) (g:=g) n
  by_cases hw:D n=true∧g∈(es n).aK.map (·.1)
  ·obtain ⟨hd,hg⟩:=hw
   refine ⟨n+1,fun k a b=>by omega,?_,.inr ⟨n,rfl,by omega,hd,hg⟩⟩
   simp only [SD,hd,if_true,xY]
   cases hl:(es n).aK.lookup g with
   |some x=>rfl
   |none=>
    exfalso
    obtain ⟨p,hp,e⟩:=QQ.1 hg
    have :∀{l:List (Nat×O)},p∈l→l.lookup p.1≠none:=by
     intro l
     induction l with
     |nil=>intro h;cases h
     |cons q l ih=>
      intro h hn
      simp only [List.lookup] at hn
      split at hn
      ·cases hn
      ·rename_i hb
       rcases QR.1 h with h | h
       ·subst h;simp at hb
       ·exact ih h hn
    exact this hp (by rw [e];exact hl)
  ·refine ⟨m,fun k a b hd hg => ?_,?_,h3.imp id fun ⟨k,a,b,c⟩=>⟨k,a,by omega,c⟩⟩
   ·by_cases e:k=n
    ·subst e;exact hw ⟨hd,hg⟩
    ·exact h1 k a (by omega) hd hg
   ·cases hd:D n with
    |false=>simp only [SD,hd,W7,if_false];exact h2
    |true=>
     have hg:g∉(es n).aK.map (·.1):=fun hg=>hw ⟨hd,hg⟩
     simp only [SD,hd,if_true,xY,jI hg];exact h2
theorem AP {st:St} {o:Oper} {d:Nat} {t:TypeId} {x:Operand} {i:TI} {g off:Nat} (h1:o.op=.load t x) (h2:tt t=some i) (h4:st.dH x=.v (.one (.box g off))) {K:Eff→Prop} :
  iZ T tt d st o K↔∃ws,st.o g=.box ws∧(off+i.size≤ws.length∧0<i.size)∧K { x:=V.fQ i.agg ((ws.drop off).take i.size),aK:=[],new:=[] }:=by
 have hD :∀dc,dU tt dc d st.o st.dH (.load t x) o.type=none:=fun dc=>by
  simp only [dU,Ap,h2,h4]
  cases aau dc<;>rfl
 have e:iZ T tt d st o K↔(match kernel tt d st.o st.dH (.load t x) o.type with
   |some r=>r.pre∧K { x:=r.dst r.val,aK:=r.aK r.val,new:=r.new }
   |none=>False):=by
  unfold iZ
  rw [h1]
  simp only [hD,reduceCtorEq,false_and,exists_false,false_or,E8,cond_false]
  cases kernel tt d st.o st.dH (.load t x) o.type<;>rfl
 rw [e]
 simp only [kernel,h2,h4]
 cases ho:st.o g with
 |box ws=>
  simp only
  by_cases hs:off+i.size≤ws.length∧0<i.size
  ·rw [if_pos hs]
   simp only [Gx.pure,true_and]
   constructor
   ·intro h;exact ⟨ws,rfl,hs,h⟩
   ·rintro ⟨ws',e',_,h⟩;cases e';exact h
  ·rw [if_neg hs]
   simp only [false_iff]
   rintro ⟨ws',e',h,_⟩;cases e';exact hs h
 |_=>
  simp only [false_iff]
  rintro ⟨ws',e',_⟩;cases e'
theorem aaM {st:St} {o:Oper} {e:Eff} {g off n:Nat} (hc:Can T tt N ops st o e) (hl:IJ tt st o=some (g,off,n)):e.aK=[]:=by
 obtain ⟨t,x,i,h1,h2,h3,h4⟩:=Ox hl
 have key :∀{d:Nat},(iZ T tt d st o fun e'=>e'.new.all (fun g=>!st.used g)=true∧e'=e)→e.aK=[]:=by
  intro d h
  obtain ⟨ws,_,_,_,rfl⟩:=(AP h1 h2 h4).1 h
  rfl
 unfold Can stepW at hc
 obtain ⟨_,hc⟩:=hc
 split at hc
 ·exact key hc
 ·split at hc
  ·rename_i b _
   cases b with
   |true=>exact key hc
   |false=>have hc:Eff.skip=e:=hc;rw [←hc];rfl
  ·cases hc
theorem YP {st:St} {e:Eff} {g:Nat} (h:g∈UG st e) :∃x,e.aK.lookup g=some x∧kindOf x=kindOf (st.o g):=by
 unfold UG at h
 obtain ⟨g',_,hp⟩:=Ks.1 h
 cases hl:e.aK.lookup g' with
 |none=>rw [hl] at hp;cases hp
 |some x=>
  rw [hl] at hp
  simp only at hp
  cases hb:Nat.beq (kindOf x) (kindOf (st.o g')) with
  |false=>rw [hb] at hp;cases hp
  |true=>
   rw [hb] at hp
   cases hp
   exact ⟨x,hl,Q4 hb⟩
theorem Me {o o':Nat→O} {x:W} (h :∀g∈x.names,kindOf (o g)=kindOf (o' g)):x.live o=x.live o':=by
 cases x<;>simp only [W.live]<;>first | rfl | skip
 ·rename_i g off
  have:=h g (by simp [W.names])
  cases h1:o g<;>cases h2:o' g<;>rw [h1,h2] at this<;>first | rfl | cases this
 ·rename_i g n off
  have:=h g (by simp [W.names])
  cases h1:o g<;>cases h2:o' g<;>rw [h1,h2] at this<;>first | rfl | cases this
theorem QZ {o o':Nat→O} {d:Nat} {F F':Operand→S} {op:Op} {ty:TypeId} (hp:tX op=true) (hF :∀x∈op.operands.toList,F x=F' x) (ho :∀x∈op.operands.toList,∀g∈(F x).names,kindOf (o g)=kindOf (o' g)) :
  kernel tt d o F op ty=kernel tt d o' F' op ty:=by
 cases op<;>first | (cases hp;done) | skip
 ·rename_i x
  have h1:=hF x (by simp [Op.operands])
  have h2:=ho x (by simp [Op.operands])
  simp only [kernel,←h1]
  generalize F x=z at h2
  split
  ·rename_i x
   rw [Me (o':=o') fun g hg=>h2 g (by simpa [S.names,V.names] using hg)]
  ·rfl
 ·rename_i t x n
  have h1:=hF x (by simp [Op.operands])
  have h2:=ho x (by simp [Op.operands])
  simp only [kernel,←h1]
  generalize F x=z at h2
  split
  ·rename_i x _ _
   rw [Me (o':=o') fun g hg=>h2 g (by simpa [S.names,V.names] using hg)]
  ·rfl
theorem AQ {st:St} {o:Oper} {d:Nat} (hp:tX o.op=true) {K:Eff→Prop} :
  iZ T tt d st o K↔(match kernel tt d st.o st.dH o.op o.type with
   |some r=>r.pre∧K { x:=r.dst r.val,aK:=r.aK r.val,new:=r.new }
   |none=>False):=by
 unfold iZ
 cases hop:o.op<;>rw [hop] at hp<;>first | (cases hp;done) | skip
 all_goals
  simp only [dU,reduceCtorEq,false_and,exists_false,false_or,E8,cond_false]
  generalize kernel tt d st.o st.dH _ o.type=z
  cases z<;>rfl
theorem YQ {o:Nat→O} {F:Operand→S} {d:Nat} {op:Op} {ty:TypeId} {r:Gx} (hp:tX op=true) (h:kernel tt d o F op ty=some r):r.aK r.val=[]:=by
 cases op<;>first | (cases hp;done) | skip
 all_goals
  simp only [kernel] at h
  split at h
  ·split at h
   ·simp only [Q0] at h;subst h;rfl
   ·cases h
  ·cases h
theorem aaN {st:St} {o:Oper} {e:Eff} (hc:Can T tt N ops st o e) (hp:tX o.op=true):e.aK=[]:=by
 have key :∀{d:Nat},(iZ T tt d st o fun e'=>e'.new.all (fun g=>!st.used g)=true∧e'=e)→e.aK=[]:=by
  intro d h
  have h:=(AQ hp).1 h
  split at h
  ·rename_i r hr
   obtain ⟨_,_,rfl⟩:=h
   exact YQ hp hr
  ·cases h
 unfold Can stepW at hc
 obtain ⟨_,hc⟩:=hc
 split at hc
 ·exact key hc
 ·split at hc
  ·rename_i b _
   cases b with
   |true=>exact key hc
   |false=>have hc:Eff.skip=e:=hc;rw [←hc];rfl
  ·cases hc
theorem aaO {st st':St} {o:Oper} {e:Eff} (hc:Can T tt N ops st o e) (hp:tX o.op=true) (hs :∀t∈o.looksAt ops,st.s t=st'.s t) (ho :∀g∈qM T st o,kindOf (st.o g)=kindOf (st'.o g)) (hu :∀g∈e.new,st.used g=st'.used g):Can T tt N ops st' o e:=by
 have hx :∀x∈o.op.operands.toList,st.dH x=st'.dH x:=by
  intro x hm
  cases x with
  |tmp t=>exact hs t (W3 _ (Ks.2 ⟨_,hm,rfl⟩))
  |_=>rfl
 have hl:looks o.op=true:=by cases hop:o.op<;>rw [hop] at hp<;>first | rfl | cases hp
 have hk:kernel tt (o.dst.getD 0) st.o st.dH o.op o.type=kernel tt (o.dst.getD 0) st'.o st'.dH o.op o.type:=
  QZ hp hx fun x hm g hg=>ho g (W3 _ (by rw [hl];exact Ys.2 ⟨x,hm,Ys.2 ⟨g,hg,by simp⟩⟩))
 have eff:(iZ T tt (o.dst.getD 0) st o fun e'=>e'.new.all (fun g=>!st.used g)=true∧e'=e)→(iZ T tt (o.dst.getD 0) st' o fun e'=>e'.new.all (fun g=>!st'.used g)=true∧e'=e):=by
  intro h
  have h:=(AQ hp).1 h
  refine (AQ hp).2 ?_
  rw [←hk]
  split at h
  ·obtain ⟨q1,q2,rfl⟩:=h
   refine ⟨q1,?_,rfl⟩
   rw [X2] at q2 ⊢
   intro g hg
   rw [←hu g hg];exact q2 g hg
  ·cases h
 unfold Can stepW at *
 refine ⟨hc.1,?_⟩
 have hc:=hc.2
 cases hg:o.guard with
 |none=>rw [hg] at hc;exact eff hc
 |some p=>
  obtain ⟨j,want⟩:=p
  rw [hg] at hc
  simp only at hc ⊢
  have:guardOf ops st j want=guardOf ops st' j want:=by
   unfold guardOf
   cases hd:(ops[j]?).bind (·.dst) with
   |none=>rfl
   |some t=>
    simp only
    rw [hs t (V2 _ (by simp [hg,hd]))]
  rw [←this]
  split at hc
  ·rename_i b hb
   cases b with
   |true=>exact eff hc
   |false=>exact hc
  ·cases hc
theorem aaP {st st':St} {o:Oper} {e:Eff} {g off n:Nat} (hc:Can T tt N ops st o e) (hs :∀t∈o.looksAt ops,st.s t=st'.s t) (hl:IJ tt st o=some (g,off,n))
  (H:0<n→∀ws,st.o g=.box ws→Rng ws off n (st'.o g)) (hu :∀g∈e.new,st.used g=st'.used g):Can T tt N ops st' o e:=by
 obtain ⟨t,x,i,h1,h2,h3,h4⟩:=Ox hl
 have hx:st'.dH x=.v (.one (.box g off)):=by
  rw [←h4]
  cases x with
  |tmp t=>exact (hs t (W3 _ (Ks.2 ⟨.tmp t,by simp [h1,Op.operands],rfl⟩))).symm
  |_=>rfl
 have eff:(iZ T tt (o.dst.getD 0) st o fun e'=>e'.new.all (fun g=>!st.used g)=true∧e'=e)→(iZ T tt (o.dst.getD 0) st' o fun e'=>e'.new.all (fun g=>!st'.used g)=true∧e'=e):=by
  intro h
  obtain ⟨ws,ho,⟨q1,q2⟩,q3,rfl⟩:=(AP h1 h2 h4).1 h
  obtain ⟨wc,r1,r2,r3⟩:=H (by omega) ws ho
  refine (AP h1 h2 hx).2 ⟨wc,r1,⟨by omega,q2⟩,rfl,?_⟩
  have key:(wc.drop off).take i.size=(ws.drop off).take i.size:=by
   refine Ke fun k => ?_
   rw [Z6,Z6]
   split
   ·rw [W5,W5]
    exact r3 _ (by omega) (by omega)
   ·rfl
  rw [key]
 unfold Can stepW at *
 refine ⟨hc.1,?_⟩
 have hc:=hc.2
 cases hg:o.guard with
 |none=>rw [hg] at hc;exact eff hc
 |some p=>
  obtain ⟨j,want⟩:=p
  rw [hg] at hc
  simp only at hc ⊢
  have:guardOf ops st j want=guardOf ops st' j want:=by
   unfold guardOf
   cases hd:(ops[j]?).bind (·.dst) with
   |none=>rfl
   |some t=>
    simp only
    rw [hs t (V2 _ (by simp [hg,hd]))]
  rw [←this]
  split at hc
  ·rename_i b hb
   cases b with
   |true=>exact eff hc
   |false=>exact hc
  ·cases hc
theorem YR (hT :∀f sp,T f=some sp→Sound Pg (f % 1000000) sp) (htt:ig Pg tt) {es:Nat→Eff} {fs:List tV} (hfree:WI ops fs=true)
  (hcan :∀i,i<ops.size→∃o,ops[i]?=some o∧Can T tt N ops (SD ops es st (fun _=>true) i) o (es i)∧fs[i]?=some { rd:=qM T (SD ops es st (fun _=>true) i) o,wr:=(es i).aK.map (·.1),new:=(es i).new,ld:=IJ tt (SD ops es st (fun _=>true) i) o,kp:=UE (SD ops es st (fun _=>true) i) (es i),pk:=tX o.op,kd:=UG (SD ops es st (fun _=>true) i) (es i) })
  (hQ :∀a' w',Good E N bg pO (SD ops es st (fun _=>true) ops.size) a' w'→Q .normal a' w') :
  ∀(fuel:Nat) (listed:Array Bool) (a:Act) (w:World),listed.size=ops.size→Down ops (fun k=>listed.getD k false)→(List.range ops.size).countP (fun k=>!listed.getD k false)≤fuel→
   Good E N bg pO (SD ops es st (fun k=>listed.getD k false) ops.size) a w→wpAny Pg .any ops Q fuel listed a w:=by
 have hf :∀j,j<ops.size→(oz ops.toList []).getD j 0<2 ^ j∧∀i,i<j→((oz ops.toList []).getD j 0).testBit i=true∨∃x y fx fy,ops[i]?=some x∧ops[j]?=some y∧fs[i]?=some fx∧fs[j]?=some fy∧Apart ops x y fx fy:=by
  intro j hj
  have:=(X2.1 hfree) j (Jn.2 hj)
  simp only [Q6,decide_eq_true_eq,X2,Jn,UX] at this
  refine ⟨this.1,fun i hi => ?_⟩
  rcases this.2 i hi with h | h
  ·exact .inl h
  ·right
   split at h
   ·rename_i x y fx fy h1 h2 h3 h4
    exact ⟨x,y,fx,fy,h1,h2,h3,h4,UH h⟩
   ·cases h
 have done :∀(listed:Array Bool),listed.size=ops.size→Down ops (fun k=>listed.getD k false)→Region.ready .any ops listed=[]→∀k,k<ops.size→listed.getD k false=true:=by
  intro listed hsz hD hr k
  induction k using Nat.strongRecOn with
  |_ k ih=>
   intro hk
   obtain ⟨o,ho,_,_⟩:=hcan k hk
   by_cases hl:listed.getD k false=true
   ·exact hl
   ·exfalso
    have:k∈Region.ready .any ops listed:=mem_ready.2 ⟨by
     have hl:listed.getD k false=false:=by simpa using hl
     rw [W2] at hl ⊢
     rw [Kg (by omega)] at hl ⊢
     exact hl,o,ho,fun e he hb=>ih e.on (QV ho (hf k hk).1 he hb) (by have:=QV ho (hf k hk).1 he hb;omega)⟩
    rw [hr] at this;cases this
 have final :∀(listed:Array Bool) (a:Act) (w:World),listed.size=ops.size→Down ops (fun k=>listed.getD k false)→Region.ready .any ops listed=[]→Good E N bg pO (SD ops es st (fun k=>listed.getD k false) ops.size) a w→Q .normal a w:=by
  intro listed a w hsz hD hr hg
  have h:=done listed hsz hD hr
  rw [D6 (D':=fun _=>true) fun k hk=>h k hk] at hg
  exact hQ a w hg
 intro fuel
 induction fuel with
 |zero=>
  intro listed a w hsz hD hcnt hg
  have hr:Region.ready .any ops listed=[]:=by
   cases hr:Region.ready .any ops listed with
   |nil=>rfl
   |cons k ks=>
    exfalso
    have hk:k∈Region.ready .any ops listed:=by rw [hr];simp
    obtain ⟨h1,o,ho,_⟩:=mem_ready.1 hk
    have hlt:=(Wc.1 ho).1
    have:0<(List.range ops.size).countP (fun k=>!listed.getD k false):=by
     rw [List.countP_pos_iff]
     refine ⟨k,Jn.2 hlt,?_⟩
     rw [W2] at h1 ⊢
     rw [Kg (by omega)] at h1 ⊢
     simpa using h1
    omega
  exact ⟨hr,final listed a w hsz hD hr hg⟩
 |succ fuel ih=>
  intro listed a w hsz hD hcnt hg
  refine ⟨fun hr=>final listed a w hsz hD hr hg,fun i hi => ?_⟩
  obtain ⟨hni,oi,hoi,hpre⟩:=mem_ready.1 hi
  have hlt:i<ops.size:=(Wc.1 hoi).1
  have hDi:listed.getD i false=false:=by
   rw [W2] at hni ⊢
   rw [Kg (by omega)] at hni ⊢
   exact hni
  obtain ⟨o,ho,hc,hfi⟩:=hcan i hlt
  rw [hoi] at ho;cases ho
  have hset :∀k,(listed.setIfInBounds i true).getD k false=if k=i then true else listed.getD k false:=by
   intro k
   by_cases e:k=i
   ·subst e
    rw [if_pos rfl,W2,Array.getElem?_setIfInBounds_self]
    simp [show k<listed.size by omega]
   ·rw [if_neg e,W2,Kk (Ne.symm e),←W2]
  have hD':Down ops (fun k=>(listed.setIfInBounds i true).getD k false):=by
   intro j o' ho' hj e he hb
   simp only [hset] at hj ⊢
   by_cases ej:j=i
   ·subst ej
    rw [hoi] at ho';cases ho'
    have:=hpre e he hb
    rw [this];simp
   ·rw [if_neg ej] at hj
    have:=hD j o' ho' hj e he hb
    simp only at this
    rw [this];simp
  have hap :∀k,k<ops.size→k≠i→((k<i∧listed.getD k false=false)∨(i<k∧listed.getD k false=true))→∃y fy,ops[k]?=some y∧fs[k]?=some fy∧
    (∀t,y.dst=some t→t∉oi.looksAt ops)∧(∀t,oi.dst=some t→y.dst≠some t)∧((∀g∈fy.wr,g∉qM T (SD ops es st (fun _=>true) i) oi)∨∃fi,fs[i]?=some fi∧Fv fy fi=true)∧(∀g∈fy.wr,g∉(es i).aK.map (·.1))∧(∀g∈fy.new,g∉(es i).new)∧fy.wr=(es k).aK.map (·.1)∧fy.new=(es k).new:=by
   intro k hk hne hcase
   obtain ⟨y0,hy0,_,hfk⟩:=hcan k hk
   rcases hcase with ⟨hlt',hfalse⟩ | ⟨hlt',ake⟩
   ·rcases (hf i hlt).2 k hlt' with hb | ⟨x,y,fx,fy,h1,h2,h3,h4,ap⟩
    ·have:=x9 hD' i hoi (by simp [hset]) k hb
     simp only [hset,if_neg hne] at this
     rw [hfalse] at this;cases this
    ·rw [hoi] at h2;cases h2
     rw [hfi] at h4;cases h4
     rw [hfk] at h3;cases h3
     exact ⟨x,_,h1,hfk,ap.dy,fun t e e'=>ap.dd t e' e,ap.wr.imp id (fun h=>⟨_,hfi,h⟩),ap.ww,ap.nn,rfl,rfl⟩
   ·rcases (hf k hk).2 i hlt' with hb | ⟨x,y,fx,fy,h1,h2,h3,h4,ap⟩
    ·have:=x9 hD k hy0 ake i hb
     rw [hDi] at this;cases this
    ·rw [hoi] at h1;cases h1
     rw [hfi] at h3;cases h3
     rw [hfk] at h4;cases h4
     exact ⟨y,_,h2,hfk,ap.dx,ap.dd,ap.rw.imp id (fun h=>⟨_,hfi,h⟩),fun g hg hg'=>ap.ww g hg' hg,fun g hg hg'=>ap.nn g hg' hg,rfl,rfl⟩
  have Oy:SD ops es st (fun _=>true) i=SD ops es st (fun k=>decide (k<i)) ops.size:=by
   have :∀m,i+m≤ops.size→SD ops es st (fun k=>decide (k<i)) (i+m)=SD ops es st (fun _=>true) i:=by
    intro m
    induction m with
    |zero=>intro _;exact D6 fun k hk=>by simp [show k<i by omega]
    |succ m ih=>
     intro hm
     rw [←Up]
     simp only [SD,show ¬ (i+m<i) by omega,decide_false,W7,if_false]
     exact ih (by omega)
   have:=this (ops.size-i) (by omega)
   rw [show i+(ops.size-i)=ops.size by omega] at this
   exact this.symm
  have hdiff :∀k,k<ops.size→decide (k<i)≠listed.getD k false→k≠i∧((k<i∧listed.getD k false=false)∨(i<k∧listed.getD k false=true)):=by
   intro k hk hne
   by_cases e:k=i
   ·subst e;rw [hDi] at hne;simp at hne
   ·refine ⟨e,?_⟩
    by_cases hki:k<i
    ·exact .inl ⟨hki,by simpa [hki] using hne⟩
    ·refine .inr ⟨by omega,?_⟩
     cases hl:listed.getD k false with
     |true=>rfl
     |false=>rw [hl] at hne;simp [hki] at hne
  have hdst :∀(k:Nat) (y:Oper),ops[k]?=some y→(ops[k]?).bind (·.dst)=y.dst:=fun k y h=>by rw [h];rfl
  have hc':Can T tt N ops (SD ops es st (fun k=>listed.getD k false) ops.size) oi (es i):=by
   have tJ :∀t∈oi.looksAt ops,(SD ops es st (fun _=>true) i).s t=(SD ops es st (fun k=>listed.getD k false) ops.size).s t:=fun t ht=>by
    rw [Oy]
    refine ahS fun k hk hne => ?_
    obtain ⟨h1,h2⟩:=hdiff k hk hne
    obtain ⟨y,fy,h3,_,h4,_⟩:=hap k hk h1 h2
    rw [hdst k y h3]
    exact fun e=>h4 t e ht
   have Qg :∀g∈(es i).new,(SD ops es st (fun _=>true) i).used g=(SD ops es st (fun k=>listed.getD k false) ops.size).used g:=fun g hg=>by
    rw [Oy]
    refine Ov fun k hk hne => ?_
    obtain ⟨h1,h2⟩:=hdiff k hk hne
    obtain ⟨y,fy,h3,_,_,_,_,_,h4,_,h5⟩:=hap k hk h1 h2
    rw [←h5]
    exact fun e=>h4 g e hg
   have travel :∀(g:Nat) (Pr:O→Prop),g∉(es i).aK.map (·.1)→(∀k,k<ops.size→k≠i→((k<i∧listed.getD k false=false)∨(i<k∧listed.getD k false=true))→g∈(es k).aK.map (·.1)→
     (Pr ((SD ops es st (fun _=>true) k).o g)↔Pr ((SD ops es st (fun _=>true) (k+1)).o g)))→Pr ((SD ops es st (fun _=>true) i).o g)→Pr ((SD ops es st (fun k=>listed.getD k false) ops.size).o g):=by
    intro g Pr hgi hkeep hP0
    have hstep :∀k,k<ops.size→(g∈(es k).aK.map (·.1)→(Pr ((SD ops es st (fun _=>true) k).o g)↔Pr ((SD ops es st (fun _=>true) (k+1)).o g)))→
      (Pr ((SD ops es st (fun _=>true) k).o g)↔Pr ((SD ops es st (fun _=>true) (k+1)).o g)):=by
     intro k hk hw
     by_cases hg:g∈(es k).aK.map (·.1)
     ·exact hw hg
     ·have:(SD ops es st (fun _=>true) (k+1)).o g=(SD ops es st (fun _=>true) k).o g:=by
       simp only [SD,if_true,xY,jI hg]
      rw [this]
    obtain ⟨m',hm',hlast,hafter⟩:=QY (ops:=ops) (es:=es) (st:=st) (D:=fun k=>listed.getD k false) (g:=g) ops.size
    rw [hlast]
    rcases v8 i m' with him | him
    ·-- forward
     have :∀d,i+d≤m'→Pr ((SD ops es st (fun _=>true) (i+d)).o g):=by
      intro d
      induction d with
      |zero=>intro _;exact hP0
      |succ d ihd=>
       intro hd
       have hk:i+d<ops.size:=by
        rcases hafter with e | ⟨k1,e,h2,_⟩<;>omega
       rw [←Up]
       refine (hstep (i+d) hk (fun hg => ?_)).1 (ihd (by omega))
       by_cases e0:d=0
       ·exfalso
        subst e0
        exact hgi hg
       ·have hin:listed.getD (i+d) false=true:=by
         rcases hafter with e | ⟨k1,rfl,akf,hk1,hg1⟩
         ·omega
         ·by_cases e1:i+d=k1
          ·rw [e1];exact hk1
          ·obtain ⟨y1,hy1,_,hf1⟩:=hcan k1 akf
           rcases (hf k1 akf).2 (i+d) (by omega) with hb | ⟨x2,y2,fx,fy,h1,h2,h3,h4,ap⟩
           ·exact x9 hD k1 hy1 hk1 _ hb
           ·exfalso
            obtain ⟨y0,_,_,hfk⟩:=hcan (i+d) hk
            rw [hfk] at h3;cases h3
            rw [hf1] at h4;cases h4
            exact ap.ww g hg hg1
        exact hkeep (i+d) hk (by omega) (.inr ⟨by omega,hin⟩) hg
     have:=this (m'-i) (by omega)
     rwa [show i+(m'-i)=m' by omega] at this
    ·-- backward
     have :∀d,d≤i-m'→Pr ((SD ops es st (fun _=>true) (i-d)).o g):=by
      intro d
      induction d with
      |zero=>intro _;exact hP0
      |succ d ihd=>
       intro hd
       have hk:i-(d+1)<ops.size:=by omega
       have e1:i-(d+1)+1=i-d:=by omega
       refine (hstep (i-(d+1)) hk (fun hg => ?_)).2 (by rw [e1];exact ihd (by omega))
       have hout:listed.getD (i-(d+1)) false=false:=by
        cases hl:listed.getD (i-(d+1)) false with
        |false=>rfl
        |true=>exact absurd hg (hm' (i-(d+1)) (by omega) hk hl)
       exact hkeep (i-(d+1)) hk (by omega) (.inl ⟨by omega,hout⟩) hg
     have:=this (i-m') (YY _)
     rwa [show i-(i-m')=m' by omega] at this
   cases hld:IJ tt (SD ops es st (fun _=>true) i) oi with
   |none=>
    by_cases hpk:tX oi.op=true
    ·refine aaO hc hpk tJ (fun g hg => ?_) Qg
     refine (travel g (fun x=>kindOf ((SD ops es st (fun _=>true) i).o g)=kindOf x) (by rw [aaN hc hpk];simp) (fun k hk hne hcase hgk => ?_) rfl)
     obtain ⟨y,fy,h3,hfk,_,_,h4,_,_,h5,_⟩:=hap k hk hne hcase
     rcases h4 with h4 | ⟨fi,Q5,hs⟩
     ·exfalso
      rw [←h5] at hgk
      exact h4 g hgk hg
     ·rw [hfi] at Q5;cases Q5
      simp only [Fv,hld,hpk,Bool.true_and,X2,UX,Wz,Wl,decide_eq_true_eq,decide_eq_false_iff_not] at hs
      rw [h5] at hs
      rcases hs g hg with hs | hs
      ·exact absurd hgk hs
      ·obtain ⟨o',ho',_,aaQ⟩:=hcan k hk
       rw [hfk] at aaQ;cases aaQ
       obtain ⟨x,q1,q2⟩:=YP hs
       have:(SD ops es st (fun _=>true) (k+1)).o g=x:=by simp only [SD,if_true,xY,q1]
       rw [this,q2]
    ·refine YM hc tJ (fun g hg => ?_) Qg
     rw [Oy] at hg ⊢
     refine ahT fun k hk hne => ?_
     obtain ⟨h1,h2⟩:=hdiff k hk hne
     obtain ⟨y,fy,h3,_,_,_,h4,_,_,h5,_⟩:=hap k hk h1 h2
     rw [←h5]
     rcases h4 with h4 | ⟨fi,Q5,hs⟩
     ·rw [Oy] at h4
      exact fun e=>h4 g e hg
     ·rw [hfi] at Q5;cases Q5
      simp only [Fv,hld,hpk,Bool.false_and] at hs
      cases hs
   |some q=>
    obtain ⟨g,off,n⟩:=q
    refine aaP hc tJ hld (fun hn ws hws => ?_) Qg
    refine travel g (Rng ws off n) (by rw [aaM hc hld];simp) (fun k hk hne hcase hg => ?_) ⟨ws,hws,rfl,fun _ _ _=>rfl⟩
    obtain ⟨y,fy,h3,hfk,_,_,h4,_,_,h5,_⟩:=hap k hk hne hcase
    rcases h4 with h4 | ⟨fi,Q5,hs⟩
    ·exfalso
     rw [←h5] at hg
     exact h4 g hg (YO hld)
    ·rw [hfi] at Q5;cases Q5
     simp only [Fv,hld,X2,Jn] at hs
     obtain ⟨o',ho',_,aaQ⟩:=hcan k hk
     rw [hfk] at aaQ;cases aaQ
     have one :∀off',off≤off'→off'<off+n→∃wa wb,(SD ops es st (fun _=>true) k).o g=.box wa∧(SD ops es st (fun _=>true) (k+1)).o g=.box wb∧wa.length=wb.length∧wa[off']?=wb[off']?:=by
      intro off' h1' h2'
      have:=hs (off'-off) (by omega)
      obtain ⟨p,hp,he⟩:=Kj.1 this
      simp only [Q6] at he
      have e1:=Q4 he.1
      have e2:=Q4 he.2
      obtain ⟨wa,wb,q1,q2,q3,q4⟩:=YN hp
      rw [e1] at q1 q2
      refine ⟨wa,wb,q1,?_,q3,by rw [show off'=p.2 by omega];exact q4⟩
      simp only [SD,if_true,xY,q2]
     obtain ⟨wa,wb,q1,q2,q3,_⟩:=one off (YY _) (by omega)
     rw [q1,q2]
     have hall :∀off',off≤off'→off'<off+n→wa[off']?=wb[off']?:=fun off' a1 a2=>by
      obtain ⟨wa',wb',r1,r2,_,r4⟩:=one off' a1 a2
      rw [q1] at r1;rw [q2] at r2;cases r1;cases r2;exact r4
     constructor
     ·rintro ⟨wc,hc,hl,hr⟩
      cases hc
      exact ⟨wb,rfl,by omega,fun off' a1 a2=>by rw [←hall off' a1 a2];exact hr off' a1 a2⟩
     ·rintro ⟨wc,hc,hl,hr⟩
      cases hc
      exact ⟨wa,rfl,by omega,fun off' a1 a2=>by rw [hall off' a1 a2];exact hr off' a1 a2⟩
  have hins:SD ops es st (fun k=>(listed.setIfInBounds i true).getD k false) ops.size=(SD ops es st (fun k=>listed.getD k false) ops.size).eff oi.dst (es i):=by
   have hDs :∀k,(fun k=>(listed.setIfInBounds i true).getD k false) k=if k=i then true else listed.getD k false:=hset
   have hne :∀k,(fun k=>(listed.setIfInBounds i true).getD k false) k≠(fun k=>listed.getD k false) k→k=i:=by
    intro k h
    simp only [hset] at h
    by_cases e:k=i
    ·exact e
    ·rw [if_neg e] at h;exact absurd rfl h
   have aaR :∀k,i<k→k<ops.size→(fun k=>(listed.setIfInBounds i true).getD k false) k=true→listed.getD k false=true:=by
    intro k h1 h2 h3
    simp only [hset,if_neg (show k≠i by omega)] at h3
    exact h3
   refine St.ext' (fun t => ?_) (fun g => ?_) (fun g => ?_)
   ·rw [L8]
    by_cases hd:oi.dst=some t
    ·rw [if_pos hd]
     refine L9 (by simp [hset]) ((hdst i oi hoi).trans hd) hlt fun k h1 h2 h3 => ?_
     obtain ⟨y,fy,q1,_,_,q2,_⟩:=hap k h2 (by omega) (.inr ⟨h1,aaR k h1 h2 h3⟩)
     rw [hdst k y q1]
     exact q2 t hd
    ·rw [if_neg hd]
     refine ahS fun k hk hk' => ?_
     rw [hne k hk',hdst i oi hoi];exact hd
   ·rw [xY]
    cases hu:(es i).aK.lookup g with
    |some x=>
     refine L_ (by simp [hset]) hu hlt fun k h1 h2 h3 => ?_
     obtain ⟨y,fy,q1,_,_,_,_,q2,_,q3,_⟩:=hap k h2 (by omega) (.inr ⟨h1,aaR k h1 h2 h3⟩)
     rw [←q3]
     exact fun e=>q2 g e (QQ.2 ⟨(g,x),ku hu,rfl⟩)
    |none=>
     refine ahT fun k hk hk' => ?_
     rw [hne k hk']
     intro hm
     obtain ⟨p,hp,rfl⟩:=QQ.1 hm
     have :∀{l:List (Nat×O)},p∈l→l.lookup p.1≠none:=by
      intro l
      induction l with
      |nil=>intro h;cases h
      |cons q l ih=>
       intro h hn
       simp only [List.lookup] at hn
       split at hn
       ·cases hn
       ·rename_i hb
        rcases QR.1 h with h | h
        ·subst h;simp at hb
        ·exact ih h hn
     exact this hp hu
   ·rw [uG]
    by_cases hn:g∈(es i).new
    ·rw [Fz (by simp [hset]) hn hlt];simp [hn]
    ·have:(es i).new.contains g=false:=by simpa using hn
     rw [this,UT]
     refine Ov fun k hk hk' => ?_
     rw [hne k hk'];exact hn
  refine IC hT htt hoi hg hc' fun a' w' hg'=>ih _ a' w' (by simp [hsz]) hD' ?_ (by rw [hins];exact hg')
  have hlt2:(List.range ops.size).countP (fun k=>!(listed.setIfInBounds i true).getD k false)<(List.range ops.size).countP (fun k=>!listed.getD k false):=by
   have gen :∀l:List Nat,i∈l→l.countP (fun k=>!(listed.setIfInBounds i true).getD k false)<l.countP (fun k=>!listed.getD k false):=by
    intro l
    have hle :∀l:List Nat,l.countP (fun k=>!(listed.setIfInBounds i true).getD k false)≤l.countP (fun k=>!listed.getD k false):=fun l=>List.countP_mono_left fun k _ h=>by
     simp only [hset] at h
     by_cases e:k=i
     ·simp [e] at h
     ·simpa [e] using h
    induction l with
    |nil=>intro h;cases h
    |cons k l ihl=>
     intro h
     simp only [List.countP_cons]
     by_cases e:k=i
     ·subst e
      have h1:(!(listed.setIfInBounds k true).getD k false)=false:=by simp [hset]
      have h2:(!listed.getD k false)=true:=by simp [hDi]
      rw [h1,h2]
      exact Nat.lt_succ_of_le (hle l)
     ·have:=ihl (by rcases QR.1 h with h | h;exact absurd h.symm e;exact h)
      have e1:(!(listed.setIfInBounds i true).getD k false)=(!listed.getD k false):=by rw [hset,if_neg e]
      rw [e1];omega
   exact gen _ (Jn.2 hlt)
  omega
theorem IX (hT :∀f sp,T f=some sp→Sound Pg (f % 1000000) sp) (htt:ig Pg tt) {draw:Bool} {K:St→Prop} (h:pY T tt N ops draw st K) (hg:Good E N bg pO st a w)
  (hK :∀st' a' w',K st'→Good E N bg pO st' a' w'→Q .normal a' w'):(draw=false∧wpOps Pg ops Q (List.range ops.size) a w)∨(draw=true∧wpAny Pg .any ops Q ops.size (Array.replicate ops.size false) a { w with drawn:=w.drawn+1 }):=by
 cases draw with
 |false=>exact .inl ⟨rfl,CO hT htt hK _ h hg⟩
 |true=>
  have h:oO T tt N ops (List.range ops.size) st [] (fun st' fs=>WI ops fs=true∧K st'):=h
  rw [KK] at h
  obtain ⟨es,fs,_,_,⟨h1,h2⟩,h3⟩:=FB (st:=st) ops.size 0 (fun _=>Eff.skip) [] rfl h
  rw [We] at h2
  refine .inr ⟨rfl,?_⟩
  refine YR hT htt h1 (fun i hi=>h3 i (by omega) (by omega)) (fun a' w' hg'=>hK _ a' w' h2 hg') ops.size _ a _ (by simp) ?_ ?_ ?_
  ·intro j o _ hj
   simp only [W2] at hj
   rw [qt] at hj
   split at hj<;>cases hj
  ·refine Vn Kd ?_
   simp
  ·obtain ⟨⟨gh,hR,Fe⟩,hsz,hdf⟩:=hg
   have e:SD ops es st (fun k=>(Array.replicate ops.size false).getD k false) ops.size=st:=by
    have :∀n,SD ops es st (fun k=>(Array.replicate ops.size false).getD k false) n=st:=by
     intro n
     induction n with
     |zero=>rfl
     |succ n ih=>
      have:(Array.replicate ops.size false).getD n false=false:=by
       rw [W2,qt];split<;>rfl
      simp only [SD,this,W7,if_false];exact ih
    exact this _
   rw [e]
   exact ⟨⟨gh,hR.drew _,Fe⟩,hsz,hdf⟩
theorem Oz (hT :∀f sp,T f=some sp→Sound Pg (f % 1000000) sp) (htt:ig Pg tt) (hm:Pg.follows .mixedOrders=true) {id:Nat} {draw:Bool} {K:St→Prop} (h:pY T tt N ops draw st K) (hg:Good E N bg pO st a w)
  (hK :∀st' a' w',K st'→Good E N bg pO st' a' w'→Q .normal a' w'):(Code.region id ops draw).wp Pg Q a w:=by
 rcases IX hT htt h hg hK with ⟨e,h2⟩ | ⟨e,h2⟩
 ·rw [e];exact wp_region h2
 ·rw [e];exact wp_region_any hm h2
end
end Go.Fw

namespace Go.Fw
variable [d_]
def WJ (gs:List Nat) (o:Nat→O):W→W
 |.own g=>if gs.contains g=true then match plainO o g with
  |some (a,i,sz,l)=>.p a i (P.fF sz l)
  |none=>.own g
  else .own g
 |.vw g lo hi=>if gs.contains g=true then match plainO o g with
  |some (a,i,sz,l)=>.p a i (P.fF sz ((l.take hi.nat).drop lo.nat))
  |none=>.vw g lo hi
  else .vw g lo hi
 |x=>x
def plV (gs:List Nat) (o:Nat→O):V→V
 |.one x=>.one (WJ gs o x)
 |.agg xs=>.agg (xs.map (WJ gs o))
def plS (gs:List Nat) (o:Nat→O):S→S
 |.v x=>.v (plV gs o x)
 |.lG xs=>.lG (xs.map (plV gs o))
 |.no=>.no
def Z7 (gs:List Nat) (o:Nat→O) (g:Nat):O:=match o g with
 |.box ws=>.box (ws.map (WJ gs o))
 |x=>if gs.contains g=true then (Fw.aV o g).2 else x
def eP (gs:List Nat) (st:St):St:={ s:=fun t=>plS gs st.o (st.s t),o:=fun g=>Z7 gs st.o g,used:=st.used }
def aei (o:Nat→O) (gs:List Nat):Bool:=gs.all fun g=>(plainO o g).isSome&&(o g).names.all fun d=>gs.contains d
theorem YS {o:Nat→O} {gs:List Nat} (h:aei o gs=true):xw o gs:=fun g hg=>by
 have:=(X2.1 h) g hg
 simp only [Q6,X2,Wl,decide_eq_true_eq] at this
 exact this
section
variable {E:Env} {st:St} {gh:Nat→Gh} {w:World} {val:Nat→Value}
theorem D7 {gs:List Nat} {o:Nat→O} {x:W} {g:Nat} (h:g∈(WJ gs o x).names):g∈x.names:=by
 unfold WJ at h
 split at h
 ·split at h
  ·split at h
   ·simp [W.names] at h
   ·exact h
  ·exact h
 ·split at h
  ·split at h
   ·simp [W.names] at h
   ·exact h
  ·exact h
 ·exact h
theorem MB {gs:List Nat} {o:Nat→O} {x:V} {g:Nat} (h:g∈(plV gs o x).names):g∈x.names:=by
 cases x with
 |one x=>exact D7 h
 |agg xs=>
  simp only [plV,V.names,Ys,QQ] at h ⊢
  obtain ⟨_,⟨x,hx,rfl⟩,hg⟩:=h
  exact ⟨x,hx,D7 hg⟩
theorem YT {gs:List Nat} {o:Nat→O} {x:S} {g:Nat} (h:g∈(plS gs o x).names):g∈x.names:=by
 cases x with
 |v x=>exact MB h
 |lG xs=>
  simp only [plS,S.names,Ys,QQ] at h ⊢
  obtain ⟨_,⟨x,hx,rfl⟩,hg⟩:=h
  exact ⟨x,hx,MB hg⟩
 |no=>exact h
theorem IY (gs:List Nat) (st:St) (g:Nat):((eP gs st).o g=(st.aK (gs.map (Fw.aV st.o)) []).o g∧∀ws,st.o g≠.box ws)∨
  ∃ws,st.o g=.box ws∧(st.aK (gs.map (Fw.aV st.o)) []).o g=.box ws∧(eP gs st).o g=.box (ws.map (WJ gs st.o)):=by
 rw [fU]
 cases ho:st.o g with
 |box ws=>
  refine .inr ⟨ws,rfl,?_,by simp only [eP,Z7,ho]⟩
  split
  ·simp [Fw.aV,plainO,ho]
  ·rfl
 |_=>
  refine .inl ⟨?_,fun ws e=>by cases e⟩
  simp only [eP,Z7,ho]
  simp only [Wl,decide_eq_true_eq]
theorem zU {gs:List Nat} {st:St} {g:Nat} (h:st.o g=.none):(eP gs st).o g=.none:=by
 simp only [eP,Z7,h]
 split
 ·simp [Fw.aV,plainO,h]
 ·rfl
theorem Rel.plain (h:Rel E st gh val w) (gs:List Nat) (hgs:xw st.o gs):Rel E (eP gs st) gh val w:=by
 have h1:=(h.freezes gs hgs).1
 have hss:(st.aK (gs.map (Fw.aV st.o)) []).s=st.s:=rfl
 have hun :∀g,(st.aK (gs.map (Fw.aV st.o)) []).used g=st.used g:=fun g=>by simp [St.aK]
 have key:=IY gs st
 have hfr:=fun g=>fU (st:=st) gs g
 generalize hst1:st.aK (gs.map (Fw.aV st.o)) []=st1 at h1 hss hun key hfr
 have own :∀g,((eP gs st).o g).bU=(st1.o g).bU:=fun g=>by
  rcases key g with ⟨e,_⟩ | ⟨ws,_,e1,e2⟩
  ·rw [e]
  ·rw [e1,e2];rfl
 have dim :∀g,((eP gs st).o g).dim=(st1.o g).dim:=fun g=>by
  rcases key g with ⟨e,_⟩ | ⟨ws,_,e1,e2⟩
  ·rw [e]
  ·rw [e1,e2];rfl
 have inner :∀g,((eP gs st).o g).inner=(st1.o g).inner:=fun g=>by
  rcases key g with ⟨e,_⟩ | ⟨ws,_,e1,e2⟩
  ·rw [e]
  ·rw [e1,e2];rfl
 have isd :∀g,((eP gs st).o g).nV=(st1.o g).nV:=fun g=>by
  rcases key g with ⟨e,_⟩ | ⟨ws,_,e1,e2⟩
  ·rw [e]
  ·rw [e1,e2];rfl
 have anr :∀g ws,(eP gs st).o g=.box ws→∃ws',st1.o g=.box ws':=fun g ws hg=>by
  rcases key g with ⟨e,_⟩ | ⟨ws',_,e1,e2⟩
  ·rw [e] at hg;exact ⟨ws,hg⟩
  ·exact ⟨ws',e1⟩
 have oit :∀g s n,(eP gs st).o g=.it s n→st1.o g=.it s n:=fun g s n hg=>by
  rcases key g with ⟨e,_⟩ | ⟨ws',_,e1,e2⟩
  ·rw [e] at hg;exact hg
  ·rw [e2] at hg;cases hg
 have hok:E.ok (eP gs st) gh w=E.ok st1 gh w:=by funext a i b;simp only [Env.ok,own]
 have hp :∀{g a i sz l},gs.contains g=true→plainO st.o g=some (a,i,sz,l)→st1.o g=.arr true a i sz l:=fun {g a i sz l} hc hpl=>by
  rw [hfr,if_pos (by simpa using hc),mO hpl]
 have same :∀{x:W} {v:Value},eU E st1 gh w x v→eU E (eP gs st) gh w x v:=by
  intro x v r
  induction r with
  |p a i x v hx=>exact .p a i x v (by rw [hok];exact hx)
  |cO=>exact .cO
  |own g v hv hx=>exact .own g v hv fun sz len hg=>hx sz len (by rw [←dim];exact hg)
  |vw g lo hi v hv hx=>exact .vw g lo hi v hv fun sz len hg=>hx sz len (by rw [←dim];exact hg)
  |box g off v hv hx=>exact .box g off v hv fun ws hg=>by obtain ⟨ws',e⟩:=anr g ws hg;exact hx ws' e
  |ep g n off v hv hx=>exact .ep g n off v hv fun sz len hg=>hx sz len (by rw [←dim];exact hg)
  |sp a i row off b o hb hx=>exact .sp a i row off b o (by rw [hok];exact hb) (by rw [hok];exact hx)
  |gl g=>exact .gl g
  |m_ g v hv hx=>exact .m_ g v hv fun s n hg=>hx s n (oit g s n hg)
  |gd b x v hx ih=>exact .gd b x v ih
  |clo f caps vs hl hx ih=>exact .clo f caps vs hl ih
  |no v=>exact .no v
 have agZ :∀{a i:Bool} {sz:Nat} {l:List (List P)} {G:Gh},iL E st1 gh w a i sz l G→iL E (eP gs st) gh w a i sz l G:=by
  intro a i sz l G r
  simpa only [iL,hok] using r
 have wd :∀{x:W} {v:Value},eU E st1 gh w x v→eU E (eP gs st) gh w (WJ gs st.o x) v:=by
  intro x v r
  unfold WJ
  split
  ·rename_i g
   split
   ·rename_i hc
    split
    ·rename_i a i sz l hpl
     have ho1:=hp hc hpl
     cases r with
     |own _ _ hv hx=>
      have hv:=hx _ _ (O.jR ho1)
      have hO:=h1.bf g
      rw [ho1] at hO
      rw [hv]
      exact .p a i _ _ (by rw [hok];exact cu.fF hO)
    ·exact same r
   ·exact same r
  ·rename_i g lo hi
   split
   ·rename_i hc
    split
    ·rename_i a i sz l hpl
     have ho1:=hp hc hpl
     cases r with
     |vw _ _ _ _ hv hx=>
      obtain ⟨n,m,c,rfl,rfl,q1,q2,qc,he⟩:=hx _ _ (O.jR ho1)
      have hO:=h1.bf g
      rw [ho1] at hO
      rw [he]
      have e1:(P.int .i64 (n:Int)).nat=n:=by simp [P.nat,P.num]
      have e2:(P.int .i64 (m:Int)).nat=m:=by simp [P.nat,P.num]
      rw [e1,e2]
      exact .p a i _ _ (by rw [hok];exact cu.fF ((cu.sub hO q1 q2).agO (by simp;omega)))
    ·exact same r
   ·exact same r
  ·exact same r
 have wV :∀{x:V} {v:Value},rH E st1 gh w x v→rH E (eP gs st) gh w (plV gs st.o x) v:=by
  intro x v r
  cases r with
  |one x v r=>exact .one _ _ (wd r)
  |agg xs cs hl hv hr=>
   refine .agg _ cs (by simpa using hl) hv fun j x v hx hv => ?_
   simp only [XS,W0] at hx
   obtain ⟨y,hy,rfl⟩:=hx
   exact wd (hr j y v hy hv)
 refine ⟨fun t => ?_,fun g => ?_,?_,?_,?_,?_,h1.wb,h1.frame,h1.size,h1.os,h1.tape,h1.output,?_,?_,?_⟩
 ·have hs:=h1.slots t
  rw [hss] at hs
  show dG E _ gh w (plS gs st.o (st.s t)) (val t)
  cases hs':st.s t with
  |v x=>rw [hs'] at hs;cases hs with | v _ _ r=>exact .v _ _ (wV r)
  |lG xs=>
   rw [hs'] at hs
   generalize hval:val t=vt at hs
   cases hs with
   |lG _ vs hl hr=>
    refine .lG _ vs (by simpa using hl) fun j x v hx hv => ?_
    simp only [XS,W0] at hx
    obtain ⟨y,hy,rfl⟩:=hx
    exact wV (hr j y v hy hv)
  |no=>exact .no _
 ·have hO:=h1.bf g
  rcases key g with ⟨e,_⟩ | ⟨ws',_,e1,e2⟩
  ·rw [e]
   generalize st1.o g=x at hO
   cases x with
   |none=>trivial
   |box ws=>
    obtain ⟨ad,c,ty,a1,a2,a3,a4,a5⟩:=hO
    exact ⟨ad,c,ty,a1,a2,a3,a4,fun j x hx=>let ⟨v,b1,b2,b3⟩:=a5 j x hx;⟨v,b1,b2,same b3⟩⟩
   |arr fz a i sz l=>
    cases fz with
    |false=>exact agZ hO
    |true=>simpa only [lM,hok] using hO
   |aP a i sz au l hole=>
    rcases hO with hO | ⟨ad,c,ty,a1,a2,a3,a4,a5,a6,a7,a8⟩
    ·exact .inl hO
    ·refine .inr ⟨ad,c,ty,a1,a2,a3,a4,a5,a6,a7,fun n x hx j y hy => ?_⟩
     obtain ⟨v,hv,hr⟩:=a8 n x hx j y hy
     refine ⟨v,hv,?_⟩
     unfold iE at *
     cases hcj:au.lookup j with
     |none=>rw [hcj] at hr;exact (by rw [hok];exact hr:cu w (E.ok (eP gs st) gh w a i) y v)
     |some sz'=>
      rw [hcj] at hr
      simp only at *
      cases hh:gW hole n j with
      |some d=>rw [hh] at hr;exact ⟨hr.1,same hr.2⟩
      |none=>
       rw [hh] at hr
       obtain ⟨l',ao,k,q1,q2,q3,q4⟩:=hr
       exact ⟨l',ao,k,q1,q2,agZ q3,q4⟩
   |it s n=>exact hO
  ·rw [e2]
   rw [e1] at hO
   obtain ⟨ad,c,ty,a1,a2,a3,a4,a5⟩:=hO
   refine ⟨ad,c,ty,a1,a2,a3,by simpa using a4,fun j x hx => ?_⟩
   simp only [XS,W0] at hx
   obtain ⟨y,hy,rfl⟩:=hx
   obtain ⟨v,b1,b2,b3⟩:=a5 j y hy
   exact ⟨v,b1,b2,wd b3⟩
 ·intro g g' b ha ha'
  rw [own] at ha ha'
  exact h1.inj g g' b ha ha'
 ·intro g b ha
  rw [own] at ha
  exact h1.wr g b ha
 ·intro g i b hg
  rw [inner] at hg
  exact h1.wi g i b hg
 ·intro g ho hd
  rw [own] at ho
  rw [isd] at hd
  exact h1.ns g ho hd
 ·intro t g hg
  exact h.us t g (YT hg)
 ·intro g g' hg
  rcases key g with ⟨e,_⟩ | ⟨ws',e0,e1,e2⟩
  ·rw [e] at hg
   have:=h1.uo g g' hg
   rw [hun] at this;exact this
  ·rw [e2] at hg
   simp only [O.names,Ys,QQ] at hg
   obtain ⟨_,⟨x,hx,rfl⟩,hg⟩:=hg
   exact h.uo g g' (by rw [e0];simp only [O.names,Ys];exact ⟨x,hx,D7 hg⟩)
 ·intro g hg
  exact h.ul g fun e=>hg (zU e)
theorem aaU {gs:List Nat} {w:World} {gh:Nat→Gh} {st:St} {E:Env} {a i:Bool} {b:Nat} (h:E.ok st gh w a i b):E.ok (eP gs st) gh w a i b:=by
 refine ⟨h.1,h.2.1,fun g ho had=>h.2.2 g ?_ had⟩
 rcases IY gs st g with ⟨e,_⟩ | ⟨ws,e,_⟩
 ·rw [e,fU] at ho
  split at ho
  ·cases hp:plainO st.o g with
   |none=>simpa [Fw.aV,hp] using ho
   |some x=>obtain ⟨a,i,sz,l⟩:=x;rw [mO hp] at ho;cases ho
  ·exact ho
 ·rw [e];rfl
theorem Rel.norm (h:Rel E st gh val w) (hs gs:List Nat) (hgs:aei (Fw.shuts hs st).o gs=true) :
  ∃bP,Rel E (eP gs (Fw.shuts hs st)) bP val w∧(∀x,(bP x).ad=(gh x).ad∧(bP x).cap=(gh x).cap)∧(∀a i b,E.ok st gh w a i b→E.ok (eP gs (Fw.shuts hs st)) bP w a i b)∧
   ∀g,st.o g=.none→(eP gs (Fw.shuts hs st)).o g=.none:=by
 obtain ⟨bP,h1,l1,e1⟩:=h.shuts hs
 exact ⟨bP,h1.plain gs (YS hgs),e1,fun a i b hb=>aaU (l1.ok a i b hb).1,fun g hg=>zU (Ii hs hg)⟩
end
end Go.Fw

namespace Go.Fw
open Go.RowKit
variable [d_]
def FR (ro:Option Nat):Fence:={ Fence.wide with round:=ro }
section
variable {Pg:Program} {ro:Option Nat} {n:Nat} {ops:Array Oper} {Q:Exit→Act→World→Prop}
theorem UJ {f:FuncId} {args:Array Value} {w:World} {R:Ending→World→Prop} (h:Calls Pg f args w R):CallsIn (FR ro) n Pg f args w R:=callsIn_wide.2 h
theorem YU {row:String} {args:Array Value} {w:World} {R:Value→World→Prop} (h:Rows Pg row args w R):RowsIn (FR ro) n Pg row args w R:=by
 intro c cs _
 obtain ⟨v,w',h1,h2⟩:=h c cs
 exact ⟨v,w',h1,stepsIn_wide.2 h2⟩
theorem ant {o:Oper} (ho :∀c,o.op≠.defer c) {a:Act} {w:World} {K K':Act→World→Prop} (hK :∀a w,K a w→K' a w) (h:o.wp Pg a w K Q):o.wpIn (FR ro) n Pg a w K' Q:=by
 refine ⟨fun _ _=>trivial,?_⟩
 rw [Oper.semAt_eq _ _ _ ho]
 unfold Oper.wp at h
 have hd:(FR ro).depth.isSome=true→1≤n:=fun e=>absurd e (by simp [FR,Fence.wide])
 generalize (execOp a.eval o).run Pg w=r at *
 cases r with
 |ok x w'=>
  cases x<;>simp only [Oper.upon] at h<;>simp only [Oper.uponIn]
  all_goals first
   |exact hK _ _ h
   |exact ⟨hd,UJ (Calls.mono h fun e w'' he=>by cases e<;>first | exact hK _ _ he | exact he)⟩
   |exact ⟨hd,YU (Rows.mono h fun v w'' he=>hK _ _ he)⟩
 |halt x w'=>cases x<;>simp only [Oper.upon] at h<;>simp only [Oper.uponIn]<;>exact h
theorem aaV (ho :∀o∈ops.toList,∀c,o.op≠.defer c) (hlo:¬ LetsOut Q) {i:Nat} {a:Act} {w:World} {K K':Act→World→Prop} (hK :∀a w,K a w→K' a w) (h:wpOp Pg ops Q i K a w):wpOpIn (FR ro) n Pg ops Q i K' a w:=by
 unfold wpOp at h
 unfold wpOpIn
 cases hi:ops[i]? with
 |none=>rw [hi] at h;exact hK _ _ h
 |some o=>
  rw [hi] at h
  simp only at h ⊢
  split
  ·rename_i hw
   rw [if_pos hw] at h
   rcases h with h | h
   ·exact ant (ho o (by have:=(Wc.1 hi).2;rw [←this];simp)) hK h
   ·exact absurd h.2 hlo
  ·rename_i hw
   rw [if_neg hw] at h
   exact ⟨fun _ _=>trivial,hK _ _ h⟩
theorem ag0 (ho :∀o∈ops.toList,∀c,o.op≠.defer c) (hlo:¬ LetsOut Q) :∀(is:List Nat) (a:Act) (w:World),wpOps Pg ops Q is a w→wpOpsIn (FR ro) n Pg ops Q is a w
 | [],a,w,h=>h
 |i::is,a,w,h=>by
  rw [wpOps_cons] at h
  rw [wpOpsIn_cons]
  exact aaV ho hlo (fun a w=>ag0 ho hlo is a w) h
theorem ag1 {md:Region.Mode} (ho :∀o∈ops.toList,∀c,o.op≠.defer c) (hlo:¬ LetsOut Q) :∀(fuel:Nat) (listed:Array Bool) (a:Act) (w:World),wpAny Pg md ops Q fuel listed a w→wpAnyIn (FR ro) n Pg md ops Q fuel listed a w
 |0,listed,a,w,h=>h
 |fuel+1,listed,a,w,h=>⟨h.1,fun i hi=>aaV ho hlo (fun a w=>ag1 ho hlo fuel _ a w) (h.2 i hi)⟩
end
omit [d_] in
def P.lv:P→Value
 |.int k n=>.int k n
 |.bool b=>.bool b
 |.str s=>.string s
 |_=>undef
def P.lit:P→Bool
 |.int _ _=>true
 |.bool _=>true
 |.str _=>true
 |_=>false
theorem P.aej {w:World} {ok:Nat→Prop} {x:P} (h:x.lit=true):cu w ok x x.lv:=by
 cases x<;>first | exact .int _ _ | exact .bool _ | exact .str _ | cases h
omit [d_] in
def IZ (Pg:Program) (w:World) (S:List Nat) (rows:List (List P)) (v:Value):Prop:=
 ∃gf lb,v=.func (.func gf) #[] lb∧(∀(args:Array Value) (w:World),(callFunc gf args).run Pg w=.ok (.enter gf args) w)∧
  ∀(l:Nat) (J:Nat→List Nat→World→Prop) (W:World),(∀k D A,J k D A→∀b∈S,A.heap[b]?=w.heap[b]?)→(∀k D A B D',J k D A→qL A B→(∀b∈D',b∈D∨(A.heap.size≤b∧b<B.heap.size))→J k D' B)→
   (∀k row D A,rows[k]?=some row→J k D A→YieldAt Fence.wide 0 Pg l (row.map P.lv).toArray A fun e B=>e=.returned (.bool true)∧J (k+1) D B∧∀b∈D,B.heap[b]?=A.heap[b]?)→
   J 0 [] W→Calls Pg gf (#[.func (.yield l) #[] #[]]++lb) W fun e B=>(∃v,e=.returned v)∧∃D,J rows.length D B
omit [d_] in
theorem IZ.mono {Pg:Program} {w w':World} {S:List Nat} {rows:List (List P)} {v:Value} (h :∀b∈S,w'.heap[b]?=w.heap[b]?) (hi:IZ Pg w S rows v):IZ Pg w' S rows v:=by
 obtain ⟨gf,lb,h1,h2,h3⟩:=hi
 exact ⟨gf,lb,h1,h2,fun l J W hJ=>h3 l J W fun k D A hA b hb=>(hJ k D A hA b hb).trans (h b hb)⟩
section
variable {Pg:Program}
theorem aaW {g:Operand} {ps:Array Tmp} {x y:Code} {Q:Exit→Act→World→Prop} {a:Act} {w:World} {S:List Nat} {rows:List (List P)} (hit:IZ Pg w S rows (a.eval g)) (hlen :∀row∈rows,row.length=ps.size)
  (J:Nat→List Nat→World→Prop) (hS :∀k D A,J k D A→∀b∈S,A.heap[b]?=w.heap[b]?) (hgrow :∀k D A B D',J k D A→qL A B→(∀b∈D',b∈D∨(A.heap.size≤b∧b<B.heap.size))→J k D' B)
  (hturn :∀k D A b o o',w.heap.size≤b→b∉D→J k D A→A.heap[b]?=some o→quiet o=true→J k D (A.putObj b o')) (h0:J 0 [] w)
  (ahU :∀k row D A,rows[k]?=some row→J k D A→∀l,∃a₁,(∀(K:Act→World→Prop) W,K a₁ W→x.wpIn (FR (some l)) 0 Pg (Exit.then K (fun _ _ _=>False)) { tmps:=(ps.zip (row.map P.lv).toArray).foldl (fun t (p,v)=>t.setIfInBounds p v) a.tmps,defers:=[] } W)∧
   y.wpIn (FR (some l)) 0 Pg (fun e _ B=>e=.normal∧J (k+1) D B∧(∀b∈D,B.heap[b]?=A.heap[b]?)∧∀b o,A.heap[b]?=some o→quiet o=true→w.heap.size≤b→B.heap[b]?=some o) a₁ A)
  (hdone :∀D B D',w.heap.size≤D→J rows.length D' B→B.heap[D]?=some (.deferred (some []))→Q .normal { a with defers:={ target:=.collected D,args:=#[] }::a.defers } B) :
  (Code.rangeFunc g ps x y).wp Pg Q a w:=by
 obtain ⟨gf,lb,hg,eg,hseq⟩:=hit
 rw [←wpIn_wide (n:=1)]
 refine wpIn_rangeFunc ?_
 intro fn hfn
 obtain ⟨rec,hrec⟩ :∃rec:LoopState→Option Code→Loop,rec=fun st pe=>{ state:=st,pending:=pe,fn,tmps:=a.tmps,params:=ps,assign:=x,body:=y,defers:=w.heap.size }:=⟨_,rfl⟩
 obtain ⟨W1,hW1⟩ :∃W1,(w.alloc (.deferred (some []))).alloc (.loop (rec .ready none))=W1:=⟨_,rfl⟩
 have hL1:W1.heap[w.heap.size+1]?=some (.loop (rec .ready none)):=by
  rw [←hW1];have:=World.alloc_heap_new (w.alloc (.deferred (some []))) (.loop (rec .ready none));rwa [World.size_alloc] at this
 have hK1:W1.heap[w.heap.size]?=some (.deferred (some [])):=by
  rw [←hW1];exact (Below.heap_alloc _ _ _ (by simp)).trans (World.alloc_heap_new w _)
 have hJ1:J 0 [] W1:=by rw [←hW1];exact hgrow _ _ _ _ [] (hgrow _ _ _ _ [] h0 (qL.alloc _ _) (fun b hb=>by cases hb)) (qL.alloc _ _) (fun b hb=>by cases hb)
 refine ⟨w.heap.size+1,[{ target:=.collected w.heap.size,args:=#[] }],W1,{ target:=.fn (.func gf) lb,args:=#[.func (.yield (w.heap.size+1)) #[] #[]] },W1,gf,
  #[.func (.yield (w.heap.size+1)) #[] #[]]++lb,W1,?_,?_,fun _ _=>trivial,?_,fun _=>YY _,?_⟩
 ·rw [←hW1,hrec];exact run_enterLoop_outer _ _ _ _ _
 ·simp only [resolve,hg]
  simp [go_sem]
 ·simp [invoke,go_sem,eg]
 refine callsIn_wide.2 (Calls.mono (hseq (w.heap.size+1)
   (fun k D A=>J k D A∧A.heap[w.heap.size+1]?=some (.loop (rec .ready none))∧A.heap[w.heap.size]?=some (.deferred (some []))∧∀b∈D,w.heap.size+1<b)
   W1 (fun k D A h=>hS k D A h.1) (fun k D A B D' h hg hD => ?_) ?_ ⟨hJ1,hL1,hK1,fun b hb=>by cases hb⟩) ?_)
 ·have lt :∀{i o},A.heap[i]?=some o→i<A.heap.size:=fun h=>(Wc.1 h).1
  refine ⟨hgrow k D A B D' h.1 hg hD,(hg.same _ (lt h.2.1)).trans h.2.1,(hg.same _ (lt h.2.2.1)).trans h.2.2.1,fun b hb => ?_⟩
  rcases hD b hb with hb | hb
  ·exact h.2.2.2 b hb
  ·exact Wo (lt h.2.1) hb.1
 ·rintro k row D A hrow ⟨hj,hl,hk,hD⟩
  have hy:=run_yield (P:=Pg) (args:=(row.map P.lv).toArray) hl (by rw [hrec];simpa using hlen row (Xs hrow))
  rw [hrec] at hy
  have hlt:w.heap.size+1<A.heap.size:=(Wc.1 hl).1
  have hnD:w.heap.size+1∉D:=fun hm=>Km _ (hD _ hm)
  have akg :∀b∈D,b≠w.heap.size+1:=fun b hb e=>hnD (e▸hb)
  have hj2:J k D (A.putObj (w.heap.size+1) (.loop { rec .ready none with state:=.busy })):=hturn _ _ _ _ _ _ (by omega) hnD hj hl rfl
  obtain ⟨a₁,hx,hbody⟩:=ahU k row D _ hrow hj2 (w.heap.size+1)
  refine ⟨fn,_,x,y,hy,roundIn_of_wpIn hfn (hx _ _ ⟨_,run_beginRound hl (by rw [hrec]),wpIn_mono hbody ?_⟩)⟩
  rintro e a3 B ⟨rfl,hj3,hkD,hkeep⟩
  have hl2:(A.putObj (w.heap.size+1) (.loop { rec .ready none with state:=.busy })).heap[w.heap.size+1]?=some (.loop { rec .ready none with state:=.busy }):=World.putObj_heap_same hlt
  have hk2:(A.putObj (w.heap.size+1) (.loop { rec .ready none with state:=.busy })).heap[w.heap.size]?=some (.deferred (some [])):=(World.putObj_heap_other (by omega)).trans hk
  have hl3:=hkeep _ _ hl2 rfl (by omega)
  have hk3:=hkeep _ _ hk2 rfl (by omega)
  have hr:=run_endRound (P:=Pg) none hl3
  refine ⟨_,_,hr,rfl,⟨hturn _ _ _ _ _ _ (by omega) hnD hj3 hl3 rfl,?_,(World.putObj_heap_other (by omega)).trans hk3,hD⟩,fun b hb => ?_⟩
  ·rw [World.putObj_heap_same (Wc.1 hl3).1,hrec];rfl
  ·rw [World.putObj_heap_other (akg b hb),hkD b hb,World.putObj_heap_other (akg b hb)]
 ·rintro e B ⟨⟨v,rfl⟩,D,hj,hl,hk,hD⟩
  have hnD:w.heap.size+1∉D:=fun hm=>Km _ (hD _ hm)
  refine ⟨none,_,by have:=run_endLoop (P:=Pg) hl (by rw [hrec];simp);rw [hrec] at this;exact this,hdone _ _ D (YY _) (hturn _ _ _ _ _ _ (by omega) hnD hj hl rfl) ((World.putObj_heap_other (by omega)).trans hk)⟩
end
end Go.Fw

namespace Go.Fw
open Go.RowKit
variable [d_]
structure vW where
 n:St→Prop
 x:Nat→St→Prop
 r:St→Prop
def keeps (bg:List Nat) (j:Shape) (m:Ren):Bool:=bg.all fun g=>j.nms.contains g&&(match m.lookup g with
 |some (some g')=>Nat.beq g' g
 |_=>false)
inductive Back (bg:List Nat) (j:Shape) (st:St) (G:List P→Prop):Prop where
 |mk (hs gs:List Nat) (m:Ren) (vs:List P) (hgs:aei (Fw.shuts hs st).o gs=true) (hm:keeps bg j m=true) (h:coerce j m (eP gs (Fw.shuts hs st))=some vs) (hG:G vs)
inductive aaX (bg:List Nat) (body:St→vW→Prop) (st:St) (K:vW):Prop where
 |mk (j:Shape) (I:List P→Prop) (μ:List P→Nat) (h0:Back bg j st I) (round :∀us,I us→body (Fw.mk j us) { n:=fun st'=>Back bg j st' fun vs=>I vs∧μ vs<μ us,x:=K.x,r:=K.r })
inductive Wk (bg:List Nat) (K:St→Prop) (st:St):Prop where
 |now (h:K st)
 |back (j:Shape) (h:Back bg j st fun vs=>K (Fw.mk j vs))
def I4:Op→Option Tmp
 |.assign (.tmp t)=>some t
 |.move (.tmp t)=>some t
 |_=>none
def wR (N:Nat):Code→St→Option St
 |.skip,st=>some st
 |.region _ ops false,st=>match ops.toList with
  | [o]=>match o.guard,o.dst,I4 o.op with
   |none,some d,some t=>if d<N then some (st.put (some d) (st.s t)) else none
   |_,_,_=>none
  |_=>none
 |.seq x y,st=>match wR N x st with
  |some st'=>wR N y st'
  |none=>none
 |_,_=>none
def tY:Code→Act→Act
 |.region _ ops _,a=>match ops.toList with
  | [o]=>match o.dst,I4 o.op with
   |some d,some t=>a.put (some d) (a.tmps.getD t undef)
   |_,_=>a
  |_=>a
 |.seq x y,a=>tY y (tY x a)
 |_,a=>a
def yc:List Tmp→List P→St→St
 |p::ps,x::xs,st=>yc ps xs (st.put (some p) (.v (.one (.p false false x))))
 |_,_,st=>st
def aek:Op→Bool
 |.defer _=>true
 |_=>false
def calm:Code→Bool
 |.skip=>true
 |.region _ ops _=>ops.toList.all fun o=>!aek o.op
 |.seq x y=>calm x&&calm y
 |.cond _ x y=>calm x&&calm y
 |.block _ c=>calm c
 |.loop c=>calm c
 |.exit _=>true
 |.ret=>true
 |.label _=>true
 |_=>false
def I5 (st:St):St:={ s:=fun _=>.no,o:=st.o,used:=st.used }
def aaY (N:Nat) (body:List Nat→St→vW→Prop) (ps:List Tmp) (x:Code) (row:List P) (st:St) (K:St→Prop):Prop:=
 ∃(sg:zf) (st1:St) (c:KT) (bZ:List P) (d:Nat),sg.ok=true∧((sg.bg.all fun g=>sg.pin.nms.contains g)&&sg.aaB)=true∧sg.dA=0∧wR N x (yc ps row st)=some st1∧
  gX sg st.o ((List.range N).map st1.s)=some c∧c.fine sg=true∧
  body sg.bg (Fw.mk sg.pin c.ins) { n:=fun st2=>Back sg.bg sg.aS (I5 st2) fun vs=>vs=bZ,x:=fun _ _=>False,r:=fun _=>False }∧
  (∀g∈(iC sg d st.o c bZ).new,st.used g=false)∧K (st.aK (iC sg d st.o c bZ).aK (iC sg d st.o c bZ).new)
inductive ahV (bg:List Nat) (rows:List (List P)) (round:List P→St→(St→Prop)→Prop) (st:St) (K:St→Prop):Prop where
 |mk (j:Shape) (I:Nat→List P→Prop) (h0:Back bg j st (I 0)) (hr :∀k row us,rows[k]?=some row→I k us→round row (Fw.mk j us) fun st'=>Back bg j st' (I (k+1))) (hd :∀us,I rows.length us→K (Fw.mk j us))
def exec (T:Tab) (tt:TT) (N:Nat) (bg:List Nat):Code→St→vW→Prop
 |.skip,st,K=>K.n st
 |.region _ ops draw,st,K=>pY T tt N ops draw st (Wk bg K.n)
 |.seq x y,st,K=>exec T tt N bg x st { n:=fun st'=>exec T tt N bg y st' K,x:=K.x,r:=K.r }
 |.cond c x y,st,K=>match st.dH c with
  |.v (.one (.p _ _ (.bool b)))=>bif b then exec T tt N bg x st { n:=Wk bg K.n,x:=K.x,r:=K.r } else exec T tt N bg y st { n:=Wk bg K.n,x:=K.x,r:=K.r }
  |_=>False
 |.block id c,st,K=>exec T tt N bg c st { n:=Wk bg K.n,x:=fun id' st'=>bif Nat.beq id' id then Wk bg K.n st' else K.x id' st',r:=K.r }
 |.loop c,st,K=>aaX bg (exec T tt N bg c) st K
 |.exit id,st,K=>K.x id st
 |.ret,st,K=>K.r st
 |.label _,st,K=>K.n st
 |.scope c,st,K=>exec T tt N bg c st K
 |.rangeFunc g ps x y,st,K=>calm y=true∧match st.dH g with
  |.v (.one (.p _ _ (.seq rows)))=>(rows.all fun r=>Nat.beq r.length ps.size&&r.all P.lit)=true∧(ps.toList.all fun p=>Nat.blt p N)=true∧
    ahV bg rows (aaY N (fun anu st' K'=>exec T tt N anu y st' K') ps.toList x) st (Wk bg K.n)
  |_=>False
 |_,_,_=>False
structure Fit (Pg:Program):Prop where
 mixed:Pg.follows .mixedOrders=true
 sq :∀w S l v,d_.sq w S l v→IZ Pg w S l v
section
variable {E:Env} {N:Nat} {bg:List Nat} {pO:Nat→Gh} {Pg:Program} {T:Tab} {tt:TT}
structure Knt (E:Env) (N:Nat) (bg:List Nat) (pO:Nat→Gh) (K:vW) (Q:Exit→Act→World→Prop):Prop where
 n :∀st a w,K.n st→Good E N bg pO st a w→Q .normal a w
 x :∀id st a w,K.x id st→Good E N bg pO st a w→Q (.exit id) a w
 r :∀st a w,K.r st→Good E N bg pO st a w→Q .ret a w
theorem Back.good {j:Shape} {st:St} {G:List P→Prop} (h:Back bg j st G) {a:Act} {w:World} (hg:Good E N bg pO st a w) :∃vs,G vs∧Good E N bg pO (Fw.mk j vs) a w:=by
 obtain ⟨hs,gs,m,vs,hgs,hm,h,hG⟩:=h
 obtain ⟨⟨gh,hR,Fe⟩,hsz,hdf⟩:=hg
 obtain ⟨bP,hR,e1,_,e3⟩:=hR.norm hs gs hgs
 have hr:=tH h
 refine ⟨vs,hG,⟨jr bP (Ce j m),hR.Ur hr,fun g hg => ?_⟩,hsz,hdf⟩
 have:=(X2.1 hm) g hg
 simp only [Q6] at this
 obtain ⟨h1,h2⟩:=this
 refine ⟨h1,?_⟩
 have hF:Ce j m g=some g:=by
  unfold Ce
  rw [if_pos h1]
  split at h2
  ·rename_i g' hl
   rw [hl,Q4 h2];rfl
  ·cases h2
 have ho:=hr.bf g g hF
 rcases (Fe g hg).2 with e | e
 ·have e:=e3 g e
  rw [e] at ho
  generalize (Fw.mk j vs).o g=z at ho
  cases ho;exact .inl rfl
 ·exact .inr (by simp only [jr,hF];exact ⟨(e1 g).1.trans e.1,(e1 g).2.trans e.2⟩)
theorem Wk.good {K:St→Prop} {st:St} (h:Wk bg K st) {a:Act} {w:World} (hg:Good E N bg pO st a w) :∃st',K st'∧Good E N bg pO st' a w:=by
 cases h with
 |now h=>exact ⟨st,h,hg⟩
 |back j h=>
  obtain ⟨vs,h1,h2⟩:=h.good hg
  exact ⟨_,h1,h2⟩
theorem Knt.wk {K:vW} {Q:Exit→Act→World→Prop} (h:Knt E N bg pO K Q):Knt E N bg pO { n:=Wk bg K.n,x:=K.x,r:=K.r } Q:=
 ⟨fun st a w hk hg=>let ⟨st',h1,h2⟩:=hk.good hg;h.n st' a w h1 h2,h.x,h.r⟩
theorem I7 {ro:Option Nat} {n:Nat} {Q:Exit→Act→World→Prop} {st:St} {a:Act} {w:World} {ops:Array Oper} (hT :∀f sp,T f=some sp→Sound Pg (f % 1000000) sp) (htt:ig Pg tt) (hm:Pg.follows .mixedOrders=true) {id:Nat} {draw:Bool} {K:St→Prop} (hcm:calm (.region id ops draw)=true) (h:pY T tt N ops draw st K) (hg:Good E N bg pO st a w)
  (hK :∀st' a' w',K st'→Good E N bg pO st' a' w'→Q .normal a' w'):(Code.region id ops draw).wpIn (FR ro) n Pg Q a w:=by
 have hnd :∀o∈ops.toList,∀c,o.op≠.defer c:=fun o ho c e=>by
  have:=X2.1 hcm o ho
  rw [e] at this;cases this
 have hlo:¬ LetsOut (fun e a w=>e=.normal∧Q .normal a w):=fun ⟨_,_,e,_⟩=>by cases e
 refine wpIn_mono (Q:=fun e a w=>e=.normal∧Q .normal a w) ?_ fun e a w h=>by obtain ⟨rfl,h⟩:=h;exact h
 rcases IX (Q:=fun e a w=>e=.normal∧Q .normal a w) hT htt h hg fun st' a' w' q hg'=>⟨rfl,hK st' a' w' q hg'⟩ with ⟨e,h2⟩ | ⟨e,h2⟩
 ·rw [e];exact wpIn_region (ag0 hnd hlo _ _ _ h2)
 ·rw [e];exact wpIn_region_any hm (ag1 hnd hlo _ _ _ _ h2)
theorem OA (hT :∀f sp,T f=some sp→Sound Pg (f % 1000000) sp) (htt:ig Pg tt) (hm:Pg.follows .mixedOrders=true) (ro:Option Nat) (n:Nat) :∀(c:Code) {st:St} {K:vW} {Q:Exit→Act→World→Prop} {a:Act} {w:World},
  calm c=true→exec T tt N bg c st K→Good E N bg pO st a w→Knt E N bg pO K Q→c.wpIn (FR ro) n Pg Q a w:=by
 intro c
 induction c with
 |skip=>intro st K Q a w hcm h hg hK;exact wpIn_skip (hK.n _ _ _ h hg)
 |region id ops draw=>intro st K Q a w hcm h hg hK;exact I7 hT htt hm hcm h hg fun st' a' w' q hg'=>hK.wk.n _ _ _ q hg'
 |seq x y GZ ihy=>
  intro st K Q a w hcm h hg hK
  simp only [calm,Q6] at hcm
  refine wpIn_seq (GZ hcm.1 h hg ⟨fun st' a' w' q hg'=>ihy hcm.2 q hg' hK,fun id st' a' w' q hg'=>hK.x _ _ _ _ q hg',fun st' a' w' q hg'=>hK.r _ _ _ q hg'⟩)
 |cond c x y GZ ihy=>
  intro st K Q a w hcm h hg hK
  simp only [calm,Q6] at hcm
  simp only [exec] at h
  split at h
  ·rename_i a1 i1 b hc
   obtain ⟨gh,hR,_⟩:=hg.ex
   have hv:=nJ hR c
   rw [hc] at hv
   have hv:=hv.fC.lT
   refine wpIn_cond_split hv (fun hb => ?_) (fun hb => ?_)
   ·subst hb;exact GZ hcm.1 h hg hK.wk
   ·subst hb;exact ihy hcm.2 h hg hK.wk
  ·cases h
 |block id c ih=>
  intro st K Q a w hcm h hg hK
  refine wpIn_block (ih hcm h hg ⟨fun st' a' w' q hg'=>hK.wk.n _ _ _ q hg',fun id' st' a' w' q hg' => ?_,fun st' a' w' q hg'=>hK.r _ _ _ q hg'⟩)
  simp only [Exit.inBlock]
  by_cases e:id'=id
  ·subst e
   rw [if_pos rfl]
   have:Nat.beq id' id'=true:=by simp
   simp only [this] at q
   exact hK.wk.n _ _ _ q hg'
  ·rw [if_neg e]
   have:Nat.beq id' id=false:=by cases hb:Nat.beq id' id with | false=>rfl | true=>exact absurd (Q4 hb) e
   simp only [this] at q
   exact hK.x _ _ _ _ q hg'
 |loop c ih=>
  intro st K Q a w hcm h hg hK
  obtain ⟨j,I,μ,h0,round⟩:=(show aaX bg (exec T tt N bg c) st K from h)
  obtain ⟨us,hI,hg0⟩:=h0.good hg
  refine wpIn_loop_rounds (μ us+1) ?_
  have key :∀k us,I us→μ us<k→∀a w,Good E N bg pO (Fw.mk j us) a w→Code.roundsIn (FR ro) n Pg c Q k a w:=by
   intro k
   induction k with
   |zero=>intro us _ h;omega
   |succ k ihn=>
    intro us hI hlt a w hg
    refine ih hcm (round us hI) hg ⟨fun st' a' w' q hg' => ?_,fun id st' a' w' q hg'=>hK.x _ _ _ _ q hg',fun st' a' w' q hg'=>hK.r _ _ _ q hg'⟩
    obtain ⟨vs,⟨h1,h2⟩,h3⟩:=Back.good q hg'
    exact ihn vs h1 (by omega) _ _ h3
  exact key _ us hI (by omega) a w hg0
 |exit id=>intro st K Q a w hcm h hg hK;exact wpIn_exit (hK.x _ _ _ _ h hg)
 |ret=>intro st K Q a w hcm h hg hK;exact wpIn_ret (hK.r _ _ _ h hg)
 |label l=>intro st K Q a w hcm h hg hK;exact wpIn_label (hK.n _ _ _ h hg)
 |_=>intro st K Q a w hcm;cases hcm
theorem Q7 {sp:zf} {st:St} {bZ:List P} {kY:Nat→Gh} {rs:Nat→Value} {w':World} (hfin:Rel E st kY rs w') (I8 :∀g∈sp.bg,st.used g=true∧(st.o g=.none∨((kY g).ad=(pO g).ad∧(kY g).cap=(pO g).cap)))
  (hBk:Back sp.bg sp.aS st fun vs=>vs=bZ) :∃bP,Rel E (Fw.mk sp.aS bZ) bP rs w'∧∀g∈sp.bg,(bP g).ad=(pO g).ad∧(bP g).cap=(pO g).cap:=by
 obtain ⟨hs,gs,m,vs,hgs,hkm,hco,rfl⟩:=hBk
 obtain ⟨xG,hfin,e1,_,e3⟩:=hfin.norm hs gs hgs
 have hr:=tH hco
 refine ⟨jr xG (Ce sp.aS m),hfin.Ur hr,fun g hg => ?_⟩
 have:=(X2.1 hkm) g hg
 simp only [Q6] at this
 obtain ⟨h1,h2⟩:=this
 have hF:Ce sp.aS m g=some g:=by
  unfold Ce
  rw [if_pos h1]
  split at h2
  ·rename_i g' hl
   rw [hl,Q4 h2];rfl
  ·cases h2
 have ho:=hr.bf g g hF
 have hbox:(Fw.mk sp.aS vs).o g≠.none:=by
  have hm:g∈sp.aS.bf.map (·.1):=by simpa [Shape.nms] using h1
  obtain ⟨x,hxx⟩:=vT (vs:=vs) (n:=(dB vs 0 sp.aS.slots).2) hm
  have e:(Fw.mk sp.aS vs).o g=x:=by
   show (match (gq vs (dB vs 0 sp.aS.slots).2 sp.aS.bf).1.lookup g with | some x=>x | none=>O.none)=x
   rw [hxx]
  obtain ⟨k,n',_,h2⟩:=kP hxx
  rw [e,h2]
  cases k<;>simp [uq]
 rcases (I8 g hg).2 with e | e
 ·exfalso
  have e:=e3 g e
  rw [e] at ho
  generalize (Fw.mk sp.aS vs).o g=z at ho hbox
  cases ho;exact hbox rfl
 ·simp only [jr,hF];exact ⟨(e1 g).1.trans e.1,(e1 g).2.trans e.2⟩
structure Head (E:Env) (bg:List Nat) (pO:Nat→Gh) (a:Act) (S D:List Nat) (w0:World) (st:St) (A:World):Prop where
 ex :∃gh,Rel E st gh (fun t=>a.tmps.getD t undef) A∧(∀g∈bg,st.used g=true∧(st.o g=.none∨((gh g).ad=(pO g).ad∧(gh g).cap=(pO g).cap)))∧∀b∈S++D,∃p q,E.ok st gh A p q b
 marks:Marks E a A
 keep :∀b∈S,A.heap[b]?=w0.heap[b]?
theorem Head.back {a:Act} {S D:List Nat} {w0 A:World} {j:Shape} {st:St} {G:List P→Prop} (h:Head E bg pO a S D w0 st A) (hb:Back bg j st G) :∃vs,G vs∧Head E bg pO a S D w0 (Fw.mk j vs) A:=by
 obtain ⟨hs,gs,m,vs,hgs,hm,hc,hG⟩:=hb
 obtain ⟨⟨gh,hR,Fe,hok⟩,hmk,hkp⟩:=h
 obtain ⟨bP,hR,e1,e2,e3⟩:=hR.norm hs gs hgs
 have hr:=tH hc
 refine ⟨vs,hG,⟨jr bP (Ce j m),hR.Ur hr,fun g hg => ?_,fun b hb => ?_⟩,hmk,hkp⟩
 ·have:=(X2.1 hm) g hg
  simp only [Q6] at this
  obtain ⟨h1,h2⟩:=this
  refine ⟨h1,?_⟩
  have hF:Ce j m g=some g:=by
   unfold Ce
   rw [if_pos h1]
   split at h2
   ·rename_i g' hl
    rw [hl,Q4 h2];rfl
   ·cases h2
  have ho:=hr.bf g g hF
  rcases (Fe g hg).2 with e | e
  ·have e:=e3 g e
   rw [e] at ho
   generalize (Fw.mk j vs).o g=z at ho
   cases ho;exact .inl rfl
  ·exact .inr (by simp only [jr,hF];exact ⟨(e1 g).1.trans e.1,(e1 g).2.trans e.2⟩)
 ·obtain ⟨p,q,h⟩:=hok b hb
  exact ⟨p,q,hr.ok _ _ _ _ b ⟨id,id⟩ (e2 _ _ _ h)⟩
def kG:List Tmp→List P→Array Value→Array Value
 |p::ps,x::xs,t=>kG ps xs (t.setIfInBounds p x.lv)
 |_,_,t=>t
theorem I9 :∀(ps:List Tmp) (row:List P) (t:Array Value),row.length=ps.length→(ps.zip (row.map P.lv)).foldl (fun t (p:Tmp×Value)=>t.setIfInBounds p.1 p.2) t=kG ps row t
 | [],[],t,_=>rfl
 |p::ps,x::row,t,h=>by
  simp only [Qf,List.zip_cons_cons,K3,kG]
  exact I9 ps row _ (by simpa using h)
 | [],x::row,t,h=>by simp at h
 |p::ps,[],t,h=>by simp at h
theorem CP :∀(ps:List Tmp) (row:List P) (t:Array Value),(kG ps row t).size=t.size
 |p::ps,x::row,t=>by simp only [kG,CP];simp
 | [],row,t=>by simp only [kG]
 |p::ps,[],t=>by simp only [kG]
theorem WL {gh:Nat→Gh} {w:World} :∀(ps:List Tmp) (row:List P) {st:St} {t:Array Value},(row.all P.lit)=true→(∀p∈ps,p<t.size)→Rel E st gh (fun k=>t.getD k undef) w→
  Rel E (yc ps row st) gh (fun k=>(kG ps row t).getD k undef) w∧(yc ps row st).o=st.o∧(yc ps row st).used=st.used
 |p::ps,x::row,st,t,hl,hp,h=>by
  simp only [List.all_cons,Q6] at hl
  have h1:=h.put (some p) (x:=.v (.one (.p false false x))) (v:=x.lv) (.v _ _ (.one _ _ (.p _ _ _ _ (P.aej hl.1)))) (by simp [S.names,V.names,W.names])
  have e:xA (fun k=>t.getD k undef) (some p) x.lv=fun k=>(t.setIfInBounds p x.lv).getD k undef:=by
   funext k
   have hlt:=hp p (by simp)
   simp only [xA,W2]
   by_cases e:k=p
   ·subst e;simp [hlt]
   ·rw [if_neg e,Kk (Ne.symm e)]
  rw [e] at h1
  obtain ⟨q1,q2,q3⟩:=WL ps row hl.2 (fun p hp'=>by simpa using hp p (by simp [hp'])) h1
  exact ⟨q1,q2,q3⟩
 | [],row,st,t,hl,hp,h=>by simp only [yc,kG];exact ⟨h,trivial,trivial⟩
 |p::ps,[],st,t,hl,hp,h=>by simp only [yc,kG];exact ⟨h,trivial,trivial⟩
theorem aaZ {op:Op} {t:Tmp} (h:I4 op=some t):op=.assign (.tmp t)∨op=.move (.tmp t):=by
 unfold I4 at h
 split at h
 ·simp only [Q0] at h;subst h;exact .inl rfl
 ·simp only [Q0] at h;subst h;exact .inr rfl
 ·cases h
theorem YV {gh:Nat→Gh} {w:World} :∀(x:Code) {st st':St} {a:Act},wR N x st=some st'→a.tmps.size=N→Rel E st gh (fun k=>a.tmps.getD k undef) w→
  Rel E st' gh (fun k=>(tY x a).tmps.getD k undef) w∧(tY x a).tmps.size=N∧(tY x a).defers=a.defers∧st'.o=st.o∧st'.used=st.used∧
  ∀(ro:Option Nat) (n:Nat) (K:Act→World→Prop) (W:World),K (tY x a) W→x.wpIn (FR ro) n Pg (Exit.then K (fun _ _ _=>False)) a W:=by
 intro x
 induction x with
 |skip=>
  intro st st' a h hsz hR
  simp only [wR,Q0] at h;subst h
  exact ⟨hR,hsz,rfl,rfl,rfl,fun ro n K W hK=>wpIn_skip hK⟩
 |region id ops draw=>
  intro st st' a h hsz hR
  cases draw with
  |true=>simp [wR] at h
  |false=>
   simp only [wR] at h
   split at h
   ·rename_i o hops
    split at h
    ·rename_i d t hg hd ht
     split at h
     ·rename_i hlt
      simp only [Q0] at h;subst h
      have hact:tY (.region id ops false) a=a.put (some d) (a.tmps.getD t undef):=by simp only [tY,hops,hd,ht]
      rw [hact]
      have hv:(fun k=>(a.put (some d) (a.tmps.getD t undef)).tmps.getD k undef)=xA (fun k=>a.tmps.getD k undef) (some d) (a.tmps.getD t undef):=xR _ _ fun d' e=>by cases e;rw [hsz];exact hlt
      refine ⟨by rw [hv];exact hR.put _ (hR.slots t) (hR.us t),by rw [xU];exact hsz,put_defers _ _,rfl,rfl,fun ro n K W hK => ?_⟩
      have hsize:ops.size=1:=by rw [←qa,hops];rfl
      have hi:ops[0]?=some o:=by rw [←Wm,hops];rfl
      refine wpIn_region ?_
      rw [hsize]
      show wpOpsIn _ _ _ _ _ [0] _ _
      simp only [wpOpsIn,hi]
      have hw:Region.wanted o (yielded ops a.tmps)=true:=by simp [Region.wanted,hg]
      rw [if_pos hw]
      refine ⟨fun _ _=>trivial,?_⟩
      have hnd :∀c,o.op≠.defer c:=fun c e=>by rw [e] at ht;cases ht
      rw [Oper.semAt_eq _ _ _ hnd]
      have hx:(execOp a.eval o).run Pg W=.ok (.value (a.tmps.getD t undef)) W:=by
       rcases aaZ ht with e | e
       ·simp only [execOp,e];rfl
       ·simp only [execOp,e];rfl
      rw [hx,Oper.uponIn_value,hd]
      exact hK
     ·cases h
    ·cases h
   ·cases h
 |seq x y GZ ihy=>
  intro st st' a h hsz hR
  simp only [wR] at h
  split at h
  ·rename_i st1 h1
   obtain ⟨a1,a2,a3,a4,a5,a6⟩:=GZ h1 hsz hR
   obtain ⟨b1,b2,b3,b4,b5,b6⟩:=ihy h a2 a1
   refine ⟨b1,b2,b3.trans a3,b4.trans a4,b5.trans a5,fun ro n K W hK=>wpIn_seq ?_⟩
   refine wpIn_mono (a6 ro n (fun a w=>y.wpIn (FR ro) n Pg (Exit.then K fun _ _ _=>False) a w) W (b6 ro n K W hK)) fun e a w h => ?_
   cases e<;>exact h
  ·cases h
 |_=>intro st st' a h;simp [wR] at h
theorem Q8 (hT :∀f sp,T f=some sp→Sound Pg (f % 1000000) sp) (htt:ig Pg tt) (hm:Fit Pg) {g:Operand} {ps:Array Tmp} {x y:Code} {st:St} {K:vW} {Q:Exit→Act→World→Prop} {a:Act} {w:World}
  (h:exec T tt N bg (.rangeFunc g ps x y) st K) (hg:Good E N bg pO st a w) (hK:Knt E N bg pO K Q):(Code.rangeFunc g ps x y).wp Pg Q a w:=by
 obtain ⟨hcm,h⟩:calm y=true∧_:=h
 split at h
 rotate_left
 ·exact h.elim
 rename_i p q rows hop
 obtain ⟨hrows,hps,j,I,h0,hr,hd⟩:=h
 obtain ⟨⟨gh,hR,Fe⟩,hsz,hmk⟩:=hg
 have hv:=nJ hR g
 rw [hop] at hv
 have hv:=hv.fC
 obtain ⟨S,hS,hq⟩ :∃S,(∀b∈S,E.ok st gh w p q b∧∃c e f,w.heap[b]?=some (.cells c e f))∧d_.sq w S rows (a.eval g):=by
  generalize a.eval g=v at hv
  cases hv with
  |seq l v S _ hS hq=>exact ⟨S,hS,hq⟩
 have hB0:E.B0≤w.heap.size:=hR.size
 have hrow :∀row∈rows,row.length=ps.toList.length∧row.all P.lit=true:=fun row hm'=>by
  have:=X2.1 hrows row hm'
  simp only [Q6] at this
  exact ⟨by simpa using Q4 this.1,this.2⟩
 have hpN :∀p∈ps.toList,p<N:=fun p hp=>by simpa using X2.1 hps p hp
 have akh :∀b∈S,b<w.heap.size:=fun b hb=>(hS b hb).1.2.1
 obtain ⟨us0,hI0,hH0⟩:=Head.back (S:=S) (D:=[]) (w0:=w) ⟨⟨gh,hR,Fe,fun b hb=>⟨p,q,(hS b (by simpa using hb)).1⟩⟩,hmk,fun _ _=>rfl⟩ h0
 refine aaW (hm.sq _ _ _ _ hq) (fun row hm'=>by simpa using (hrow row hm').1) (fun k D A=>w.heap.size≤A.heap.size∧∃us,I k us∧Head E bg pO a S D w (Fw.mk j us) A) (fun k D A hJ=>hJ.2.choose_spec.2.keep) ?_ ?_ ⟨YY _,us0,hI0,hH0⟩ ?_ ?_
 ·rintro k D A B D' ⟨hz,us,hI,⟨kY,hR1,I8,hok1⟩,UK,YW⟩ hg hDD
  refine ⟨Vn hz hg.size,us,hI,⟨kY,hR1.grows hg,I8,fun b hb => ?_⟩,?_,fun b hb=>(hg.same b (Wo (akh b hb) hz)).trans (YW b hb)⟩
  ·have old:b∈S++D→∃p q,E.ok (Fw.mk j us) kY B p q b:=fun hb=>by
    obtain ⟨p,q,h⟩:=hok1 b hb
    exact ⟨p,q,(hg.lets.ok p q b h).1⟩
   rcases X1.1 hb with hb | hb
   ·exact old (W3 _ hb)
   ·rcases hDD b hb with hb | hb
    ·exact old (V2 _ hb)
    ·refine ⟨false,false,.inr (.inr (.inl (by omega))),hb.2,fun g ho had => ?_⟩
     have:=(hR1.wr g b ho had).2
     omega
  ·obtain ⟨Ds,d1,d2,d3⟩:=UK
   exact ⟨Ds,d1,d2,fun D hD=>⟨(d3 D hD).1,(hg.same D (Wc.1 (d3 D hD).2).1).trans (d3 D hD).2⟩⟩
 ·rintro k D A b o o' hb hbD ⟨hz,us,hI,⟨kY,hR1,I8,hok1⟩,UK,YW⟩ ho hqo
  have hzz:(A.putObj b o').heap.size=A.heap.size:=World.putObj_size
  refine ⟨by rw [hzz];exact hz,us,hI,⟨kY,hR1.turn ho hqo (by omega) o',I8,fun b' hb' => ?_⟩,?_,fun b' hb'=>(World.putObj_heap_other (by have:=akh b' hb';omega)).trans (YW b' hb')⟩
  ·obtain ⟨p,q,h⟩:=hok1 b' hb'
   exact ⟨p,q,by rw [←vU hzz];exact h⟩
  ·obtain ⟨Ds,d1,d2,d3⟩:=UK
   obtain ⟨Ds0,e1,e2,e3⟩:=hmk
   have:Ds=Ds0:=by
    have:=d1.symm.trans e1
    have hinj :∀(l l':List Nat),l.map mark=l'.map mark→l=l':=by
     intro l
     induction l with
     |nil=>intro l' h;cases l' with | nil=>rfl | cons=>simp at h
     |cons D l ih=>intro l' h;cases l' with | nil=>simp at h | cons D' l'=>simp [mark] at h;rw [h.1,ih l' (by simpa [mark] using h.2)]
    exact hinj _ _ this
   subst this
   exact ⟨Ds,d1,d2,fun D hD=>⟨(d3 D hD).1,(World.putObj_heap_other (by have:=(Wc.1 (e3 D hD).2).1;omega)).trans (d3 D hD).2⟩⟩
 ·rintro k row D A hrw ⟨hz,us,hI,⟨kY,hR1,I8,hok1⟩,UK,YW⟩ l
  obtain ⟨hlen,hlit⟩:=hrow row (Xs hrw)
  obtain ⟨sg,st1,c,bZ,d,r1,r2,r3,r4,r5,r6,r7,r8,r9⟩:=hr k row us hrw hI
  obtain ⟨r2,rb⟩:=Bool.and_eq_true_iff.1 r2
  obtain ⟨u1,u2,u3⟩:=WL (t:=a.tmps) ps.toList row hlit (fun p hp=>by rw [hsz];exact hpN p hp) hR1
  obtain ⟨v1,v2,v3,v4,v5,v6⟩:=YV (Pg:=Pg) x (a:={ tmps:=kG ps.toList row a.tmps,defers:=[] }) r4 (by rw [CP];exact hsz) u1
  have etm:(ps.zip (row.map P.lv).toArray).foldl (fun t (p,v)=>t.setIfInBounds p v) a.tmps=kG ps.toList row a.tmps:=by
   rw [←I9 ps.toList row a.tmps hlen,←Array.foldl_toList,Array.toList_zip]
  refine ⟨tY x { tmps:=kG ps.toList row a.tmps,defers:=[] },fun K W hKW => ?_,?_⟩
  ·rw [etm];exact v6 _ _ K W hKW
  generalize hA1:tY x { tmps:=kG ps.toList row a.tmps,defers:=[] }=a1 at *
  obtain ⟨E',xG,q1,q2,q3,q4,q5⟩:=LW (sp:=⟨sg,fun _ _=>True⟩) r1 hR1 (args:=(List.range N).map st1.s) (vals:=a1.tmps.toList) (fun t=>by
   rw [List.getD_eq_getElem?_getD,XS]
   by_cases ht:t<N
   ·rw [K6 ht]
    have:=v1.slots t
    rw [List.getD_eq_getElem?_getD,Wm,←W2]
    exact dG.congr (v4.trans u2).symm this
   ·rw [Wg (by simpa using ht)];exact .no _) r5 r6
  have hval:(fun k=>a1.tmps.toList.getD k undef)=fun t=>a1.tmps.getD t undef:=by
   funext t;rw [List.getD_eq_getElem?_getD,Wm,←W2]
  rw [hval] at q3
  have hgood:Good E' N sg.bg xG (Fw.mk sg.pin c.ins) a1 A:=⟨⟨xG,q3,fun g hg=>⟨(X2.1 r2) g hg,.inr ⟨rfl,rfl⟩⟩⟩,v2,Marks.nil v3⟩
  refine OA hT htt hm.mixed (some l) 0 y (Q:=fun e _ B=>e=.normal∧(w.heap.size≤B.heap.size∧∃us,I (k+1) us∧Head E bg pO a S D w (Fw.mk j us) B)∧(∀b∈D,B.heap[b]?=A.heap[b]?)∧∀b o,A.heap[b]?=some o→quiet o=true→w.heap.size≤b→B.heap[b]?=some o) hcm r7 hgood ⟨fun st2 a2 B hk hg2 => ?_,fun id st2 a2 B hk=>hk.elim,fun st2 a2 B hk=>hk.elim⟩
  obtain ⟨⟨gh3,UL,anv⟩,_,_⟩:=hg2
  have hend:Rel E' (I5 st2) gh3 (fun k=>([]:List Value).getD k undef) B:=
   ⟨fun k=>.no _,fun g=>lM.congr (st:=st2) (st':=I5 st2) rfl (UL.bf g),UL.inj,UL.wr,UL.wi,UL.ns,UL.wb,UL.frame,UL.size,UL.os,UL.tape,UL.output,fun k g hg=>by simp [I5,Fw.S.names] at hg,UL.uo,UL.ul⟩
  obtain ⟨gh4,hR4,anw⟩:=Q7 (sp:=sg) hend (fun g hg=>anv g hg) hk
  obtain ⟨gh5,s1,s2,_,_⟩:=q5 d bZ _ rfl r8 B [] gh4 r3.symm hR4 fun g hg=>⟨anw g hg,zf.LU rb g hg⟩
  have hfr :∀b o,A.heap[b]?=some o→quiet o=true→B.heap[b]?=some o:=fun b o ho hqo=>by
   have hlt:=(Wc.1 ho).1
   rw [UL.frame b (by rw [q1];exact hlt) (fun hw=>by obtain ⟨c,e,f,hc⟩:=q4 b hw;rw [ho] at hc;exact jh hqo _ _ _ (Wf hc)),q2]
   exact ho
  have hBz:A.heap.size≤B.heap.size:=by rw [←q1];exact UL.size
  have hpre:Head E bg pO a S D w ((Fw.mk j us).aK (iC sg d (Fw.mk j us).o c bZ).aK (iC sg d (Fw.mk j us).o c bZ).new) B:=by
   refine ⟨⟨gh5,s1,fun g hg => ?_,fun b hb => ?_⟩,?_,fun b hb => ?_⟩
   ·obtain ⟨p1,p2⟩:=I8 g hg
    refine ⟨by simp [St.aK,p1],?_⟩
    rcases s2.names g p1 with q | ⟨q,qk⟩
    ·exact .inl q
    ·rcases p2 with p2 | p2
     ·rw [p2] at qk;exact .inl (O.DX qk)
     ·exact .inr ⟨q.1.trans p2.1,q.2.trans p2.2⟩
   ·obtain ⟨p,q,h⟩:=hok1 b hb
    exact ⟨p,q,(s2.ok p q b h).1⟩
   ·obtain ⟨Ds,d1,d2,d3⟩:=UK
    exact ⟨Ds,d1,d2,fun D hD=>⟨(d3 D hD).1,hfr D _ (d3 D hD).2 rfl⟩⟩
   ·obtain ⟨p,q,h⟩:=hok1 b (W3 _ hb)
    exact ((s2.ok p q b h).2).trans (YW b hb)
  obtain ⟨us',hI',hH'⟩:=hpre.back r9
  exact ⟨rfl,⟨Vn hz hBz,us',hI',hH'⟩,fun b hb=>(let ⟨p,q,h⟩:=hok1 b (V2 _ hb);(s2.ok p q b h).2),fun b o ho hqo _=>hfr b o ho hqo⟩
 ·rintro D B D' hD ⟨hz,us,hI,⟨kY,hR1,I8,hok1⟩,UK,YW⟩ hDB
  have hw:=hd us hI
  refine hK.wk.n _ _ _ hw ⟨⟨kY,hR1,I8⟩,hsz,?_⟩
  obtain ⟨Ds,d1,d2,d3⟩:=UK
  obtain ⟨Ds0,e1,e2,e3⟩:=hmk
  have hmem :∀D'∈Ds,D'<w.heap.size:=by
   intro D' hD'
   have:mark D'∈a.defers:=by rw [d1];exact QQ.2 ⟨D',hD',rfl⟩
   rw [e1] at this
   obtain ⟨D2,h1,h2⟩:=QQ.1 this
   simp [mark] at h2
   subst h2
   exact (Wc.1 (e3 D2 h1).2).1
  refine ⟨D::Ds,by simp [d1,mark],VM.2 ⟨fun hm'=>by have:=hmem D hm';omega,d2⟩,fun D' hD' => ?_⟩
  rcases QR.1 hD' with rfl | hD'
  ·exact ⟨by omega,hDB⟩
  ·exact d3 D' hD'
theorem UM (hT :∀f sp,T f=some sp→Sound Pg (f % 1000000) sp) (htt:ig Pg tt) (hm:Fit Pg) :∀(c:Code) {st:St} {K:vW} {Q:Exit→Act→World→Prop} {a:Act} {w:World},
  exec T tt N bg c st K→Good E N bg pO st a w→Knt E N bg pO K Q→c.wp Pg Q a w:=by
 intro c
 induction c with
 |skip=>intro st K Q a w h hg hK;exact wp_skip (hK.n _ _ _ h hg)
 |region id ops draw=>intro st K Q a w h hg hK;exact Oz hT htt hm.mixed h hg fun st' a' w' q hg'=>hK.wk.n _ _ _ q hg'
 |seq x y GZ ihy=>
  intro st K Q a w h hg hK
  refine wp_seq (GZ h hg ⟨fun st' a' w' q hg'=>ihy q hg' hK,fun id st' a' w' q hg'=>hK.x _ _ _ _ q hg',fun st' a' w' q hg'=>hK.r _ _ _ q hg'⟩)
 |cond c x y GZ ihy=>
  intro st K Q a w h hg hK
  simp only [exec] at h
  split at h
  ·rename_i a1 i1 b hc
   obtain ⟨gh,hR,_⟩:=hg.ex
   have hv:=nJ hR c
   rw [hc] at hv
   have hv:=hv.fC.lT
   refine wp_cond_split hv (fun hb => ?_) (fun hb => ?_)
   ·subst hb;exact GZ h hg hK.wk
   ·subst hb;exact ihy h hg hK.wk
  ·cases h
 |block id c ih=>
  intro st K Q a w h hg hK
  refine wp_block (ih h hg ⟨fun st' a' w' q hg'=>hK.wk.n _ _ _ q hg',fun id' st' a' w' q hg' => ?_,fun st' a' w' q hg'=>hK.r _ _ _ q hg'⟩)
  simp only [Exit.inBlock]
  by_cases e:id'=id
  ·subst e
   rw [if_pos rfl]
   have:Nat.beq id' id'=true:=by simp
   simp only [this] at q
   exact hK.wk.n _ _ _ q hg'
  ·rw [if_neg e]
   have:Nat.beq id' id=false:=by cases hb:Nat.beq id' id with | false=>rfl | true=>exact absurd (Q4 hb) e
   simp only [this] at q
   exact hK.x _ _ _ _ q hg'
 |loop c ih=>
  intro st K Q a w h hg hK
  obtain ⟨j,I,μ,h0,round⟩:=(show aaX bg (exec T tt N bg c) st K from h)
  obtain ⟨us,hI,hg0⟩:=h0.good hg
  refine wp_loop_rounds (μ us+1) ?_
  have key :∀n us,I us→μ us<n→∀a w,Good E N bg pO (Fw.mk j us) a w→Code.rounds Pg c Q n a w:=by
   intro n
   induction n with
   |zero=>intro us _ h;omega
   |succ n ihn=>
    intro us hI hlt a w hg
    refine ih (round us hI) hg ⟨fun st' a' w' q hg' => ?_,fun id st' a' w' q hg'=>hK.x _ _ _ _ q hg',fun st' a' w' q hg'=>hK.r _ _ _ q hg'⟩
    obtain ⟨vs,⟨h1,h2⟩,h3⟩:=Back.good q hg'
    exact ihn vs h1 (by omega) _ _ h3
  exact key _ us hI (by omega) a w hg0
 |exit id=>intro st K Q a w h hg hK;exact wp_exit (hK.x _ _ _ _ h hg)
 |ret=>intro st K Q a w h hg hK;exact wp_ret (hK.r _ _ _ h hg)
 |label l=>intro st K Q a w h hg hK;exact wp_label (hK.n _ _ _ h hg)
 |scope c ih=>intro st K Q a w h hg hK;exact wp_scope_straight (ih h hg ⟨fun st' a' w' q hg'=>hK.n _ _ _ q hg',fun id st' a' w' q hg'=>hK.x _ _ _ _ q hg',fun st' a' w' q hg'=>hK.r _ _ _ q hg'⟩)
 |rangeFunc g ps x y GZ ihy=>intro st K Q a w h hg hK;exact Q8 hT htt hm h hg hK
 |_=>intro st K Q a w h;exact absurd h (by simp [exec])
def YX (tt:TT) (st:St):ResultVar→Option S
 |.tmp t=>some (st.s t)
 |.cell a t=>match tt t,st.s a with
  |some i,.v (.one (.box g off))=>match st.o g with
   |.box ws=>if off+i.size≤ws.length∧0<i.size then some (V.fQ i.agg ((ws.drop off).take i.size)) else none
   |_=>none
  |_,_=>none
def FC (tt:TT) (st:St):List ResultVar→Option (List S)
 | []=>some []
 |r::rs=>match YX tt st r,FC tt st rs with
  |some x,some xs=>some (x::xs)
  |_,_=>none
def Q9 (xs:List S) (st:St):St:={ s:=fun k=>xs.getD k .no,o:=st.o,used:=st.used }
def Fin (tt:TT) (sp:zf) (ts:List ResultVar) (bZ:List P) (st:St):Prop:=match FC tt st ts with
 |some xs=>Back sp.bg sp.aS (Q9 xs st) fun vs=>vs=bZ
 |none=>False
def ahW (tt:TT) (sp:zf) (ts:List ResultVar) (bZ:List P):vW:={ n:=Fin tt sp ts bZ,x:=fun _ _=>False,r:=Fin tt sp ts bZ }
def D8 (tmps:Array Value) (r:ResultVar):Sem Value:=match r with
 |.tmp t=>pure (tmps.getD t undef)
 |.cell a t=>do loadVar t (←asAddr (tmps.getD a undef))
theorem UN {fn:Func} {ts:List ResultVar} (hr:fn.results=ts.toArray) (tmps:Array Value):results fn tmps=(do
  let vs ←List.toArray <$> ts.mapM (D8 tmps)
  pure (if h:vs.size=1 then vs[0] else .tuple vs)):=by
 unfold results
 rw [hr,List.mapM_toArray]
 have :∀F:ResultVar→Sem Value,(∀r,F r=D8 tmps r)→ts.mapM F=ts.mapM (D8 tmps):=fun F hF=>by rw [funext hF]
 rw [this _ fun r=>by cases r<;>rfl]
theorem UO (htt:ig Pg tt) {st:St} {gh:Nat→Gh} {a:Act} {w:World} (h:Rel E st gh (fun t=>a.tmps.getD t undef) w) {r:ResultVar} {x:S} (hx:YX tt st r=some x) :
  ∃v,(D8 a.tmps r).run Pg w=.ok v w∧dG E st gh w x v∧∀g∈x.names,st.used g=true:=by
 cases r with
 |tmp t=>
  simp only [YX,Q0] at hx
  subst hx
  exact ⟨_,rfl,h.slots t,h.us t⟩
 |cell ad t=>
  simp only [YX] at hx
  split at hx
  ·rename_i i g off ht hs
   have rx:=h.slots ad;rw [hs] at rx
   split at hx
   ·rename_i ws hog
    split at hx
    ·rename_i hlt
     simp only [Q0] at hx;subst hx
     have hO:=h.bf g;rw [hog] at hO
     obtain ⟨ad',had,cs,hl,hone,hcell,hrep⟩:=zJ.cells hO
     obtain ⟨arE,NR,hv⟩:=(by cases rx.dJ with | box _ _ _ _ hb=>exact hb ws hog :∃ad',(gh g).ad=some ad'∧a.tmps.getD ad undef=.pointer (some ⟨ad'.block,ad'.off+off,none⟩))
     rw [had] at NR;cases NR
     have hl':((cs.drop off).take i.size).length=i.size:=by simp;omega
     obtain ⟨v,hrun,hval⟩:=jS (Pg:=Pg) (w:=w) (htt _ _ ht) ad'.block (ad'.off+off) ((cs.drop off).take i.size) hl' (fun j u hu=>by
      have hj:j<i.size:=by have:=(Q3.1 hu).1;omega
      rw [Z6,if_pos hj,W5] at hu
      rw [Up];exact hcell _ _ hu) (fun _=>hlt.2)
     refine ⟨v,by simp only [D8];rw [hv];simpa [asAddr] using hrun,kM (cs:=(cs.drop off).take i.size) (by simp;omega) (fun c hc=>hone c (WN (Wb hc)))
      (fun j y u hy hu => ?_) v hval,fun g' hg' => ?_⟩
     ·have hj:j<i.size:=by have:=(Q3.1 hu).1;omega
      rw [Z6,if_pos hj,W5] at hy hu
      exact hrep _ _ _ hy hu
     ·obtain ⟨x,hx,hg'⟩:=jq hg'
      exact h.uo g g' (by rw [hog];simp only [O.names,Ys];exact ⟨x,WN (Wb hx),hg'⟩)
    ·cases hx
   ·cases hx
  ·cases hx
theorem FD (htt:ig Pg tt) {st:St} {gh:Nat→Gh} {a:Act} {w:World} (h:Rel E st gh (fun t=>a.tmps.getD t undef) w) :∀{rs:List ResultVar} {xs:List S},FC tt st rs=some xs→
  ∃vs:List Value,(rs.mapM (D8 a.tmps)).run Pg w=.ok vs w∧vs.length=rs.length∧
   ∀k,dG E st gh w (xs.getD k .no) (vs.getD k undef)∧∀g∈(xs.getD k .no).names,st.used g=true
 | [],xs,hx=>by
  simp only [FC,Q0] at hx
  subst hx
  exact ⟨[],rfl,rfl,fun k=>⟨.no _,by simp [S.names]⟩⟩
 |r::rs,xs,hx=>by
  simp only [FC] at hx
  split at hx
  ·rename_i x xs h1 h2
   simp only [Q0] at hx
   subst hx
   obtain ⟨v,q1,q2,q3⟩:=UO htt h h1
   obtain ⟨vs,p1,p2,p3⟩:=FD htt h h2
   refine ⟨v::vs,?_,by simp [p2],fun k => ?_⟩
   ·rw [qv,Sem.run_bind,q1]
    show Sem.run Pg _ w=_
    rw [Sem.run_bind,p1];rfl
   ·cases k with
    |zero=>exact ⟨q2,q3⟩
    |succ k=>simpa using p3 k
  ·cases hx
theorem KY (htt:ig Pg tt) {st:St} {gh:Nat→Gh} {a:Act} {w:World} (h:Rel E st gh (fun t=>a.tmps.getD t undef) w) {fn:Func} {ts:List ResultVar} (hr:fn.results=ts.toArray) {xs:List S} (hx:FC tt st ts=some xs) :
  ∃vs:List Value,(results fn a.tmps).run Pg w=.ok (YD vs) w∧vs.length=ts.length∧∀k,dG E st gh w (xs.getD k .no) (vs.getD k undef)∧∀g∈(xs.getD k .no).names,st.used g=true:=by
 obtain ⟨vs,q1,q2,q3⟩:=FD htt h hx
 refine ⟨vs,?_,q2,q3⟩
 rw [UN hr,Sem.run_bind,Sem.run_map,q1]
 match vs with
 | []=>rfl
 | [v]=>rfl
 |v::u::vs=>simp [YD]
theorem aa0 {f:FuncId} {fn:Func} {c:Code} {sp:Spec} (ts:List ResultVar) (hf:Pg.funcs[f]?=some fn) (hb:fn.body=some c) (hname:(fn.name == "runtime.NumGoroutine")=false) (hres:fn.results=ts.toArray)
  (hok:sp.sig.ok=true) (Fe:(sp.sig.bg.all fun g=>sp.sig.pin.nms.contains g)=true) (hlk :∀ins bZ,sp.R ins bZ→∀g∈sp.sig.bg,((Fw.mk sp.sig.pin ins).o g).like ((Fw.mk sp.sig.aS bZ).o g)) (hn:sp.sig.bH≤fn.ntmps) (hnr:ts.length=sp.sig.dA)
  (hT :∀f sp,T f=some sp→Sound Pg (f % 1000000) sp) (htt:ig Pg tt) (hm:Fit Pg)
  (h :∀ins bZ,sp.R ins bZ→exec T tt fn.ntmps sp.sig.bg c (Fw.mk sp.sig.pin ins) (ahW tt sp.sig ts bZ)):Sound Pg f sp:=by
 refine ⟨hok,fun args w => ?_,fun E w vals gh ins bZ hR hB hw0 ahQ hlen => ?_⟩
 ·have hname':¬ fn.name = "runtime.NumGoroutine" := by simpa using hname
  simp [callFunc,hf,hname',hb]
 ·have hsz:vals.toArray.size≤fn.ntmps:=by simp;omega
  refine callsIn_wide.1 (callsIn_of_wp_marks (n:=0) hf hb trivial (wpIn_wide.2 (UM (E:=E) (N:=fn.ntmps) (bg:=sp.sig.bg) (pO:=gh) hT htt hm c (h ins bZ hR) ⟨⟨gh,?_,fun g hg=>⟨?_,.inr ⟨rfl,rfl⟩⟩⟩,by simp;omega,Marks.nil rfl⟩ ?_)) rfl)
  ·have e:(fun t=>(vals.toArray++Array.replicate (fn.ntmps-vals.toArray.size) undef).getD t undef)=fun k=>vals.getD k undef:=by
    funext t
    rw [W2,List.getD_eq_getElem?_getD,Array.getElem?_append]
    split
    ·simp
    ·rename_i ht
     have ht:vals.length≤t:=by simpa using ht
     rw [Wg ht,qt]
     split<;>rfl
   rw [e];exact ahQ
  ·exact (X2.1 Fe) g hg
  ·have fin :∀st a w',Fin tt sp.sig ts bZ st→Good E fn.ntmps sp.sig.bg gh st a w'→LeavesInM Fence.wide 0 Pg fn a.tmps (fun e w' =>∃(rs:List Value) (bP:Nat→Gh),rs.length=sp.sig.dA∧e=.returned (YD rs)∧Rel E (Fw.mk sp.sig.aS bZ) bP (fun k=>rs.getD k undef) w'∧∀g∈sp.sig.bg,((bP g).ad=(gh g).ad∧(bP g).cap=(gh g).cap)∧((Fw.mk sp.sig.pin ins).o g).like ((Fw.mk sp.sig.aS bZ).o g)) a.defers .returning w':=by
    intro st a w' hBk hg
    unfold Fin at hBk
    split at hBk
    rotate_left
    ·cases hBk
    rename_i xs hxs
    obtain ⟨⟨kY,hR1,I8⟩,_,Ds,hd1,hd2,hd3⟩:=hg
    rw [hd1]
    clear hd1
    induction Ds generalizing w' with
    |nil=>
     obtain ⟨rs,hrun,hrl,hrs⟩:=KY htt hR1 hres hxs
     refine ⟨_,hrun,rs,?_⟩
     have hfin:Rel E (Q9 xs st) kY (fun k=>rs.getD k undef) w':=by
      refine ⟨fun k => ?_,fun g=>lM.congr (st:=st) (st':=Q9 xs st) rfl (hR1.bf g),hR1.inj,hR1.wr,hR1.wi,hR1.ns,hR1.wb,hR1.frame,hR1.size,hR1.os,hR1.tape,hR1.output,fun k g hg=>(hrs k).2 g hg,hR1.uo,hR1.ul⟩
      exact dG.congr (st:=st) (st':=Q9 xs st) rfl (hrs k).1
     obtain ⟨bP,r1,r2⟩:=Q7 hfin I8 hBk
     exact ⟨bP,by omega,rfl,r1,fun g hg=>⟨r2 g hg,hlk ins bZ hR g hg⟩⟩
    |cons D Ds ih=>
     obtain ⟨h1,h2⟩:=hd3 D (by simp)
     have hnd:=VM.1 hd2
     refine ⟨by simp,.inl ⟨D,_,rfl,run_takeDeferred h2,ih _ (hR1.turn h2 rfl h1 _) hnd.2 fun D' hD' => ?_⟩⟩
     obtain ⟨q1,q2⟩:=hd3 D' (by simp [hD'])
     exact ⟨q1,(World.putObj_heap_other (fun e:D'=D=>hnd.1 (by rw [←e];exact hD'))).trans q2⟩
   exact ⟨fun st a w' hk hg=>fin st a w' hk hg,fun id st a w' hk=>hk.elim,fun st a w' hk hg=>fin st a w' hk hg⟩
end
end Go.Fw

namespace Go.Fg
open Go.Fw
inductive Ty where
 |int (k:IntKind)
 |bool
 |str
 |sl (e:Ty)
 |prod (a b:Ty)
 |st (n:Nat)
 |opq
 |sq (e:Ty)
def aa1:(a b:IntKind)→Option (PLift (a=b))
 |.i8,.i8=>some ⟨rfl⟩
 |.i16,.i16=>some ⟨rfl⟩
 |.i32,.i32=>some ⟨rfl⟩
 |.i64,.i64=>some ⟨rfl⟩
 |.u8,.u8=>some ⟨rfl⟩
 |.u16,.u16=>some ⟨rfl⟩
 |.u32,.u32=>some ⟨rfl⟩
 |.u64,.u64=>some ⟨rfl⟩
 |_,_=>none
def aa2 (a b:Nat):Option (PLift (a=b)):=match h:Nat.beq a b with
 |true=>some ⟨Q4 h⟩
 |false=>none
def Ty.eq:(a b:Ty)→Option (PLift (a=b))
 |.int k,.int k'=>match aa1 k k' with
  |some ⟨h⟩=>some ⟨h▸rfl⟩
  |none=>none
 |.bool,.bool=>some ⟨rfl⟩
 |.str,.str=>some ⟨rfl⟩
 |.opq,.opq=>some ⟨rfl⟩
 |.sl a,.sl b=>match Ty.eq a b with
  |some ⟨h⟩=>some ⟨h▸rfl⟩
  |none=>none
 |.sq a,.sq b=>match Ty.eq a b with
  |some ⟨h⟩=>some ⟨h▸rfl⟩
  |none=>none
 |.prod a b,.prod a' b'=>match Ty.eq a a',Ty.eq b b' with
  |some ⟨h⟩,some ⟨h'⟩=>some ⟨h▸h'▸rfl⟩
  |_,_=>none
 |.st n,.st m=>match aa2 n m with
  |some ⟨h⟩=>some ⟨h▸rfl⟩
  |none=>none
 |_,_=>none
def Ty.word:Ty→Bool
 |.prod _ _=>false
 |.st _=>false
 |_=>true
def Ty.flat:Ty→Bool
 |.int _=>true
 |.bool=>true
 |.str=>true
 |.opq=>true
 |_=>false
def D (C:Nat→Type):Ty→Type
 |.int _=>Int
 |.bool=>Bool
 |.str=>List UInt8
 |.sl e=>List (D C e)
 |.prod a b=>D C a×D C b
 |.st n=>C n
 |.opq=>Value
 |.sq e=>List (D C e)
structure TP (C:Nat→Type) where
 t:Ty
 x:D C t
def TP.get {C:Nat→Type} (t:Ty) (d:D C t) (ws:List (TP C)) (n:Nat):D C t:=match ws[n]? with
 |some w=>match Ty.eq w.t t with
  |some ⟨h⟩=>h▸w.x
  |none=>d
 |none=>d
theorem aT {C:Nat→Type} {ws:List (TP C)} {t:Ty} {ts:List Ty} (h:ws.map (·.t)=t::ts) :∃x ws',ws=⟨t,x⟩::ws'∧ws'.map (·.t)=ts:=by
 cases ws with
 |nil=>cases h
 |cons w ws=>
  obtain ⟨t',x⟩:=w
  simp only [Qf,List.cons.injEq] at h
  obtain ⟨rfl,h⟩:=h
  exact ⟨x,ws,rfl,h⟩
theorem dF {C:Nat→Type} {ws:List (TP C)} (h:ws.map (·.t)=[]):ws=[]:=by simpa using h
def I_ {C:Nat→Type} (size:Ty→Nat) (jJ:(t:Ty)→D C t→List P):(t:Ty)→D C t→P
 |.int k,x=>.int k x
 |.bool,b=>.bool b
 |.str,s=>.str ⟨s.toArray⟩
 |.sl e,l=>P.fF (size e) (List.map (jJ e) l)
 |.opq,v=>.opq v
 |.sq e,l=>.seq (List.map (jJ e) l)
 |.prod _ _,_=>default
 |.st _,_=>default
def oZ {C:Nat→Type} (F:Nat→List Ty) (er:(n:Nat)→C n→List P) (size:Ty→Nat):(t:Ty)→D C t→List P
 |.int k,x=>[.int k x]
 |.bool,b=>[.bool b]
 |.str,s=>[.str ⟨s.toArray⟩]
 |.sl e,l=>[P.fF (size e) (List.map (oZ F er size e) l)]
 |.opq,v=>[.opq v]
 |.sq e,l=>[.seq (List.map (oZ F er size e) l)]
 |.prod a b,x=>oZ F er size a x.1++oZ F er size b x.2
 |.st n,x=>er n x
def ji (F:Nat→List Ty):Ty→Nat
 |.prod a b=>ji F a+ji F b
 |.st n=>(F n).length
 |_=>1
class RE where
 C:Nat→Type
 F:Nat→List Ty
 dflt:(n:Nat)→C n
 un:(n:Nat)→C n→List (TP C)
 ro:(n:Nat)→List (TP C)→C n
 er:(n:Nat)→C n→List P
 Fwd :∀n,(F n).all Ty.word=true
 ag2 :∀n x,(un n x).map (·.t)=F n
 ag3 :∀n ws,ws.map (·.t)=F n→un n (ro n ws)=ws
 ag4 :∀n x,er n x=(un n x).map fun w=>I_ (ji F) (oZ F er (ji F)) w.t w.x
 hd:Nat:=999999
 hdF:F hd=[]:=by rfl
 G:Nat→Option ((e:Ty)×List (D C e)):=fun _=>none
 Q:World→List Nat→List (List P)→Value→Prop:=fun _ _ _ _=>False
 ahX :∀{w w':World} {S:List Nat} {l:List (List P)} {v:Value},(∀b∈S,w'.heap[b]?=w.heap[b]?)→Q w S l v→Q w' S l v:=by intro _ _ _ _ _ _ h;exact h
section
variable [RE]
abbrev Dt (t:Ty):Type:=D RE.C t
abbrev Wd:=TP RE.C
def size:Ty→Nat:=ji RE.F
def jJ:(t:Ty)→Dt t→List P:=oZ RE.F RE.er (ji RE.F)
instance:d_:=⟨fun g=>(RE.G g).map fun x=>(size x.1,List.map (jJ x.1) x.2),RE.Q,RE.ahX⟩
theorem ag5 (g:Nat):d_.gt g=(RE.G g).map fun x=>(size x.1,List.map (jJ x.1) x.2):=rfl
def cZ (w:Wd):P:=I_ (ji RE.F) (oZ RE.F RE.er (ji RE.F)) w.t w.x
def dflt:(t:Ty)→Dt t
 |.int _=>(0:Int)
 |.bool=>false
 |.str=>([]:List UInt8)
 |.sl e=>([]:List (Dt e))
 |.prod a b=>(dflt a,dflt b)
 |.st n=>RE.dflt n
 |.opq=>Value.nilFunc
 |.sq e=>([]:List (Dt e))
def TP.BJ (t:Ty) (w:Wd):Option (Dt t):=match Ty.eq w.t t with
 |some ⟨h⟩=>some (h▸w.x)
 |none=>none
def TP.as (t:Ty) (w:Wd):Dt t:=match Ty.eq w.t t with
 |some ⟨h⟩=>h▸w.x
 |none=>dflt t
def fD:(t:Ty)→Dt t→List Wd
 |.prod a b,x=>fD a x.1++fD b x.2
 |.st n,x=>RE.un n x
 |.int k,x=>[⟨.int k,x⟩]
 |.bool,x=>[⟨.bool,x⟩]
 |.str,x=>[⟨.str,x⟩]
 |.sl e,x=>[⟨.sl e,x⟩]
 |.opq,x=>[⟨.opq,x⟩]
 |.sq e,x=>[⟨.sq e,x⟩]
def iP:Ty→List Ty
 |.prod a b=>iP a++iP b
 |.st n=>RE.F n
 |t=>[t]
def jY:(t:Ty)→List Wd→Dt t
 |.prod a b,ws=>(jY a (ws.take (size a)),jY b (ws.drop (size a)))
 |.st n,ws=>RE.ro n ws
 |.int k,ws=>match ws with
  |w::_=>w.as (.int k)
  | []=>dflt (.int k)
 |.bool,ws=>match ws with
  |w::_=>w.as .bool
  | []=>dflt .bool
 |.str,ws=>match ws with
  |w::_=>w.as .str
  | []=>dflt .str
 |.sl e,ws=>match ws with
  |w::_=>w.as (.sl e)
  | []=>dflt (.sl e)
 |.opq,ws=>match ws with
  |w::_=>w.as .opq
  | []=>dflt .opq
 |.sq e,ws=>match ws with
  |w::_=>w.as (.sq e)
  | []=>dflt (.sq e)
theorem Ty.eq_self :∀(t:Ty),∃h,Ty.eq t t=some ⟨h⟩:=by
 intro t
 induction t with
 |int k=>cases k<;>exact ⟨rfl,rfl⟩
 |bool=>exact ⟨rfl,rfl⟩
 |str=>exact ⟨rfl,rfl⟩
 |opq=>exact ⟨rfl,rfl⟩
 |sl e ih=>obtain ⟨h,ih⟩:=ih;exact ⟨rfl,by simp [Ty.eq,ih]⟩
 |sq e ih=>obtain ⟨h,ih⟩:=ih;exact ⟨rfl,by simp [Ty.eq,ih]⟩
 |prod a b iha ihb=>obtain ⟨h,iha⟩:=iha;obtain ⟨h',ihb⟩:=ihb;exact ⟨rfl,by simp [Ty.eq,iha,ihb]⟩
 |st n=>
  refine ⟨rfl,?_⟩
  have:aa2 n n=some ⟨rfl⟩:=by
   unfold aa2
   split
   ·rfl
   ·rename_i h;simp at h
  simp [Ty.eq,this]
theorem sD (t:Ty) (x:Dt t):TP.as t ⟨t,x⟩=x:=by
 obtain ⟨h,e⟩:=Ty.eq_self t
 simp [TP.as,e]
theorem wS {t:Ty} {w:Wd} (h:w.t=t):(⟨t,w.as t⟩:Wd)=w:=by
 obtain ⟨t',x⟩:=w
 simp only at h;subst h
 rw [sD]
theorem gU {t:Ty} {w:Wd} {x:Dt t} (h:w.BJ t=some x):w=⟨t,x⟩:=by
 obtain ⟨t',y⟩:=w
 unfold TP.BJ at h
 split at h
 ·rename_i e he
  simp only at e
  subst e
  simp only [Q0] at h
  subst h;rfl
 ·cases h
theorem ahY {t:Ty} {w:Wd} {x:Dt t} (h:w.BJ t=some x):w.t=t:=by rw [gU h]
theorem jk :∀(t:Ty),(iP t).length=size t
 |.prod a b=>by
  have h1:=jk a
  have h2:=jk b
  simp only [size] at h1 h2
  simp [iP,size,ji,h1,h2]
 |.st n=>by simp [iP,size,ji]
 |.int k=>rfl
 |.bool=>rfl
 |.str=>rfl
 |.sl e=>rfl
 |.opq=>rfl
 |.sq e=>rfl
theorem qN :∀(t:Ty) (x:Dt t),(fD t x).map (·.t)=iP t
 |.prod a b,x=>by simp [fD,iP,qN a,qN b]
 |.st n,x=>by simp [fD,iP];exact RE.ag2 n x
 |.int k,x=>rfl
 |.bool,x=>rfl
 |.str,x=>rfl
 |.sl e,x=>rfl
 |.opq,x=>rfl
 |.sq e,x=>rfl
theorem qw (t:Ty) (x:Dt t):(fD t x).length=size t:=by
 rw [←jk,←qN t x,Z3]
theorem gu :∀(t:Ty) (x:Dt t),jJ t x=(fD t x).map cZ
 |.prod a b,x=>by
  show jJ a x.1++jJ b x.2=_
  rw [gu a x.1,gu b x.2];simp [fD]
 |.st n,x=>RE.ag4 n x
 |.int k,x=>rfl
 |.bool,x=>rfl
 |.str,x=>rfl
 |.sl e,x=>rfl
 |.opq,x=>rfl
 |.sq e,x=>rfl
theorem Ja (t:Ty) (x:Dt t):(jJ t x).length=size t:=by rw [gu,Z3,qw]
theorem D9 {ws:List Wd} {t:Ty} (h:ws.map (·.t)=[t]) :∃w,ws=[w]∧w.t=t:=by
 match ws with
 | []=>cases h
 | [w]=>exact ⟨w,rfl,by simpa using h⟩
 |w::u::ws=>simp at h
theorem Jb :∀(t:Ty) (ws:List Wd),ws.map (·.t)=iP t→fD t (jY t ws)=ws
 |.prod a b,ws,h=>by
  have h1:(ws.take (size a)).map (·.t)=iP a:=by rw [WF,h];simp [iP,←jk]
  have h2:(ws.drop (size a)).map (·.t)=iP b:=by rw [Wt,h];simp [iP,←jk]
  show fD a (jY a (ws.take (size a)))++fD b (jY b (ws.drop (size a)))=ws
  rw [Jb a _ h1,Jb b _ h2,UI]
 |.st n,ws,h=>RE.ag3 n ws h
 |.int k,ws,h=>by
  obtain ⟨w,rfl,hw⟩:=D9 (t:=(.int k)) h
  show [(⟨.int k,w.as (.int k)⟩:Wd)]=[w]
  rw [wS hw]
 |.bool,ws,h=>by
  obtain ⟨w,rfl,hw⟩:=D9 (t:=.bool) h
  show [(⟨.bool,w.as .bool⟩:Wd)]=[w]
  rw [wS hw]
 |.str,ws,h=>by
  obtain ⟨w,rfl,hw⟩:=D9 (t:=.str) h
  show [(⟨.str,w.as .str⟩:Wd)]=[w]
  rw [wS hw]
 |.sl e,ws,h=>by
  obtain ⟨w,rfl,hw⟩:=D9 (t:=(.sl e)) h
  show [(⟨.sl e,w.as (.sl e)⟩:Wd)]=[w]
  rw [wS hw]
 |.opq,ws,h=>by
  obtain ⟨w,rfl,hw⟩:=D9 (t:=.opq) h
  show [(⟨.opq,w.as .opq⟩:Wd)]=[w]
  rw [wS hw]
 |.sq e,ws,h=>by
  obtain ⟨w,rfl,hw⟩:=D9 (t:=(.sq e)) h
  show [(⟨.sq e,w.as (.sq e)⟩:Wd)]=[w]
  rw [wS hw]
theorem sF {t:Ty} {ws:List Wd} (h:ws.map (·.t)=iP t):jJ t (jY t ws)=ws.map cZ:=by rw [gu,Jb t ws h]
def aN (e:Ty) (l:List (Dt e)):List (List P):=List.map (jJ e) l
theorem G5 (e:Ty) (l:List (Dt e)):cZ ⟨.sl e,l⟩=P.fF (size e) (aN e l):=rfl
theorem lq (e:Ty) (l:List (Dt e)):(cZ ⟨.sl e,l⟩).list=aN e l:=by rw [G5,P.nX]
theorem YZ {w:Wd} (h:w.t.flat=true):(cZ w).flat=true:=by
 obtain ⟨t,x⟩:=w
 cases t<;>simp [Ty.flat] at h<;>rfl
end
end Go.Fg

namespace Go.Fg
open Go.Fw
section
variable [RE]
inductive TW where
 |p (a i:Bool) (w:Wd)
 |cO
 |own (g:Nat)
 |vw (g:Nat) (lo hi:Int)
 |box (g off:Nat)
 |ep (g:Nat) (n:Int) (off:Nat)
 |sp (a i:Bool) (t:Ty) (x:Dt t) (off:Nat)
 |clo (f:FuncId) (caps:List TW)
 |gl (g:Nat)
 |m_ (g:Nat)
 |no
inductive TV where
 |one (x:TW)
 |agg (xs:List TW)
inductive TS where
 |v (x:TV)
 |lG (xs:List TV)
 |no
inductive TO where
 |none
 |box (ws:List TW)
 |arr (fz a i:Bool) (e:Ty) (l:List (Dt e))
 |it (s:List UInt8) (n:Int)
 |aP (a i:Bool) (e:Ty) (au:List (Nat×Ty)) (l:List (Dt e)) (hole:Option (Nat×Nat×Nat))
mutual
def bW:TW→W
 |.p a i w=>.p a i (cZ w)
 |.cO=>.cO
 |.own g=>.own g
 |.vw g lo hi=>.vw g (.int .i64 lo) (.int .i64 hi)
 |.box g off=>.box g off
 |.ep g n off=>.ep g (.int .i64 n) off
 |.sp a i t x off=>.sp a i (jJ t x) off
 |.clo f caps=>.clo f (nK caps)
 |.gl g=>.gl g
 |.m_ g=>.m_ g
 |.no=>.no
def nK:List TW→List W
 | []=>[]
 |x::xs=>bW x::nK xs
end
theorem zl :∀(l:List TW),nK l=l.map bW
 | []=>rfl
 |x::xs=>by simp [nK,zl xs]
def jD:TV→V
 |.one x=>.one (bW x)
 |.agg xs=>.agg (xs.map bW)
def bn:TS→S
 |.v x=>.v (jD x)
 |.lG xs=>.lG (xs.map jD)
 |.no=>.no
def iI (au:List (Nat×Ty)):List (Nat×Nat):=au.map fun c=>(c.1,size c.2)
def dY:TO→O
 |.none=>.none
 |.box ws=>.box (ws.map bW)
 |.arr fz a i e l=>.arr fz a i (size e) (aN e l)
 |.it s n=>.it (.str ⟨s.toArray⟩) (.int .i64 n)
 |.aP a i e au l hole=>.aP a i (size e) (iI au) (aN e l) hole
def jd {α:Type} (d:α):List (Nat×α)→Nat→α
 | [],_=>d
 |(k,v)::r,t=>bif Nat.beq t k then v else jd d r t
def xk {α:Type} (k:Nat) (v:α):List (Nat×α)→List (Nat×α)
 | []=>[(k,v)]
 |(k',v')::r=>bif Nat.beq k k' then (k,v)::r else (k',v')::xk k v r
def fH (g:Nat):List Nat→Bool
 | []=>false
 |x::xs=>Nat.beq g x||fH g xs
structure jw where
 s:List (Nat×TS)
 o:List (Nat×TO)
 u:List Nat
def jw.gs (st:jw) (t:Nat):TS:=jd .no st.s t
def jw.go (st:jw) (g:Nat):TO:=jd .none st.o g
def aU (st:jw):St:={ s:=fun t=>bn (st.gs t),o:=fun g=>dY (st.go g),used:=fun g=>fH g st.u }
def bY (o:Nat→TO):Nat→O:=fun g=>dY (o g)
def iJ (k:IntKind) (x:Int):Wd:=⟨.int k,x⟩
def iM (x:Bool):Wd:=⟨.bool,x⟩
def Q_ (x:List UInt8):Wd:=⟨.str,x⟩
def uH (e:Ty) (x:List (Dt e)):Wd:=⟨.sl e,x⟩
def anx (x:Value):Wd:=⟨.opq,x⟩
def Y0:Value→TW
 |.int k n=>.p false false (iJ k n)
 |.bool b=>.p false false (iM b)
 |.string s=>.p false false (Q_ s.data.toList)
 |.slice none 0 0=>.cO
 |v=>.p false false (anx v)
def UQ:Value→TS
 |.agg cs=>bif cs.toList.all Value.oneCell' then .v (.agg (cs.toList.map Y0)) else .no
 |.tuple _=>.no
 |.func (.func f) ⟨[]⟩ ⟨[]⟩=>.v (.one (.clo f []))
 |v=>bif v.oneCell' then .v (.one (Y0 v)) else .no
def jw.dH (st:jw):Operand→TS
 |.tmp t=>st.gs t
 |.const v=>UQ v
 |.func f=>.v (.one (.clo f []))
 |.global g=>match RE.G g with
  |some _=>.v (.one (.gl g))
  |none=>.no
structure rJ where
 pre:Bool
 t:Ty
 val:Dt t
 dst:Dt t→TS
 aK:Dt t→List (Nat×TO)
 new:List Nat
def rJ.pure (x:TS):rJ:={ pre:=true,t:=.bool,val:=false,dst:=fun _=>x,aK:=fun _=>[],new:=[] }
def WM (w:Wd):TS:=.v (.one (.p false false w))
def rJ.calc (pre:Bool) (t:Ty) (x:Dt t):rJ:={ pre,t,val:=x,dst:=fun z=>WM ⟨t,z⟩,aK:=fun _=>[],new:=[] }
structure TA where
 a:Bool
 i:Bool
 e:Ty
 l:List (Dt e)
structure TH where
 a:Bool
 i:Bool
 e:Ty
 au:List (Nat×Ty)
 l:List (Dt e)
def tyB (a b:Ty):Bool:=match Ty.eq a b with
 |some _=>true
 |none=>false
def uI (c:Nat):List (Nat×Ty)→Option Ty
 | []=>none
 |(k,t)::r=>bif Nat.beq c k then some t else uI c r
def Y1 (e:Ty) (au:List (Nat×Ty)) (c:Nat) (e':Ty):Bool:=(match uI c au with
 |some t=>tyB t e'
 |none=>false)&&(match (iP e)[c]? with
 |some (.sl t)=>tyB t e'
 |_=>false)
def KZ (e:Ty) (whole:Bool) (x:Dt e) (off:Nat) (ps:List Wd):Dt e:=match whole with
 |true=>jY e ps
 |false=>jY e (aQ (fD e x) off ps)
def putRow (e:Ty) (l:List (Dt e)) (n c:Nat) (w:Wd):List (Dt e):=List.set l n (KZ e (Nat.beq 1 (size e)) (l.getD n (dflt e)) c [w])
def nM (o:Nat→TO) (g:Nat):Option TA:=match o g with
 |.arr _ a i e l=>some ⟨a,i,e,l⟩
 |.aP a i e au l hole=>match hole with
  |none=>some ⟨a,i,e,l⟩
  |some (n,c,d)=>match o d with
   |.arr _ a' i' e' l'=>match Y1 e au c e' with
    |true=>some ⟨a||a',i||i',e,putRow e l n c (uH e' l')⟩
    |false=>none
   |_=>none
 |_=>none
def lK:TO→List Nat
 |.aP _ _ _ _ _ hole=>match hole with
  |some (_,_,d)=>[d]
  |none=>[]
 |_=>[]
def K_ (o:Nat→TO) (g:Nat):Option (Ty×Nat):=match o g with
 |.arr _ _ _ e l=>some (e,l.length)
 |.aP _ _ e _ l _=>some (e,l.length)
 |_=>none
def TW.toP (o:Nat→TO) (t:Ty):TW→Option (Dt t×Bool×Bool×List Nat)
 |.p a i w=>match w.BJ t with
  |some x=>some (x,a,i,[])
  |none=>none
 |.cO=>match t with
  |.sl e=>some (([]:List (Dt e)),false,false,[])
  |_=>none
 |.own g=>match nM o g with
  |some ⟨a,i,e,l⟩=>match (uH e l).BJ t with
   |some x=>some (x,a,i,lK (o g)++[g])
   |none=>none
  |none=>none
 |.vw g lo hi=>match nM o g with
  |some ⟨a,i,e,l⟩=>match (uH e ((l.take hi.toNat).drop lo.toNat)).BJ t with
   |some x=>some (x,a,i,lK (o g)++[g])
   |none=>none
  |none=>none
 |_=>none
def qO (o:Nat→TO):List Ty→List TW→Option (List Wd×Bool×Bool×List Nat)
 | [],[]=>some ([],false,false,[])
 |t::ts,x::xs=>match x.toP o t,qO o ts xs with
  |some (y,a,i,gs),some (ys,a',i',gs')=>some (⟨t,y⟩::ys,a||a',i||i',gs++gs')
  |_,_=>none
 |_,_=>none
def TV.words:TV→List TW
 |.one x=>[x]
 |.agg xs=>xs
def lu (o:Nat→TO) (g:Nat):Nat×TO:=
 (g,match nM o g with
  |some ⟨a,i,e,l⟩=>.arr true a i e l
  |none=>o g)
def TV.fQ (agg:Bool) (ws:List TW):TS:=match agg with
 |true=>.v (.agg ws)
 |false=>match ws with
  | [x]=>.v (.one x)
  |_=>.no
def TW.solid:TW→Bool
 |.no=>false
 |_=>true
def TV.solid:TV→Bool
 |.one x=>x.solid
 |.agg _=>true
def CQ (place:Nat→Option (Nat×Nat)) (ws:List TW):List (Nat×TS)→Option (List TW)
 | []=>some ws
 |(n,.v x)::rest=>match place n with
  |some (off,size)=>bif Nat.beq x.words.length size&&Nat.ble (off+size) ws.length&&x.solid then CQ place (aQ ws off x.words) rest else none
  |none=>none
 |_=>none
def TW.rows (o:Nat→TO) (e:Ty):TW→Option (List (Dt e)×Bool×Bool)
 |.p a i w=>match w.BJ (.sl e) with
  |some l=>some (l,a,i)
  |none=>none
 |.cO=>some ([],false,false)
 |.own g=>match o g with
  |.arr _ a i e' l=>match (uH e' l).BJ (.sl e) with
   |some l=>some (l,a,i)
   |none=>none
  |_=>none
 |.vw g lo hi=>match o g with
  |.arr _ a i e' l=>match (uH e' ((l.take hi.toNat).drop lo.toNat)).BJ (.sl e) with
   |some l=>some (l,a,i)
   |none=>none
  |_=>none
 |_=>none
def Rf (o:Nat→TO):TW→Option Int
 |.p _ _ ⟨.sl e,l⟩=>some (List.length (α:=Dt e) l)
 |.cO=>some 0
 |.own g=>match K_ o g with
  |some (_,n)=>some n
  |none=>none
 |.vw g lo hi=>match K_ o g with
  |some _=>some (hi.toNat-lo.toNat:Nat)
  |none=>none
 |_=>none
def TW.live (o:Nat→TO):TW→Bool
 |.box g _=>match o g with
  |.box _=>true
  |_=>false
 |.ep g _ _=>match K_ o g with
  |some _=>true
  |none=>false
 |.sp _ _ _ _ _=>true
 |_=>false
def TW.shift (n:Nat):TW→TW
 |.box g off=>.box g (off+n)
 |.ep g k off=>.ep g k (off+n)
 |.sp a i t x off=>.sp a i t x (off+n)
 |x=>x
def mV (dflt:Int):Option TS→Option Int
 |none=>some dflt
 |some (.v (.one (.p _ _ ⟨.int .i64,x⟩)))=>some x
 |_=>none
def ael (n:Int):Int:=0-n
def Z8 (a b:Int):Bool:=decide (a=b)
def inB (n:Int) (len:Nat):Bool:=decide (0≤n)&&decide (n<len)
def zG (lo hi:Int) (len:Nat):Bool:=decide (0≤lo)&&decide (lo≤hi)&&decide (hi≤(len:Int))
def uJ (bytes:Nat) (n c:Int):Bool:=decide (0≤n)&&decide (n≤c)&&decide (bytes*c≤281474976710656)&&decide (c≤9223372036854775807)
def strOf (l:List Int):List UInt8:=l.map fun n=>UInt8.ofNat n.toNat
def aki {α:Type} (lo hi:Int) (z:α) (l:List α):List α:=List.take lo.toNat l++List.replicate (hi.toNat-lo.toNat) z++List.drop (lo.toNat+(List.replicate (hi.toNat-lo.toNat) z).length) l
def ah0 (s:List UInt8):List Int:=s.map fun b=>(b.toNat:Int)
def Y2 (a b:Int):Int:=if b<a then b else a
def Rh (a b:Int):Int:=if b>a then b else a
def ib (b:Bool):Bool:=b
def UR (op:BinOp) (k k':IntKind) (a b:Int):Option (Bool×Wd):=
 match op with
 |.shl=>some (decide (0≤b),iJ k (k.wrap (a*2 ^ min b.toNat k.bits)))
 |.shr=>some (decide (0≤b),iJ k (a.fdiv (2 ^ min b.toNat k.bits)))
 |_=>match aa1 k k' with
  |none=>none
  |some _=>match op with
   |.add=>some (true,iJ k (k.wrap (a+b)))
   |.sub=>some (true,iJ k (k.wrap (a-b)))
   |.mul=>some (true,iJ k (k.wrap (a*b)))
   |.quo=>some (!(decide (b=0)),iJ k (k.wrap (a.tdiv b)))
   |.rem=>some (!(decide (b=0)),iJ k (a.tmod b))
   |.and=>some (true,iJ k (bits .and k a b))
   |.or=>some (true,iJ k (bits .or k a b))
   |.xor=>some (true,iJ k (bits .xor k a b))
   |.andNot=>some (true,iJ k (bits .andNot k a b))
   |.eql=>some (true,iM (decide (a=b)))
   |.neq=>some (true,iM (!(decide (a=b))))
   |.lss=>some (true,iM (decide (a<b)))
   |.leq=>some (true,iM (decide (a≤b)))
   |.gtr=>some (true,iM (decide (b<a)))
   |.geq=>some (true,iM (decide (b≤a)))
   |_=>none
def CU (n m:Nat):Bool:=Nat.ble n (9223372036854775807-m)&&Nat.ble m 9223372036854775807
theorem oC {n m:Nat}:CU n m=true↔n+m≤9223372036854775807:=by
 unfold CU
 rw [Q6,Nat.ble_eq,Nat.ble_eq]
 omega
def UU (op:BinOp) (a b:List UInt8):Option (Bool×Wd):=
 match op with
 |.add=>some (CU a.length b.length,Q_ (a++b))
 |.eql=>some (true,iM (a==b))
 |.neq=>some (true,iM (!(a==b)))
 |.lss=>some (true,iM (Op.bytesLess a b))
 |.leq=>some (true,iM (Op.bytesLess a b||a==b))
 |.gtr=>some (true,iM (!(Op.bytesLess a b||a==b)))
 |.geq=>some (true,iM (!Op.bytesLess a b))
 |_=>none
def OC (op:BinOp) (a b:Bool):Option (Bool×Wd):=
 match op with
 |.eql=>some (true,iM (a==b))
 |.neq=>some (true,iM (a != b))
 |_=>none
def akj (k:TK) (op:BinOp) (x y:Wd):Option (Bool×Wd):=
 match k,x,y with
 |.int _,⟨.int k,a⟩,⟨.int k',b⟩=>UR op k k' a b
 |.str,⟨.str,a⟩,⟨.str,b⟩=>UU op a b
 |.bool,⟨.bool,a⟩,⟨.bool,b⟩=>OC op a b
 |_,_,_=>none
def unT (op:UnOp) (x:Wd):Option Wd:=
 match op,x with
 |.neg,⟨.int k,n⟩=>some (iJ k (k.wrap (ael n)))
 |.not,⟨.bool,b⟩=>some (iM (!b))
 |_,_=>none
def ag6 (k k':IntKind) (m n:Int):Option Bool:=
 match aa1 k k' with
 |some _=>some (decide (m=n))
 |none=>none
def eqStr (a b:List UInt8):Option Bool:=some (a==b)
def akk (a b:Bool):Option Bool:=some (a==b)
def ah1 (k:TK) (x y:Wd):Option Bool:=
 match k,x,y with
 |.int _,⟨.int a,m⟩,⟨.int b,n⟩=>ag6 a b m n
 |.str,⟨.str,a⟩,⟨.str,b⟩=>eqStr a b
 |.bool,⟨.bool,a⟩,⟨.bool,b⟩=>akk a b
 |_,_,_=>none
def GK (tt:TT):Nat→List (Nat×TypeId)→List TW→List TW→Option Bool
 |_,[],[],[]=>some true
 |n,(off,t)::fs,.p _ _ x::xs,.p _ _ y::ys=>match tt t with
  |some i=>bif Nat.beq off n&&i.k.flat&&Nat.beq i.size 1 then match ah1 i.k x y,GK tt (n+1) fs xs ys with
   |some b,some c=>some (b&&c)
   |_,_=>none
   else none
  |none=>none
 |_,_,_,_=>none
def rJ.oD (c:Bool×Wd):rJ:=.calc c.1 c.2.t c.2.x
def aa3:Wd→Value→Bool
 |⟨.int k,n⟩,.int k' n'=>(match aa1 k k' with | some _=>true | none=>false)&&Z8 n n'
 |⟨.bool,b⟩,.bool b'=>BEq.beq (α:=Bool) b b'
 |⟨.str,s⟩,.string s'=>List.isEmpty (α:=UInt8) s&&s'.data.toList.isEmpty
 |⟨.sl e,l⟩,.slice none 0 0=>List.isEmpty (α:=Dt e) l
 |_,_=>false
def tZ:List Wd→List Value→Bool
 | [],[]=>true
 |w::ws,v::vs=>aa3 w v&&tZ ws vs
 |_,_=>false
def tpw (a i:Bool) (ws:List Wd):List TW:=ws.map (TW.p a i)
def OD (tt:TT) (ety:TypeId→Option Ty) (d:Nat) (o:Nat→TO) (sT:TypeId) (s x:TW):Option rJ:=
 match tt sT with
 |some { k:=.slice e,.. }=>match tt e,ety e with
  |some ie,some et=>bif Nat.beq ie.bytes 0||!Nat.beq (size et) ie.size then none else match x.rows o et with
   |none=>none
   |some (new,a',i')=>
    let res (pre:Bool) (old:List (Dt et)) (a i:Bool) (kill:List (Nat×TO)):rJ:=
     { pre:=pre&&decide ((old.length+new.length)*ie.bytes≤140737488355328),t:=.sl et,val:=List.append old new,dst:=fun _=>.v (.one (.own d)),aK:=fun y=>kill++[(d,.arr false (a||a') (i||i') et y)],new:=[d] }
    match s with
    |.cO=>some (res true [] false false [])
    |.own g=>match o g with
     |.arr false a i e' l=>match (uH e' l).BJ (.sl et) with
      |some l=>bif Nat.beq g d then none else some (res true l a i [(g,.none)])
      |none=>none
     |_=>none
    |.vw g lo hi=>match o g with
     |.arr false a i e' l=>match (uH e' (l.take hi.toNat)).BJ (.sl et) with
      |some l=>bif Nat.beq g d then none else some (res (decide (lo=0)) l a i [(g,.none)])
      |none=>none
     |_=>none
    |_=>none
  |_,_=>none
 |_=>none
def CV (e:Ty):Nat→List Wd→List (Dt e)
 |0,_=>[]
 |n+1,l=>jY e (l.take (size e))::CV e n (l.drop (size e))
def Jc {α:Type} (l:List α):Nat→List α
 |0=>[]
 |n+1=>l++Jc l n
def WO (tt:TT) (o:Nat→TO) (t:TypeId) (x h m:TS):Option rJ:=
 match tt t,x,h,m with
 |some { k:=.slice e,.. },.v (.one (.own g)),.v (.one (.p _ _ ⟨.int .i64,h⟩)),.v (.one (.p _ _ ⟨.int .i64,m⟩))=>match tt e,o g with
  |some ie,.arr false _ _ e' l=>bif Nat.beq (size e') ie.size then some { pre:=zG h m l.length,t:=.bool,val:=false,dst:=fun _=>.v (.one (.vw g 0 h)),aK:=fun _=>[],new:=[] } else none
  |_,_=>none
 |some { k:=.slice e,.. },.v (.one .cO),.v (.one (.p _ _ ⟨.int .i64,h⟩)),.v (.one (.p _ _ ⟨.int .i64,m⟩))=>match tt e with
  |some _=>some { pre:=zG h m 0,t:=.bool,val:=false,dst:=fun _=>.v (.one .cO),aK:=fun _=>[],new:=[] }
  |none=>none
 |_,_,_,_=>none
def aa4 (tt:TT) (o:Nat→TO) (t:TypeId) (x:TS):Option rJ:=
 match tt t,x with
 |some { k:=.slice e,.. },.v (.one (.vw g lo hi))=>match tt e,o g with
  |some ie,.arr false a i et l=>bif Nat.beq (size et) ie.size&&Nat.blt 0 ie.size then match qO o (iP et) (ie.zero.map Y0) with
   |some (ps,false,false,[])=>some { pre:=Nat.blt lo.toNat hi.toNat,t:=.sl et,val:=aki lo hi (jY et ps) l,dst:=fun _=>.no,aK:=fun y=>[(g,.arr false a i et y)],new:=[] }
   |_=>none
   else none
  |_,_=>none
 |_,_=>none
def dN (tt:TT) (ety:TypeId→Option Ty) (d:Nat) (o:Nat→TO) (f:Operand→TS) (op:Op) (ty:TypeId):Option rJ:=
 match op with
 |.move x | .assign x=>match f x with
  |.no=>none
  |s=>some (.pure s)
 |.pick c x y=>match f c with
  |.v (.one (.p _ _ ⟨.bool,b⟩))=>match f x,f y with
   |.v (.one (.p a i w)),.v (.one (.p a' i' w'))=>match w'.BJ w.t with
    |some z=>some { pre:=true,t:=w.t,val:=bif b then w.x else z,dst:=fun z=>.v (.one (.p (a||a') (i||i') ⟨w.t,z⟩)),aK:=fun _=>[],new:=[] }
    |none=>none
   |x,y=>match (bif b then x else y) with
    |.no=>none
    |s=>some (.pure s)
  |_=>none
 |.alloc t=>match tt t with
  |some i=>some { pre:=true,t:=.bool,val:=false,dst:=fun _=>.v (.one (.box d 0)),aK:=fun _=>[(d,.box (i.zero.map Y0))],new:=[d] }
  |none=>none
 |.box t x=>match tt t,f x with
  |some i,.v x=>bif Nat.beq x.words.length i.size&&x.solid then some { pre:=true,t:=.bool,val:=false,dst:=fun _=>.v (.one (.box d 0)),aK:=fun _=>[(d,.box x.words)],new:=[d] } else none
  |_,_=>none
 |.build t parts=>match tt t with
  |some i=>bif i.known tt then match CQ (placeOf tt t) (i.zero.map Y0) (parts.toList.map fun p=>(p.1,f p.2)) with
   |some ws=>some (.pure (.v (.agg ws)))
   |none=>none
   else none
  |none=>none
 |.buildSlice t n parts=>match tt t with
  |some { k:=.slice e,.. }=>match tt e,ety e with
   |some ie,some et=>match CQ (fun m=>if m<n then some (m*ie.size,ie.size) else none) (Jc (ie.zero.map Y0) n) (parts.toList.map fun p=>(p.1,f p.2)) with
    |some ws=>match qO o (Jc (iP et) n) ws with
     |some (ps,a,i,gs)=>bif Nat.ble (n+n*ie.size) 16777216&&Nat.beq (size et) ie.size then
       some { pre:=true,t:=.sl et,val:=CV et n ps,dst:=fun _=>.v (.one (.own d)),aK:=fun y=>gs.map (lu o)++[(d,.arr false a i et y)],new:=[d] } else none
     |none=>none
    |none=>none
   |_,_=>none
  |_=>none
 |.load t x=>match tt t,f x with
  |some i,.v (.one (.box g off))=>match o g with
   |.box ws=>bif Nat.ble (off+i.size) ws.length&&Nat.blt 0 i.size then some (.pure (TV.fQ i.agg ((ws.drop off).take i.size))) else none
   |_=>none
  |some i,.v (.one (.ep g n off))=>match o g with
   |.arr _ a i' e l=>bif Nat.ble (off+i.size) (size e)&&Nat.blt 0 i.size&&tZ (((fD e (dflt e)).drop off).take i.size) i.zero then
     some { pre:=true,t:=e,val:=l.getD n.toNat (dflt e),dst:=fun z=>TV.fQ i.agg (tpw a i' (((fD e z).drop off).take i.size)),aK:=fun _=>[],new:=[] } else none
   |_=>none
  |some i,.v (.one (.sp a i' e x off))=>bif Nat.blt 0 i.size&&Nat.ble (off+i.size) (size e) then
    some (.pure (TV.fQ i.agg (tpw a i' (((fD e x).drop off).take i.size)))) else none
  |_,_=>none
 |.store t x y=>match tt t,f x,f y with
  |some i,.v (.one (.box g off)),.v y=>match o g with
   |.box ws=>bif Nat.ble (off+i.size) ws.length&&Nat.beq y.words.length i.size&&y.solid then
     some { pre:=true,t:=.bool,val:=false,dst:=fun _=>.no,aK:=fun _=>[(g,.box (aQ ws off y.words))],new:=[] } else none
   |_=>none
  |some i,.v (.one (.ep g n off)),.v y=>match o g with
   |.arr false a i' e l=>match qO o (((iP e).drop off).take i.size) y.words with
    |some (ps,a',i'',gs)=>bif Nat.ble (off+i.size) (size e)&&Nat.beq y.words.length i.size&&y.solid&&!fH g gs then
     some { pre:=true,t:=.sl e,val:=List.set l n.toNat (KZ e (Nat.beq i.size (size e)) (l.getD n.toNat (dflt e)) off ps),dst:=fun _=>.no,aK:=fun z=>gs.map (lu o)++[(g,.arr false (a||a') (i'||i'') e z)],new:=[] } else none
    |none=>none
   |_=>none
  |_,_,_=>none
 |.nilCheck x=>match f x with
  |.v (.one x)=>bif x.live o then some (.pure (.v (.one x))) else none
  |_=>none
 |.binOp op t x y _=>match f x,f y with
  |.v (.one (.p _ _ x)),.v (.one (.p _ _ y))=>match tt t with
   |some i=>match akj i.k op x y with
    |some c=>some (.oD c)
    |none=>none
   |none=>none
  |.v (.agg xs),.v (.agg ys)=>match tt t with
   |some i=>match GK tt 0 i.k.parts xs ys,ad4 op with
    |some b,some true=>bif i.eq then some (.oD (true,iM b)) else none
    |some b,some false=>bif i.eq then some (.oD (true,iM (!b))) else none
    |_,_=>none
   |none=>none
  |_,_=>none
 |.unOp op _ x=>match f x with
  |.v (.one (.p _ _ x))=>match unT op x with
   |some c=>some (.oD (true,c))
   |none=>none
  |_=>none
 |.convert s t x=>match tt s,tt t,f x with
  |some { k:=.int _,.. },some { k:=.int k,.. },.v (.one (.p _ _ ⟨.int _,x⟩))=>some (.calc true (.int k) (k.wrap x))
  |some { k:=.slice e,.. },some { k:=.str,.. },.v (.one x)=>match tt e with
   |some { k:=.int .u8,.. }=>match x.rows o (.int .u8) with
    |some (l,_,_)=>some (.calc true .str (strOf l))
    |none=>none
   |_=>none
  |some { k:=.str,.. },some { k:=.slice e,.. },.v (.one (.p _ _ ⟨.str,x⟩))=>match tt e with
   |some { k:=.int .u8,.. }=>some (.calc true (.sl (.int .u8)) (ah0 x))
   |_=>none
  |_,_,_=>none
 |.makeSlice t n c=>match tt t,f n,f c with
  |some { k:=.slice e,.. },.v (.one (.p _ _ ⟨.int .i64,n⟩)),.v (.one (.p _ _ ⟨.int .i64,c⟩))=>match tt e,ety e with
   |some ie,some et=>match qO o (iP et) (ie.zero.map Y0) with
    |some (ps,false,false,[])=>bif Nat.blt 0 ie.size&&Nat.beq (size et) ie.size then
     some { pre:=uJ ie.bytes n c,t:=.sl et,val:=List.replicate (Int.toNat n) (jY et ps),dst:=fun _=>.v (.one (.own d)),aK:=fun y=>[(d,.arr false false false et y)],new:=[d] } else none
    |_=>none
   |_,_=>none
  |_,_,_=>none
 |.slice t x lo hi none=>match tt t,f x with
  |some { k:=.slice e,.. },.v (.one x)=>match tt e,ety e,Rf o x with
   |some ie,some et,some len=>match mV 0 (lo.map f),mV len (hi.map f) with
    |some lo,some hi=>match x with
     |.own g=>match K_ o g with
      |some (e',l)=>bif Nat.beq (size e') ie.size then
        some { pre:=zG lo hi l,t:=.bool,val:=false,dst:=fun _=>.v (.one (.vw g lo hi)),aK:=fun _=>[],new:=[] } else none
      |none=>none
     |.p a i w=>match w.BJ (.sl et) with
      |some l=>bif Nat.beq (size et) ie.size then some { pre:=zG lo hi (List.length (α:=Dt et) l),t:=.sl et,val:=List.drop lo.toNat (List.take (α:=Dt et) hi.toNat l),dst:=fun z=>.v (.one (.p a i ⟨.sl et,z⟩)),aK:=fun _=>[],new:=[] } else none
      |none=>none
     |.cO=>some { pre:=decide (lo=0)&&decide (hi=0),t:=.bool,val:=false,dst:=fun _=>.v (.one .cO),aK:=fun _=>[],new:=[] }
     |_=>none
    |_,_=>none
   |_,_,_=>none
  |some { k:=.str,.. },.v (.one (.p _ _ ⟨.str,y⟩))=>match mV 0 (lo.map f),mV (List.length (α:=UInt8) y) (hi.map f) with
   |some lo,some hi=>some (.calc (zG lo hi (List.length (α:=UInt8) y)) .str (List.drop lo.toNat (List.take (α:=UInt8) hi.toNat y)))
   |_,_=>none
  |_,_=>none
 |.slice t x none (some hi) (some mx)=>WO tt o t (f x) (f hi) (f mx)
 |.fieldAddr t x n=>match tt t,placeOf tt t n,f x with
  |some { k:=.struct _,.. },some (off',sz'),.v (.one x)=>bif Nat.blt 0 sz'&&x.live o then some (.pure (.v (.one (x.shift off')))) else none
  |_,_,_=>none
 |.field t x n=>match tt t,f x with
  |some { k:=.struct fs,.. },.v (.agg ws)=>match fs[n]? with
   |some (off,u)=>match tt u with
    |some iu=>bif Nat.ble (off+iu.size) ws.length&&Nat.blt 0 iu.size then some (.pure (TV.fQ iu.agg ((ws.drop off).take iu.size))) else none
    |none=>none
   |none=>none
  |_,_=>none
 |.indexAddr t x ix=>match tt t,f x,f ix with
  |some { k:=.slice e,.. },.v (.one x),.v (.one (.p _ _ ⟨.int _,n⟩))=>match tt e,ety e,x with
   |some ie,some et,.own g=>match K_ o g with
    |some (e',l)=>bif Nat.beq (size e') ie.size then
      some { pre:=inB n l,t:=.bool,val:=false,dst:=fun _=>.v (.one (.ep g (Int.toNat n:Nat) 0)),aK:=fun _=>[],new:=[] } else none
    |none=>none
   |some ie,some et,.vw g lo hi=>match K_ o g with
    |some (e',_)=>bif Nat.beq (size e') ie.size then
      some { pre:=inB n (hi.toNat-lo.toNat),t:=.bool,val:=false,dst:=fun _=>.v (.one (.ep g (lo.toNat+Int.toNat n:Nat) 0)),aK:=fun _=>[],new:=[] } else none
    |none=>none
   |some ie,some et,.p a i w=>match w.BJ (.sl et) with
    |some l=>bif Nat.beq (size et) ie.size then some { pre:=inB n (List.length (α:=Dt et) l),t:=et,val:=List.getD (α:=Dt et) l (Int.toNat n) (dflt et),dst:=fun z=>.v (.one (.sp a i et z 0)),aK:=fun _=>[],new:=[] } else none
    |none=>none
   |_,_,_=>none
  |some { k:=.arr m e,.. },.v (.one (.gl g)),.v (.one (.p _ _ ⟨.int _,n⟩))=>match tt e,RE.G g with
   |some ie,some ⟨et,l⟩=>bif Nat.beq (size et) ie.size&&Nat.beq (List.length (α:=Dt et) l) m then some { pre:=inB n m,t:=et,val:=List.getD (α:=Dt et) l (Int.toNat n) (dflt et),dst:=fun z=>.v (.one (.sp false false et z 0)),aK:=fun _=>[],new:=[] } else none
   |_,_=>none
  |some { k:=.arr m e,.. },.v (.one x),.v (.one (.p _ _ ⟨.int _,n⟩))=>match tt e with
   |some ie=>bif inB n m&&x.live o then some (.pure (.v (.one (x.shift (Int.toNat n*ie.size))))) else none
   |none=>none
  |_,_,_=>none
 |.index t x ix=>match tt t,f x,f ix with
  |some { k:=.str,.. },.v (.one (.p _ _ ⟨.str,s⟩)),.v (.one (.p _ _ ⟨.int _,n⟩))=>
    some (.calc (inB n (List.length (α:=UInt8) s)) (.int .u8) ((List.getD (α:=UInt8) s (Int.toNat n) 0).toNat:Int))
  |_,_,_=>none
 |.range t x=>match tt t,f x with
  |some { k:=.str,.. },.v (.one (.p _ _ ⟨.str,s⟩))=>some { pre:=true,t:=.str,val:=s,dst:=fun _=>.v (.one (.m_ d)),aK:=fun z=>[(d,.it z 0)],new:=[d] }
  |_,_=>none
 |.extract t n=>match f t with
  |.lG xs=>match xs[n]? with
   |some x=>some (.pure (.v x))
   |none=>none
  |_=>none
 |.makeFunc (.func g) first caps=>bif Nat.beq first.size 0 then
   match caps.toList.mapM (fun x=>match f x with | .v (.one w)=>some w | _=>none) with
   |some ws=>some (.pure (.v (.one (.clo g ws))))
   |none=>none
   else none
 |.call { callee:=.builtin .len,args,argTypes }=>match args.toList,argTypes.toList with
  | [x],[t]=>match tt t,f x with
   |some { k:=.slice _,.. },.v (.one x)=>match Rf o x with
    |some n=>some (.calc true (.int .i64) n)
    |none=>none
   |some { k:=.str,.. },.v (.one (.p _ _ ⟨.str,s⟩))=>some (.calc true (.int .i64) (List.length (α:=UInt8) s:Int))
   |_,_=>none
  |_,_=>none
 |.call { callee:=.builtin .append,args,argTypes }=>match args.toList,argTypes.toList with
  | [s,x],sT::xT::_=>match tt xT,f s,f x with
   |some { k:=.slice _,.. },.v (.one s),.v (.one x)=>OD tt ety d o sT s x
   |_,_,_=>none
  |_,_=>none
 |.call { callee:=.builtin .clear,args,argTypes }=>match args.toList,argTypes.toList with
  | [x],t::_=>aa4 tt o t (f x)
  |_,_=>none
 |.call { callee:=.builtin .min,args,.. }=>match args.toList with
  | [x,y]=>match f x,f y with
   |.v (.one (.p _ _ ⟨.int k,x⟩)),.v (.one (.p _ _ ⟨.int _,y⟩))=>some (.calc true (.int k) (Y2 x y))
   |_,_=>none
  | [x,y,z]=>match f x,f y,f z with
   |.v (.one (.p _ _ ⟨.int k,x⟩)),.v (.one (.p _ _ ⟨.int _,y⟩)),.v (.one (.p _ _ ⟨.int _,z⟩))=>some (.calc true (.int k) (Y2 (Y2 x y) z))
   |_,_,_=>none
  |_=>none
 |.call { callee:=.builtin .max,args,.. }=>match args.toList with
  | [x,y]=>match f x,f y with
   |.v (.one (.p _ _ ⟨.int k,x⟩)),.v (.one (.p _ _ ⟨.int _,y⟩))=>some (.calc true (.int k) (Rh x y))
   |_,_=>none
  | [x,y,z]=>match f x,f y,f z with
   |.v (.one (.p _ _ ⟨.int k,x⟩)),.v (.one (.p _ _ ⟨.int _,y⟩)),.v (.one (.p _ _ ⟨.int _,z⟩))=>some (.calc true (.int k) (Rh (Rh x y) z))
   |_,_,_=>none
  |_=>none
 |_=>none
end
end Go.Fg

namespace Go.Fg
open Go.Fw
section
variable [RE] {o:Nat→TO} {tt:TT} {ety:TypeId→Option Ty}
theorem gB (e:Ty) (l:List (Dt e)):(aN e l).length=l.length:=by simp [aN]
theorem sG (e:Ty) (l:List (Dt e)) (lo hi:Int):((aN e l).take (P.nat (.int .i64 hi))).drop (P.nat (.int .i64 lo))=aN e ((l.take hi.toNat).drop lo.toNat):=by
 simp [aN,P.nat,P.num,WF,Wt]
theorem vX (e:Ty) (l:List (Dt e)) (hi:Int):(aN e l).take (P.nat (.int .i64 hi))=aN e (l.take hi.toNat):=by
 simp [aN,P.nat,P.num,WF]
theorem gY {g:Nat} {fz a i:Bool} {e:Ty} {l:List (Dt e)} (h:o g=.arr fz a i e l):bY o g=.arr fz a i (size e) (aN e l):=by simp [bY,h,dY]
theorem oG {g:Nat} {ws:List TW} (h:o g=.box ws):bY o g=.box (ws.map bW):=by simp [bY,h,dY]
theorem o7 {g n:Nat} {e:Ty} (h:K_ o g=some (e,n)):(bY o g).dim=some (size e,n):=by
 unfold K_ at h
 unfold bY
 cases ho:o g with
 |arr fz a i e l=>rw [ho] at h;cases h;simp [dY,O.dim,aN]
 |aP a i e au l hole=>rw [ho] at h;cases h;simp [dY,O.dim,aN]
 |_=>rw [ho] at h;cases h
theorem yg {a b:Ty} (h:tyB a b=true):a=b:=by
 unfold tyB at h
 split at h
 ·rename_i p _;exact p.down
 ·cases h
theorem D_ {c:Nat} :∀{au:List (Nat×Ty)} {t:Ty},uI c au=some t→(iI au).lookup c=some (size t)
 | [],t,h=>by cases h
 |(k,u)::r,t,h=>by
  simp only [uI] at h
  simp only [iI,Qf,List.lookup]
  by_cases e:c=k
  ·subst e
   have:Nat.beq c c=true:=by simp
   rw [this] at h
   simp only [cond_true,Q0] at h;subst h
   simp
  ·have e1:Nat.beq c k=false:=by cases hb:Nat.beq c k with | false=>rfl | true=>exact absurd (Q4 hb) e
   have e2:(c==k)=false:=by simpa using e
   rw [e1] at h
   rw [e2]
   exact D_ h
theorem Jd {c:Nat} :∀{au:List (Nat×Ty)},uI c au=none→(iI au).lookup c=none
 | [],h=>rfl
 |(k,u)::r,h=>by
  simp only [uI] at h
  simp only [iI,Qf,List.lookup]
  by_cases e:c=k
  ·subst e
   have:Nat.beq c c=true:=by simp
   rw [this] at h;cases h
  ·have e1:Nat.beq c k=false:=by cases hb:Nat.beq c k with | false=>rfl | true=>exact absurd (Q4 hb) e
   have e2:(c==k)=false:=by simpa using e
   rw [e1] at h
   rw [e2]
   exact Jd h
theorem uK {e e':Ty} {au:List (Nat×Ty)} {c:Nat} (h:Y1 e au c e'=true):(iI au).lookup c=some (size e')∧(iP e)[c]?=some (.sl e')∧c<size e:=by
 simp only [Y1,Q6] at h
 obtain ⟨h1,h2⟩:=h
 have k1:uI c au=some e':=by
  split at h1
  ·rename_i t ht;rw [ht,yg h1]
  ·cases h1
 have k2:(iP e)[c]?=some (.sl e'):=by
  split at h2
  ·rename_i t ht;rw [ht,yg h2]
  ·cases h2
 exact ⟨D_ k1,k2,by have:=(Q3.1 k2).1;rwa [jk] at this⟩
theorem zV {α β:Type} (f:α→β) (l:List α) (off:Nat) (new:List α):(aQ l off new).map f=aQ (l.map f) off (new.map f):=by
 simp [aQ,WF,Wt]
theorem aa5 {e:Ty} {x:Dt e} {off:Nat} {ps:List Wd} (hty:ps.map (·.t)=((iP e).drop off).take ps.length) (hlt:off+ps.length≤size e):jJ e (KZ e (Nat.beq ps.length (size e)) x off ps)=aQ (jJ e x) off (ps.map cZ):=by
 have hty':(aQ (fD e x) off ps).map (·.t)=iP e:=by
  have e0:iP e=(iP e).take off++(((iP e).drop off).take ps.length++(iP e).drop (off+ps.length)):=by
   rw [←List.drop_drop,UI,UI]
  simp only [aQ,Z1,WF,Wt,qN,hty,Wa]
  exact e0.symm
 unfold KZ
 cases hc:Nat.beq ps.length (size e) with
 |true=>
  have hc:=Q4 hc
  have h0:off=0:=by omega
  subst h0
  have e2:aQ (fD e x) 0 ps=ps:=by
   simp only [aQ,List.take_zero,K4,We]
   rw [List.drop_of_length_le (by rw [qw];omega),VS]
  have e3:aQ (jJ e x) 0 (ps.map cZ)=ps.map cZ:=by rw [gu,←zV,e2]
  rw [e2] at hty'
  rw [e3]
  exact sF hty'
 |false=>
  simp only
  rw [sF hty',zV,←gu]
theorem FH {e:Ty} {l:List (Dt e)} {n off:Nat} {ps:List Wd} (hty:ps.map (·.t)=((iP e).drop off).take ps.length) (hlt:off+ps.length≤size e) :
  aN e (List.set l n (KZ e (Nat.beq ps.length (size e)) (l.getD n (dflt e)) off ps))=(aN e l).set n (aQ ((aN e l).getD n []) off (ps.map cZ)):=by
 have e0 :∀x,aN e (List.set l n x)=(aN e l).set n (jJ e x):=fun x=>by simp [aN,List.map_set]
 rw [e0]
 by_cases hn:n<l.length
 ·have e1:(aN e l).getD n []=jJ e (l.getD n (dflt e)):=by simp [aN,List.getD_eq_getElem?_getD,hn]
  rw [e1,aa5 hty hlt]
 ·have e1 :∀z,(aN e l).set n z=aN e l:=fun z=>List.set_eq_of_length_le (by rw [gB];omega)
  rw [e1,e1]
theorem AU {e e':Ty} {l:List (Dt e)} {n c:Nat} {l':List (Dt e')} (hc:(iP e)[c]?=some (.sl e')):aN e (putRow e l n c (uH e' l'))=iV (aN e l) n c (P.fF (size e') (aN e' l')):=by
 have hlt:c<size e:=by have:=(Q3.1 hc).1;rwa [jk] at this
 have:=FH (e:=e) (l:=l) (n:=n) (off:=c) (ps:=[uH e' l']) (by
  show [Ty.sl e']=((iP e).drop c).take 1
  have hlt':c<(iP e).length:=by rw [jk];exact hlt
  rw [List.drop_eq_getElem_cons hlt']
  rw [Q2 hlt'] at hc
  simp only [Q0] at hc
  rw [hc];rfl) (by simp only [K0];omega)
 exact this
theorem oH {g:Nat} {a i:Bool} {e:Ty} {l:List (Dt e)} (h:nM o g=some ⟨a,i,e,l⟩):plainO (bY o) g=some (a,i,size e,aN e l)∧(bY o g).names=lK (o g):=by
 unfold nM at h
 cases ho:o g with
 |arr fz a' i' e' l'=>
  rw [ho] at h;cases h
  have:=gY ho
  exact ⟨by simp [plainO,this],by rw [this];rfl⟩
 |aP a0 i0 e0 au l0 hole=>
  rw [ho] at h
  have hg:bY o g=.aP a0 i0 (size e0) (iI au) (aN e0 l0) hole:=by simp [bY,ho,dY]
  rcases hole with _ | ⟨n,c,d⟩
  ·cases h
   exact ⟨by simp [plainO,hg],by rw [hg];rfl⟩
  ·simp only at h
   cases hd:o d with
   |arr fz a' i' e' l'=>
    rw [hd] at h
    simp only at h
    split at h
    ·rename_i hc
     cases h
     obtain ⟨k1,k2,k3⟩:=uK hc
     refine ⟨?_,by rw [hg];rfl⟩
     simp only [plainO,hg,gY hd]
     rw [if_pos ⟨k1,k3⟩,AU k2]
    ·cases h
   |_=>rw [hd] at h;cases h
 |_=>rw [ho] at h;cases h
theorem oI {e:Ty} {l:List (Dt e)} {t:Ty} {x:Dt t} (h:(uH e l).BJ t=some x) :∃h:Ty.sl e=t,x=h▸l:=by
 have:=gU h
 unfold uH at this
 cases this
 exact ⟨rfl,rfl⟩
theorem OE {t:Ty} {x:TW} {y:Dt t} {a i:Bool} {gs:List Nat} (h:x.toP o t=some (y,a,i,gs)):(bW x).toP (bY o)=some (cZ ⟨t,y⟩,a,i,gs):=by
 cases x with
 |p a' i' w=>
  simp only [TW.toP] at h
  split at h
  ·rename_i x hx
   simp only [Q0,Q1] at h
   obtain ⟨rfl,rfl,rfl,rfl⟩:=h
   rw [gU hx];rfl
  ·cases h
 |cO=>
  simp only [TW.toP] at h
  split at h
  ·simp only [Q0,Q1] at h
   obtain ⟨rfl,rfl,rfl,rfl⟩:=h
   rfl
  ·cases h
 |own g=>
  simp only [TW.toP] at h
  split at h
  ·rename_i a' i' e l hg
   split at h
   ·rename_i z hz
    simp only [Q0,Q1] at h
    obtain ⟨rfl,rfl,rfl,rfl⟩:=h
    rw [←gU hz]
    obtain ⟨k1,k2⟩:=oH hg
    simp only [bW,W.toP,k1,k2];rfl
   ·cases h
  ·cases h
 |vw g lo hi=>
  simp only [TW.toP] at h
  split at h
  ·rename_i a' i' e l hg
   split at h
   ·rename_i z hz
    simp only [Q0,Q1] at h
    obtain ⟨rfl,rfl,rfl,rfl⟩:=h
    rw [←gU hz]
    obtain ⟨k1,k2⟩:=oH hg
    simp only [bW,W.toP,k1,k2,sG];rfl
   ·cases h
  ·cases h
 |_=>simp [TW.toP] at h
theorem yh :∀{ts:List Ty} {xs:List TW} {ys:List Wd} {a i:Bool} {gs:List Nat},qO o ts xs=some (ys,a,i,gs)→sS (bY o) (xs.map bW)=some (ys.map cZ,a,i,gs)∧ys.map (·.t)=ts
 | [],[],ys,a,i,gs,h=>by
  simp only [qO,Q0,Q1] at h
  obtain ⟨rfl,rfl,rfl,rfl⟩:=h
  exact ⟨rfl,rfl⟩
 | [],x::xs,ys,a,i,gs,h=>by simp [qO] at h
 |t::ts,[],ys,a,i,gs,h=>by simp [qO] at h
 |t::ts,x::xs,ys,a,i,gs,h=>by
  simp only [qO] at h
  split at h
  ·rename_i h1 h2
   simp only [Q0,Q1] at h
   obtain ⟨rfl,rfl,rfl,rfl⟩:=h
   obtain ⟨k1,k2⟩:=yh h2
   refine ⟨?_,by simp only [Qf,k2]⟩
   simp only [Qf,sS,OE h1,k1]
  ·cases h
def iF (l:List (Nat×TO)):List (Nat×O):=l.map fun p=>(p.1,dY p.2)
def Pl (o:Nat→TO) (gs:List Nat):Prop :=∀g∈gs,∃p,nM o g=some p
theorem Pl.append {a b:List Nat} (h:Pl o a) (h':Pl o b):Pl o (a++b):=fun g hg=>by
 rcases X1.1 hg with x | x
 ·exact h g x
 ·exact h' g x
theorem Pl.nil:Pl o []:=fun g hg=>by cases hg
theorem MC {g:Nat} {p:TA} (h:nM o g=some p):Pl o (lK (o g)++[g]):=by
 refine Pl.append (fun d hd => ?_) (fun g' hg'=>by rw [Qt] at hg';subst hg';exact ⟨p,h⟩)
 unfold nM at h
 cases ho:o g with
 |aP a i e au l hole=>
  rw [ho] at h hd
  rcases hole with _ | ⟨n,c,d'⟩
  ·cases hd
  ·simp only [lK,Qt] at hd
   subst hd
   simp only at h
   cases hod:o d with
   |arr fz a' i' e' l'=>exact ⟨⟨a',i',e',l'⟩,by simp only [nM,hod]⟩
   |_=>rw [hod] at h;cases h
 |_=>rw [ho] at hd;cases hd
theorem UW {t:Ty} {x:TW} {y:Dt t} {a i:Bool} {gs:List Nat} (h:x.toP o t=some (y,a,i,gs)):Pl o gs:=by
 cases x with
 |p a' i' w=>
  simp only [TW.toP] at h
  split at h
  ·simp only [Q0,Q1] at h;obtain ⟨_,_,_,rfl⟩:=h;exact Pl.nil
  ·cases h
 |cO=>
  simp only [TW.toP] at h
  split at h
  ·simp only [Q0,Q1] at h;obtain ⟨_,_,_,rfl⟩:=h;exact Pl.nil
  ·cases h
 |own g=>
  simp only [TW.toP] at h
  split at h
  ·rename_i hg
   split at h
   ·simp only [Q0,Q1] at h;obtain ⟨_,_,_,rfl⟩:=h;exact MC hg
   ·cases h
  ·cases h
 |vw g lo hi=>
  simp only [TW.toP] at h
  split at h
  ·rename_i hg
   split at h
   ·simp only [Q0,Q1] at h;obtain ⟨_,_,_,rfl⟩:=h;exact MC hg
   ·cases h
  ·cases h
 |_=>simp [TW.toP] at h
theorem OG :∀{ts:List Ty} {xs:List TW} {ys:List Wd} {a i:Bool} {gs:List Nat},qO o ts xs=some (ys,a,i,gs)→Pl o gs
 | [],[],ys,a,i,gs,h=>by simp only [qO,Q0,Q1] at h;obtain ⟨_,_,_,rfl⟩:=h;exact Pl.nil
 | [],x::xs,ys,a,i,gs,h=>by simp [qO] at h
 |t::ts,[],ys,a,i,gs,h=>by simp [qO] at h
 |t::ts,x::xs,ys,a,i,gs,h=>by
  simp only [qO] at h
  split at h
  ·rename_i h1 h2
   simp only [Q0,Q1] at h
   obtain ⟨_,_,_,rfl⟩:=h
   exact (UW h1).append (OG h2)
  ·cases h
theorem Je {g:Nat} (h :∃p,nM o g=some p):Fw.aV (bY o) g=((lu o g).1,dY (lu o g).2):=by
 obtain ⟨⟨a,i,e,l⟩,hp⟩:=h
 simp only [Fw.aV,lu,hp,(oH hp).1];rfl
theorem o8 {gs:List Nat} (h:Pl o gs):gs.map (Fw.aV (bY o))=iF (gs.map (lu o)):=by
 simp only [iF,V1]
 exact W8 fun g hg=>Je (h g hg)
theorem uM (x:TV):(jD x).words=x.words.map bW:=by cases x<;>rfl
theorem uN (x:TV) (h:x.solid=true):(jD x).solid=true:=by
 cases x with
 |one x=>cases x<;>first | rfl | (simp [TV.solid,TW.solid] at h)
 |agg xs=>rfl
theorem kR (agg:Bool) (ws:List TW):bn (TV.fQ agg ws)=V.fQ agg (ws.map bW):=by
 cases agg with
 |true=>rfl
 |false=>
  match ws with
  | []=>rfl
  | [x]=>rfl
  |x::y::ws=>rfl
theorem qg {α β:Type} (f:α→β) (l:List α) (off:Nat) (new:List α):(aQ l off new).map f=aQ (l.map f) off (new.map f):=by
 simp [aQ,WF,Wt]
theorem CW {place:Nat→Option (Nat×Nat)} :∀{ps:List (Nat×TS)} {ws r:List TW},CQ place ws ps=some r→lQ place (ws.map bW) (ps.map fun p=>(p.1,bn p.2))=some (r.map bW)
 | [],ws,r,h=>by simp only [CQ,Q0] at h;subst h;rfl
 |(n,.v x)::ps,ws,r,h=>by
  simp only [CQ] at h
  split at h
  ·rename_i off size hp
   cases hb:(Nat.beq x.words.length size&&Nat.ble (off+size) ws.length&&x.solid) with
   |false=>rw [hb] at h;cases h
   |true=>
    rw [hb,cond_true] at h
    simp only [Q6] at hb
    have h1:=Q4 hb.1.1
    have h2:=W6 hb.1.2
    have ih:=CW h
    rw [qg] at ih
    simp only [Qf,bn,lQ,hp,uM,Z3]
    rw [if_pos ⟨h1,h2,uN x hb.2⟩]
    exact ih
  ·cases h
 |(n,.lG xs)::ps,ws,r,h=>by simp [CQ] at h
 |(n,.no)::ps,ws,r,h=>by simp [CQ] at h
theorem aem (sz:Nat) (l:List (List P)):(P.fF sz l).Ud sz:=by cases l<;>simp [P.fF,P.Ud]
theorem Jf (e:Ty) (l:List (Dt e)):(cZ ⟨.sl e,l⟩).Ud (size e):=aem _ _
theorem Ri {e:Ty} {x:TW} {l:List (Dt e)} {a i:Bool} (h:x.rows o e=some (l,a,i)) :∃ask,(bW x).rows (bY o) (size e)=some (ask,aN e l,a,i)∧ask:=by
 cases x with
 |p a' i' w=>
  simp only [TW.rows] at h
  split at h
  ·rename_i y hy
   simp only [Q0,Q1] at h
   obtain ⟨rfl,rfl,rfl⟩:=h
   rw [gU hy]
   exact ⟨(cZ ⟨.sl e,l⟩).Ud (size e),by simp only [bW,W.rows,lq],Jf _ _⟩
  ·cases h
 |cO=>
  simp only [TW.rows,Q0,Q1] at h
  obtain ⟨rfl,rfl,rfl⟩:=h
  exact ⟨_,rfl,trivial⟩
 |own g=>
  simp only [TW.rows] at h
  split at h
  ·rename_i fz a' i' e' l' hg
   split at h
   ·rename_i z hz
    simp only [Q0,Q1] at h
    obtain ⟨rfl,rfl,rfl⟩:=h
    obtain ⟨he,hz⟩:=oI hz
    cases he
    subst hz
    exact ⟨True,by simp only [bW,W.rows,gY hg,if_true],trivial⟩
   ·cases h
  ·cases h
 |vw g lo hi=>
  simp only [TW.rows] at h
  split at h
  ·rename_i fz a' i' e' l' hg
   split at h
   ·rename_i z hz
    simp only [Q0,Q1] at h
    obtain ⟨rfl,rfl,rfl⟩:=h
    obtain ⟨he,hz⟩:=oI hz
    cases he
    subst hz
    exact ⟨True,by simp only [bW,W.rows,gY hg,if_true,sG],trivial⟩
   ·cases h
  ·cases h
 |_=>simp [TW.rows] at h
theorem UY (sz:Nat) (l:List (List P)):(P.fF sz l).isSlice:=by cases l<;>simp [P.fF,P.isSlice]
theorem ah2 (sz:Nat) (l:List (List P)):(P.fF sz l).len=.int .i64 l.length:=by cases l<;>rfl
theorem aen (e:Ty) (l:List (Dt e)):(cZ ⟨.sl e,l⟩).len=.int .i64 l.length:=by rw [G5,ah2,gB]
theorem WQ {x:TW} {n:Int} (h:Rf o x=some n) :∃ask,lenOf (bY o) (bW x)=some (ask,.int .i64 n)∧ask:=by
 cases x with
 |p a i w=>
  obtain ⟨t,x⟩:=w
  cases t<;>simp only [Rf] at h<;>try (cases h;done)
  rename_i e
  simp only [Q0] at h;subst h
  refine ⟨(cZ ⟨.sl e,x⟩).isSlice,?_,UY _ _⟩
  have e1:(cZ ⟨.sl e,x⟩).len=.int .i64 (List.length (α:=Dt e) x):=aen e x
  simp only [bW,lenOf]
  rw [e1]
 |cO=>simp only [Rf,Q0] at h;subst h;exact ⟨_,rfl,trivial⟩
 |own g=>
  simp only [Rf] at h
  split at h
  ·rename_i hg
   simp only [Q0] at h;subst h
   exact ⟨True,by simp only [bW,lenOf,o7 hg],trivial⟩
  ·cases h
 |vw g lo hi=>
  simp only [Rf] at h
  split at h
  ·rename_i hg
   simp only [Q0] at h;subst h
   rename_i x
   obtain ⟨e,n⟩:=x
   exact ⟨True,by simp only [bW,lenOf,o7 hg,P.nat,P.num],trivial⟩
  ·cases h
 |_=>simp [Rf] at h
theorem Jg {x:TW} (h:x.live o=true):(bW x).live (bY o)=true:=by
 cases x with
 |box g off=>
  simp only [TW.live] at h
  split at h
  ·rename_i hg;simp only [bW,W.live,oG hg]
  ·cases h
 |ep g n off=>
  simp only [TW.live] at h
  split at h
  ·rename_i x hg
   obtain ⟨e,n⟩:=x
   simp only [bW,W.live,o7 hg];rfl
  ·cases h
 |sp=>rfl
 |_=>simp [TW.live] at h
theorem MF (n:Nat) (x:TW):bW (x.shift n)=(bW x).shift n:=by cases x<;>simp [TW.shift,bW,W.shift]
theorem aa6 (v:Value):bW (Y0 v)=cv v:=by
 unfold Y0
 split
 ·rfl
 ·rfl
 ·rfl
 ·rfl
 ·rename_i x h1 h2 h3 h4
  show W.p false false (P.opq v)=cv v
  unfold cv
  split
  ·exact (h1 _ _ rfl).elim
  ·exact (h2 _ rfl).elim
  ·exact (h3 _ rfl).elim
  ·exact (h4 rfl).elim
  ·rfl
theorem sH (l:List Value):(l.map Y0).map bW=l.map cv:=by
 rw [V1];exact W8 fun v _=>aa6 v
theorem Y3 (v:Value):bn (UQ v)=vk v:=by
 unfold UQ
 split
 ·rename_i cs
  unfold vk
  have e:(cs.toList.map Y0).map bW=cs.toList.map cv:=sH _
  cases h:cs.toList.all Value.oneCell'
  ·simp only [h,cond_false,W7,if_false];rfl
  ·simp only [h,cond_true,if_true,bn,jD,e]
 ·rfl
 ·simp only [bn,jD,bW,nK];rfl
 ·rename_i x h1 h2 h3
  have e:vk v=if v.oneCell'=true then .v (.one (cv v)) else .no:=by
   unfold vk
   split
   ·exact (h1 _ rfl).elim
   ·exact (h2 _ rfl).elim
   ·exact (h3 _ rfl).elim
   ·rfl
  rw [e]
  cases h:v.oneCell'
  ·simp only [cond_false,W7,if_false];rfl
  ·simp only [cond_true,if_true,bn,jD,aa6]
theorem nN (st:jw) (x:Operand):(aU st).dH x=bn (st.dH x):=by
 cases x with
 |tmp t=>rfl
 |const v=>exact (Y3 v).symm
 |func f=>simp [St.dH,jw.dH,bn,jD,bW,nK]
 |global g=>
  simp only [Fw.St.dH,jw.dH,ag5]
  cases RE.G g<;>rfl
end
end Go.Fg

namespace Go.Fg
open Go.Fw
section
variable [RE] {o:Nat→TO} {tt:TT} {ety:TypeId→Option Ty} {d:Nat} {f:Operand→TS} {ty:TypeId}
structure fJ (r:rJ) (r':Gx):Prop where
 pre:r.pre=true→r'.pre
 dst:r'.dst r'.val=bn (r.dst r.val)
 aK:r'.aK r'.val=iF (r.aK r.val)
 new:r'.new=r.new
def gV (tt:TT) (ety:TypeId→Option Ty) (d:Nat) (o:Nat→TO) (f:Operand→TS) (op:Op) (ty:TypeId):Prop:=
 ∀r,dN tt ety d o f op ty=some r→∃r',kernel tt d (bY o) (fun x=>bn (f x)) op ty=some r'∧fJ r r'
def akl (r:rJ) (r':Gx):Prop:=(r.pre=true→fJ r r')∧r'.new=r.new
theorem fJ.toC {r:rJ} {r':Gx} (h:fJ r r'):akl r r':=⟨fun _=>h,h.new⟩
def aa7 (tt:TT) (ety:TypeId→Option Ty) (d:Nat) (o:Nat→TO) (f:Operand→TS) (op:Op) (ty:TypeId):Prop:=
 ∀r,dN tt ety d o f op ty=some r→∃r',kernel tt d (bY o) (fun x=>bn (f x)) op ty=some r'∧akl r r'
theorem gV.toC {tt:TT} {ety:TypeId→Option Ty} {d:Nat} {o:Nat→TO} {f:Operand→TS} {op:Op} {ty:TypeId} (h:gV tt ety d o f op ty):aa7 tt ety d o f op ty:=fun r hr=>
 let ⟨r',h1,h2⟩:=h r hr
 ⟨r',h1,h2.toC⟩
theorem fJ.pure (x:TS):fJ (.pure x) (.pure (bn x)):=⟨fun _=>trivial,rfl,rfl,rfl⟩
theorem OH {x:TS} (h:bn x=.no):x=.no:=by cases x<;>first | rfl | cases h
theorem aeo (x:Operand):gV tt ety d o f (.move x) ty:=by
 intro r h
 simp only [dN] at h
 split at h
 ·cases h
 ·rename_i s hs
  simp only [Q0] at h;subst h
  refine ⟨.pure (bn (f x)),?_,fJ.pure _⟩
  simp only [kernel]
  split
  ·rename_i e;exact (hs (OH e)).elim
  ·rfl
theorem Y4 (x:Operand):gV tt ety d o f (.assign x) ty:=by
 intro r h
 simp only [dN] at h
 split at h
 ·cases h
 ·rename_i s hs
  simp only [Q0] at h;subst h
  refine ⟨.pure (bn (f x)),?_,fJ.pure _⟩
  simp only [kernel]
  split
  ·rename_i e;exact (hs (OH e)).elim
  ·rfl
theorem aa8 {x:TS} {a i:Bool} {y:P} (h:bn x=.v (.one (.p a i y))) :∃w,x=.v (.one (.p a i w))∧cZ w=y:=by
 cases x with
 |v x=>cases x with
  |one x=>cases x<;>simp [bn,jD,bW] at h<;>exact ⟨_,by rw [h.1,h.2.1],h.2.2⟩
  |agg xs=>cases h
 |_=>cases h
theorem aa9 (b:Bool):cZ ⟨.bool,b⟩=.bool b:=rfl
theorem aep (c x y:Operand):gV tt ety d o f (.pick c x y) ty:=by
 intro r h
 simp only [dN] at h
 split at h
 ·rename_i a0 i0 b hc
  change Bool at b
  have hc':bn (f c)=.v (.one (.p a0 i0 (.bool b))):=by rw [hc];rfl
  split at h
  ·rename_i a i w a' i' w' hx hy
   split at h
   ·rename_i z hz
    simp only [Q0] at h;subst h
    have hx':bn (f x)=.v (.one (.p a i (cZ w))):=by rw [hx];rfl
    have hy':bn (f y)=.v (.one (.p a' i' (cZ w'))):=by rw [hy];rfl
    simp only [kernel,hc',hx',hy']
    refine ⟨_,rfl,⟨fun _=>trivial,?_,rfl,rfl⟩⟩
    have e:=gU hz
    rw [e]
    cases b<;>rfl
   ·cases h
  ·rename_i hno
   have eb:(bif b then bn (f x) else bn (f y))=bn (bif b then f x else f y):=by cases b<;>rfl
   split at h
   ·cases h
   ·rename_i s hs
    simp only [Q0] at h;subst h
    refine ⟨.pure (bn (bif b then f x else f y)),?_,fJ.pure _⟩
    simp only [kernel,hc']
    split
    ·rename_i a1 i1 x1 a2 i2 y1 h1 h2
     obtain ⟨w1,e1,_⟩:=aa8 h1
     obtain ⟨w2,e2,_⟩:=aa8 h2
     exact (hno _ _ _ _ _ _ e1 e2).elim
    ·rw [eb]
     split
     ·rename_i e;exact (hs (OH e)).elim
     ·rfl
 ·cases h
theorem bQ {α:Type} {b:Bool} {x:Option α} {y:α} (h:(bif b then x else none)=some y):b=true∧x=some y:=by
 cases b
 ·cases h
 ·exact ⟨rfl,h⟩
theorem aa_ (t:TypeId):gV tt ety d o f (.alloc t) ty:=by
 intro r h
 simp only [dN] at h
 split at h
 ·rename_i i hi
  simp only [Q0] at h;subst h
  simp only [kernel,hi]
  refine ⟨_,rfl,⟨fun _=>trivial,rfl,?_,rfl⟩⟩
  simp only [iF,Qf,Uv,dY,sH]
 ·cases h
theorem ah3 (t:TypeId) (x:Operand):gV tt ety d o f (.box t x) ty:=by
 intro r h
 simp only [dN] at h
 split at h
 ·rename_i i x' hi hx
  obtain ⟨hb,h⟩:=bQ h
  simp only [Q0] at h;subst h
  simp only [Q6] at hb
  simp only [kernel,hi,hx,bn,uM,Z3]
  rw [if_pos ⟨Q4 hb.1,uN _ hb.2⟩]
  exact ⟨_,rfl,⟨fun _=>trivial,rfl,rfl,rfl⟩⟩
 ·cases h
theorem Ea (ps:List (Nat×Operand)):(ps.map fun p=>(p.1,bn (f p.2)))=(ps.map fun p=>(p.1,f p.2)).map fun p=>(p.1,bn p.2):=by
 rw [V1];rfl
theorem abb (t:TypeId) (ps:Array (Nat×Operand)):gV tt ety d o f (.build t ps) ty:=by
 intro r h
 simp only [dN] at h
 split at h
 ·rename_i i hi
  obtain ⟨hb,h⟩:=bQ h
  split at h
  ·rename_i ws hw
   simp only [Q0] at h;subst h
   have:=CW hw
   rw [sH] at this
   simp only [kernel,hi,hb,if_true,Ea,this]
   exact ⟨_,rfl,fJ.pure _⟩
  ·cases h
 ·cases h
theorem Jh {α β:Type} (g:α→β) (l:List α) :∀n,(Jc l n).map g=fK (l.map g) n
 |0=>rfl
 |n+1=>by simp [Jc,fK,Jh g l n]
theorem AV (e:Ty) :∀(n:Nat) (ws:List Wd),ws.map (·.t)=Jc (iP e) n→aN e (CV e n ws)=chunks (size e) n (ws.map cZ)
 |0,ws,h=>rfl
 |n+1,ws,h=>by
  have h1:(ws.take (size e)).map (·.t)=iP e:=by
   rw [WF,h,Jc,←jk,K1]
  have h2:(ws.drop (size e)).map (·.t)=Jc (iP e) n:=by
   rw [Wt,h,Jc,←jk,Vc]
  simp only [CV,aN,Qf,chunks]
  rw [sF h1,WF]
  congr 1
  rw [←Wt]
  exact AV e n _ h2
theorem kT (a b:List (Nat×TO)):iF (a++b)=iF a++iF b:=by simp [iF]
theorem La (t:TypeId) (n:Nat) (ps:Array (Nat×Operand)):gV tt ety d o f (.buildSlice t n ps) ty:=by
 intro r h
 simp only [dN] at h
 split at h
 ·rename_i e i1 i2 i3 ht
  split at h
  ·rename_i ie et he het
   split at h
   ·rename_i ws hw
    split at h
    ·rename_i qs a i gs hp
     obtain ⟨hb,h⟩:=bQ h
     simp only [Q0] at h;subst h
     simp only [Q6] at hb
     have hsz:=Q4 hb.2
     have:=CW hw
     rw [Jh,sH] at this
     obtain ⟨k1,k2⟩:=yh hp
     simp only [kernel,ht,he,Ea,this,k1]
     rw [if_pos (W6 hb.1)]
     refine ⟨_,rfl,⟨fun _=>trivial,rfl,?_,rfl⟩⟩
     simp only [kT,←o8 (OG hp)]
     congr 1
     simp only [P.list,iF,Qf,Uv,dY,AV et n qs k2,hsz]
    ·cases h
   ·cases h
  ·cases h
 ·cases h
end
end Go.Fg

namespace Go.Fg
open Go.Fw
section
variable [RE] {o:Nat→TO} {tt:TT} {ety:TypeId→Option Ty} {d:Nat} {f:Operand→TS} {ty:TypeId}
theorem gQ {a b:Bool} (h:(a&&b)=true):a=true∧b=true:=by simpa using h
theorem aer (a i:Bool) (ws:List Wd):(tpw a i ws).map bW=ws.map fun w=>W.p a i (cZ w):=by
 simp only [tpw,V1];rfl
theorem yj (e:Ty) (x:Dt e) (a i:Bool) (off n:Nat) (h:off+n≤size e) (df:Nat→P) :
  ((List.range n).map fun j=>W.p a i ((jJ e x).getD (off+j) (df j)))=(tpw a i (((fD e x).drop off).take n)).map bW:=by
 rw [aer,gu]
 apply Ke
 intro j
 simp only [XS,Z6,W5]
 by_cases hj:j<n
 ·have hlt:off+j<(fD e x).length:=by rw [qw];omega
  rw [K6 hj,if_pos hj]
  simp [List.getD_eq_getElem?_getD,Q2 hlt]
 ·rw [Wg (by simp;omega),if_neg hj];rfl
theorem Ji {n:Nat} (h:Nat.blt 0 n=true):0<n:=W6 h
theorem abd {w:Wd} {v:Value} (h:aa3 w v=true):cZ w=Ue [v] 0:=by
 unfold aa3 at h
 split at h
 ·rename_i k n k' n'
  change Int at n
  simp only [Q6,Z8,decide_eq_true_eq] at h
  obtain ⟨h1,h2⟩:=h
  cases hk:aa1 k k' with
  |none=>rw [hk] at h1;cases h1
  |some p=>have e:=p.down;subst e;subst h2;rfl
 ·rename_i b b'
  change Bool at b
  have h:b=b':=LawfulBEq.eq_of_beq h
  subst h;rfl
 ·rename_i s s'
  change List UInt8 at s
  simp only [Q6,List.isEmpty_iff] at h
  obtain ⟨h1,h2⟩:=h
  subst h1
  obtain ⟨⟨l⟩⟩:=s'
  simp only at h2
  subst h2
  rfl
 ·rename_i e l
  change List (Dt e) at l
  have hl:l=[]:=by simpa using h
  subst hl;rfl
 ·cases h
theorem Eb :∀{ws:List Wd} {vs:List Value},tZ ws vs=true→∀j,(ws.map cZ)[j]?=if j<vs.length then some (Ue vs j) else none
 | [],[],h,j=>by simp
 |w::ws,[],h,j=>by simp [tZ] at h
 | [],v::vs,h,j=>by simp [tZ] at h
 |w::ws,v::vs,h,j=>by
  obtain ⟨h1,h2⟩:=gQ h
  cases j with
  |zero=>simp only [Qf,UP,K8,Nat.zero_lt_succ,if_true,abd h1];rfl
  |succ j=>
   have:=Eb h2 j
   simp only [Qf,Vi,K8,this,Nat.succ_lt_succ_iff]
   rfl
theorem OI (e:Ty) (l:List (Dt e)) (n off size':Nat) (z:List Value) (h:off+size'≤size e) (hz:tZ (((fD e (dflt e)).drop off).take size') z=true) (a i:Bool) :
  ((List.range size').map fun j=>W.p a i (((aN e l).getD n []).getD (off+j) (Ue z j)))=(tpw a i (((fD e (l.getD n (dflt e))).drop off).take size')).map bW:=by
 by_cases hn:n<l.length
 ·have e1:(aN e l).getD n []=jJ e (l.getD n (dflt e)):=by simp [aN,List.getD_eq_getElem?_getD,hn]
  rw [e1]
  exact yj e _ a i off size' h _
 ·have e1:(aN e l).getD n []=[]:=by simp [aN,List.getD_eq_getElem?_getD,Wg (KM hn)]
  have e2:l.getD n (dflt e)=dflt e:=by simp [List.getD_eq_getElem?_getD,Wg (KM hn)]
  rw [e1,e2,←yj e _ a i off size' h (Ue z)]
  refine W8 fun j hj => ?_
  have hj:j<size':=Jn.1 hj
  have:=Eb hz j
  rw [WF,Wt,Z6,if_pos hj,W5,←gu] at this
  have hlen:off+j<(jJ e (dflt e)).length:=by rw [Ja];omega
  rw [List.getD_eq_getElem?_getD,List.getD_eq_getElem?_getD,this]
  split
  ·rfl
  ·rfl
theorem aes (t:TypeId) (x:Operand):gV tt ety d o f (.load t x) ty:=by
 intro r h
 simp only [dN] at h
 split at h
 ·rename_i i g off ht hx
  have hx':bn (f x)=.v (.one (.box g off)):=by rw [hx];rfl
  split at h
  ·rename_i ws hg
   obtain ⟨hb,h⟩:=bQ h
   simp only [Q0] at h;subst h
   obtain ⟨h1,h2⟩:=gQ hb
   simp only [kernel,ht,hx',oG hg,Z3]
   rw [if_pos ⟨W6 h1,Ji h2⟩]
   refine ⟨_,rfl,?_⟩
   have:=fJ.pure (TV.fQ i.agg ((ws.drop off).take i.size))
   rw [kR,WF,Wt] at this
   exact this
  ·cases h
 ·rename_i i g n off ht hx
  have hx':bn (f x)=.v (.one (.ep g (.int .i64 n) off)):=by rw [hx];rfl
  split at h
  ·rename_i fz a i' e l hg
   obtain ⟨hb,h⟩:=bQ h
   simp only [Q0] at h;subst h
   obtain ⟨hb,h3⟩:=gQ hb
   obtain ⟨h1,h2⟩:=gQ hb
   have h1:=W6 h1
   simp only [kernel,ht,hx',gY hg]
   rw [if_pos ⟨h1,Ji h2⟩]
   refine ⟨_,rfl,⟨fun _=>trivial,?_,rfl,rfl⟩⟩
   simp only [Gx.pure,kR]
   congr 1
   have en:(P.int .i64 n).nat=n.toNat:=rfl
   rw [en]
   exact OI e l n.toNat off i.size i.zero h1 h3 a i'
  ·cases h
 ·rename_i i a i' e x' off ht hx
  have hx':bn (f x)=.v (.one (.sp a i' (jJ e x') off)):=by rw [hx];rfl
  obtain ⟨hb,h⟩:=bQ h
  simp only [Q0] at h;subst h
  obtain ⟨h1,h2⟩:=gQ hb
  have h2:=W6 h2
  simp only [kernel,ht,hx']
  rw [if_pos (Ji h1)]
  refine ⟨_,rfl,⟨fun _=>by rw [Ja];exact h2,?_,rfl,rfl⟩⟩
  simp only [rJ.pure,kR]
  congr 1
  exact yj e x' a i' off i.size h2 fun _=>default
 ·cases h
theorem bT (g:Nat) :∀(l:List Nat),fH g l=l.contains g
 | []=>rfl
 |x::xs=>by
  simp only [fH,List.contains_cons,bT g xs]
  congr 1
  rw [Bool.eq_iff_iff];simp
theorem aeu (e:Ty) (l:List (Dt e)) (n:Nat) (x:Dt e):aN e (l.set n x)=(aN e l).set n (jJ e x):=by simp [aN,List.map_set]
theorem abe (t:TypeId) (x y:Operand):gV tt ety d o f (.store t x y) ty:=by
 intro r h
 simp only [dN] at h
 split at h
 ·rename_i i g off y' ht hx hy
  have hx':bn (f x)=.v (.one (.box g off)):=by rw [hx];rfl
  have hy':bn (f y)=.v (jD y'):=by rw [hy];rfl
  split at h
  ·rename_i ws hg
   obtain ⟨hb,h⟩:=bQ h
   simp only [Q0] at h;subst h
   obtain ⟨hb,h3⟩:=gQ hb
   obtain ⟨h1,h2⟩:=gQ hb
   simp only [kernel,ht,hx',hy',oG hg,Z3,uM]
   rw [if_pos ⟨W6 h1,Q4 h2,uN _ h3⟩]
   refine ⟨_,rfl,⟨fun _=>trivial,rfl,?_,rfl⟩⟩
   simp only [iF,Qf,Uv,dY,qg]
  ·cases h
 ·rename_i i g n off y' ht hx hy
  have hx':bn (f x)=.v (.one (.ep g (.int .i64 n) off)):=by rw [hx];rfl
  have hy':bn (f y)=.v (jD y'):=by rw [hy];rfl
  split at h
  ·rename_i a i' e l hg
   split at h
   ·rename_i ps a' i'' gs hp
    obtain ⟨hb,h⟩:=bQ h
    simp only [Q0] at h;subst h
    obtain ⟨hb,h4⟩:=gQ hb
    obtain ⟨hb,h3⟩:=gQ hb
    obtain ⟨h1,h2⟩:=gQ hb
    have h1:=W6 h1
    have h2:=Q4 h2
    obtain ⟨k1,k2⟩:=yh hp
    have hl:ps.length=i.size:=by
     have:=congrArg List.length k2
     simp [jk] at this
     omega
    simp only [kernel,ht,hx',hy',gY hg,uM,k1,Z3]
    rw [if_pos ⟨h1,hl,h2,uN _ h3,by simpa [bT] using h4⟩]
    refine ⟨_,rfl,⟨fun _=>trivial,rfl,?_,rfl⟩⟩
    simp only [kT,←o8 (OG hp)]
    congr 1
    simp only [P.list,iF,Qf,Uv,dY,aeu]
    have en:(P.int .i64 n).nat=n.toNat:=rfl
    rw [en]
    by_cases hn:n.toNat<l.length
    ·have e1:(aN e l).getD n.toNat []=jJ e (l.getD n.toNat (dflt e)):=by simp [aN,List.getD_eq_getElem?_getD,hn]
     have hty:(aQ (fD e (l.getD n.toNat (dflt e))) off ps).map (·.t)=iP e:=by
      have e0:iP e=(iP e).take off++(((iP e).drop off).take i.size++(iP e).drop (off+i.size)):=by
       rw [←List.drop_drop,UI,UI]
      simp only [aQ,Z1,WF,Wt,qN,k2,hl,Wa]
      exact e0.symm
     have key:jJ e (KZ e (Nat.beq i.size (size e)) (l.getD n.toNat (dflt e)) off ps)=aQ ((aN e l).getD n.toNat []) off (ps.map cZ):=by
      rw [e1]
      unfold KZ
      cases hc:Nat.beq i.size (size e) with
      |true=>
       have hc:=Q4 hc
       have h0:off=0:=by omega
       subst h0
       have e2:aQ (fD e (l.getD n.toNat (dflt e))) 0 ps=ps:=by
        simp only [aQ,List.take_zero,K4,We]
        rw [List.drop_of_length_le (by rw [qw];omega),VS]
       have e3:aQ (jJ e (l.getD n.toNat (dflt e))) 0 (ps.map cZ)=ps.map cZ:=by
        rw [gu,←qg,e2]
       rw [e2] at hty
       rw [e3]
       exact sF hty
      |false=>
       simp only
       rw [sF hty,qg,←gu]
     rw [key]
    ·have e1 :∀z,(aN e l).set n.toNat z=aN e l:=fun z=>List.set_eq_of_length_le (by rw [gB];omega)
     rw [e1,e1]
   ·cases h
  ·cases h
 ·cases h
theorem Rj (x:Operand):gV tt ety d o f (.nilCheck x) ty:=by
 intro r h
 simp only [dN] at h
 split at h
 ·rename_i x' hx
  obtain ⟨hb,h⟩:=bQ h
  simp only [Q0] at h;subst h
  have hx':bn (f x)=.v (.one (bW x')):=by rw [hx];rfl
  simp only [kernel,hx']
  rw [if_pos (Jg hb)]
  exact ⟨_,rfl,fJ.pure _⟩
 ·cases h
theorem UZ {op:BinOp} {k k':IntKind} {a b:Int} {c:Bool×Wd} (h:UR op k k' a b=some c):(c.1=true→P.Qe op (.int k a) (.int k' b))∧P.bin op (.int k a) (.int k' b)=cZ c.2:=by
 unfold UR at h
 cases op<;>simp only at h
 case shl=>simp only [Q0] at h;subst h;exact ⟨fun h=>(by simpa using h:0≤b),rfl⟩
 case shr=>simp only [Q0] at h;subst h;exact ⟨fun h=>(by simpa using h:0≤b),rfl⟩
 all_goals
  split at h
  ·cases h
  ·rename_i p hp
   obtain ⟨e⟩:=p
   subst e
   simp only [Q0] at h
   first
    |(cases h;done)
    |(
      
      subst h
      refine ⟨fun h => ?_,?_⟩
      ·first
       |exact rfl
       |(simp at h;exact ⟨rfl,h⟩)
      ·first
       |rfl
       |(simp only [P.bin,iM,aa9];congr 1))
theorem Y5 (a b:List UInt8):(⟨a.toArray⟩++⟨b.toArray⟩:ByteArray)=⟨(a++b).toArray⟩:=by
 apply ByteArray.ext;simp [ByteArray.data_append]
theorem Ec (a:List UInt8):(⟨a.toArray⟩:ByteArray).toList=a:=by rw [ByteArray.toList_eq]
theorem U0 {op:BinOp} {a b:List UInt8} {c:Bool×Wd} (h:UU op a b=some c):(c.1=true→P.Qe op (.str ⟨a.toArray⟩) (.str ⟨b.toArray⟩))∧P.bin op (.str ⟨a.toArray⟩) (.str ⟨b.toArray⟩)=cZ c.2:=by
 unfold UU at h
 cases op<;>simp only [Q0] at h<;>try (cases h;done)
 all_goals subst h
 case add=>
  refine ⟨fun h => ?_,?_⟩
  ·simp only [oC] at h
   show a.toArray.size+b.toArray.size≤_
   simp only [Kf];omega
  ·simp only [P.bin,Y5];rfl
 all_goals exact ⟨fun _=>trivial,by simp only [P.bin,Ec];rfl⟩
theorem Rk {op:BinOp} {a b:Bool} {c:Bool×Wd} (h:OC op a b=some c):(c.1=true→P.NJ op (.bool a) (.bool b))∧P.bin op (.bool a) (.bool b)=cZ c.2:=by
 unfold OC at h
 cases op<;>simp only [Q0] at h<;>try (cases h;done)
 all_goals subst h
 ·exact ⟨fun _=>.inl rfl,rfl⟩
 ·exact ⟨fun _=>.inr rfl,rfl⟩
theorem fJ.oD {c:Bool×Wd} {pre:Prop} {x:P} (h:c.1=true→pre) (hx:x=cZ c.2):fJ (.oD c) (.calc pre x):=by
 subst hx
 obtain ⟨c1,t,y⟩:=c
 exact ⟨h,rfl,rfl,rfl⟩
theorem aev (a b:List UInt8):P.eqB (.str ⟨a.toArray⟩) (.str ⟨b.toArray⟩)=(a==b):=by
 show ((⟨a.toArray⟩:ByteArray)==⟨b.toArray⟩)=_
 rw [beq_toListBytes,Ec,Ec]
theorem abf {k:TK} {x y:Wd} {b:Bool} (h:ah1 k x y=some b):Wi k (cZ x) (cZ y)∧P.eqB (cZ x) (cZ y)=b:=by
 unfold ah1 at h
 split at h
 ·unfold ag6 at h
  split at h
  ·rename_i p hp
   obtain ⟨e⟩:=p
   subst e
   simp only [Q0] at h;subst h
   exact ⟨rfl,rfl⟩
  ·cases h
 ·rename_i a b'
  simp only [eqStr,Q0] at h;subst h
  exact ⟨trivial,aev a b'⟩
 ·simp only [akk,Q0] at h;subst h
  exact ⟨trivial,rfl⟩
 ·cases h
theorem Rl {tt:TT} :∀(fs:List (Nat×TypeId)) (n:Nat) (xs ys:List TW) (b:Bool),GK tt n fs xs ys=some b→∃c,ni tt n fs (xs.map bW) (ys.map bW)=some c∧c.1∧c.2=b
 | [],n,[],[],b,h=>by
  simp only [GK,Q0] at h;subst h
  exact ⟨(True,true),rfl,trivial,rfl⟩
 |(off,t)::fs,n,x::xs,y::ys,b,h=>by
  cases x with
  |p a1 i1 x=>cases y with
   |p a2 i2 y=>
    simp only [GK] at h
    split at h
    ·rename_i i hi
     cases hb:(Nat.beq off n&&i.k.flat&&Nat.beq i.size 1) with
     |false=>rw [hb] at h;cases h
     |true=>
      rw [hb] at h
      simp only [cond_true] at h
      split at h
      ·rename_i b1 b2 h1 h2
       simp only [Q0] at h;subst h
       obtain ⟨c,e1,e2,e3⟩:=Rl fs (n+1) xs ys b2 h2
       obtain ⟨q1,q2⟩:=abf h1
       simp only [Q6] at hb
       have hoff:off=n∧i.k.flat=true∧i.size=1:=⟨Q4 hb.1.1,hb.1.2,Q4 hb.2⟩
       refine ⟨(Wi i.k (cZ x) (cZ y)∧c.1,P.eqB (cZ x) (cZ y)&&c.2),?_,⟨q1,e2⟩,by rw [q2,e3]⟩
       simp only [Qf,bW,ni,hi]
       rw [if_pos hoff,e1]
      ·cases h
    ·cases h
   |_=>simp [GK] at h
  |_=>simp [GK] at h
 | [],n,_::_,_,b,h=>by simp [GK] at h
 | [],n,[],_::_,b,h=>by simp [GK] at h
 |_::_,n,[],_,b,h=>by simp [GK] at h
 |_::_,n,x::xs,[],b,h=>by cases x<;>simp [GK] at h
theorem abg (op:BinOp) (t:TypeId) (x y:Operand) (u:TypeId):gV tt ety d o f (.binOp op t x y u) ty:=by
 intro r h
 simp only [dN] at h
 split at h
 ·rename_i a1 i1 x' a2 i2 y' hx hy
  have hx':bn (f x)=.v (.one (.p a1 i1 (cZ x'))):=by rw [hx];rfl
  have hy':bn (f y)=.v (.one (.p a2 i2 (cZ y'))):=by rw [hy];rfl
  split at h
  ·rename_i i ht
   split at h
   ·rename_i c hc
    simp only [Q0] at h;subst h
    obtain ⟨ik,isz,ib,iz⟩:=i
    simp only at hc
    unfold akj at hc
    split at hc
    ·obtain ⟨k1,k2⟩:=UZ hc
     simp only [kernel,hx',hy',ht]
     exact ⟨_,rfl,fJ.oD k1 k2⟩
    ·obtain ⟨k1,k2⟩:=U0 hc
     simp only [kernel,hx',hy',ht]
     exact ⟨_,rfl,fJ.oD k1 k2⟩
    ·obtain ⟨k1,k2⟩:=Rk hc
     simp only [kernel,hx',hy',ht]
     exact ⟨_,rfl,fJ.oD k1 k2⟩
    ·cases hc
   ·cases h
  ·cases h
 ·rename_i xs ys hx hy
  have hx':bn (f x)=.v (.agg (xs.map bW)):=by rw [hx];rfl
  have hy':bn (f y)=.v (.agg (ys.map bW)):=by rw [hy];rfl
  split at h
  ·rename_i i ht
   have key :∀{b q:Bool} {v:Bool},GK tt 0 i.k.parts xs ys=some b→ad4 op=some q→i.eq=true→v=(b==q)→∃r',kernel tt d (bY o) (fun a=>bn (f a)) (.binOp op t x y u) ty=some r'∧fJ (.oD (true,iM v)) r':=by
    intro b q v h1 h2 h3 h4
    obtain ⟨c,e1,e2,e3⟩:=Rl _ _ _ _ _ h1
    simp only [kernel,hx',hy',ht,e1,h2]
    rw [if_pos h3]
    exact ⟨_,rfl,fJ.oD (fun _=>e2) (by rw [e3,h4];rfl)⟩
   split at h
   ·rename_i b h1 h2
    cases h3:i.eq with
    |false=>rw [h3] at h;cases h
    |true=>
     rw [h3] at h
     simp only [cond_true,Q0] at h;subst h
     exact key (v:=b) h1 h2 h3 (by cases b<;>rfl)
   ·rename_i b h1 h2
    cases h3:i.eq with
    |false=>rw [h3] at h;cases h
    |true=>
     rw [h3] at h
     simp only [cond_true,Q0] at h;subst h
     exact key (v:=!b) h1 h2 h3 (by cases b<;>rfl)
   ·cases h
  ·cases h
 ·cases h
theorem aew (op:UnOp) (t:TypeId) (x:Operand):gV tt ety d o f (.unOp op t x) ty:=by
 intro r h
 simp only [dN] at h
 split at h
 ·rename_i a1 i1 x' hx
  have hx':bn (f x)=.v (.one (.p a1 i1 (cZ x'))):=by rw [hx];rfl
  split at h
  ·rename_i c hc
   simp only [Q0] at h;subst h
   simp only [kernel,hx']
   unfold unT at hc
   split at hc
   ·simp only [Q0] at hc;subst hc
    exact ⟨_,rfl,fJ.oD (fun _=>trivial) rfl⟩
   ·simp only [Q0] at hc;subst hc
    exact ⟨_,rfl,fJ.oD (fun _=>trivial) rfl⟩
   ·cases hc
  ·cases h
 ·cases h
theorem U1 (s t:TypeId) (x:Operand):gV tt ety d o f (.convert s t x) ty:=by
 intro r h
 simp only [dN] at h
 split at h
 ·rename_i k0 s0 b0 z0 k s1 b1 z1 a1 i1 k2 x' hs ht hx
  have hx':bn (f x)=.v (.one (.p a1 i1 (.int k2 x'))):=by rw [hx];rfl
  simp only [Q0] at h;subst h
  simp only [kernel,hs,ht,hx']
  exact ⟨_,rfl,⟨fun _=>trivial,rfl,rfl,rfl⟩⟩
 ·rename_i e s0 b0 z0 s1 b1 z1 x' hs ht hx
  have hx':bn (f x)=.v (.one (bW x')):=by rw [hx];rfl
  split at h
  ·rename_i s2 b2 z2 he
   split at h
   ·rename_i l a1 i1 hr
    simp only [Q0] at h;subst h
    obtain ⟨ask,hr',hask⟩:=Ri hr
    have hr':(bW x').rows (bY o) 1=some (ask,aN (.int .u8) l,a1,i1):=hr'
    simp only [kernel,hs,ht,hx',he,hr']
    refine ⟨_,rfl,⟨fun _=>⟨hask,fun r hr => ?_⟩,?_,rfl,rfl⟩⟩
    ·simp only [aN,QQ] at hr
     obtain ⟨n,_,rfl⟩:=hr
     exact ⟨n,rfl⟩
    ·have e:HY (aN (.int .u8) l)=cZ ⟨.str,strOf l⟩:=by
      show P.str _=P.str _
      congr 2
      simp only [aN,V1,strOf]
      congr 1
     show S.v (V.one (W.p false false (HY (aN (.int .u8) l))))=_
     rw [e];rfl
   ·cases h
  ·cases h
 ·rename_i s0 b0 z0 e s1 b1 z1 a1 i1 x' hs ht hx
  change List UInt8 at x'
  have hx':bn (f x)=.v (.one (.p a1 i1 (.str ⟨x'.toArray⟩))):=by rw [hx];rfl
  split at h
  ·rename_i s2 b2 z2 he
   simp only [Q0] at h;subst h
   simp only [kernel,hs,ht,hx',he]
   refine ⟨_,rfl,⟨fun _=>trivial,?_,rfl,rfl⟩⟩
   have e:NK (.str ⟨x'.toArray⟩)=cZ ⟨.sl (.int .u8),ah0 x'⟩:=by
    show P.fF 1 _=P.fF 1 _
    have key :∀l:List UInt8,(l.map fun b=>[P.int .u8 (b.toNat:Int)])=aN (.int .u8) (ah0 l):=by
     intro l
     induction l with
     |nil=>rfl
     |cons a l ih=>exact congrArg (List.cons _) ih
    exact congrArg (P.fF 1) (key x')
   show S.v (V.one (W.p false false (NK (.str ⟨x'.toArray⟩))))=_
   rw [e];rfl
  ·cases h
 ·cases h
end
end Go.Fg

namespace Go.Fg
open Go.Fw
section
variable [RE] {o:Nat→TO} {tt:TT} {ety:TypeId→Option Ty} {d:Nat} {f:Operand→TS} {ty:TypeId}
theorem yt {k:IntKind} {n:Int} {m:Nat} (h:inB n m=true):inRange (.int k n) m:=by
 simp only [inB,Q6,decide_eq_true_eq] at h;exact h
theorem OJ (t:TypeId) (n c:Operand):gV tt ety d o f (.makeSlice t n c) ty:=by
 intro r h
 simp only [dN] at h
 split at h
 ·rename_i e i1 i2 i3 a1 j1 n' a2 j2 c' ht hn hc
  change Int at n';change Int at c'
  have hn':bn (f n)=.v (.one (.p a1 j1 (.int .i64 n'))):=by rw [hn];rfl
  have hc':bn (f c)=.v (.one (.p a2 j2 (.int .i64 c'))):=by rw [hc];rfl
  split at h
  ·rename_i ie et he het
   split at h
   ·rename_i ps hp
    obtain ⟨hb,h⟩:=bQ h
    simp only [Q0] at h;subst h
    obtain ⟨h1,h2⟩:=gQ hb
    obtain ⟨k1,k2⟩:=yh hp
    have hsz:=Q4 h2
    rw [sH] at k1
    simp only [kernel,ht,hn',hc',he,k1]
    rw [if_pos (Ji h1)]
    refine ⟨_,rfl,⟨fun hp => ?_,rfl,?_,rfl⟩⟩
    ·simp only [uJ,Q6,decide_eq_true_eq] at hp
     obtain ⟨⟨⟨p1,p2⟩,p3⟩,p4⟩:=hp
     refine ⟨n'.toNat,c'.toNat,by rw [JN p1],by rw [JN (by omega)],by omega,?_,by omega⟩
     have e:((ie.bytes*c'.toNat:Nat):Int)=ie.bytes*c':=by rw [Int.natCast_mul,JN (by omega)]
     omega
    ·simp only [P.list,iF,Qf,Uv,dY,hsz]
     have en:(P.int .i64 n').nat=n'.toNat:=rfl
     rw [en]
     simp only [aN,List.map_replicate]
     rw [sF k2]
   ·cases h
  ·cases h
 ·cases h
theorem nO {df:Int} {lo:Option Operand} {m:Int} (h:mV df (lo.map f)=some m):ny (.int .i64 df) (lo.map fun x=>bn (f x))=some (.int .i64 m):=by
 cases lo with
 |none=>simp only [Ka,mV,Q0] at h;subst h;rfl
 |some x=>
  simp only [ZZ] at h ⊢
  unfold mV at h
  split at h
  ·rename_i hh;cases hh
  ·rename_i hh
   simp only [Q0] at hh
   cases h
   rw [hh];rfl
  ·cases h
theorem uO {lo hi:Int} {len:Nat} (h:zG lo hi len=true) :∃m k:Nat,P.int .i64 lo=.int .i64 m∧P.int .i64 hi=.int .i64 k∧m≤k∧k≤len:=by
 simp only [zG,Q6,decide_eq_true_eq] at h
 exact ⟨lo.toNat,hi.toNat,by rw [JN (by omega)],by rw [JN (by omega)],by omega,by omega⟩
theorem U2 (y:List UInt8) (a b:Nat):(⟨y.toArray⟩:ByteArray).extract a b=⟨((y.take b).drop a).toArray⟩:=by
 apply ByteArray.ext
 simp [ByteArray.data_extract,List.drop_take]
theorem Y6 (t:TypeId) (x hi mx:Operand):gV tt ety d o f (.slice t x none (some hi) (some mx)) ty:=by
 intro r h
 simp only [dN] at h
 unfold WO at h
 split at h
 ·rename_i e i1 i2 i3 g a1 j1 h' a2 j2 m' ht hx hh hm
  change Int at h';change Int at m'
  have hx':bn (f x)=.v (.one (.own g)):=by rw [hx];rfl
  have hh':bn (f hi)=.v (.one (.p a1 j1 (.int .i64 h'))):=by rw [hh];rfl
  have hm':bn (f mx)=.v (.one (.p a2 j2 (.int .i64 m'))):=by rw [hm];rfl
  split at h
  ·rename_i ie a i e' l he hg
   obtain ⟨hb,h⟩:=bQ h
   simp only [Q0] at h;subst h
   have hg':bY o g=.arr false a i (size e') (aN e' l):=by unfold bY;rw [hg];rfl
   simp only [kernel,BO,ht,hx',hh',hm',he,hg']
   rw [if_pos (Q4 hb)]
   refine ⟨_,rfl,⟨fun hp => ?_,rfl,rfl,rfl⟩⟩
   obtain ⟨k,j,q1,q2,q3,q4⟩:=uO hp
   exact ⟨k,j,q1,q2,q3,by rw [gB];exact q4⟩
  ·cases h
 ·rename_i e i1 i2 i3 a1 j1 h' a2 j2 m' ht hx hh hm
  change Int at h';change Int at m'
  have hx':bn (f x)=.v (.one .cO):=by rw [hx];rfl
  have hh':bn (f hi)=.v (.one (.p a1 j1 (.int .i64 h'))):=by rw [hh];rfl
  have hm':bn (f mx)=.v (.one (.p a2 j2 (.int .i64 m'))):=by rw [hm];rfl
  split at h
  ·rename_i ie he
   simp only [Q0] at h;subst h
   simp only [kernel,BO,ht,hx',hh',hm',he]
   refine ⟨_,rfl,⟨fun hp => ?_,rfl,rfl,rfl⟩⟩
   obtain ⟨k,j,q1,q2,q3,q4⟩:=uO hp
   have hj:j=0:=by omega
   have hk:k=0:=by omega
   subst hj;subst hk
   exact ⟨q1,q2⟩
  ·cases h
 ·cases h
theorem abh (args:Array Operand) (ts:Array TypeId):gV tt ety d o f (.call { callee:=.builtin .clear,args:=args,argTypes:=ts }) ty:=by
 intro r h
 simp only [dN] at h
 split at h
 ·rename_i x t tl ha hts
  unfold aa4 at h
  split at h
  ·rename_i e i1 i2 i3 g lo hi ht hx
   change Int at lo;change Int at hi
   have hx':bn (f x)=.v (.one (.vw g (.int .i64 lo) (.int .i64 hi))):=by rw [hx];rfl
   split at h
   ·rename_i ie a i et l he hg
    obtain ⟨hb,h⟩:=bQ h
    split at h
    ·rename_i ps hp
     simp only [Q0] at h;subst h
     obtain ⟨h1,h2⟩:=gQ hb
     obtain ⟨k1,k2⟩:=yh hp
     have hsz:=Q4 h1
     rw [sH] at k1
     have hg':bY o g=.arr false a i (size et) (aN et l):=by unfold bY;rw [hg];rfl
     simp only [kernel,ha,hts,NM,ht,hx',he,hg',k1]
     rw [if_pos ⟨hsz,by rw [hsz];exact Ji h2⟩]
     refine ⟨_,rfl,⟨fun hp=>W6 hp,rfl,?_,rfl⟩⟩
     simp only [P.list,iF,Qf,Uv,dY]
     have e1:(P.int .i64 lo).nat=lo.toNat:=rfl
     have e2:(P.int .i64 hi).nat=hi.toNat:=rfl
     rw [e1,e2]
     simp only [aN,aki,aQ,Z1,WF,Wt,List.map_replicate,UB]
     rw [sF k2]
    ·cases h
   ·cases h
  ·cases h
 ·cases h
theorem abj (t:TypeId) (x:Operand) (lo hi:Option Operand):gV tt ety d o f (.slice t x lo hi none) ty:=by
 intro r h
 simp only [dN] at h
 split at h
 ·rename_i e i1 i2 i3 x' ht hx
  have hx':bn (f x)=.v (.one (bW x')):=by rw [hx];rfl
  split at h
  ·rename_i ie et len he het hlen
   split at h
   ·rename_i lo' hi' hlo hhi
    obtain ⟨ask,hl,hask⟩:=WQ hlen
    have Ib:=nO hlo
    have Ak:=nO hhi
    have en0:lN 0=P.int .i64 0:=rfl
    simp only [kernel,ht,hx',he,hl,en0,Ib,Ak]
    split at h
    ·rename_i g
     split at h
     ·rename_i e' l hg
      obtain ⟨hb,h⟩:=bQ h
      simp only [Q0] at h;subst h
      simp only [bW,o7 hg]
      rw [if_pos (Q4 hb)]
      refine ⟨_,rfl,⟨fun hp => ?_,rfl,rfl,rfl⟩⟩
      exact uO hp
     ·cases h
    ·rename_i a i w
     split at h
     ·rename_i l hl'
      change List (Dt et) at l
      obtain ⟨hb,h⟩:=bQ h
      simp only [Q0] at h;subst h
      have hsz:=Q4 hb
      simp only [bW]
      refine ⟨_,rfl,⟨fun hp=>⟨hask,?_,?_⟩,?_,rfl,rfl⟩⟩
      ·rw [gU hl',←hsz];exact Jf _ _
      ·rw [gU hl',lq,gB];exact uO hp
      ·rw [gU hl']
       show S.v (V.one (W.p a i (P.sub ie.size (P.int .i64 lo').nat (P.int .i64 hi').nat (cZ ⟨.sl et,l⟩))))=S.v (V.one (W.p a i (cZ ⟨.sl et,List.drop lo'.toNat (List.take hi'.toNat l)⟩)))
       rw [P.sub,lq,sG,←hsz];rfl
     ·cases h
    ·simp only [Q0] at h;subst h
     simp only [bW]
     refine ⟨_,rfl,⟨fun hp => ?_,rfl,rfl,rfl⟩⟩
     obtain ⟨h1,h2⟩:=gQ hp
     have h1:lo'=0:=by simpa using h1
     have h2:hi'=0:=by simpa using h2
     subst h1;subst h2;exact ⟨rfl,rfl⟩
    ·cases h
   ·cases h
  ·cases h
 ·rename_i s0 b0 z0 a1 i1 y ht hx
  have hx':bn (f x)=.v (.one (.p a1 i1 (.str ⟨y.toArray⟩))):=by rw [hx];rfl
  change List UInt8 at y
  split at h
  ·rename_i lo' hi' hlo hhi
   simp only [Q0] at h;subst h
   have Ib:=nO hlo
   have Ak:=nO hhi
   have en0:lN 0=P.int .i64 0:=rfl
   have el:(P.str ⟨y.toArray⟩).len=P.int .i64 (y.length:Nat):=by show P.int .i64 (y.toArray.size:Nat)=_;simp
   simp only [kernel,ht,hx',en0,el,Ib,Ak]
   refine ⟨_,rfl,⟨fun hp=>⟨trivial,?_⟩,?_,rfl,rfl⟩⟩
   ·have:=uO hp
    simpa [P.bytes,ByteArray.size] using this
   ·show S.v (V.one (W.p false false (P.str ((⟨y.toArray⟩:ByteArray).extract lo'.toNat hi'.toNat))))=S.v (V.one (W.p false false (P.str ⟨(List.drop lo'.toNat (List.take hi'.toNat y)).toArray⟩)))
    rw [U2]
  ·cases h
 ·cases h
theorem OL (t:TypeId) (x:Operand) (n:Nat):gV tt ety d o f (.fieldAddr t x n) ty:=by
 intro r h
 simp only [dN] at h
 split at h
 ·rename_i fs i1 i2 i3 off' sz' x' ht hp hx
  have hx':bn (f x)=.v (.one (bW x')):=by rw [hx];rfl
  obtain ⟨hb,h⟩:=bQ h
  simp only [Q0] at h;subst h
  obtain ⟨h1,h2⟩:=gQ hb
  simp only [kernel,ht,hp,hx']
  rw [if_pos ⟨Ji h1,Jg h2⟩]
  refine ⟨_,rfl,?_⟩
  have:=fJ.pure (.v (.one (x'.shift off')))
  simpa only [bn,jD,MF] using this
 ·cases h
theorem abk (t:TypeId) (x:Operand) (n:Nat):gV tt ety d o f (.field t x n) ty:=by
 intro r h
 simp only [dN] at h
 split at h
 ·rename_i fs i1 i2 i3 ws ht hx
  have hx':bn (f x)=.v (.agg (ws.map bW)):=by rw [hx];rfl
  split at h
  ·rename_i off u hf
   split at h
   ·rename_i iu hu
    obtain ⟨hb,h⟩:=bQ h
    simp only [Q0] at h;subst h
    obtain ⟨h1,h2⟩:=gQ hb
    simp only [kernel,ht,hx',hf,hu,Z3]
    rw [if_pos ⟨W6 h1,Ji h2⟩]
    refine ⟨_,rfl,?_⟩
    have:=fJ.pure (TV.fQ iu.agg ((ws.drop off).take iu.size))
    rw [kR,WF,Wt] at this
    exact this
   ·cases h
  ·cases h
 ·cases h
theorem OM (t:TypeId) (x ix:Operand):aa7 tt ety d o f (.indexAddr t x ix) ty:=by
 intro r h
 simp only [dN] at h
 split at h
 ·rename_i e i1 i2 i3 x' a1 j1 k n ht hx hn
  change Int at n
  have hx':bn (f x)=.v (.one (bW x')):=by rw [hx];rfl
  have hn':bn (f ix)=.v (.one (.p a1 j1 (.int k n))):=by rw [hn];rfl
  have en:(P.int k n).nat=n.toNat:=rfl
  split at h
  ·rename_i ie et g he het
   split at h
   ·rename_i e' l hg
    obtain ⟨hb,h⟩:=bQ h
    simp only [Q0] at h;subst h
    simp only [kernel,ht,hx',hn',he,bW,o7 hg]
    rw [if_pos (Q4 hb)]
    refine ⟨_,rfl,fJ.toC ⟨fun hp => ?_,rfl,rfl,rfl⟩⟩
    exact yt (k:=k) hp
   ·cases h
  ·rename_i ie et g lo hi he het
   split at h
   ·rename_i e' l hg
    obtain ⟨hb,h⟩:=bQ h
    simp only [Q0] at h;subst h
    simp only [kernel,ht,hx',hn',he,bW,o7 hg]
    rw [if_pos (Q4 hb)]
    exact ⟨_,rfl,fJ.toC ⟨fun hp=>yt (k:=k) hp,rfl,rfl,rfl⟩⟩
   ·cases h
  ·rename_i ie et a i w he het
   split at h
   ·rename_i l hl
    change List (Dt et) at l
    obtain ⟨hb,h⟩:=bQ h
    simp only [Q0] at h;subst h
    have hsz:=Q4 hb
    simp only [kernel,ht,hx',hn',he,bW]
    refine ⟨_,rfl,⟨fun hp=>⟨fun _=>⟨?_,?_⟩,?_,rfl,rfl⟩,rfl⟩⟩
    ·rw [gU hl,←hsz];exact Jf _ _
    ·rw [gU hl,lq,gB];exact yt (k:=k) hp
    ·have hlt:n.toNat<l.length:=by
      have hp:inB n l.length=true:=hp
      simp only [inB,Q6,decide_eq_true_eq] at hp;omega
     rw [gU hl]
     show S.v (V.one (W.sp a i ((cZ ⟨.sl et,l⟩).list.getD (P.int k n).nat []) 0))=S.v (V.one (W.sp a i (jJ et (List.getD l n.toNat (dflt et))) 0))
     rw [lq,en]
     simp [aN,List.getD_eq_getElem?_getD,hlt]
   ·cases h
  ·cases h
 ·rename_i m e i1 i2 i3 g a1 j1 k n ht hx hn
  change Int at n
  have hx':bn (f x)=.v (.one (.gl g)):=by rw [hx];rfl
  have hn':bn (f ix)=.v (.one (.p a1 j1 (.int k n))):=by rw [hn];rfl
  split at h
  ·rename_i ie et l he hg
   obtain ⟨hb,h⟩:=bQ h
   simp only [Q0] at h;subst h
   obtain ⟨h1,h2⟩:=gQ hb
   have h1:=Q4 h1
   have h2:=Q4 h2
   simp only [kernel,ht,hx',hn',he,ag5,hg,ZZ]
   rw [if_pos ⟨h1,by rw [Z3];exact h2⟩]
   refine ⟨_,rfl,⟨fun hp=>⟨fun _=>yt (k:=k) hp,?_,rfl,rfl⟩,rfl⟩⟩
   have hlt:n.toNat<l.length:=by
    have hp:inB n m=true:=hp
    simp only [inB,Q6,decide_eq_true_eq] at hp;omega
   show S.v (V.one (W.sp false false ((List.map (jJ et) l).getD (P.int k n).nat []) 0))=S.v (V.one (W.sp false false (jJ et (List.getD l n.toNat (dflt et))) 0))
   have en:(P.int k n).nat=n.toNat:=rfl
   rw [en]
   simp [List.getD_eq_getElem?_getD,hlt]
  ·cases h
 ·rename_i m e i1 i2 i3 x' a1 j1 k n hng ht hx hn
  change Int at n
  have hx':bn (f x)=.v (.one (bW x')):=by rw [hx];rfl
  have hn':bn (f ix)=.v (.one (.p a1 j1 (.int k n))):=by rw [hn];rfl
  split at h
  ·rename_i ie he
   obtain ⟨hb,h⟩:=bQ h
   simp only [Q0] at h;subst h
   obtain ⟨h1,h2⟩:=gQ hb
   simp only [inB,Q6,decide_eq_true_eq] at h1
   have hl:=Jg h2
   have key :∃r',kernel tt d (bY o) (fun x=>bn (f x)) (.indexAddr t x ix) ty=some r'∧r'=.pure (.v (.one ((bW x').shift (n.toNat*ie.size)))):=by
    cases x'<;>first
     |(cases h2;done)
     |(
       simp only [bW] at hx' hl ⊢
       simp only [kernel,ht,hx',hn',he]
       rw [if_pos ⟨h1.1,h1.2,hl⟩]
       exact ⟨_,rfl,rfl⟩)
   obtain ⟨r',e1,rfl⟩:=key
   refine ⟨_,e1,fJ.toC ?_⟩
   have:=fJ.pure (.v (.one (x'.shift (n.toNat*ie.size))))
   simpa only [bn,jD,MF] using this
  ·cases h
 ·cases h
theorem abl (t:TypeId) (x ix:Operand):gV tt ety d o f (.index t x ix) ty:=by
 intro r h
 simp only [dN] at h
 split at h
 ·rename_i i1 i2 i3 a1 j1 s a2 j2 k n ht hx hn
  change List UInt8 at s;change Int at n
  have hx':bn (f x)=.v (.one (.p a1 j1 (.str ⟨s.toArray⟩))):=by rw [hx];rfl
  have hn':bn (f ix)=.v (.one (.p a2 j2 (.int k n))):=by rw [hn];rfl
  simp only [Q0] at h;subst h
  simp only [kernel,ht,hx',hn']
  refine ⟨_,rfl,⟨fun hp=>⟨trivial,?_⟩,?_,rfl,rfl⟩⟩
  ·have:(P.str ⟨s.toArray⟩).bytes.size=s.length:=by show s.toArray.size=_;simp
   rw [this];exact yt (k:=k) hp
  ·have:(s.toArray.getD n.toNat 0)=s.getD n.toNat 0:=by simp [W2,List.getD_eq_getElem?_getD]
   simp only [P.agM,this];rfl
 ·cases h
theorem abm (t:TypeId) (x:Operand):gV tt ety d o f (.range t x) ty:=by
 intro r h
 simp only [dN] at h
 split at h
 ·rename_i i1 i2 i3 a1 j1 s ht hx
  change List UInt8 at s
  have hx':bn (f x)=.v (.one (.p a1 j1 (.str ⟨s.toArray⟩))):=by rw [hx];rfl
  simp only [Q0] at h;subst h
  simp only [kernel,ht,hx']
  exact ⟨_,rfl,⟨fun _=>trivial,rfl,rfl,rfl⟩⟩
 ·cases h
theorem U3 (t:Operand) (n:Nat):gV tt ety d o f (.extract t n) ty:=by
 intro r h
 simp only [dN] at h
 split at h
 ·rename_i xs hx
  have hx':bn (f t)=.lG (xs.map jD):=by rw [hx];rfl
  split at h
  ·rename_i x hn
   simp only [Q0] at h;subst h
   simp only [kernel,hx',XS,hn,ZZ]
   exact ⟨_,rfl,fJ.pure _⟩
  ·cases h
 ·cases h
theorem Rn {F:Operand→Option TW} {G:Operand→Option W} (hFG :∀x w,F x=some w→G x=some (bW w)) :∀{xs:List Operand} {ws:List TW},xs.mapM F=some ws→xs.mapM G=some (ws.map bW)
 | [],ws,h=>by simp at h;subst h;rfl
 |x::xs,ws,h=>by
  simp only [qv,Option.bind_eq_bind,Option.bind_eq_some_iff] at h ⊢
  obtain ⟨w,hw,ws',hws,h⟩:=h
  cases h
  exact ⟨bW w,hFG x w hw,ws'.map bW,Rn hFG hws,rfl⟩
theorem Ro (g:FuncId) (first caps:Array Operand):gV tt ety d o f (.makeFunc (.func g) first caps) ty:=by
 intro r h
 simp only [dN] at h
 obtain ⟨hb,h⟩:=bQ h
 split at h
 ·rename_i ws hw
  simp only [Q0] at h;subst h
  simp only [kernel]
  rw [if_pos (Q4 hb)]
  have key :∀{G:Operand→Option W},(∀x,G x=match bn (f x) with | .v (.one w)=>some w | _=>none)→caps.toList.mapM G=some (ws.map bW):=by
   intro G hG
   refine Rn (fun x w hx => ?_) hw
   rw [hG]
   split at hx
   ·rename_i hf;cases hx;rw [hf];rfl
   ·cases hx
  split
  ·rename_i ws' hw'
   have e:=hw'.symm.trans (key fun x=>rfl)
   simp only [Q0] at e;subst e
   refine ⟨_,rfl,?_⟩
   have:=fJ.pure (.v (.one (.clo g ws)))
   simpa only [bn,jD,bW,zl] using this
  ·rename_i hw'
   exact nomatch hw'.symm.trans (key fun x=>rfl)
 ·cases h
theorem ah4 (args:Array Operand) (ts:Array TypeId):gV tt ety d o f (.call { callee:=.builtin .len,args:=args,argTypes:=ts }) ty:=by
 intro r h
 simp only [dN] at h
 split at h
 ·rename_i x t ha hts
  split at h
  ·rename_i e i1 i2 i3 x' ht hx
   have hx':bn (f x)=.v (.one (bW x')):=by rw [hx];rfl
   split at h
   ·rename_i n hn
    simp only [Q0] at h;subst h
    obtain ⟨ask,hl,hask⟩:=WQ hn
    simp only [kernel,ha,hts,ht,hx',hl]
    exact ⟨_,rfl,⟨fun _=>hask,rfl,rfl,rfl⟩⟩
   ·cases h
  ·rename_i i1 i2 i3 a1 j1 s ht hx
   change List UInt8 at s
   have hx':bn (f x)=.v (.one (.p a1 j1 (.str ⟨s.toArray⟩))):=by rw [hx];rfl
   simp only [Q0] at h;subst h
   simp only [kernel,ha,hts,ht,hx']
   refine ⟨_,rfl,⟨fun _=>trivial,?_,rfl,rfl⟩⟩
   have:(P.str ⟨s.toArray⟩).len=.int .i64 s.length:=by show P.int .i64 (s.toArray.size:Nat)=_;simp
   simp only [this];rfl
  ·cases h
 ·cases h
theorem ah5 (args:Array Operand) (ts:Array TypeId):gV tt ety d o f (.call { callee:=.builtin .min,args:=args,argTypes:=ts }) ty:=by
 intro r h
 simp only [dN] at h
 split at h
 ·rename_i x y ha
  split at h
  ·rename_i a1 j1 k x' a2 j2 k2 y' hx hy
   have hx':bn (f x)=.v (.one (.p a1 j1 (.int k x'))):=by rw [hx];rfl
   have hy':bn (f y)=.v (.one (.p a2 j2 (.int k2 y'))):=by rw [hy];rfl
   simp only [Q0] at h;subst h
   simp only [kernel,ha,hx',hy']
   exact ⟨_,rfl,⟨fun _=>⟨trivial,trivial⟩,rfl,rfl,rfl⟩⟩
  ·cases h
 ·rename_i x y z ha
  split at h
  ·rename_i a1 j1 k x' a2 j2 k2 y' a3 j3 k3 z' hx hy hz
   have hx':bn (f x)=.v (.one (.p a1 j1 (.int k x'))):=by rw [hx];rfl
   have hy':bn (f y)=.v (.one (.p a2 j2 (.int k2 y'))):=by rw [hy];rfl
   have hz':bn (f z)=.v (.one (.p a3 j3 (.int k3 z'))):=by rw [hz];rfl
   simp only [Q0] at h;subst h
   simp only [kernel,ha,hx',hy',hz']
   exact ⟨_,rfl,⟨fun _=>⟨trivial,trivial,trivial⟩,rfl,rfl,rfl⟩⟩
  ·cases h
 ·cases h
theorem ah6 (args:Array Operand) (ts:Array TypeId):gV tt ety d o f (.call { callee:=.builtin .max,args:=args,argTypes:=ts }) ty:=by
 intro r h
 simp only [dN] at h
 split at h
 ·rename_i x y ha
  split at h
  ·rename_i a1 j1 k x' a2 j2 k2 y' hx hy
   have hx':bn (f x)=.v (.one (.p a1 j1 (.int k x'))):=by rw [hx];rfl
   have hy':bn (f y)=.v (.one (.p a2 j2 (.int k2 y'))):=by rw [hy];rfl
   simp only [Q0] at h;subst h
   simp only [kernel,ha,hx',hy']
   exact ⟨_,rfl,⟨fun _=>⟨trivial,trivial⟩,rfl,rfl,rfl⟩⟩
  ·cases h
 ·rename_i x y z ha
  split at h
  ·rename_i a1 j1 k x' a2 j2 k2 y' a3 j3 k3 z' hx hy hz
   have hx':bn (f x)=.v (.one (.p a1 j1 (.int k x'))):=by rw [hx];rfl
   have hy':bn (f y)=.v (.one (.p a2 j2 (.int k2 y'))):=by rw [hy];rfl
   have hz':bn (f z)=.v (.one (.p a3 j3 (.int k3 z'))):=by rw [hz];rfl
   simp only [Q0] at h;subst h
   simp only [kernel,ha,hx',hy',hz']
   exact ⟨_,rfl,⟨fun _=>⟨trivial,trivial,trivial⟩,rfl,rfl,rfl⟩⟩
  ·cases h
 ·cases h
theorem yu (e:Ty) (a b:List (Dt e)):aN e (a++b)=aN e a++aN e b:=by simp [aN]
theorem U4 {sT:TypeId} {s x:TW} {r:rJ} (h:OD tt ety d o sT s x=some r) :∃r',vC tt d (bY o) sT (bW s) (bW x)=some r'∧fJ r r':=by
 simp only [OD] at h
 split at h
 ·rename_i e i1 i2 i3 ht
  split at h
  ·rename_i ie et he het
   cases hb:(Nat.beq ie.bytes 0||!Nat.beq (size et) ie.size) with
   |true=>rw [hb] at h;cases h
   |false=>
    rw [hb,cond_false] at h
    simp only [Vv,qu] at hb
    have hsz:=Q4 hb.2
    have hb0:¬ ie.bytes=0:=fun e=>by rw [e] at hb;cases hb.1
    split at h
    ·cases h
    ·rename_i new a' i' hrow
     obtain ⟨ask,hr,hask⟩:=Ri hrow
     rw [hsz] at hr
     simp only [vC,ht,he,if_neg hb0,hr]
     have key :∀(pre:Bool) (pre':Prop) (old:List (Dt et)) (a i:Bool) (kill:List (Nat×TO)),(pre=true→pre')→
       fJ { pre:=pre&&decide ((old.length+new.length)*ie.bytes≤140737488355328),t:=.sl et,val:=List.append old new,dst:=fun _=>.v (.one (.own d)),aK:=fun y=>kill++[(d,.arr false (a||a') (i||i') et y)],new:=[d] }
        (.mk (ask∧pre'∧((aN et old).length+(aN et new).length)*ie.bytes≤140737488355328) (.sl ie.size (aN et old++aN et new)) (fun _=>.v (.one (.own d)))
         (fun y=>iF kill++[(d,.arr false (a||a') (i||i') ie.size y.list)]) [d]):=by
      intro pre pre' old a i kill hpre
      refine ⟨fun hp => ?_,rfl,?_,rfl⟩
      ·obtain ⟨h1,h2⟩:=gQ hp
       refine ⟨hask,hpre h1,?_⟩
       rw [gB,gB]
       simpa using h2
      ·simp only [kT]
       congr 1
       simp only [P.list,iF,Qf,Uv,dY,hsz]
       rw [←yu];rfl
     split at h
     ·simp only [Q0] at h;subst h
      exact ⟨_,rfl,key true True [] false false [] fun _=>trivial⟩
     ·rename_i g
      split at h
      ·rename_i a i e' l hg
       split at h
       ·rename_i l' hl
        cases hgd:Nat.beq g d with
        |true=>rw [hgd] at h;cases h
        |false=>
         rw [hgd,cond_false] at h
         simp only [Q0] at h;subst h
         obtain ⟨ee,hl⟩:=oI hl
         cases ee
         subst hl
         simp only [bW,gY hg]
         rw [if_pos ⟨hsz,fun e=>by subst e;simp at hgd⟩]
         exact ⟨_,rfl,key true True _ a i [(g,.none)] fun _=>trivial⟩
       ·cases h
      ·cases h
     ·rename_i g lo hi
      split at h
      ·rename_i a i e' l hg
       split at h
       ·rename_i l' hl
        cases hgd:Nat.beq g d with
        |true=>rw [hgd] at h;cases h
        |false=>
         rw [hgd,cond_false] at h
         simp only [Q0] at h;subst h
         obtain ⟨ee,hl⟩:=oI hl
         cases ee
         subst hl
         simp only [bW,gY hg,vX]
         rw [if_pos ⟨hsz,fun e=>by subst e;simp at hgd⟩]
         refine ⟨_,rfl,key (decide (lo=0)) (P.int .i64 lo=lN 0) (l.take hi.toNat) a i [(g,.none)] fun h => ?_⟩
         have h:lo=0:=by simpa using h
         subst h;rfl
       ·cases h
      ·cases h
     ·cases h
  ·cases h
 ·cases h
theorem Y7 (args:Array Operand) (ts:Array TypeId):gV tt ety d o f (.call { callee:=.builtin .append,args:=args,argTypes:=ts }) ty:=by
 intro r h
 simp only [dN] at h
 split at h
 ·rename_i s x sT xT rest ha hts
  split at h
  ·rename_i e i1 i2 i3 s' x' ht hs hx
   have hs':bn (f s)=.v (.one (bW s')):=by rw [hs];rfl
   have hx':bn (f x)=.v (.one (bW x')):=by rw [hx];rfl
   simp only [kernel,ha,hts,ht,hs',hx']
   exact U4 h
  ·cases h
 ·cases h
theorem U5 (op:Op):aa7 tt ety d o f op ty:=by
 cases op
 case move x=>exact gV.toC (aeo x)
 case assign x=>exact gV.toC (Y4 x)
 case pick c x y=>exact gV.toC (aep c x y)
 case alloc t=>exact gV.toC (aa_ t)
 case box t x=>exact gV.toC (ah3 t x)
 case build t ps=>exact gV.toC (abb t ps)
 case buildSlice t n ps=>exact gV.toC (La t n ps)
 case load t x=>exact gV.toC (aes t x)
 case store t x y=>exact gV.toC (abe t x y)
 case nilCheck x=>exact gV.toC (Rj x)
 case binOp op t x y u=>exact gV.toC (abg op t x y u)
 case unOp op t x=>exact gV.toC (aew op t x)
 case convert s t x=>exact gV.toC (U1 s t x)
 case makeSlice t n c=>exact gV.toC (OJ t n c)
 case slice t x lo hi mx=>
  cases mx with
  |none=>exact gV.toC (abj t x lo hi)
  |some m=>cases lo with
   |some l=>intro r h;simp [dN] at h
   |none=>cases hi with
    |none=>intro r h;simp [dN] at h
    |some hi=>exact gV.toC (Y6 t x hi m)
 case fieldAddr t x n=>exact gV.toC (OL t x n)
 case field t x n=>exact gV.toC (abk t x n)
 case indexAddr t x ix=>exact OM t x ix
 case index t x ix=>exact gV.toC (abl t x ix)
 case range t x=>exact gV.toC (abm t x)
 case extract t n=>exact gV.toC (U3 t n)
 case makeFunc fn first caps=>
  cases fn
  case func g=>exact gV.toC (Ro g first caps)
  all_goals (intro r h;simp [dN] at h)
 case call c=>
  obtain ⟨callee,args,ts⟩:=c
  cases callee
  case builtin b=>
   cases b
   case len=>exact gV.toC (ah4 args ts)
   case append=>exact gV.toC (Y7 args ts)
   case clear=>exact gV.toC (abh args ts)
   case min=>exact gV.toC (ah5 args ts)
   case max=>exact gV.toC (ah6 args ts)
   all_goals (intro r h;simp [dN] at h)
  all_goals (intro r h;simp [dN] at h)
 all_goals (intro r h;simp [dN] at h)
end
end Go.Fg

namespace Go.Fg
open Go.Fw
section
variable [RE]
def wdF:Wd:=⟨.bool,false⟩
def placesOf:Ty→List Nat
 |.prod (.st c) r=>c::placesOf r
 |_=>[]
def U6 (et:Ty):List Nat→List (Nat×Ty)
 | []=>[]
 |c::cs=>match (iP et)[c]? with
  |some (.sl t)=>(c,t)::U6 et cs
  |_=>U6 et cs
def abn (ety:TypeId→Option Ty) (e:TypeId) (et:Ty):List (Nat×Ty):=match ety (1000000+e) with
 |some t=>U6 et (placesOf t)
 |none=>[]
def zn (au:List (Nat×Ty)) (off n:Nat):List (Nat×Ty):=match au with
 | []=>[]
 |(c,t)::r=>match Nat.ble off c&&Nat.blt c (off+n) with
  |true=>(c,t)::zn r off n
  |false=>zn r off n
def yw (o:Nat→TO) (g:Nat):Option TH:=match o g with
 |.aP a i e au l hole=>match hole with
  |none=>some ⟨a,i,e,au,l⟩
  |some (n,c,d)=>match o d with
   |.arr false a' i' e' l'=>match Y1 e au c e' with
    |true=>some ⟨a||a',i||i',e,au,putRow e l n c (uH e' l')⟩
    |false=>none
   |_=>none
 |_=>none
def akm:TO→Bool
 |.arr fz _ _ _ _=>!fz
 |_=>false
def kU:List Nat→List (Nat×TO)
 | []=>[]
 |g::gs=>(g,.none)::kU gs
def cellT (e:Ty) (x:Dt e) (c:Nat) (e':Ty):List (Dt e'):=((fD e x).getD c wdF).as (.sl e')
def OO (o:Nat→TO) (col:Nat→Option Ty):Nat→List Ty→List TW→Option (List Wd×Bool×Bool×List Nat×List (Nat×Nat))
 |_,[],[]=>some ([],false,false,[],[])
 |j,t::ts,x::xs=>match OO o col (j+1) ts xs with
  |none=>none
  |some (ys,a',i',gs',es)=>match col j with
   |none=>match x.toP o t with
    |some (y,a,i,gs)=>some (⟨t,y⟩::ys,a||a',i||i',gs++gs',es)
    |none=>none
   |some s=>match tyB t (.sl s) with
    |true=>match x with
     |.cO=>some (uH s []::ys,a',i',gs',es)
     |.own e=>match o e with
      |.arr false a i s' l=>match (uH s' l).BJ (.sl s) with
       |some l=>some (uH s l::ys,a||a',i||i',gs',(j,e)::es)
       |none=>none
      |_=>none
     |_=>none
    |false=>none
 |_,_,_=>none
def FK:List (Nat×Ty)→List (Nat×Ty)→Bool
 | [],[]=>true
 |(c,t)::r,(c',t')::r'=>Nat.beq c c'&&tyB t t'&&FK r r'
 |_,_=>false
def Rq (o:Nat→TO) (et:Ty) (au:List (Nat×Ty)):TW→Option (Bool×Bool×Bool×List (Dt et)×List Nat)
 |.cO=>some (true,false,false,[],[])
 |.own g=>match yw o g with
  |some ⟨a,i,e,jX,l⟩=>match (uH e l).BJ (.sl et),FK jX au with
   |some l,true=>some (true,a,i,l,g::lK (o g))
   |_,_=>none
  |none=>none
 |.vw g lo hi=>match yw o g with
  |some ⟨a,i,e,jX,l⟩=>match (uH e (l.take hi.toNat)).BJ (.sl et),FK jX au with
   |some l,true=>some (decide (lo=0),a,i,l,g::lK (o g))
   |_,_=>none
  |none=>none
 |_=>none
def vY:Ty:=.st RE.hd
def Y8 (n:Nat):List (Dt vY):=List.replicate n (dflt vY)
def OQ (tt:TT) (o:Nat→TO) (f:Operand→TS) (t:TypeId) (x:Operand):Option rJ:=match tt t,f x with
 |some i,.v (.one (.ep g n off))=>match yw o g with
  |some ⟨a,i',e,au,l⟩=>match uI off au with
   |some e'=>bif Y1 e au off e'&&(Nat.beq i.size 1&&!i.agg)&&tZ (((fD e (dflt e)).drop off).take i.size) i.zero then
     some { pre:=true,t:=.sl vY,val:=Y8 (List.length (α:=Dt e') (cellT e (l.getD n.toNat (dflt e)) off e')),dst:=fun z=>.v (.one (.p false false ⟨.sl vY,z⟩)),aK:=fun _=>[],new:=[] } else none
   |none=>none
  |none=>none
 |_,_=>none
def jl (tt:TT) (ety:TypeId→Option Ty) (d:Nat) (o:Nat→TO) (f:Operand→TS) (op:Op) (ty:TypeId):Option rJ:=
 match op with
 |.load t x=>match ety (3000000+d) with
  |some _=>OQ tt o f t x
  |none=>match tt t,f x with
  |some i,.v (.one (.ep g n off))=>match o g with
   |.aP a0 i0 e0 kE l0 _=>bif Nat.ble (off+i.size) (size e0)&&Nat.blt 0 i.size&&tZ (((fD e0 (dflt e0)).drop off).take i.size) i.zero then
     match zn kE off i.size with
     | []=>some { pre:=true,t:=e0,val:=l0.getD n.toNat (dflt e0),dst:=fun z=>TV.fQ i.agg (tpw a0 i0 (((fD e0 z).drop off).take i.size)),aK:=fun _=>[],new:=[] }
     | [(c,e')]=>match yw o g with
      |some ⟨a,i',e,au,l⟩=>match Y1 e au c e'&&Nat.ble (off+i.size) (size e)&&tZ (((fD e (dflt e)).drop off).take i.size) i.zero with
       |true=>some { pre:=true,t:=.sl e,val:=l,dst:=fun (y:List (Dt e))=>TV.fQ i.agg ((tpw a i' (((fD e (y.getD n.toNat (dflt e))).drop off).take i.size)).set (c-off) (.own d)),aK:=fun (y:List (Dt e))=>(g,.aP a i' e au y (some (n.toNat,c,d)))::(d,.arr false a i' e' (cellT e (y.getD n.toNat (dflt e)) c e'))::kU (lK (o g)),new:=[d] }
       |false=>none
      |none=>none
     |_=>none
     else none
   |_=>none
  |_,_=>none
 |.store t x y=>match tt t,f x,f y with
  |some i,.v (.one (.ep g n off)),.v y=>match o g with
   |.aP a0 i0 e0 au l0 hole=>match OO o (fun j=>uI j au) off (((iP e0).drop off).take i.size) y.words with
    |some (ps,a',i',gs,es)=>bif Nat.ble (off+i.size) (size e0)&&Nat.beq y.words.length i.size&&y.solid&&!fH g gs&&tq (es.map (·.2))&&DT (es.map (·.2)) gs then
      let res (pre:Bool) (a i1:Bool) (e:Ty) (l:List (Dt e)) (iT:Option (Nat×Nat×Nat)) (ks:List Nat):rJ:=
       { pre,t:=.sl e,val:=List.set l n.toNat (KZ e (Nat.beq i.size (size e)) (l.getD n.toNat (dflt e)) off ps),dst:=fun _=>.no,aK:=fun z=>(g,.aP (a||a') (i1||i') e au z iT)::kU (es.map (·.2))++kU ks++gs.map (lu o),new:=[] }
      match zn au off i.size with
      | []=>some (res true a0 i0 e0 l0 hole [])
      |_::_=>match hole with
       |none=>some (res true a0 i0 e0 l0 none [])
       |some (n0,c0,d0)=>match yw o g with
        |some ⟨a,i1,e,jX,l⟩=>match !fH d0 (es.map (·.2))&&!fH d0 gs with
         |true=>match tyB e e0 with
          |true=>some (res true a i1 e l none [d0])
          |false=>none
         |false=>bif Nat.ble off c0&&Nat.blt c0 (off+i.size) then some (res (Nat.beq n0 n.toNat) a0 i0 e0 l0 none []) else none
        |none=>match akm (o d0) with
         |true=>none
         |false=>bif Nat.ble off c0&&Nat.blt c0 (off+i.size) then some (res (Nat.beq n0 n.toNat) a0 i0 e0 l0 none []) else none
      else none
    |none=>none
   |_=>none
  |_,_,_=>none
 |.buildSlice t n parts=>match tt t with
  |some { k:=.slice e,.. }=>match tt e,ety e with
   |some ie,some et=>match abn ety e et with
    | []=>none
    |zQ::DW=>match CQ (fun m=>if m<n then some (m*ie.size,ie.size) else none) (Jc (ie.zero.map Y0) n) (parts.toList.map fun p=>(p.1,f p.2)) with
     |some ws=>match OO o (fun j=>uI (j % ie.size) (zQ::DW)) 0 (Jc (iP et) n) ws with
      |some (ps,a,i,gs,es)=>bif Nat.ble (n+n*ie.size) 16777216&&Nat.beq (size et) ie.size&&tq (es.map (·.2))&&DT (es.map (·.2)) gs then
        some { pre:=true,t:=.sl et,val:=CV et n ps,dst:=fun _=>.v (.one (.own d)),aK:=fun y=>(d,.aP a i et (zQ::DW) y none)::kU (es.map (·.2))++gs.map (lu o),new:=[d] } else none
      |none=>none
     |none=>none
   |_,_=>none
  |_=>none
 |.makeSlice t n c=>match tt t,f n,f c with
  |some { k:=.slice e,.. },.v (.one (.p _ _ ⟨.int .i64,n⟩)),.v (.one (.p _ _ ⟨.int .i64,c⟩))=>match tt e,ety e with
   |some ie,some et=>match abn ety e et with
    | []=>none
    |zQ::DW=>match OO o (fun j=>uI j (zQ::DW)) 0 (iP et) (ie.zero.map Y0) with
     |some (ps,false,false,[],[])=>bif Nat.blt 0 ie.size&&Nat.beq (size et) ie.size then
      some { pre:=uJ ie.bytes n c,t:=.sl et,val:=List.replicate (Int.toNat n) (jY et ps),dst:=fun _=>.v (.one (.own d)),aK:=fun y=>[(d,.aP false false et (zQ::DW) y none)],new:=[d] } else none
     |_=>none
   |_,_=>none
  |_,_,_=>none
 |.call { callee:=.builtin .append,args,argTypes }=>match args.toList,argTypes.toList with
  | [s,x],sT::xT::_=>match tt sT,tt xT,f s,f x with
   |some { k:=.slice e,.. },some { k:=.slice _,.. },.v (.one s),.v (.one (.own g2))=>match tt e,yw o g2 with
    |some ie,some ⟨a2,i2,et,au,new⟩=>match Rq o et au s with
     |some (pre,a,i,old,ks)=>bif !Nat.beq ie.bytes 0&&Nat.beq (size et) ie.size&&tq (ks++g2::lK (o g2)) then
       some { pre:=pre&&decide ((old.length+new.length)*ie.bytes≤140737488355328),t:=.sl et,val:=List.append old new,dst:=fun _=>.v (.one (.own d)),aK:=fun y=>(d,.aP (a||a2) (i||i2) et au y none)::kU (ks++g2::lK (o g2)),new:=[d] } else none
     |none=>none
    |_,_=>none
   |_,_,_,_=>none
  |_,_=>none
 |.slice t x none hi none=>match ety 2000000 with
  |none=>none
  |some _=>match tt t,f x with
   |some { k:=.slice e,.. },.v (.one (.own g))=>match tt e,o g with
    |some ie,.arr false a i et l=>bif Nat.beq (size et) ie.size then match mV (List.length (α:=Dt et) l) (hi.map f) with
     |some hi=>some { pre:=decide (0≤hi)&&decide (hi≤(List.length (α:=Dt et) l:Int)),t:=.sl et,val:=List.take (α:=Dt et) hi.toNat l,dst:=fun _=>.v (.one (.own d)),aK:=fun y=>[(d,.arr false a i et y),(g,.none)],new:=[d] }
     |none=>none
     else none
    |_,_=>none
   |_,_=>none
 |_=>none
section
variable {o:Nat→TO} {tt:TT} {ety:TypeId→Option Ty} {d:Nat} {f:Operand→TS} {ty:TypeId}
theorem qP (off n:Nat) :∀(au:List (Nat×Ty)),nG (iI au) off n=iI (zn au off n)
 | []=>rfl
 |(c,t)::r=>by
  have ih:=qP off n r
  simp only [nG,iI,Qf,qT,zn] at ih ⊢
  cases hb:(Nat.ble off c&&Nat.blt c (off+n)) with
  |true=>simp only [if_true,Qf,ih]
  |false=>simp only [W7,if_false,ih]
theorem Ed (c:Nat) (au:List (Nat×Ty)):(iI au).lookup c=(uI c au).map size:=by
 cases h:uI c au with
 |none=>exact Jd h
 |some t=>exact D_ h
theorem qx (g:Nat) (x:TO) (r:List (Nat×TO)):iF ((g,x)::r)=(g,dY x)::iF r:=rfl
theorem qy :∀(gs:List Nat),iF (kU gs)=kills gs
 | []=>rfl
 |g::gs=>by
  show (g,O.none)::iF (kU gs)=(g,O.none)::kills gs
  rw [qy gs]
theorem qA {g:Nat} {a i:Bool} {e:Ty} {au:List (Nat×Ty)} {l:List (Dt e)} (h:yw o g=some ⟨a,i,e,au,l⟩):jA (bY o) g=some (a,i,size e,iI au,aN e l)∧(bY o g).hn=lK (o g):=by
 unfold yw at h
 cases ho:o g with
 |aP a0 i0 e0 kE l0 hole=>
  rw [ho] at h
  have hg:bY o g=.aP a0 i0 (size e0) (iI kE) (aN e0 l0) hole:=by simp [bY,ho,dY]
  rcases hole with _ | ⟨n,c,d⟩
  ·cases h
   exact ⟨by simp [jA,hg],by rw [hg];rfl⟩
  ·simp only at h
   cases hd:o d with
   |arr fz a' i' e' l'=>
    rw [hd] at h
    cases fz with
    |true=>cases h
    |false=>
     simp only at h
     split at h
     ·rename_i hc
      cases h
      obtain ⟨k1,k2,k3⟩:=uK hc
      refine ⟨?_,by rw [hg];rfl⟩
      simp only [jA,hg,gY hd]
      rw [if_pos ⟨k1,k3⟩,AU k2]
     ·cases h
   |_=>rw [hd] at h;cases h
 |_=>rw [ho] at h;cases h
theorem U7 {g n c d0:Nat} {a0 i0:Bool} {e0:Ty} {au:List (Nat×Ty)} {l0:List (Dt e0)} (hog:o g=.aP a0 i0 e0 au l0 (some (n,c,d0))) (h:akm (o d0)=false):jA (bY o) g=none:=by
 have hg:bY o g=.aP a0 i0 (size e0) (iI au) (aN e0 l0) (some (n,c,d0)):=by simp [bY,hog,dY]
 simp only [jA,hg]
 cases hd:o d0 with
 |arr fz a i e l=>
  rw [hd] at h
  cases fz with
  |true=>simp [bY,hd,dY]
  |false=>cases h
 |_=>simp [bY,hd,dY]
theorem Rt {e e':Ty} {x:Dt e} {c:Nat} (hc:(iP e)[c]?=some (.sl e')):(jJ e x)[c]?=some (cZ ⟨.sl e',cellT e x c e'⟩):=by
 rw [gu,XS]
 have hlt:c<(fD e x).length:=by rw [qw,←jk];exact (Q3.1 hc).1
 rw [Q2 hlt,ZZ]
 have ht:((fD e x)[c]).t=.sl e':=by
  have:=qN e x
  have h2:=congrArg (fun l=>l[c]?) this
  simp only [XS,Q2 hlt,ZZ,hc,Q0] at h2
  exact h2
 have hg:(fD e x).getD c wdF=(fD e x)[c]:=by rw [List.getD_eq_getElem?_getD,Q2 hlt];rfl
 unfold cellT
 rw [hg,wS ht]
theorem CY {col:Nat→Option Ty} {col':Nat→Option Nat} (ad9 :∀j,col' j=(col j).map size) :∀{ts:List Ty} {xs:List TW} {j:Nat} {ys:List Wd} {a i:Bool} {gs:List Nat} {es:List (Nat×Nat)},OO o col j ts xs=some (ys,a,i,gs,es)→
  P8 (bY o) col' j (xs.map bW)=some (ys.map cZ,a,i,gs,es)∧ys.map (·.t)=ts∧Pl o gs
 | [],[],j,ys,a,i,gs,es,h=>by
  simp only [OO,Q0,Q1] at h
  obtain ⟨rfl,rfl,rfl,rfl,rfl⟩:=h
  exact ⟨rfl,rfl,Pl.nil⟩
 | [],x::xs,j,ys,a,i,gs,es,h=>by simp [OO] at h
 |t::ts,[],j,ys,a,i,gs,es,h=>by simp [OO] at h
 |t::ts,x::xs,j,ys,a,i,gs,es,h=>by
  simp only [OO] at h
  split at h
  ·cases h
  ·rename_i ys' a' i' gs' es' h2
   obtain ⟨k1,k2,k3⟩:=CY ad9 h2
   simp only [Qf,P8,k1,ad9 j]
   cases hc:col j with
   |none=>
    rw [hc] at h
    simp only at h
    split at h
    ·rename_i h1
     simp only [Q0,Q1] at h
     obtain ⟨rfl,rfl,rfl,rfl,rfl⟩:=h
     refine ⟨by simp only [Ka,OE h1,Qf],by simp only [Qf,k2],(UW h1).append k3⟩
    ·cases h
   |some s=>
    rw [hc] at h
    simp only at h
    split at h
    ·rename_i hts
     have hts:=yg hts
     split at h
     ·simp only [Q0,Q1] at h
      obtain ⟨rfl,rfl,rfl,rfl,rfl⟩:=h
      exact ⟨by simp only [ZZ,bW,Qf];rfl,by simp only [Qf,k2,hts];rfl,k3⟩
     ·rename_i e
      split at h
      ·rename_i a1 i1 s' l hoe
       split at h
       ·rename_i l1 hl
        simp only [Q0,Q1] at h
        obtain ⟨rfl,rfl,rfl,rfl,rfl⟩:=h
        obtain ⟨he,hl⟩:=oI hl
        cases he
        subst hl
        refine ⟨?_,by simp only [Qf,k2,hts];rfl,k3⟩
        simp only [ZZ,bW,gY hoe,if_true,Qf]
        rfl
       ·cases h
      ·cases h
     ·cases h
    ·cases h
def Jj (tt:TT) (ety:TypeId→Option Ty) (d:Nat) (o:Nat→TO) (f:Operand→TS) (op:Op) (ty:TypeId):Prop:=
 ∀r,jl tt ety d o f op ty=some r→∃dc r',dU tt dc d (bY o) (fun x=>bn (f x)) op ty=some r'∧fJ r r'
theorem MG {i:TI} {e e':Ty} {l:List (Dt e)} {n off c:Nat} (hz:tZ (((fD e (dflt e)).drop off).take i.size) i.zero=true) (c2:(iP e)[c]?=some (.sl e')) (hc1:off≤c) (hc2:c<off+i.size) :
  (((aN e l).getD n []).getD c default).list=aN e' (cellT e (l.getD n (dflt e)) c e'):=by
 by_cases hn:n<l.length
 ·have e1:(aN e l).getD n []=jJ e (l.getD n (dflt e)):=by simp [aN,List.getD_eq_getElem?_getD,hn]
  rw [e1,List.getD_eq_getElem?_getD,Rt c2]
  exact lq _ _
 ·have e1:(aN e l).getD n []=[]:=by simp [aN,List.getD_eq_getElem?_getD,Wg (KM hn)]
  have e2:l.getD n (dflt e)=dflt e:=by simp [List.getD_eq_getElem?_getD,Wg (KM hn)]
  rw [e1,e2]
  have hz':=Eb hz (c-off)
  rw [WF,Wt,Z6,if_pos (by omega),W5,←gu] at hz'
  have e3:off+(c-off)=c:=by omega
  rw [e3,Rt c2] at hz'
  split at hz'
  ·simp only [Q0] at hz'
   have hl:=congrArg P.list hz'
   rw [lq] at hl
   rw [hl]
   have:(Ue i.zero (c-off)).list=[]:=by
    have hsl :∃sz l,Ue i.zero (c-off)=P.fF sz l:=⟨_,_,hz'.symm⟩
    unfold Ue at hsl ⊢
    split<;>rfl
   rw [this];rfl
  ·cases hz'
theorem aex (n:Nat):cZ ⟨.sl vY,Y8 n⟩=hdr (List.replicate n ([]:List P)):=by
 have e0 :∀x,jJ vY x=[]:=fun x=>by
  have h1:=qw vY x
  have h2:size vY=0:=by simp [vY,size,ji,RE.hdF]
  rw [h2] at h1
  rw [gu,WD h1];rfl
 rw [G5]
 have e1:aN vY (Y8 n)=List.replicate n []:=by
  have :∀(n:Nat),List.map (jJ vY) (Y8 n)=List.replicate n []:=fun n=>by
   induction n with
   |zero=>rfl
   |succ n ih=>
    have e1:jJ vY (dflt vY)=[]:=e0 _
    show jJ vY (dflt vY)::List.map (jJ vY) (Y8 n)=[]::List.replicate n []
    rw [ih,e1]
  exact this n
 have e2:size vY=0:=by simp [vY,size,ji,RE.hdF]
 rw [e1,e2]
 unfold hdr
 rw [UB]
 cases n<;>rfl
theorem U8 {t:TypeId} {x:Operand} {r:rJ} (h:OQ tt o f t x=some r) :∃r',Ap tt (bY o) (fun x=>bn (f x)) t x=some r'∧fJ r r':=by
 unfold OQ at h
 split at h
 ·rename_i i g n off ht hx
  have hx':bn (f x)=.v (.one (.ep g (.int .i64 n) off)):=by rw [hx];rfl
  have en:(P.int .i64 n).nat=n.toNat:=rfl
  split at h
  ·rename_i a i' e au l hh
   split at h
   ·rename_i e' hca
    obtain ⟨hb,h⟩:=bQ h
    obtain ⟨hb,hz⟩:=gQ hb
    obtain ⟨hcb,hb⟩:=gQ hb
    obtain ⟨h1,h2⟩:=gQ hb
    have h1:=Q4 h1
    have h2:i.agg=false:=by simpa using h2
    simp only [Q0] at h;subst h
    obtain ⟨k1,k2⟩:=qA hh
    obtain ⟨c1,c2,c3⟩:=uK hcb
    unfold Ap
    simp only [ht,hx',k1,c1]
    rw [if_pos ⟨c3,h1,h2⟩]
    refine ⟨_,rfl,⟨fun _=>trivial,?_,rfl,rfl⟩⟩
    have key:(((aN e l).getD (P.int .i64 n).nat []).getD off default).list=aN e' (cellT e (l.getD n.toNat (dflt e)) off e'):=by
     rw [en];exact MG hz c2 (YY _) (by omega)
    show S.v (.one (.p false false (hdr (((aN e l).getD (P.int .i64 n).nat []).getD off default).list)))=S.v (.one (.p false false (cZ ⟨.sl vY,Y8 _⟩)))
    rw [aex,key]
    unfold hdr
    rw [gB,UB]
   ·cases h
  ·cases h
 ·cases h
theorem abo (t:TypeId) (x:Operand):Jj tt ety d o f (.load t x) ty:=by
 intro r h
 simp only [jl] at h
 split at h
 ·obtain ⟨r',h1,h2⟩:=U8 h
  exact ⟨[(0,0)],r',h1,h2⟩
 split at h
 ·rename_i i g n off ht hx
  have hx':bn (f x)=.v (.one (.ep g (.int .i64 n) off)):=by rw [hx];rfl
  have en:(P.int .i64 n).nat=n.toNat:=rfl
  split at h
  ·rename_i a0 i0 e0 kE l0 hole hog
   have hg:bY o g=.aP a0 i0 (size e0) (iI kE) (aN e0 l0) hole:=by simp [bY,hog,dY]
   obtain ⟨hb,h⟩:=bQ h
   obtain ⟨hb,h3⟩:=gQ hb
   obtain ⟨h1,h2⟩:=gQ hb
   have h1:=W6 h1
   split at h
   ·rename_i hci
    simp only [Q0] at h;subst h
    refine ⟨[],?_⟩
    simp only [dU,aau,cond_false,ht,hx',hg]
    rw [if_pos ⟨h1,Ji h2⟩]
    have eci:nG (iI kE) off i.size=[]:=by rw [qP,hci];rfl
    simp only [eci]
    refine ⟨_,rfl,⟨fun _=>trivial,?_,rfl,rfl⟩⟩
    simp only [Gx.pure,kR]
    congr 1
    rw [en]
    exact OI e0 l0 n.toNat off i.size i.zero h1 h3 a0 i0
   ·rename_i c e' hci
    split at h
    ·rename_i a i' e au l hh
     split at h
     ·rename_i hcc
      obtain ⟨hcc,hz⟩:=gQ hcc
      obtain ⟨hcb,hle⟩:=gQ hcc
      have hle:=W6 hle
      simp only [Q0] at h;subst h
      obtain ⟨k1,k2⟩:=qA hh
      obtain ⟨c1,c2,c3⟩:=uK hcb
      have hcin:off≤c∧c<off+i.size:=by
       have hm:(c,size e')∈nG (iI kE) off i.size:=by rw [qP,hci];simp [iI]
       have:=(v9.1 hm).2
       simp only [Q6,Nat.ble_eq,Nat.blt_eq] at this
       exact this
      refine ⟨[],?_⟩
      simp only [dU,aau,cond_false,ht,hx',hg]
      rw [if_pos ⟨h1,Ji h2⟩]
      rw [hg] at k2
      have eci:nG (iI kE) off i.size=[(c,size e')]:=by rw [qP,hci];rfl
      simp only [eci,k1]
      refine ⟨_,rfl,⟨fun _=>trivial,?_,?_,rfl⟩⟩
      ·simp only [kR]
       congr 1
       rw [en]
       have key:=OI e l n.toNat off i.size i.zero hle hz a i'
       simp only [P.list]
       rw [List.map_set,←key]
       apply Ke
       intro j
       rw [K5]
       simp only [XS,Z3,List.length_range]
       by_cases hj:j<i.size
       ·rw [K6 hj]
        by_cases hjc:c-off=j
        ·rw [if_pos hjc,if_pos (by omega)]
         have:Nat.beq (off+j) c=true:=by simp;omega
         simp only [ZZ,this,if_true];rfl
        ·rw [if_neg hjc]
         have:Nat.beq (off+j) c=false:=by
          cases hb:Nat.beq (off+j) c with
          |false=>rfl
          |true=>have:=Q4 hb;omega
         simp only [ZZ,this,W7,if_false]
       ·rw [Wg (by simp;omega),if_neg (by omega)]
        rfl
      ·have key:(((aN e l).getD n.toNat []).getD c default).list=aN e' (cellT e (l.getD n.toNat (dflt e)) c e'):=MG hz c2 hcin.1 hcin.2
       show (g,O.aP a i' (size e) (iI au) (aN e l) (some ((P.int .i64 n).nat,c,d)))::(d,O.arr false a i' (size e') ((((aN e l).getD (P.int .i64 n).nat []).getD c default).list))::kills _=iF (_::_::kU _)
       rw [qx,qx,qy,k2,en,key];rfl
     ·cases h
    ·cases h
   ·cases h
  ·cases h
 ·cases h
theorem Jk {g:Nat} {l:List Nat}:(!fH g l)=true→l.contains g=false:=by
 intro h;rw [bT] at h;simpa using h
theorem oJ :∀{a b:List (Nat×Ty)},FK a b=true→a=b
 | [],[],_=>rfl
 | [],_::_,h=>by cases h
 |_::_,[],h=>by cases h
 |(c,t)::r,(c',t')::r',h=>by
  simp only [FK,Q6] at h
  rw [Q4 h.1.1,yg h.1.2,oJ h.2]
theorem Y9 (t:TypeId) (x y:Operand):Jj tt ety d o f (.store t x y) ty:=by
 intro r h
 simp only [jl] at h
 split at h
 ·rename_i i g n off y' ht hx hy
  have hx':bn (f x)=.v (.one (.ep g (.int .i64 n) off)):=by rw [hx];rfl
  have hy':bn (f y)=.v (jD y'):=by rw [hy];rfl
  have en:(P.int .i64 n).nat=n.toNat:=rfl
  split at h
  ·rename_i a0 i0 e0 au l0 hole hog
   have hg:bY o g=.aP a0 i0 (size e0) (iI au) (aN e0 l0) hole:=by simp [bY,hog,dY]
   split at h
   ·rename_i ps a' i' gs es hD
    obtain ⟨hb,h⟩:=bQ h
    obtain ⟨hb,h6⟩:=gQ hb
    obtain ⟨hb,h5⟩:=gQ hb
    obtain ⟨hb,h4⟩:=gQ hb
    obtain ⟨hb,h3⟩:=gQ hb
    obtain ⟨h1,h2⟩:=gQ hb
    have h1:=W6 h1
    have h2:=Q4 h2
    obtain ⟨k1,k2,k3⟩:=CY (col':=fun j=>(iI au).lookup j) (fun j=>Ed j au) hD
    have hl:ps.length=i.size:=by
     have:=congrArg List.length k2
     simp [jk] at this
     omega
    have hgl:gs.contains g=false:=Jk h4
    have hcnd:off+i.size≤size e0∧(y'.words.map bW).length=i.size∧(jD y').solid=true∧gs.contains g=false∧tq (es.map (·.2))=true∧DT (es.map (·.2)) gs=true:=
     ⟨h1,by rw [Z3];exact h2,uN _ h3,hgl,h5,h6⟩
    have key :∀(pre:Bool) (pre':Prop) (a i1:Bool) (e:Ty) (l:List (Dt e)) (iT:Option (Nat×Nat×Nat)) (ks:List Nat),e=e0→(pre=true→pre')→
      fJ { pre,t:=.sl e,val:=List.set l n.toNat (KZ e (Nat.beq i.size (size e)) (l.getD n.toNat (dflt e)) off ps),dst:=fun _=>.no,aK:=fun z=>(g,.aP (a||a') (i1||i') e au z iT)::kU (es.map (·.2))++kU ks++gs.map (lu o),new:=[] }
       (.mk pre' (.sl (size e0) ((aN e l).set (P.int .i64 n).nat (aQ ((aN e l).getD (P.int .i64 n).nat []) off (ps.map cZ)))) (fun _=>.no)
        (fun z=>(g,.aP (a||a') (i1||i') (size e0) (iI au) z.list iT)::kills (es.map (·.2))++kills ks++gs.map (Fw.aV (bY o))) []):=by
     intro pre pre' a i1 e l iT ks he hpre
     subst he
     refine ⟨hpre,rfl,?_,rfl⟩
     show (g,O.aP (a||a') (i1||i') (size e) (iI au) ((aN e l).set (P.int .i64 n).nat (aQ ((aN e l).getD (P.int .i64 n).nat []) off (ps.map cZ))) iT)::kills (es.map (·.2))++kills ks++gs.map (Fw.aV (bY o))=iF ((_::kU _)++kU _++_)
     rw [kT,kT,qx,qy,qy,o8 k3,en]
     have hp:=FH (e:=e) (l:=l) (n:=n.toNat) (off:=off) (ps:=ps) (by rw [hl];exact k2) (by omega)
     rw [hl] at hp
     rw [←hp];rfl
    have eci:=qP off i.size au
    have hk:dU tt [] d (bY o) (fun x=>bn (f x)) (.store t x y) ty=dU tt [] d (bY o) (fun x=>bn (f x)) (.store t x y) ty:=rfl
    refine ⟨[],?_⟩
    simp only [dU,ht,hx',hy',hg,uM,k1]
    rw [if_pos hcnd]
    split at h
    ·rename_i hci
     simp only [Q0] at h;subst h
     have eci:nG (iI au) off i.size=[]:=by rw [eci,hci];rfl
     simp only [eci]
     exact ⟨_,rfl,key true True a0 i0 e0 l0 hole [] rfl fun _=>trivial⟩
    ·rename_i c0 cs hci
     have eci:nG (iI au) off i.size=(c0.1,size c0.2)::iI cs:=by rw [eci,hci];rfl
     simp only [eci]
     split at h
     ·simp only [Q0] at h;subst h
      exact ⟨_,rfl,key true True a0 i0 e0 l0 none [] rfl fun _=>trivial⟩
     ·rename_i n0 c1 d0 _
      have over :∀(r:rJ),(bif Nat.ble off c1&&Nat.blt c1 (off+i.size) then some
         ({ pre:=Nat.beq n0 n.toNat,t:=.sl e0,val:=List.set l0 n.toNat (KZ e0 (Nat.beq i.size (size e0)) (l0.getD n.toNat (dflt e0)) off ps),dst:=fun _=>.no,aK:=fun z=>(g,.aP (a0||a') (i0||i') e0 au z none)::kU (es.map (·.2))++kU []++gs.map (lu o),new:=[] }:rJ) else none)=some r→
        (off≤c1∧c1<off+i.size)∧fJ r (.mk (n0=(P.int .i64 n).nat) (.sl (size e0) ((aN e0 l0).set (P.int .i64 n).nat (aQ ((aN e0 l0).getD (P.int .i64 n).nat []) off (ps.map cZ)))) (fun _=>.no)
         (fun z=>(g,.aP (a0||a') (i0||i') (size e0) (iI au) z.list none)::kills (es.map (·.2))++kills []++gs.map (Fw.aV (bY o))) []):=by
       intro r hr
       obtain ⟨hb,hr⟩:=bQ hr
       simp only [Q0] at hr;subst hr
       obtain ⟨q1,q2⟩:=gQ hb
       exact ⟨⟨W6 q1,W6 q2⟩,key _ _ a0 i0 e0 l0 none [] rfl fun hp=>by rw [en];exact Q4 hp⟩
      split at h
      ·rename_i a i1 e jX l hh
       obtain ⟨j1,j2⟩:=qA hh
       simp only [j1]
       split at h
       ·rename_i hcc
        obtain ⟨q1,q2⟩:=gQ hcc
        split at h
        ·rename_i hty
         simp only [Q0] at h;subst h
         rw [if_pos ⟨Jk q1,Jk q2⟩]
         exact ⟨_,rfl,key true True a i1 e l none [d0] (yg hty) fun _=>trivial⟩
        ·cases h
       ·rename_i hcc
        obtain ⟨q1,q2⟩:=over r h
        rw [if_neg (by
         rintro ⟨z1,z2⟩
         rw [←bT] at z1 z2
         rw [z1,z2] at hcc;cases hcc),if_pos q1]
        exact ⟨_,rfl,q2⟩
      ·split at h
       ·cases h
       ·rename_i har
        obtain ⟨q1,q2⟩:=over r h
        simp only [U7 hog har]
        rw [if_pos q1]
        exact ⟨_,rfl,q2⟩
   ·cases h
  ·cases h
 ·cases h
theorem Lc (t:TypeId) (n c:Operand):Jj tt ety d o f (.makeSlice t n c) ty:=by
 intro r h
 simp only [jl] at h
 split at h
 ·rename_i e i1 i2 i3 a1 j1 n' a2 j2 c' ht hn hc
  change Int at n';change Int at c'
  have hn':bn (f n)=.v (.one (.p a1 j1 (.int .i64 n'))):=by rw [hn];rfl
  have hc':bn (f c)=.v (.one (.p a2 j2 (.int .i64 c'))):=by rw [hc];rfl
  split at h
  ·rename_i ie et he het
   split at h
   ·cases h
   ·rename_i zQ DW hdc
    split at h
    ·rename_i ps hp
     obtain ⟨hb,h⟩:=bQ h
     simp only [Q0] at h;subst h
     obtain ⟨h1,h2⟩:=gQ hb
     have hsz:=Q4 h2
     obtain ⟨k1,k2,_⟩:=CY (col':=fun j=>(iI (zQ::DW)).lookup j) (fun j=>Ed j (zQ::DW)) hp
     rw [sH] at k1
     refine ⟨iI (zQ::DW),?_⟩
     have edc:iI (zQ::DW)=(zQ.1,size zQ.2)::iI DW:=rfl
     simp only [dU,ht,hn',hc',edc,he]
     rw [edc] at k1
     simp only [k1]
     rw [if_pos (Ji h1)]
     refine ⟨_,rfl,⟨fun hp => ?_,rfl,?_,rfl⟩⟩
     ·have hp:uJ ie.bytes n' c'=true:=hp
      simp only [uJ,Q6,decide_eq_true_eq] at hp
      obtain ⟨⟨⟨q1,q2⟩,q3⟩,q4⟩:=hp
      exact ⟨n'.toNat,c'.toNat,by congr 1;omega,by congr 1;omega,by omega,by
       have:((ie.bytes*c'.toNat:Nat):Int)≤281474976710656:=by
        rw [Int.natCast_mul,JN (by omega)];exact q3
       omega,by omega⟩
     ·show [(d,O.aP false false ie.size ((zQ.1,size zQ.2)::iI DW) (List.replicate (P.int .i64 n').nat (ps.map cZ)) none)]=iF [(d,_)]
      have en:(P.int .i64 n').nat=n'.toNat:=rfl
      rw [qx,en]
      simp only [dY,edc,hsz,aN,List.map_replicate,sF k2];rfl
    ·cases h
  ·cases h
 ·cases h
theorem Jl (t:TypeId) (n:Nat) (ps:Array (Nat×Operand)):Jj tt ety d o f (.buildSlice t n ps) ty:=by
 intro r h
 simp only [jl] at h
 split at h
 ·rename_i e i1 i2 i3 ht
  split at h
  ·rename_i ie et he het
   split at h
   ·cases h
   ·rename_i zQ DW hdc
    split at h
    ·rename_i ws hw
     split at h
     ·rename_i qs a i gs es hp
      obtain ⟨hb,h⟩:=bQ h
      simp only [Q0] at h;subst h
      obtain ⟨hb,h4⟩:=gQ hb
      obtain ⟨hb,h3⟩:=gQ hb
      obtain ⟨h1,h2⟩:=gQ hb
      have hsz:=Q4 h2
      have:=CW hw
      rw [Jh,sH] at this
      have edc:iI (zQ::DW)=(zQ.1,size zQ.2)::iI DW:=rfl
      obtain ⟨k1,k2,k3⟩:=CY (col':=fun j=>((zQ.1,size zQ.2)::iI DW).lookup (j % ie.size)) (fun j=>by rw [←edc];exact Ed (j % ie.size) (zQ::DW)) hp
      refine ⟨iI (zQ::DW),?_⟩
      simp only [dU,ht,edc,he,Ea,this,k1]
      rw [if_pos ⟨W6 h1,h3,h4⟩]
      refine ⟨_,rfl,⟨fun _=>trivial,rfl,?_,rfl⟩⟩
      show (d,O.aP a i ie.size ((zQ.1,size zQ.2)::iI DW) (chunks ie.size n (qs.map cZ)) none)::kills (es.map (·.2))++gs.map (Fw.aV (bY o))=iF ((_::kU _)++_)
      rw [kT,qx,qy,o8 k3]
      have e1:=AV et n qs k2
      rw [hsz] at e1
      simp only [dY,edc,hsz]
      rw [←e1]
     ·cases h
    ·cases h
  ·cases h
 ·cases h
theorem U9 (args:Array Operand) (ts:Array TypeId):Jj tt ety d o f (.call { callee:=.builtin .append,args:=args,argTypes:=ts }) ty:=by
 intro r h
 simp only [jl] at h
 split at h
 ·rename_i s x sT xT rest ha hts
  split at h
  ·rename_i e i1 i2 i3 e' j1 j2 j3 s' g2 hsT hxT hs hx
   have hs':bn (f s)=.v (.one (bW s')):=by rw [hs];rfl
   have hx':bn (f x)=.v (.one (.own g2)):=by rw [hx];rfl
   split at h
   ·rename_i ie a2 i2' et au new he hh
    obtain ⟨j1',j2'⟩:=qA hh
    split at h
    ·rename_i pre a i old ks hbase
     obtain ⟨hb,h⟩:=bQ h
     simp only [Q0] at h;subst h
     obtain ⟨hb,h3⟩:=gQ hb
     obtain ⟨h1,h2⟩:=gQ hb
     have hsz:=Q4 h2
     have hb0:ie.bytes≠0:=fun e=>by rw [e] at h1;cases h1
     have hB :∃ask src,baseD (bY o) (bW s')=some (ask,a,i,aN et old,ks,src)∧(src=none∨src=some (size et,iI au))∧(pre=true→ask):=by
      cases s' with
      |cO=>
       simp only [Rq,Q0,Q1] at hbase
       obtain ⟨rfl,rfl,rfl,rfl,rfl⟩:=hbase
       exact ⟨True,none,rfl,.inl rfl,fun _=>trivial⟩
      |own g=>
       simp only [Rq] at hbase
       split at hbase
       ·rename_i a1 i1 e1 jX l hg
        obtain ⟨q1,q2⟩:=qA hg
        split at hbase
        ·rename_i l1 hl hc
         simp only [Q0,Q1] at hbase
         obtain ⟨rfl,rfl,rfl,rfl,rfl⟩:=hbase
         obtain ⟨ee,hl⟩:=oI hl
         cases ee
         subst hl
         have:=oJ hc
         subst this
         exact ⟨True,some (size et,iI jX),by simp only [bW,baseD,q1,q2],.inr rfl,fun _=>trivial⟩
        ·cases hbase
       ·cases hbase
      |vw g lo hi=>
       simp only [Rq] at hbase
       split at hbase
       ·rename_i a1 i1 e1 jX l hg
        obtain ⟨q1,q2⟩:=qA hg
        split at hbase
        ·rename_i l1 hl hc
         simp only [Q0,Q1] at hbase
         obtain ⟨rfl,rfl,rfl,rfl,rfl⟩:=hbase
         obtain ⟨ee,hl⟩:=oI hl
         cases ee
         subst hl
         have:=oJ hc
         subst this
         refine ⟨P.int .i64 lo=lN 0,some (size et,iI jX),by simp only [bW,baseD,q1,q2,vX],.inr rfl,fun h => ?_⟩
         have h:lo=0:=by simpa using h
         subst h;rfl
        ·cases hbase
       ·cases hbase
      |_=>simp [Rq] at hbase
     obtain ⟨ask,src,q1,q2,q3⟩:=hB
     refine ⟨[],?_⟩
     simp only [dU,ha,hts,hsT,hxT,hs',hx',he,q1,j1']
     rw [if_pos ⟨hb0,hsz,q2,by rw [j2'];exact h3⟩]
     refine ⟨_,rfl,⟨fun hp => ?_,rfl,?_,rfl⟩⟩
     ·obtain ⟨p1,p2⟩:=gQ hp
      refine ⟨q3 p1,?_⟩
      rw [gB,gB]
      simpa using p2
     ·show (d,O.aP (a||a2) (i||i2') (size et) (iI au) (aN et old++aN et new) none)::kills (ks++g2::(bY o g2).hn)=iF (_::kU _)
      rw [qx,qy,j2',←yu];rfl
    ·cases h
   ·cases h
  ·cases h
 ·cases h
theorem Y_ (t:TypeId) (x:Operand) (lo hi mx:Option Operand):Jj tt ety d o f (.slice t x lo hi mx) ty:=by
 intro r h
 cases lo with
 |some _=>simp [jl] at h
 |none=>
 cases mx with
 |some _=>simp [jl] at h
 |none=>
 simp only [jl] at h
 split at h
 ·cases h
 ·split at h
  ·rename_i e i1 i2 i3 g ht hx
   have hx':bn (f x)=.v (.one (.own g)):=by rw [hx];rfl
   split at h
   ·rename_i ie a i et l he hg
    change List (Dt et) at l
    obtain ⟨hb,h⟩:=bQ h
    split at h
    ·rename_i hi' hhi
     simp only [Q0] at h;subst h
     have Ak:=nO hhi
     have hg':bY o g=.arr false a i (size et) (aN et l):=gY hg
     refine ⟨[],?_⟩
     have en:lN (aN et l).length=P.int .i64 (List.length (α:=Dt et) l:Int):=by rw [gB];rfl
     simp only [dU,ht,hx',he,hg']
     rw [if_pos (Q4 hb)]
     simp only [en,Ak]
     refine ⟨_,rfl,⟨fun hp => ?_,rfl,?_,rfl⟩⟩
     ·obtain ⟨h1,h2⟩:=gQ hp
      have h1:=of_decide_eq_true h1
      have h2:=of_decide_eq_true h2
      exact ⟨hi'.toNat,by rw [JN h1],by rw [gB];omega⟩
     ·show [(d,O.arr false a i (size et) ((aN et l).take (P.nat (.int .i64 hi')))),(g,O.none)]=[(d,O.arr false a i (size et) (aN et (List.take hi'.toNat l))),(g,O.none)]
      rw [vX]
    ·cases h
   ·cases h
  ·cases h
theorem Ru (op:Op):Jj tt ety d o f op ty:=by
 cases op
 case load t x=>exact abo t x
 case store t x y=>exact Y9 t x y
 case buildSlice t n ps=>exact Jl t n ps
 case makeSlice t n c=>exact Lc t n c
 case slice t x lo hi mx=>exact Y_ t x lo hi mx
 case call c=>
  obtain ⟨callee,args,ts⟩:=c
  cases callee
  case builtin b=>
   cases b
   case append=>exact U9 args ts
   all_goals (intro r h;simp [jl] at h)
  all_goals (intro r h;simp [jl] at h)
 all_goals (intro r h;simp [jl] at h)
end
end
end Go.Fg

namespace Go.Fg
open Go.Fw
inductive Prog:Type→Type 1 where
 |ret {R:Type} (r:R):Prog R
 |stuck {R:Type} (n:Nat):Prog R
 |cond {R:Type} (b:Bool) (x y:Prog R):Prog R
 |chk {R:Type} (b:Bool) (x:Prog R):Prog R
 |any {R:Type} (x y:Prog R):Prog R
 |let_ {A R:Type} (x:A) (k:A→Prog R):Prog R
 |join {A R:Type} (x:Prog A) (k:A→Prog R):Prog R
 |MH {A R:Type} (x:Prog (A ⊕ R)) (k:A→Prog R):Prog R
 |loop {A R:Type} (a:A) (body:A→Prog (A ⊕ R)):Prog R
 |call {A B R:Type} (n:Nat) (f:A→Option B) (a:A) (k:B→Prog R):Prog R
def Prog.map:{R R':Type}→(R→R')→Prog R→Prog R'
 |_,_,f,.ret r=>.ret (f r)
 |_,_,_,.stuck n=>.stuck n
 |_,_,f,.cond b x y=>.cond b (x.map f) (y.map f)
 |_,_,f,.chk b x=>.chk b (x.map f)
 |_,_,f,.any x y=>.any (x.map f) (y.map f)
 |_,_,f,.let_ x k=>.let_ x fun z=>(k z).map f
 |_,_,f,.join x k=>.join x fun z=>(k z).map f
 |_,_,f,.MH x k=>.MH (x.map (Sum.map id f)) fun z=>(k z).map f
 |_,_,f,.loop a body=>.loop a fun z=>(body z).map (Sum.map id f)
 |_,_,f,.call n g a k=>.call n g a fun z=>(k z).map f
def iO {A R:Type} (body:A→Option (A ⊕ R)):Nat→A→Option R
 |0,_=>none
 |n+1,a=>(body a).bind fun
  |.inl a'=>iO body n a'
  |.inr r=>some r
open Classical in
noncomputable def bD {A R:Type} (body:A→Option (A ⊕ R)) (a:A):Option R:=
 if h :∃n r,iO body n a=some r then iO body (Classical.choose h) a else none
open Classical in
noncomputable def both {R:Type} (x y:Option R):Option R:=if x=y then x else none
def ck {R:Type} (b:Bool) (x:Option R):Option R:=bif b then x else none
def dP {A R:Type} (x:Option (A ⊕ R)) (k:A→Option R):Option R:=x.bind fun
 |.inl z=>k z
 |.inr r=>some r
def b_ (x:Int):Int:=IntKind.i64.wrap x
noncomputable def Prog.run:{R:Type}→Prog R→Option R
 |_,.ret r=>some r
 |_,.stuck _=>none
 |_,.cond b x y=>bif b then x.run else y.run
 |_,.chk b x=>ck b x.run
 |_,.any x y=>both x.run y.run
 |_,.let_ x k=>(k x).run
 |_,.join x k=>x.run.bind fun z=>(k z).run
 |_,.MH x k=>dP x.run fun z=>(k z).run
 |_,.loop a body=>bD (fun z=>(body z).run) a
 |_,.call _ g a k=>(g a).bind fun z=>(k z).run
section
variable [RE]
inductive jT where
 |p (a i:Bool) (t:Ty)
 |cO
 |own (g:Nat)
 |box (g off:Nat)
 |fn (f:FuncId) (gs:List Nat)
 |m_ (g:Nat)
 |no
 |vw (g:Nat)
 |ep (g off:Nat)
inductive lH where
 |one (x:jT)
 |agg (xs:List jT)
inductive iD where
 |box (ws:List jT)
 |arr (fz a i:Bool) (e:Ty)
 |it
 |aP (a i:Bool) (e:Ty) (au:List (Nat×Ty))
structure OT where
 slots:List (Nat×lH)
 bf:List (Nat×iD)
def jT.er:jT→WS
 |.p a i _=>.p a i
 |.cO=>.cO
 |.own g=>.own g
 |.box g off=>.box g off
 |.fn f gs=>.fn f gs
 |.m_ g=>.m_ g
 |.no=>.no
 |.vw g=>.vw g
 |.ep g off=>.ep g off
def lH.er:lH→SS
 |.one x=>.one x.er
 |.agg xs=>.agg (xs.map jT.er)
def iD.er:iD→OS
 |.box ws=>.box (ws.map jT.er)
 |.arr fz a i e=>.arr fz a i (size e)
 |.it=>.it
 |.aP a i e au=>.aP a i (size e) (iI au)
def OT.er (j:OT):Shape:=⟨j.slots.map fun p=>(p.1,p.2.er),j.bf.map fun p=>(p.1,p.2.er)⟩
def jT.tys:jT→List Ty
 |.p _ _ t=>[t]
 |.vw _=>[.int .i64,.int .i64]
 |.ep _ _=>[.int .i64]
 |_=>[]
def lH.tys:lH→List Ty
 |.one x=>x.tys
 |.agg xs=>xs.flatMap jT.tys
def iD.tys:iD→List Ty
 |.box ws=>ws.flatMap jT.tys
 |.arr _ _ _ e=>[.sl e]
 |.it=>[.str,.int .i64]
 |.aP _ _ e _=>[.sl e]
def OT.tys (j:OT):List Ty:=j.slots.flatMap (fun p=>p.2.tys)++j.bf.flatMap fun p=>p.2.tys
def Tup:List Ty→Type
 | []=>Unit
 | [t]=>Dt t
 |t::u::ts=>Dt t×Tup (u::ts)
def Tup.lX:(ts:List Ty)→Tup ts→List Wd
 | [],_=>[]
 | [t],x=>[⟨t,x⟩]
 |t::u::ts,x=>⟨t,x.1⟩::Tup.lX (u::ts) x.2
def Tup.ofL:(ts:List Ty)→List Wd→Option (Tup ts)
 | [],[]=>some ()
 | [t],[w]=>w.BJ t
 |t::u::ts,w::ws=>match w.BJ t,Tup.ofL (u::ts) ws with
  |some x,some xs=>some (x,xs)
  |_,_=>none
 |_,_=>none
def G6 (m:Ren):List Nat→List TW→Bool
 | [],[]=>true
 |g'::gs,.box g off::cs=>decide (m.lookup g'=some (some g))&&(Nat.beq off 0&&G6 m gs cs)
 |_,_=>false
def Ee:List Nat→List TW
 | []=>[]
 |g::gs=>.box g 0::Ee gs
def Ef (m:Ren):jT→TW→Option (List Wd)
 |.p a i t,.p a' i' w=>match w.BJ t with
  |some _=>bif (imp a' a&&imp i' i)||w.t.flat then some [w] else none
  |none=>none
 |.p _ _ t,.cO=>match t with
  |.sl e=>some [uH e []]
  |_=>none
 |.cO,.cO=>some []
 |.own g',.own g=>if m.lookup g'=some (some g) then some [] else none
 |.own g',.cO=>if m.lookup g'=some none then some [] else none
 |.box g' off,.box g off'=>if m.lookup g'=some (some g)∧off=off' then some [] else none
 |.fn f gs,.clo f' caps=>bif Nat.beq f f'&&G6 m gs caps then some [] else none
 |.m_ g',.m_ g=>if m.lookup g'=some (some g) then some [] else none
 |.no,_=>some []
 |.vw g',.vw g lo hi=>if m.lookup g'=some (some g) then some [iJ .i64 lo,iJ .i64 hi] else none
 |.ep g' off,.ep g n off'=>if m.lookup g'=some (some g)∧off=off' then some [iJ .i64 n] else none
 |_,_=>none
def yx (m:Ren):List jT→List TW→Option (List Wd)
 | [],[]=>some []
 |k::ks,x::xs=>match Ef m k x,yx m ks xs with
  |some u,some v=>some (u++v)
  |_,_=>none
 |_,_=>none
def aey (m:Ren):lH→TS→Option (List Wd)
 |.one k,.v (.one x)=>Ef m k x
 |.agg ks,.v (.agg xs)=>yx m ks xs
 |_,_=>none
def U_ (m:Ren):iD→TO→Option (List Wd)
 |.box ks,.box xs=>yx m ks xs
 |.arr fz a i e,.arr fz' a' i' e' l=>match (uH e' l).BJ (.sl e) with
  |some l=>if fz=fz'∧(imp a' a&&imp i' i)=true then some [uH e l] else none
  |none=>none
 |.it,.it s n=>some [Q_ s,iJ .i64 n]
 |.aP a i e au,.aP a' i' e' jX l hole=>match hole,(uH e' l).BJ (.sl e),FK au jX with
  |none,some l,true=>if (imp a' a&&imp i' i)=true then some [uH e l] else none
  |_,_,_=>none
 |_,_=>none
def nP (m:Ren) (s:Nat→TS):List (Nat×lH)→Option (List Wd)
 | []=>some []
 |(t,k)::rest=>match aey m k (s t),nP m s rest with
  |some u,some v=>some (u++v)
  |_,_=>none
def qh (m:Ren) (o:Nat→TO):List (Nat×iD)→Option (List Wd)
 | []=>some []
 |(g',k)::rest=>match (match m.lookup g' with
   |some (some g)=>U_ m k (o g)
   |some none=>(match k with
    |.arr false _ _ e=>some [uH e []]
    |.aP _ _ e _=>some [uH e []]
    |_=>none)
   |none=>none),qh m o rest with
  |some u,some v=>some (u++v)
  |_,_=>none
def zo (j:OT) (m:Ren) (st:jw):Option (List Wd):=
 match j.er.ok&&agR j.er m with
 |true=>match nP m st.gs j.slots,qh m st.go j.bf with
  |some u,some v=>some (u++v)
  |_,_=>none
 |false=>none
def AX:Wd:=⟨.bool,false⟩
def AY (vs:List Wd) (n:Nat):jT→TW×Nat
 |.p a i _=>(.p a i (vs.getD n AX),n+1)
 |.cO=>(.cO,n)
 |.own g=>(.own g,n)
 |.box g off=>(.box g off,n)
 |.fn f gs=>(.clo f (Ee gs),n)
 |.m_ g=>(.m_ g,n)
 |.no=>(.no,n)
 |.vw g=>(.vw g ((vs.getD n AX).as (.int .i64)) ((vs.getD (n+1) AX).as (.int .i64)),n+2)
 |.ep g off=>(.ep g ((vs.getD n AX).as (.int .i64)) off,n+1)
def uP (vs:List Wd):Nat→List jT→List TW×Nat
 |n,[]=>([],n)
 |n,k::ks=>((AY vs n k).1::(uP vs (AY vs n k).2 ks).1,(uP vs (AY vs n k).2 ks).2)
def GL (vs:List Wd) (n:Nat):lH→TS×Nat
 |.one k=>(.v (.one (AY vs n k).1),(AY vs n k).2)
 |.agg ks=>(.v (.agg (uP vs n ks).1),(uP vs n ks).2)
def Eh (vs:List Wd) (n:Nat):iD→TO×Nat
 |.box ks=>(.box (uP vs n ks).1,(uP vs n ks).2)
 |.arr fz a i e=>(.arr fz a i e ((vs.getD n AX).as (.sl e)),n+1)
 |.it=>(.it ((vs.getD n AX).as .str) ((vs.getD (n+1) AX).as (.int .i64)),n+2)
 |.aP a i e au=>(.aP a i e au ((vs.getD n AX).as (.sl e)) none,n+1)
def fV (vs:List Wd):Nat→List (Nat×lH)→List (Nat×TS)×Nat
 |n,[]=>([],n)
 |n,(t,k)::rest=>((t,(GL vs n k).1)::(fV vs (GL vs n k).2 rest).1,(fV vs (GL vs n k).2 rest).2)
def jG (vs:List Wd):Nat→List (Nat×iD)→List (Nat×TO)×Nat
 |n,[]=>([],n)
 |n,(g,k)::rest=>((g,(Eh vs n k).1)::(jG vs (Eh vs n k).2 rest).1,(jG vs (Eh vs n k).2 rest).2)
def mkT (j:OT) (vs:List Wd):jw:=
 { s:=(fV vs 0 j.slots).1,o:=(jG vs (fV vs 0 j.slots).2 j.bf).1,u:=j.bf.map (·.1) }
def WR:List Nat→List TW→Ren
 |g'::gs,.box g _::cs=>(g',some g)::WR gs cs
 |_,_=>[]
def akn:jT→TW→Ren
 |.own g',.own g=>[(g',some g)]
 |.own g',.cO=>[(g',none)]
 |.box g' _,.box g _=>[(g',some g)]
 |.m_ g',.m_ g=>[(g',some g)]
 |.fn _ gs,.clo _ caps=>WR gs caps
 |.vw g',.vw g _ _=>[(g',some g)]
 |.ep g' _,.ep g _ _=>[(g',some g)]
 |_,_=>[]
def abp:List jT→List TW→Ren
 |k::ks,x::xs=>akn k x++abp ks xs
 |_,_=>[]
def anz:lH→TS→Ren
 |.one k,.v (.one x)=>akn k x
 |.agg ks,.v (.agg xs)=>abp ks xs
 |_,_=>[]
def Rw (s:Nat→TS):List (Nat×lH)→Ren
 | []=>[]
 |(t,k)::r=>anz k (s t)++Rw s r
def G7 (m:Ren) (o:Nat→TO):List (Nat×iD)→Ren
 | []=>[]
 |(g',.box ks)::r=>(match m.lookup g' with
  |some (some g)=>match o g with
   |.box ws=>abp ks ws
   |_=>[]
  |_=>[])++G7 m o r
 |_::r=>G7 m o r
def derive (bg:List Nat) (j:OT) (st:jw):Ren:=
 let m0:=bg.map (fun g=>(g,some g))++Rw st.gs j.slots
 let m1:=m0++G7 m0 st.go j.bf
 m1++G7 m1 st.go j.bf
structure dD where
 bH:Nat
 pin:OT
 aS:OT
 dA:Nat
 bg:List Nat
 aX:List Nat
 kept:List Nat:=[]
def dD.er (s:dD):zf:={ bH:=s.bH,pin:=s.pin.er,aS:=s.aS.er,dA:=s.dA,bg:=s.bg,aX:=s.aX }
open Classical in
noncomputable def yA {A R:Type} (x y:A) (r:Option R):Option R:=if x=y then r else none
noncomputable def Jm {R:Type} (a b:Nat→TO) (r:R):List Nat→Option R
 | []=>some r
 |g::gs=>match a g,b g with
  |.arr false _ _ e l,.arr false _ _ e' l'=>match (uH e' l').BJ (.sl e) with
   |some l''=>yA (A:=List (Dt e)) l'' l (Jm a b r gs)
   |none=>none
  |.aP _ _ e au l none,.aP _ _ e' jX l' none=>match (uH e' l').BJ (.sl e),FK au jX with
   |some l'',true=>yA (A:=List (Dt e)) l'' l (Jm a b r gs)
   |_,_=>none
  |_,_=>none
structure aZ where
 sig:dD
 f:Tup sig.pin.tys→Option (Tup sig.aS.tys)
noncomputable def aZ.ff (s:aZ):Tup s.sig.pin.tys→Option (Tup s.sig.aS.tys):=match s.sig.kept with
 | []=>s.f
 |g::gs=>fun x=>(s.f x).bind fun y=>Jm (mkT s.sig.pin (Tup.lX s.sig.pin.tys x)).go (mkT s.sig.aS (Tup.lX s.sig.aS.tys y)).go y (g::gs)
abbrev lY:=FuncId→Option aZ
structure GN where
 ins:List Wd
 A:Bool×Bool
 I:Bool×Bool
 vg:List Nat
 ren:List (Nat×Nat)
def o9:List Nat→List TW→Option (List (Nat×Nat))
 | [],[]=>some []
 |g'::gs,.box g off::cs=>bif Nat.beq off 0 then match o9 gs cs with
  |some r=>some ((g',g)::r)
  |none=>none
  else none
 |_,_=>none
def MI (o:Nat→TO):jT→TW→Option (List Wd×(Bool×Bool)×List Nat×List (Nat×Nat))
 |.p _ _ t,x=>match x.toP o t with
  |some (y,a,i,gs)=>some ([⟨t,y⟩],(a,i),gs,[])
  |none=>none
 |.own g',.own g=>some ([],(false,false),[],[(g',g)])
 |.box g' off',.box g off=>bif Nat.beq off' 0&&Nat.beq off 0 then some ([],(false,false),[],[(g',g)]) else none
 |.fn f gs,.clo f' caps=>bif Nat.beq f f' then match o9 gs caps with
  |some r=>some ([],(false,false),[],r)
  |none=>none
  else none
 |_,_=>none
def pR (o:Nat→TO):List jT→List TW→Option (List Wd×(Bool×Bool)×List Nat×List (Nat×Nat))
 | [],[]=>some ([],(false,false),[],[])
 |k::ks,x::xs=>match MI o k x,pR o ks xs with
  |some (u,c,g,r),some (u',c',g',r')=>some (u++u',w_ c c',g++g',r++r')
  |_,_=>none
 |_,_=>none
def WT (o:Nat→TO):lH→TS→Option (List Wd×(Bool×Bool)×List Nat×List (Nat×Nat))
 |.one k,.v (.one x)=>MI o k x
 |.agg ks,.v (.agg xs)=>pR o ks xs
 |_,_=>none
def mW (o:Nat→TO) (args:List TS):List (Nat×lH)→Option (List Wd×(Bool×Bool)×List Nat×List (Nat×Nat))
 | []=>some ([],(false,false),[],[])
 |(t,k)::rest=>match WT o k (args.getD t .no),mW o args rest with
  |some (u,c,g,r),some (u',c',g',r')=>some (u++u',w_ c c',g++g',r++r')
  |_,_=>none
def ah8:jT→TW→Option (List Wd×(Bool×Bool)×List (Nat×Nat))
 |.p _ _ t,.p a i w=>match w.BJ t with
  |some x=>some ([⟨t,x⟩],(a,i),[])
  |none=>none
 |.p _ _ t,.cO=>match t with
  |.sl e=>some ([uH e []],(false,false),[])
  |_=>none
 |.own g',.own g=>some ([],(false,false),[(g',g)])
 |.box g' off',.box g off=>bif Nat.beq off' 0&&Nat.beq off 0 then some ([],(false,false),[(g',g)]) else none
 |.fn f gs,.clo f' caps=>bif Nat.beq f f' then match o9 gs caps with
  |some r=>some ([],(false,false),r)
  |none=>none
  else none
 |_,_=>none
def Jo:List jT→List TW→Option (List Wd×(Bool×Bool)×List (Nat×Nat))
 | [],[]=>some ([],(false,false),[])
 |k::ks,x::xs=>match ah8 k x,Jo ks xs with
  |some (u,c,r),some (u',c',r')=>some (u++u',w_ c c',r++r')
  |_,_=>none
 |_,_=>none
def vZ (o:Nat→TO):List (Nat×Nat)→List (Nat×iD)→Option (List Wd×(Bool×Bool)×List (Nat×Nat))
 |ren,[]=>some ([],(false,false),ren)
 |ren,(g',k)::rest=>match ren.lookup g' with
  |some g=>match k,o g with
   |.box ks,.box ws=>match Jo ks ws with
    |some (u,c,r)=>match vZ o (ren++r) rest with
     |some (u',c',r')=>some (u++u',w_ c c',r')
     |none=>none
    |none=>none
   |.arr _ _ _ e,.arr false a i e' l=>match (uH e' l).BJ (.sl e) with
    |some l=>match vZ o ren rest with
     |some (u',c',r')=>some (uH e l::u',w_ (a,i) c',r')
     |none=>none
    |none=>none
   |.aP _ _ e au,.aP a i e' jX l hole=>match hole,(uH e' l).BJ (.sl e),FK au jX with
    |none,some l,true=>match vZ o ren rest with
     |some (u',c',r')=>some (uH e l::u',w_ (a,i) c',r')
     |none=>none
    |_,_,_=>none
   |_,_=>none
  |none=>none
def wo (s:dD) (o:Nat→TO) (args:List TS):Option GN:=
 match mW o args s.pin.slots with
 |some (u,A,gs,r)=>match vZ o r s.pin.bf with
  |some (u',I,r')=>some { ins:=u++u',A,I,vg:=gs,ren:=jH r' }
  |none=>none
 |none=>none
def GN.er (c:GN):KT:={ ins:=c.ins.map cZ,A:=c.A,I:=c.I,vg:=c.vg,ren:=c.ren }
def yB (f:Nat→Nat):List TW→List TW
 | []=>[]
 |.box g off::r=>.box (f g) off::yB f r
 |_::r=>.no::yB f r
def Za (A I:Bool×Bool) (f:Nat→Nat):TW→TW
 |.p a i x=>.p (qJ A I a i).1 (qJ A I a i).2 x
 |.cO=>.cO
 |.own g=>.own (f g)
 |.box g off=>.box (f g) off
 |.clo fn caps=>.clo fn (yB f caps)
 |_=>.no
def ah9 (A I:Bool×Bool) (f:Nat→Nat):TV→TV
 |.one x=>.one (Za A I f x)
 |.agg xs=>.agg (xs.map (Za A I f))
def abq (A I:Bool×Bool) (f:Nat→Nat):TS→TV
 |.v x=>ah9 A I f x
 |_=>.one .no
def OU (A I:Bool×Bool) (f:Nat→Nat):TO→TO
 |.none=>.none
 |.box ws=>.box (ws.map (Za A I f))
 |.arr fz a i e l=>.arr fz (qJ A I a i).1 (qJ A I a i).2 e l
 |.it s n=>.it s n
 |.aP a i e au l _=>.aP (qJ A I a i).1 (qJ A I a i).2 e au l none
structure jO where
 x:TS
 aK:List (Nat×TO)
 new:List Nat
def jO.er (e:jO):Eff:={ x:=bn e.x,aK:=iF e.aK,new:=e.new }
def abr (vs:List TV):TS:=match vs with
 | [x]=>.v x
 |xs=>.lG xs
def jZ (s:dD) (d:Nat) (o:Nat→TO) (c:GN) (bZ:List Wd):jO:=
 let x:=mkT s.aS bZ
 let f:=callName d s.er c.ren
 { x:=abr ((List.range s.dA).map fun k=>abq c.A c.I f (x.gs k)),aK:=(bif s.er.lV then c.vg.map (lu o) else [])++c.ren.map (fun p=>(p.2,bif s.bg.contains p.1 then OU c.A c.I f (x.go p.1) else .none))++s.aX.map (fun g=>(f g,OU c.A c.I f (x.go g))),new:=s.aX.map f }
def ah_:Bool→Bool→Bool
 |true,true=>true
 |false,false=>true
 |_,_=>false
def Va:TO→Option (Bool×Bool)
 |.arr fz a i _ _=>match fz with
  |true=>none
  |false=>some (a,i)
 |.aP a i _ _ _ hole=>match hole with
  |none=>some (a,i)
  |some _=>none
 |_=>none
def CZ (s:dD) (o f:Nat→TO):List (Nat×Nat)→List Nat
 | []=>[]
 |(g',g)::r=>match fH g' s.kept&&s.bg.contains g',Va (o g),Va (f g') with
  |true,some (a,i),some (a',i')=>match ah_ a a'&&ah_ i i' with
   |true=>g::CZ s o f r
   |false=>CZ s o f r
  |_,_,_=>CZ s o f r
def MJ (same:List Nat):List (Nat×TO)→List (Nat×TO)
 | []=>[]
 |(g,x)::r=>match fH g same with
  |true=>MJ same r
  |false=>(g,x)::MJ same r
def zq (s:dD) (d:Nat) (o:Nat→TO) (c:GN) (bZ:List Wd):jO:=match s.kept with
 | []=>jZ s d o c bZ
 |_::_=>
  let e:=jZ s d o c bZ
  { e with aK:=MJ (CZ s o (fun g'=>OU c.A c.I (callName d s.er c.ren) ((mkT s.aS bZ).go g')) c.ren) e.aK }
def jO.skip:jO:={ x:=.lG [],aK:=[],new:=[] }
def Ei (l:List (Nat×TO)):List (Nat×TO)→List (Nat×TO)
 | []=>l
 |(g,x)::r=>xk g x (Ei l r)
structure iW where
 st:jw
 ds:List Nat
 od:List Nat
def jw.put (st:jw) (dst:Option Tmp) (x:TS):jw:=match dst with
 |some t=>{ st with s:=xk t x st.s }
 |none=>st
def iW.eff (q:iW) (dst:Option Tmp) (e:jO):iW:=
 { st:={ s:=(q.st.put dst e.x).s,o:=Ei q.st.o e.aK,u:=e.new++q.st.u },ds:=(match dst with | some t=>t::q.ds | none=>q.ds),od:=e.aK.map (·.1)++q.od }
def frB {β:Type 1} (b:Bool) (k:Bool→β):β:=match b with
 |true=>k true
 |false=>k false
def OV {β:Type 1}:Ty→(Ty→β)→β
 |.int .i8,k=>k (.int .i8)
 |.int .i16,k=>k (.int .i16)
 |.int .i32,k=>k (.int .i32)
 |.int .i64,k=>k (.int .i64)
 |.int .u8,k=>k (.int .u8)
 |.int .u16,k=>k (.int .u16)
 |.int .u32,k=>k (.int .u32)
 |.int .u64,k=>k (.int .u64)
 |.bool,k=>k .bool
 |.str,k=>k .str
 |.sl e,k=>OV e fun e=>k (.sl e)
 |.prod a b,k=>OV a fun a=>OV b fun b=>k (.prod a b)
 |.st n,k=>k (.st n)
 |.opq,k=>k .opq
 |.sq e,k=>OV e fun e=>k (.sq e)
def frW {β:Type 1}:TW→(TW→β)→β
 |.p a i ⟨t,x⟩,k=>frB a fun a=>frB i fun i=>k (.p a i ⟨t,x⟩)
 |.cO,k=>k .cO
 |.own g,k=>k (.own g)
 |.vw g lo hi,k=>k (.vw g lo hi)
 |.box g off,k=>k (.box g off)
 |.ep g n off,k=>k (.ep g n off)
 |.sp a i t x off,k=>frB a fun a=>frB i fun i=>k (.sp a i t x off)
 |.clo f caps,k=>k (.clo f caps)
 |.gl g,k=>k (.gl g)
 |.m_ g,k=>k (.m_ g)
 |.no,k=>k .no
def abu {β:Type 1}:List TW→(List TW→β)→β
 | [],k=>k []
 |x::xs,k=>frW x fun x=>abu xs fun xs=>k (x::xs)
def frV {β:Type 1}:TV→(TV→β)→β
 |.one x,k=>frW x fun x=>k (.one x)
 |.agg xs,k=>abu xs fun xs=>k (.agg xs)
def aez {β:Type 1}:List TV→(List TV→β)→β
 | [],k=>k []
 |x::xs,k=>frV x fun x=>aez xs fun xs=>k (x::xs)
def frS {β:Type 1}:TS→(TS→β)→β
 |.v x,k=>frV x fun x=>k (.v x)
 |.lG xs,k=>aez xs fun xs=>k (.lG xs)
 |.no,k=>k .no
def frC {β:Type 1}:List (Nat×Ty)→(List (Nat×Ty)→β)→β
 | [],k=>k []
 |(c,t)::r,k=>OV t fun t=>frC r fun r=>k ((c,t)::r)
def frH {β:Type 1}:Option (Nat×Nat×Nat)→(Option (Nat×Nat×Nat)→β)→β
 |none,k=>k none
 |some (n,c,d),k=>k (some (n,c,d))
def frO {β:Type 1}:TO→(TO→β)→β
 |.none,k=>k .none
 |.box ws,k=>abu ws fun ws=>k (.box ws)
 |.arr fz a i e l,k=>frB fz fun fz=>frB a fun a=>frB i fun i=>k (.arr fz a i e l)
 |.it s n,k=>k (.it s n)
 |.aP a i e au l hole,k=>frB a fun a=>frB i fun i=>frC au fun au=>frH hole fun hole=>k (.aP a i e au l hole)
def aeA {β:Type 1}:List (Nat×TS)→(List (Nat×TS)→β)→β
 | [],k=>k []
 |(t,x)::r,k=>frS x fun x=>aeA r fun r=>k ((t,x)::r)
def aeB {β:Type 1}:List (Nat×TO)→(List (Nat×TO)→β)→β
 | [],k=>k []
 |(t,x)::r,k=>frO x fun x=>aeB r fun r=>k ((t,x)::r)
def Ld {β:Type 1}:List Nat→(List Nat→β)→β
 | [],k=>k []
 |x::r,k=>Ld r fun r=>k (x::r)
def frX {β:Type 1} (q:iW) (k:iW→β):β:=
 aeA q.st.s fun s=>aeB q.st.o fun o=>Ld q.st.u fun u=>Ld q.ds fun ds=>Ld q.od fun od=>k ⟨⟨s,o,u⟩,ds,od⟩
def abv:TS→Option Nat
 |.v (.one (.clo g _))=>some g
 |_=>none
def Jp:List TS→Option Nat
 | []=>none
 |x::l=>match abv x with
  |some g=>some g
  |none=>Jp l
def Ej (fn:Nat) (l:List TS):Nat:=match Jp l with
 |some g=>fn+1000000*(g+1)
 |none=>fn
def WU (T:lY) (fn:Nat) (l:List TS):Option aZ:=match Nat.blt fn 1000000 with
 |true=>match T (Ej fn l) with
  |some sp=>some sp
  |none=>T fn
 |false=>none
def pkT (T:lY) (fn:Nat) (l:List TS):Nat:=match T (Ej fn l) with
 |some _=>Ej fn l
 |none=>fn
noncomputable def Zb {R:Type} (T:lY) (tt:TT) (ety:TypeId→Option Ty) (d:Nat) (st:jw) (o:Oper) (K:jO→Prog R):Prog R:=
 match o.op with
 |.call { callee:=.value f,args,.. }=>match st.dH f with
  |.v (.one (.clo fn caps))=>match WU T fn (args.toList.map st.dH) with
   |some sp=>match wo sp.sig st.go ((args.toList.map st.dH)++caps.map fun x=>TS.v (.one x)) with
    |some c=>match c.er.fine sp.sig.er&&Nat.beq (args.size+caps.length) sp.sig.bH with
     |true=>match Tup.ofL sp.sig.pin.tys c.ins with
      |some x=>match sp.sig.er.ok with
       |true=>.call (pkT T fn (args.toList.map st.dH)) sp.ff x fun y=>K (zq sp.sig d st.go c (Tup.lX sp.sig.aS.tys y))
       |false=>.stuck 17
      |none=>.stuck 11
     |false=>.stuck 12
    |none=>.stuck 13
   |none=>.stuck 14
  |_=>.stuck 15
 |op=>match jl tt ety d st.go st.dH op o.type with
  |some r=>.chk r.pre (.let_ r.val fun z=>K { x:=r.dst z,aK:=r.aK z,new:=r.new })
  |none=>match dN tt ety d st.go st.dH op o.type with
   |some r=>.chk r.pre (.let_ r.val fun z=>K { x:=r.dst z,aK:=r.aK z,new:=r.new })
   |none=>.stuck 16
def yC (u:List Nat):List Nat→Bool
 | []=>true
 |g::gs=>!fH g u&&yC u gs
def Vb (ops:Array Oper) (st:jw) (j:Nat):Option (Tmp×Option (Bool×Bool×Bool)):=
 match (ops[j]?).bind (·.dst) with
 |some t=>match st.gs t with
  |.v (.one (.p a i ⟨.bool,b⟩))=>some (t,some (a,i,b))
  |.lG []=>some (t,none)
  |_=>none
 |none=>none
def WV (N:Nat):Option Tmp→Bool
 |some d=>Nat.blt d N
 |none=>true
def iW.know (q:iW) (t:Tmp) (a i b:Bool):iW:={ q with st:={ q.st with s:=xk t (.v (.one (.p a i (iM b)))) q.st.s } }
def iW.Rx (q:iW) (t:Tmp) (a i:Bool) (k:IntKind) (n:Int):iW:={ q with st:={ q.st with s:=xk t (.v (.one (.p a i (iJ k n)))) q.st.s } }
def abw (tt:TT) (st:jw) (t:TypeId) (x:Operand) (j:Tmp):Option (Bool×Bool×IntKind×Int×Nat):=
 match tt t with
 |some { k:=.arr n _,.. }=>match st.dH x with
  |.v (.one (.box _ _))=>match st.gs j with
   |.v (.one (.p a i ⟨.int k,v⟩))=>bif Nat.ble n 4 then some (a,i,k,v,n) else none
   |_=>none
  |.v (.one (.ep _ _ _))=>match st.gs j with
   |.v (.one (.p a i ⟨.int k,v⟩))=>bif Nat.ble n 4 then some (a,i,k,v,n) else none
   |_=>none
  |.v (.one (.sp _ _ _ _ _))=>match st.gs j with
   |.v (.one (.p a i ⟨.int k,v⟩))=>bif Nat.ble n 4 then some (a,i,k,v,n) else none
   |_=>none
  |_=>none
 |_=>none
def aia (tt:TT) (st:jw) (o:Oper):Option (Tmp×Bool×Bool×IntKind×Int×Nat):=
 match o.op with
 |.indexAddr t x (.tmp j)=>match abw tt st t x j with
  |some r=>some (j,r)
  |none=>none
 |_=>none
def WW {R:Type} (v:Int) (k:Int→Prog R):Nat→Nat→Prog R
 |_,0=>.stuck 24
 |m,1=>.chk (Z8 v (Int.ofNat m)) (k (Int.ofNat m))
 |m,n+2=>.cond (Z8 v (Int.ofNat m)) (k (Int.ofNat m)) (WW v k (m+1) (n+1))
noncomputable def stepT {R:Type} (T:lY) (tt:TT) (ety:TypeId→Option Ty) (N:Nat) (ops:Array Oper) (o:Oper) (q:iW) (K:iW→jO→Prog R):Prog R:=
 match WV N o.dst with
 |false=>.stuck 20
 |true=>match o.guard with
  |none=>match aia tt q.st o with
   |none=>Zb T tt ety (o.dst.getD 0) q.st o fun e=>match yC q.st.u e.new with
    |true=>K q e
    |false=>.stuck 21
   |some (t,a,i,k,v,n)=>WW v (fun z=>frX (q.Rx t a i k z) fun q=>Zb T tt ety (o.dst.getD 0) q.st o fun e=>match yC q.st.u e.new with
    |true=>K q e
    |false=>.stuck 21) 0 n
  |some (j,want)=>match Vb ops q.st j with
   |none=>.stuck 22
   |some (t,none)=>K q jO.skip
   |some (t,some (a,i,b))=>
    let on (q:iW):Prog R:=Zb T tt ety (o.dst.getD 0) q.st o fun e=>match yC q.st.u e.new with
     |true=>K q e
     |false=>.stuck 21
    .cond b (frX (q.know t a i true) fun q=>bif want then on q else K q jO.skip) (frX (q.know t a i false) fun q=>bif want then K q jO.skip else on q)
inductive OW where
 |yes
 |no
 |may (empty:Bool)
def Jq (o:Nat→TO):TS→Option OW
 |.v (.one (.p _ _ ⟨.sl e,l⟩))=>some (.may (List.isEmpty (α:=Dt e) l))
 |.v (.one (.own g))=>match o g with
  |.arr _ _ _ _ l=>some (.may l.isEmpty)
  |.aP _ _ _ _ l _=>some (.may l.isEmpty)
  |_=>none
 |.v (.one .cO)=>some .yes
 |_=>none
def Jr (o:Nat→TO):TS→Option OW
 |.v (.one (.box g _))=>match o g with
  |.box _=>some .no
  |_=>none
 |.v (.one (.p _ _ ⟨.opq,.pointer none⟩))=>some .yes
 |_=>none
def OX (o:Nat→TO) (x:TS) (k:TK) (c:Value):Option OW:=
 match k,c with
 |.slice _,.slice none 0 0=>Jq o x
 |.ptr,.pointer none=>Jr o x
 |_,_=>none
def aib (tt:TT) (st:jw) (o:Oper):Option (Bool×OW):=
 match o.guard with
 |some _=>none
 |none=>match o.op with
  |.binOp op t x (.const c) _=>match tt t with
   |some i=>match op,OX st.go (st.dH x) i.k c with
    |.eql,some p=>some (true,p)
    |.neq,some p=>some (false,p)
    |_,_=>none
   |none=>none
  |_=>none
def aeC (s:List UInt8) (n:Int):Bool:=decide (n.toNat<s.length)
def aic (s:List UInt8) (n:Int):Int:=((Utf8.decode ⟨s.toArray⟩ n.toNat).1:Nat)
def Zc (s:List UInt8) (n:Int):Int:=((n.toNat+(Utf8.decode ⟨s.toArray⟩ n.toNat).2:Nat):Int)
def Ry (n:Int):Int:=((n.toNat:Nat):Int)
def abx (st:jw) (o:Oper):Option (Nat×List UInt8×Int):=
 match o.guard with
 |some _=>none
 |none=>match o.op with
  |.next x true=>match st.dH x with
   |.v (.one (.m_ g))=>match st.go g with
    |.it s n=>some (g,s,n)
    |_=>none
   |_=>none
  |_=>none
def OY (g:Nat) (s:List UInt8) (n:Int):jO:={ x:=.lG [.one (.p false false (iM true)),.one (.p false false (iJ .i64 (Ry n))),.one (.p false false (iJ .i32 (aic s n)))],aK:=[(g,.it s (Zc s n))],new:=[] }
def Vd:jO:={ x:=.lG [.one (.p false false (iM false))],aK:=[],new:=[] }
def qQ (b:Bool):jO:={ x:=WM (iM b),aK:=[],new:=[] }
noncomputable def Ve {R:Type} (T:lY) (tt:TT) (ety:TypeId→Option Ty) (N:Nat) (ops:Array Oper) (o:Oper) (q:iW) (K:iW→jO→Prog R):Prog R:=
 match aib tt q.st o with
 |some (pos,c)=>match WV N o.dst with
  |false=>.stuck 23
  |true=>match c with
   |.yes=>K q (qQ pos)
   |.no=>K q (qQ (!pos))
   |.may e=>.cond e (.any (K q (qQ true)) (K q (qQ false))) (K q (qQ (!pos)))
 |none=>match abx q.st o with
  |some (g,s,n)=>match WV N o.dst with
   |false=>.stuck 23
   |true=>.cond (aeC s n) (K q (OY g s n)) (K q Vd)
  |none=>stepT T tt ety N ops o q K
noncomputable def runT {R:Type} (T:lY) (tt:TT) (ety:TypeId→Option Ty) (N:Nat) (ops:Array Oper):List Oper→iW→(iW→Prog R)→Prog R
 | [],q,K=>K q
 |o::os,q,K=>Ve T tt ety N ops o q fun q e=>frX (q.eff o.dst e) fun q=>runT T tt ety N ops os q K
def yD:List TW→List Nat
 | []=>[]
 |.box g _::r=>g::yD r
 |x::r=>(bW x).names++yD r
def W.namesT:TW→List Nat
 |.own g | .vw g _ _ | .box g _ | .ep g _ _ | .m_ g=>[g]
 |.clo _ caps=>yD caps
 |_=>[]
def V.namesT:TV→List Nat
 |.one x=>W.namesT x
 |.agg xs=>xs.flatMap W.namesT
def S.namesT:TS→List Nat
 |.v x=>V.namesT x
 |.lG xs=>xs.flatMap V.namesT
 |.no=>[]
def WX (args:List TS):List (Nat×lH)→Bool
 | []=>false
 |(t,_)::rest=>match args.getD t .no with
  |.no=>true
  |.lG _=>true
  |_=>WX args rest
def Vf (T:lY) (st:jw) (o:Oper):Option (List Nat):=
 match o.op with
 |.call { callee:=.value f,args,.. }=>match st.dH f with
  |.v (.one (.clo fn caps))=>match WU T fn (args.toList.map st.dH) with
   |some sp=>match wo sp.sig st.go ((args.toList.map st.dH)++caps.map fun x=>TS.v (.one x)) with
    |some c=>some (c.ren.map (·.2))
    |none=>bif WX ((args.toList.map st.dH)++caps.map fun x=>TS.v (.one x)) sp.sig.pin.slots then some [] else none
   |none=>some []
  |_=>some []
 |_=>some []
def aby (T:lY) (st:jw) (o:Oper):Option (List Nat):=match Vf T st o with
 |some r=>some ((bif looks o.op then (o.op.operands.toList.flatMap fun x=>(S.namesT (st.dH x)).flatMap fun g=>g::lK (st.go g)) else [])++r)
 |none=>none
def aeD {β:Type 1}:List (Nat×Nat)→(List (Nat×Nat)→β)→β
 | [],k=>k []
 |(a,b)::r,k=>aeD r fun r=>k ((a,b)::r)
def frF {β:Type 1} (f:tV) (k:tV→β):β:=Ld f.rd fun rd=>Ld f.wr fun wr=>Ld f.new fun new=>frH f.ld fun ld=>aeD f.kp fun kp=>frB f.pk fun pk=>Ld f.kd fun kd=>k ⟨rd,wr,new,ld,kp,pk,kd⟩
def abz:TW→TW→Bool
 |.own g,.own g'=>Nat.beq g g'
 |.box g off,.box g' off'=>Nat.beq g g'&&Nat.beq off off'
 |_,_=>false
def Em (g:Nat):Nat→List TW→List TW→Option (List (Nat×Nat))
 |_,[],[]=>some []
 |j,x::xs,y::ys=>match Em g (j+1) xs ys with
  |some r=>some (match abz x y with
   |true=>(g,j)::r
   |false=>r)
  |none=>none
 |_,_,_=>none
def Vg (g:Nat):TO→Option TO→List (Nat×Nat)
 |.box ws,some (.box ws')=>match Em g 0 ws ws' with
  |some r=>r
  |none=>[]
 |_,_=>[]
def kpT (st:jw) (aK:List (Nat×TO)):List (Nat×Nat):=(aK.map (·.1)).flatMap fun g=>Vg g (st.go g) (aK.lookup g)
def abA:TO→Nat
 |.box _=>1
 |.arr _ _ _ _ _=>2
 |.aP _ _ _ _ _ _=>2
 |.it _ _=>3
 |.none=>0
def kdT (st:jw) (aK:List (Nat×TO)):List Nat:=(aK.map (·.1)).filterMap fun g=>match aK.lookup g with
 |some x=>bif Nat.beq (abA x) (abA (st.go g)) then some g else none
 |none=>none
def ldT (tt:TT) (st:jw) (o:Oper):Option (Nat×Nat×Nat):=match o.op with
 |.load t x=>match tt t,st.dH x with
  |some i,.v (.one (.box g off))=>some (g,off,i.size)
  |_,_=>none
 |_=>none
noncomputable def runNT {R:Type} (T:lY) (tt:TT) (ety:TypeId→Option Ty) (N:Nat) (ops:Array Oper):List Oper→iW→List tV→(iW→List tV→Prog R)→Prog R
 | [],q,fs,K=>K q fs
 |o::os,q,fs,K=>match aby T q.st o with
  |none=>.stuck 25
  |some rd=>stepT T tt ety N ops o q fun q' e=>frF { rd,wr:=e.aK.map (·.1),new:=e.new,ld:=ldT tt q.st o,kp:=kpT q.st e.aK,pk:=tX o.op,kd:=kdT q.st e.aK } fun ft=>frX (q'.eff o.dst e) fun q=>runNT T tt ety N ops os q (fs++[ft]) K
noncomputable def wu {R:Type} (T:lY) (tt:TT) (ety:TypeId→Option Ty) (N:Nat) (ops:Array Oper) (draw:Bool) (q:iW) (K:iW→Prog R):Prog R:=
 match draw with
 |false=>runT T tt ety N ops ops.toList q K
 |true=>runNT T tt ety N ops ops.toList q [] fun q fs=>match WI ops fs with
  |true=>K q
  |false=>.stuck 24
inductive Md where
 |keep
 |sl (k:lH)
inductive Mo where
 |keep
 |ob (k:iD)
structure JT where
 slots:List (Nat×Md)
 bf:List (Nat×Mo)
def C9:List TW→Option (List Nat)
 | []=>some []
 |.box g off::cs=>bif Nat.beq off 0 then match C9 cs with
  |some gs=>some (g::gs)
  |none=>none
  else none
 |_=>none
def Rz:TW→Option (jT×List Wd)
 |.p a i w=>some (.p a i w.t,[w])
 |.cO=>some (.cO,[])
 |.own g=>some (.own g,[])
 |.box g off=>some (.box g off,[])
 |.clo f caps=>match C9 caps with
  |some gs=>some (.fn f gs,[])
  |none=>none
 |.m_ g=>some (.m_ g,[])
 |.vw g lo hi=>some (.vw g,[iJ .i64 lo,iJ .i64 hi])
 |.ep g n off=>some (.ep g off,[iJ .i64 n])
 |_=>none
def wU:List TW→Option (List jT×List Wd)
 | []=>some ([],[])
 |x::xs=>match Rz x,wU xs with
  |some (k,u),some (ks,us)=>some (k::ks,u++us)
  |_,_=>none
def OZ:TS→Option (lH×List Wd)
 |.v (.one x)=>match Rz x with
  |some (k,u)=>some (.one k,u)
  |none=>none
 |.v (.agg xs)=>match wU xs with
  |some (ks,u)=>some (.agg ks,u)
  |none=>none
 |_=>none
def xq:TO→Option (iD×List Wd)
 |.box ws=>match wU ws with
  |some (ks,u)=>some (.box ks,u)
  |none=>none
 |.arr fz a i e l=>some (.arr fz a i e,[uH e l])
 |.it s n=>some (.it,[Q_ s,iJ .i64 n])
 |.aP a i e au l hole=>match hole with
  |none=>some (.aP a i e au,[uH e l])
  |some _=>none
 |.none=>none
def AZ (s:Nat→TS):List (Nat×Md)→Option (List (Nat×lH×Option (List Wd)))
 | []=>some []
 |(t,.keep)::r=>match OZ (s t),AZ s r with
  |some (k,u),some l=>some ((t,k,some u)::l)
  |_,_=>none
 |(t,.sl k)::r=>match AZ s r with
  |some l=>some ((t,k,none)::l)
  |none=>none
def Js (o:Nat→TO):List (Nat×Mo)→Option (List (Nat×iD×Option (List Wd)))
 | []=>some []
 |(t,.keep)::r=>match xq (o t),Js o r with
  |some (k,u),some l=>some ((t,k,some u)::l)
  |_,_=>none
 |(t,.ob k)::r=>match Js o r with
  |some l=>some ((t,k,none)::l)
  |none=>none
structure JF where
 slots:List (Nat×lH×Option (List Wd))
 bf:List (Nat×iD×Option (List Wd))
def JF.sh (j:JF):OT:=⟨j.slots.map fun p=>(p.1,p.2.1),j.bf.map fun p=>(p.1,p.2.1)⟩
def jC:List (Nat×lH×Option (List Wd))→List Ty
 | []=>[]
 |(_,k,none)::r=>k.tys++jC r
 |(_,_,some _)::r=>jC r
def o_:List (Nat×iD×Option (List Wd))→List Ty
 | []=>[]
 |(_,k,none)::r=>k.tys++o_ r
 |(_,_,some _)::r=>o_ r
def JF.tys (j:JF):List Ty:=jC j.slots++o_ j.bf
def lZ:List (Nat×lH×Option (List Wd))→List Wd→List Wd×List Wd
 | [],ws=>([],ws)
 |(_,k,none)::r,ws=>(ws.take k.tys.length++(lZ r (ws.drop k.tys.length)).1,(lZ r (ws.drop k.tys.length)).2)
 |(_,_,some u)::r,ws=>(u++(lZ r ws).1,(lZ r ws).2)
def qR:List (Nat×iD×Option (List Wd))→List Wd→List Wd×List Wd
 | [],ws=>([],ws)
 |(_,k,none)::r,ws=>(ws.take k.tys.length++(qR r (ws.drop k.tys.length)).1,(qR r (ws.drop k.tys.length)).2)
 |(_,_,some u)::r,ws=>(u++(qR r ws).1,(qR r ws).2)
def JF.pay (j:JF) (ws:List Wd):List Wd:=(lZ j.slots ws).1++(qR j.bf (lZ j.slots ws).2).1
def O1:List (Nat×lH×Option (List Wd))→List Wd→List Wd×List Wd
 | [],ws=>([],ws)
 |(_,k,none)::r,ws=>(ws.take k.tys.length++(O1 r (ws.drop k.tys.length)).1,(O1 r (ws.drop k.tys.length)).2)
 |(_,k,some u)::r,ws=>((O1 r (ws.drop u.length)).1,(O1 r (ws.drop u.length)).2)
def RD:List (Nat×iD×Option (List Wd))→List Wd→List Wd×List Wd
 | [],ws=>([],ws)
 |(_,k,none)::r,ws=>(ws.take k.tys.length++(RD r (ws.drop k.tys.length)).1,(RD r (ws.drop k.tys.length)).2)
 |(_,k,some u)::r,ws=>((RD r (ws.drop u.length)).1,(RD r (ws.drop u.length)).2)
def JF.ext (j:JF) (ws:List Wd):List Wd:=(O1 j.slots ws).1++(RD j.bf (O1 j.slots ws).2).1
def hasK {α:Type} (t:Nat):List (Nat×α)→Bool
 | []=>false
 |(k,_)::r=>Nat.beq t k||hasK t r
def RF (s:List (Nat×TS)) (ds:List Nat):List (Nat×lH×Option (List Wd))→Bool
 | []=>true
 |(t,_,some _)::r=>hasK t s&&!fH t ds&&RF s ds r
 |(_,_,none)::r=>RF s ds r
def RG (s:List (Nat×TO)) (ds:List Nat):List (Nat×iD×Option (List Wd))→Bool
 | []=>true
 |(t,_,some _)::r=>hasK t s&&!fH t ds&&RG s ds r
 |(_,_,none)::r=>RG s ds r
def keysB (bg:List Nat) (j:OT) (m:Ren):Bool:=keeps bg j.er m
def MK:List (Nat×iD×Option (List Wd))→Ren
 | []=>[]
 |(t,_,some _)::r=>(t,some t)::MK r
 |(_,_,none)::r=>MK r
def tpW (gs:List Nat) (o:Nat→TO):TW→TW
 |.own g=>bif fH g gs then match nM o g with
  |some ⟨a,i,e,l⟩=>.p a i (uH e l)
  |none=>.own g
  else .own g
 |.vw g lo hi=>bif fH g gs then match nM o g with
  |some ⟨a,i,e,l⟩=>.p a i (uH e ((l.take hi.toNat).drop lo.toNat))
  |none=>.vw g lo hi
  else .vw g lo hi
 |x=>x
def tpV (gs:List Nat) (o:Nat→TO):TV→TV
 |.one x=>.one (tpW gs o x)
 |.agg xs=>.agg (xs.map (tpW gs o))
def tpS (gs:List Nat) (o:Nat→TO):TS→TS
 |.v x=>.v (tpV gs o x)
 |.lG xs=>.lG (xs.map (tpV gs o))
 |.no=>.no
def tpO (gs:List Nat) (o:Nat→TO) (g:Nat):TO→TO
 |.none=>.none
 |.box ws=>.box (ws.map (tpW gs o))
 |.arr fz a i e l=>.arr (fz||fH g gs) a i e l
 |.it s n=>.it s n
 |.aP a i e au l hole=>bif fH g gs then (lu o g).2 else .aP a i e au l hole
def Jt (gs:List Nat) (st:jw):jw:=match gs with
 | []=>st
 |g::r=>{ s:=st.s.map fun p=>(p.1,tpS (g::r) st.go p.2),o:=st.o.map fun p=>(p.1,tpO (g::r) st.go p.1 p.2),u:=st.u }
def plB (o:Nat→TO) (g:Nat):Bool:=match nM o g with
 |some _=>true
 |none=>false
def aeG (o:Nat→TO) (gs:List Nat):Bool:=gs.all fun g=>plB o g&&(lK (o g)).all fun d=>fH d gs
def WY:TO→Option Nat
 |.aP _ _ _ _ _ hole=>match hole with
  |some (_,_,d)=>some d
  |none=>none
 |_=>none
def mM (keep:List Nat):List Nat→jw→List Nat×jw
 | [],st=>([],st)
 |g::gs,st=>match WY (st.go g),yw st.go g with
  |some d,some ⟨a,i,e,au,l⟩=>match !fH g keep&&!fH d keep with
   |true=>let r:=mM keep gs { st with o:=Ei st.o [(g,.aP a i e au l none),(d,.none)] }
    (g::r.1,r.2)
   |false=>mM keep gs st
  |_,_=>mM keep gs st
def Le:List (Nat×TO)→List Nat
 | []=>[]
 |(g,x)::r=>match WY x with
  |some _=>g::Le r
  |none=>Le r
def zW:List (Nat×iD×Option (List Wd))→List Nat
 | []=>[]
 |(t,_,some _)::r=>t::zW r
 |(_,_,none)::r=>zW r
def fzW (o:Nat→TO):jT→TW→List Nat
 |.p _ _ _,.own g=>bif plB o g then lK (o g)++[g] else []
 |.p _ _ _,.vw g _ _=>bif plB o g then lK (o g)++[g] else []
 |_,_=>[]
def aie (o:Nat→TO):List jT→List TW→List Nat
 |k::ks,x::xs=>fzW o k x++aie o ks xs
 |_,_=>[]
def fzS (o:Nat→TO):lH→TS→List Nat
 |.one k,.v (.one x)=>fzW o k x
 |.agg ks,.v (.agg xs)=>aie o ks xs
 |_,_=>[]
def WZ (st:jw):List (Nat×lH)→List Nat
 | []=>[]
 |(t,k)::r=>fzS st.go k (st.gs t)++WZ st r
def Vh (m:Ren) (st:jw):List (Nat×iD)→List Nat
 | []=>[]
 |(g',.box ks)::r=>(match m.lookup g' with
  |some (some g)=>match st.go g with
   |.box ws=>aie st.go ks ws
   |_=>[]
  |_=>[])++Vh m st r
 |_::r=>Vh m st r
def aeH (bg:List Nat) (j:OT) (st:jw):List Nat:=WZ st j.slots++Vh (derive bg j st) st j.bf
def Vj (gs:List Nat) (x:TS):Bool:=(S.namesT x).all fun g=>!fH g gs
def Ju (gs:List Nat) (g:Nat):TO→Bool
 |.none=>true
 |.box ws=>(ws.flatMap W.namesT).all fun g=>!fH g gs
 |.arr _ _ _ _ _=>!fH g gs
 |.it _ _=>true
 |.aP _ _ _ _ _ _=>!fH g gs
def abC (gs:List Nat) (s:Nat→TS):List (Nat×lH×Option (List Wd))→Bool
 | []=>true
 |(t,_,some _)::r=>Vj gs (s t)&&abC gs s r
 |(_,_,none)::r=>abC gs s r
def abD (gs:List Nat) (o:Nat→TO):List (Nat×iD×Option (List Wd))→Bool
 | []=>true
 |(t,_,some _)::r=>Ju gs t (o t)&&abD gs o r
 |(_,_,none)::r=>abD gs o r
def qU {R:Type} (bg:List Nat) (j:JF) (q:iW) (K:Tup j.tys→Prog R):Prog R:=
 let st0:=(mM (zW j.bf) (Le q.st.o) q.st).2
 let gs:=aeH bg j.sh st0
 let st:=Jt gs st0
 let m:=MK j.bf++derive bg j.sh st
 match RF q.st.s q.ds j.slots&&RG q.st.o q.od j.bf&&keysB bg j.sh m&&aeG st0.go gs&&abC gs st0.gs j.slots&&abD gs st0.go j.bf with
 |false=>.stuck 30
 |true=>match zo j.sh m st with
  |none=>.stuck 31
  |some vs=>match Tup.ofL j.tys (j.ext vs) with
   |none=>.stuck 32
   |some x=>K x
def qV (j:JF) (x:Tup j.tys):jw:=mkT j.sh (j.pay (Tup.lX j.tys x))
def newS:List (Nat×lH×Option (List Wd))→List Nat
 | []=>[]
 |(t,_,none)::r=>t::newS r
 |(_,_,some _)::r=>newS r
def rM:List (Nat×iD×Option (List Wd))→List Nat
 | []=>[]
 |(t,_,none)::r=>t::rM r
 |(_,_,some _)::r=>rM r
def iW.fresh (q:iW):iW:={ q with ds:=[],od:=[] }
def iW.since (q' q:iW):iW:={ q' with ds:=q'.ds++q.ds,od:=q'.od++q.od }
structure TK (R:Type) where
 n:iW→Prog R
 x:Nat→iW→Prog R
 r:iW→Prog R
inductive gG where
 |nil
 |seq (a b:gG)
 |meet (early:Bool) (j:JT) (a:gG)
 |loop (j:JT) (a:gG)
 |range (j:JT) (sg:dD) (a:gG)
def gG.fst:gG→gG
 |.seq a _=>a
 |_=>.nil
def gG.snd:gG→gG
 |.seq _ b=>b
 |_=>.nil
def abE (nw:List Nat):List (Nat×lH×Option (List Wd))→Bool
 | []=>true
 |(t,_,some _)::r=>!fH t nw&&abE nw r
 |(_,_,none)::r=>abE nw r
def abG (nw:List Nat):List (Nat×iD×Option (List Wd))→Bool
 | []=>true
 |(t,_,some _)::r=>!fH t nw&&abG nw r
 |(_,_,none)::r=>abG nw r
def jOf (st:jw) (j:JT):Option JF:=match AZ st.gs j.slots,Js st.go j.bf with
 |some s,some o=>match abE (newS s) s&&abG (rM o) o with
  |true=>some ⟨s,o⟩
  |false=>none
 |_,_=>none
def knT (c:Operand) (a i b:Bool) (q:iW):iW:=match c with
 |.tmp t=>q.know t a i b
 |_=>q
def W9 {R:Type} (c:Operand) (q:iW) (x y:iW→Prog R):Prog R:=match q.st.dH c with
 |.v (.one (.p a i ⟨.bool,b⟩))=>.cond b (frX (knT c a i true q) x) (frX (knT c a i false q) y)
 |_=>.stuck 50
def ML {R:Type} (bg:List Nat) (early:Bool) (jt:JT) (here:Nat→Bool) (q:iW) (inner:(R':Type)→iW→TK R'→Prog R') (K:TK R):Prog R:=
 match jOf q.st jt with
 |none=>.stuck 40
 |some j=>match early with
  |false=>.join (inner (Tup j.tys) q.fresh { n:=fun q'=>qU bg j q' .ret,x:=fun id q'=>bif here id then qU bg j q' .ret else .stuck 41,r:=fun _=>.stuck 42 })
    fun x=>frX ⟨qV j x,newS j.slots++q.ds,rM j.bf++q.od⟩ K.n
  |true=>.MH (inner (Tup j.tys ⊕ R) q.fresh { n:=fun q'=>qU bg j q' fun x=>.ret (.inl x),x:=fun id q'=>bif here id then qU bg j q' (fun x=>.ret (.inl x)) else (K.x id (q'.since q)).map .inr,r:=fun q'=>(K.r (q'.since q)).map .inr })
    fun x=>frX ⟨qV j x,newS j.slots++q.ds,rM j.bf++q.od⟩ K.n
def Ty.lit:Ty→Bool
 |.int _=>true
 |.bool=>true
 |.str=>true
 |_=>false
def O4 (N:Nat):Code→jw→Option jw
 |.skip,st=>some st
 |.region _ ops false,st=>match ops.toList with
  | [o]=>match o.guard,o.dst,I4 o.op with
   |none,some d,some t=>match Nat.blt d N with
    |true=>some (st.put (some d) (st.gs t))
    |false=>none
   |_,_,_=>none
  |_=>none
 |.seq x y,st=>match O4 N x st with
  |some st'=>O4 N y st'
  |none=>none
 |_,_=>none
def rowT:List Tmp→List Wd→jw→jw
 |p::ps,x::xs,st=>rowT ps xs (st.put (some p) (.v (.one (.p false false x))))
 |_,_,st=>st
def outT (sg:dD) (q:iW):Prog (Tup sg.aS.tys):=
 let st0:jw:=(mM [] (Le q.st.o) { s:=[],o:=q.st.o,u:=q.st.u }).2
 let gs:=aeH sg.bg sg.aS st0
 let st:=Jt gs st0
 let m:=derive sg.bg sg.aS st
 match keysB sg.bg sg.aS m&&aeG st0.go gs with
 |false=>.stuck 81
 |true=>match zo sg.aS m st with
  |none=>.stuck 82
  |some vs=>match Tup.ofL sg.aS.tys vs with
   |none=>.stuck 83
   |some x=>.ret x
def O5 {R:Type} (N:Nat) (sg:dD) (body:iW→TK (Tup sg.aS.tys)→Prog (Tup sg.aS.tys)) (ps:Array Tmp) (x:Code) (ws:List Wd) (q:iW) (K:iW→Prog R):Prog R:=
 match O4 N x (rowT ps.toList ws q.st) with
 |none=>.stuck 70
 |some st1=>match wo sg q.st.go ((List.range N).map st1.gs) with
  |none=>.stuck 71
  |some c=>match sg.er.ok&&(sg.bg.all (fun g=>sg.pin.er.nms.contains g)&&sg.er.aaB)&&Nat.beq sg.dA 0&&c.er.fine sg.er with
   |false=>.stuck 72
   |true=>match Tup.ofL sg.pin.tys c.ins with
    |none=>.stuck 73
    |some z=>.join (frX ⟨mkT sg.pin (Tup.lX sg.pin.tys z),[],[]⟩ fun qb=>body qb { n:=outT sg,x:=fun _ _=>.stuck 74,r:=fun _=>.stuck 75 }) fun bZ=>
      match yC q.st.u (jZ sg (ps.getD 0 0) q.st.go c (Tup.lX sg.aS.tys bZ)).new with
      |true=>frX (q.eff none (jZ sg (ps.getD 0 0) q.st.go c (Tup.lX sg.aS.tys bZ))) K
      |false=>.stuck 76
noncomputable def lI (T:lY) (tt:TT) (ety:TypeId→Option Ty) (N:Nat) (bg:List Nat):Code→(R:Type)→gG→iW→TK R→Prog R
 |.skip,R,_,q,K=>K.n q
 |.region _ ops draw,R,a,q,K=>match a with
  |.meet e j _=>ML bg e j (fun _=>false) q (fun _ q K=>wu T tt ety N ops draw q K.n) K
  |_=>wu T tt ety N ops draw q K.n
 |.seq x y,R,a,q,K=>lI T tt ety N bg x R a.fst q { n:=fun q'=>lI T tt ety N bg y R a.snd q' K,x:=K.x,r:=K.r }
 |.cond c x y,R,a,q,K=>match a with
  |.meet e j a=>ML bg e j (fun _=>false) q (fun R q K=>W9 c q (fun q=>lI T tt ety N bg x R a.fst q K) fun q=>lI T tt ety N bg y R a.snd q K) K
  |a=>W9 c q (fun q=>lI T tt ety N bg x R a.fst q K) fun q=>lI T tt ety N bg y R a.snd q K
 |.block id c,R,a,q,K=>match a with
  |.meet e j a=>ML bg e j (Nat.beq id) q (fun R q K=>lI T tt ety N bg c R a q K) K
  |a=>lI T tt ety N bg c R a.fst q { n:=K.n,x:=fun id' q'=>bif Nat.beq id' id then K.n q' else K.x id' q',r:=K.r }
 |.loop c,R,a,q,K=>match a with
  |.loop jt a=>match jOf q.st jt with
   |none=>.stuck 43
   |some j=>qU bg j q.fresh fun x=>.loop x fun x=>
     frX ⟨qV j x,[],[]⟩ fun q'=>lI T tt ety N bg c (Tup j.tys ⊕ R) a q'
      { n:=fun q'=>qU bg j q' fun x=>.ret (.inl x),x:=fun id q'=>(K.x id (q'.since ⟨q'.st,newS j.slots++q.ds,rM j.bf++q.od⟩)).map .inr,r:=fun q'=>(K.r (q'.since ⟨q'.st,newS j.slots++q.ds,rM j.bf++q.od⟩)).map .inr }
  |_=>.stuck 44
 |.exit id,R,_,q,K=>K.x id q
 |.ret,R,_,q,K=>K.r q
 |.label _,R,_,q,K=>K.n q
 |.scope c,R,a,q,K=>lI T tt ety N bg c R a q K
 |.rangeFunc g ps x y,R,a,q,K=>match a with
  |.range jt sg a=>match calm y,q.st.dH g with
   |true,.v (.one (.p _ _ ⟨.sq e,rows⟩))=>match (iP e).all Ty.lit&&Nat.beq (iP e).length ps.size&&ps.toList.all (fun p=>Nat.blt p N) with
    |true=>match jOf q.st jt with
     |none=>.stuck 77
     |some j=>qU bg j q.fresh fun z0=>.loop (z0,(0:Nat)) fun (zk:Tup j.tys×Nat)=>
       .cond (Nat.blt zk.2 (List.length (α:=Dt e) rows))
        (frX ⟨qV j zk.1,[],[]⟩ fun q'=>O5 N sg (fun q K=>lI T tt ety N sg.bg y (Tup sg.aS.tys) a q K) ps x (fD e (List.getD (α:=Dt e) rows zk.2 (dflt e))) q' fun q''=>qU bg j q'' fun z'=>.ret (.inl (z',zk.2+1)))
        (frX ⟨qV j zk.1,newS j.slots++q.ds,rM j.bf++q.od⟩ fun q'=>(K.n q').map .inr)
    |false=>.stuck 78
   |_,_=>.stuck 79
  |_=>.stuck 80
 |_,R,_,_,_=>.stuck 45
def W_ (tt:TT) (st:jw):ResultVar→Option TS
 |.tmp t=>some (st.gs t)
 |.cell a t=>match tt t,st.gs a with
  |some i,.v (.one (.box g off))=>match st.go g with
   |.box ws=>bif Nat.ble (off+i.size) ws.length&&Nat.blt 0 i.size then some (TV.fQ i.agg ((ws.drop off).take i.size)) else none
   |_=>none
  |_,_=>none
def Jv (tt:TT) (st:jw):List ResultVar→Option (List TS)
 | []=>some []
 |r::rs=>match W_ tt st r,Jv tt st rs with
  |some x,some xs=>some (x::xs)
  |_,_=>none
def Vk (n:Nat):List TS→List (Nat×TS)
 | []=>[]
 |x::xs=>(n,x)::Vk (n+1) xs
def aeI (tt:TT) (sp:dD) (ts:List ResultVar) (q:iW):Prog (Tup sp.aS.tys):=
 match Jv tt q.st ts with
 |none=>.stuck 60
 |some xs=>
  let st0:jw:=(mM [] (Le q.st.o) { s:=Vk 0 xs,o:=q.st.o,u:=q.st.u }).2
  let gs:=aeH sp.bg sp.aS st0
  let st:=Jt gs st0
  let m:=derive sp.bg sp.aS st
  match keysB sp.bg sp.aS m&&aeG st0.go gs with
  |false=>.stuck 61
  |true=>match zo sp.aS m st with
   |none=>.stuck 62
   |some vs=>match Tup.ofL sp.aS.tys vs with
    |none=>.stuck 63
    |some x=>.ret x
inductive LkC where
 |yes
 |no
 |len (n m:Nat)
def RH:TO→TO→LkC
 |.box _,.box _=>.yes
 |.arr _ _ _ e l,.arr _ _ _ e' l'=>bif Nat.beq (size e) (size e') then .len (List.length (α:=Dt e) l) (List.length (α:=Dt e') l') else .no
 |.aP _ _ e _ l _,.aP _ _ e' _ l' _=>bif Nat.beq (size e) (size e') then .len (List.length (α:=Dt e) l) (List.length (α:=Dt e') l') else .no
 |_,_=>.no
def A_ {R:Type} (a b:Nat→TO) (K:Prog R):List Nat→Prog R
 | []=>K
 |g::gs=>match RH (a g) (b g) with
  |.yes=>A_ a b K gs
  |.no=>.stuck 90
  |.len n m=>.chk (decide (n=m)) (A_ a b K gs)
noncomputable def tfun (T:lY) (tt:TT) (ety:TypeId→Option Ty) (N:Nat) (sp:dD) (ts:List ResultVar) (c:Code) (a:gG) (x:Tup sp.pin.tys):Prog (Tup sp.aS.tys):=
 frX ⟨mkT sp.pin (Tup.lX sp.pin.tys x),[],[]⟩ fun q=>lI T tt ety N sp.bg c (Tup sp.aS.tys) a q { n:=aeI tt sp ts,x:=fun _ _=>.stuck 64,r:=aeI tt sp ts }
noncomputable def abH (T:lY) (tt:TT) (ety:TypeId→Option Ty) (N:Nat) (sp:dD) (ts:List ResultVar) (c:Code) (a:gG) (x:Tup sp.pin.tys):Prog (Tup sp.aS.tys):=
 match sp.er.aaB with
 |true=>tfun T tt ety N sp ts c a x
 |false=>.join (tfun T tt ety N sp ts c a x) fun y=>A_ (mkT sp.pin (Tup.lX sp.pin.tys x)).go (mkT sp.aS (Tup.lX sp.aS.tys y)).go (.ret y) sp.bg
end
end Go.Fg

