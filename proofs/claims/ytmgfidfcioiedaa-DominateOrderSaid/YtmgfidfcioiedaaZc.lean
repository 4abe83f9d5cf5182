/-
  The framework (a machine on plain data that answers as the program does), part 3.
-/
import Derived.RangeFuncLeaves
import Derived.RangeFuncCalls
import Derived.OrdersIn
import Derived.LoopNIn
import Derived.LoopN
import Derived.Tactics
import Derived.Laws.Strings
import Derived.Test.YtmgfidfcioiedaaZb
set_option linter.unusedSimpArgs false
set_option linter.unusedVariables false
namespace Go.Fw
set_option linter.unusedSectionVars false
variable [dR]
set_option linter.unusedVariables false
theorem J8 (st:St) (dst:Option Tmp) (e:Eff) (t:Nat):(st.eff dst e).s t=if dst=some t then e.x else st.s t:=by
 cases dst with
 |none=>simp [St.eff,St.put,St.aF]
 |some d=>
  simp only [St.eff,St.put,St.aF,Option.some.injEq]
  by_cases h:t=d
  ·subst h;simp
  ·have h1:Nat.beq t d=false:=by cases hb:Nat.beq t d with | false=>rfl | true=>exact absurd (Nat.eq_of_beq_eq_true hb) h
   rw [h1,if_neg (fun e=>h e.symm)];rfl
theorem wR (st:St) (dst:Option Tmp) (e:Eff) (g:Nat):(st.eff dst e).o g=match e.aF.lookup g with | some x=>x | none=>st.o g:=by
 cases dst<;>rfl
theorem sU (st:St) (dst:Option Tmp) (e:Eff) (g:Nat):(st.eff dst e).used g=(e.new.contains g||st.used g):=by
 cases dst<;>rfl
theorem jv {α:Type} {g:Nat} :∀{l:List (Nat×α)},g∉l.map (·.1)→l.lookup g=none
 | [],_=>rfl
 |(k,v)::l,h=>by
  simp only [List.map_cons,List.mem_cons,not_or] at h
  have:(g==k)=false:=by simpa using h.1
  simp only [List.lookup,this]
  exact jv h.2
theorem St.ext' {a b:St} (h1 :∀t,a.s t=b.s t) (h2 :∀g,a.o g=b.o g) (h3 :∀g,a.used g=b.used g):a=b:=by
 obtain ⟨s,o,u⟩:=a
 obtain ⟨s',o',u'⟩:=b
 simp only at h1 h2 h3
 rw [funext h1,funext h2,funext h3]
section
variable {ops:Array Oper} {es es':Nat→Eff} {st:St} {D D':Nat→Bool}
def SD (ops:Array Oper) (es:Nat→Eff) (st:St) (D:Nat→Bool):Nat→St
 |0=>st
 |k+1=>if D k=true then (SD ops es st D k).eff ((ops[k]?).bind (·.dst)) (es k) else SD ops es st D k
theorem GZ :∀{n:Nat},(∀k<n,es k=es' k)→SD ops es st D n=SD ops es' st D n
 |0,_=>rfl
 |n+1,h=>by simp only [SD];rw [GZ fun k hk=>h k (by omega),h n (by omega)]
theorem CG :∀{n:Nat},(∀k<n,D k=D' k)→SD ops es st D n=SD ops es st D' n
 |0,_=>rfl
 |n+1,h=>by simp only [SD];rw [CG fun k hk=>h k (by omega),h n (by omega)]
theorem afS {t:Nat} :∀{n:Nat},(∀k<n,D k≠D' k→(ops[k]?).bind (·.dst)≠some t)→(SD ops es st D n).s t=(SD ops es st D' n).s t
 |0,_=>rfl
 |n+1,h=>by
  have ih:=afS (n:=n) fun k hk=>h k (by omega)
  have hn:=h n (by omega)
  simp only [SD]
  cases h1:D n<;>cases h2:D' n
  ·simpa using ih
  ·have:=hn (by rw [h1,h2];simp)
   simp only [if_true,J8,if_neg this];simpa using ih
  ·have:=hn (by rw [h1,h2];simp)
   simp only [if_true,J8,if_neg this];simpa using ih
  ·simp only [if_true,J8,ih]
theorem afT {g:Nat} :∀{n:Nat},(∀k<n,D k≠D' k→g∉(es k).aF.map (·.1))→(SD ops es st D n).o g=(SD ops es st D' n).o g
 |0,_=>rfl
 |n+1,h=>by
  have ih:=afT (n:=n) fun k hk=>h k (by omega)
  have hn:=h n (by omega)
  simp only [SD]
  cases h1:D n<;>cases h2:D' n
  ·simpa using ih
  ·have:=jv (hn (by rw [h1,h2];simp))
   simp only [if_true,wR,this];simpa using ih
  ·have:=jv (hn (by rw [h1,h2];simp))
   simp only [if_true,wR,this];simpa using ih
  ·simp only [if_true,wR,ih]
theorem ML {g:Nat} :∀{n:Nat},(∀k<n,D k≠D' k→g∉(es k).new)→(SD ops es st D n).used g=(SD ops es st D' n).used g
 |0,_=>rfl
 |n+1,h=>by
  have ih:=ML (n:=n) fun k hk=>h k (by omega)
  have hn:=h n (by omega)
  simp only [SD]
  cases h1:D n<;>cases h2:D' n
  ·simpa using ih
  ·have:=hn (by rw [h1,h2];simp)
   have:(es n).new.contains g=false:=by simpa using this
   simp only [if_true,sU,this,Bool.false_or];simpa using ih
  ·have:=hn (by rw [h1,h2];simp)
   have:(es n).new.contains g=false:=by simpa using this
   simp only [if_true,sU,this,Bool.false_or];simpa using ih
  ·simp only [if_true,sU,ih]
theorem J9 {t i:Nat} (hi:D i=true) (hd:(ops[i]?).bind (·.dst)=some t) :∀{n:Nat},i<n→(∀k,i<k→k<n→D k=true→(ops[k]?).bind (·.dst)≠some t)→(SD ops es st D n).s t=(es i).x
 |0,h,_=>by omega
 |n+1,hin,h=>by
  simp only [SD]
  by_cases e:n=i
  ·subst e;simp [hi,J8,hd]
  ·have ih:=J9 hi hd (n:=n) (by omega) fun k h1 h2=>h k h1 (by omega)
   cases hn:D n with
   |false=>simpa using ih
   |true=>
    have:=h n (by omega) (by omega) hn
    simp only [if_true,J8,if_neg this,ih]
theorem J_ {g i:Nat} {x:O} (hi:D i=true) (hd:(es i).aF.lookup g=some x) :∀{n:Nat},i<n→(∀k,i<k→k<n→D k=true→g∉(es k).aF.map (·.1))→(SD ops es st D n).o g=x
 |0,h,_=>by omega
 |n+1,hin,h=>by
  simp only [SD]
  by_cases e:n=i
  ·subst e;simp [hi,wR,hd]
  ·have ih:=J_ hi hd (n:=n) (by omega) fun k h1 h2=>h k h1 (by omega)
   cases hn:D n with
   |false=>simpa using ih
   |true=>
    have:=jv (h n (by omega) (by omega) hn)
    simp only [if_true,wR,this,ih]
theorem Ec {g i:Nat} (hi:D i=true) (hd:g∈(es i).new) :∀{n:Nat},i<n→(SD ops es st D n).used g=true
 |0,h=>by omega
 |n+1,hin=>by
  simp only [SD]
  by_cases e:n=i
  ·subst e;simp [hi,sU,hd]
  ·have ih:=Ec hi hd (n:=n) (by omega)
   cases hn:D n with
   |false=>simpa using ih
   |true=>simp only [if_true,sU,ih,Bool.or_true]
structure Apart (ops:Array Oper) (x y:Oper) (fx fy:rX):Prop where
 dy :∀t,x.dst=some t→t∉y.looksAt ops
 dx :∀t,y.dst=some t→t∉x.looksAt ops
 dd :∀t,x.dst=some t→y.dst≠some t
 wr:(∀g∈fx.wr,g∉fy.rd)∨Eb fx fy=true
 rw:(∀g∈fy.wr,g∉fx.rd)∨Eb fy fx=true
 ww :∀g∈fx.wr,g∉fy.wr
 nn :∀g∈fx.new,g∉fy.new
theorem wS {x:Option Tmp} {ts:List Tmp} (h:GY x ts=true) :∀t,x=some t→t∉ts:=by
 intro t e
 subst e
 simpa [GY] using h
theorem yj {xs ys:List Nat} (h:L_ xs ys=true) :∀x∈xs,x∉ys:=by
 intro x hx
 have:=(List.all_eq_true.1 h) x hx
 simpa using this
theorem R_ {x y:Oper} {fx fy:rX} (h:YR ops x y fx fy=true):Apart ops x y fx fy:=by
 simp only [YR,Bool.and_eq_true,Bool.or_eq_true] at h
 obtain ⟨⟨⟨⟨⟨⟨h1,h2⟩,h3⟩,h4⟩,h5⟩,h6⟩,h7⟩:=h
 exact ⟨wS h1,wS h2,fun t e e'=>wS h3 t e (by simp [e']),h4.imp yj id,h5.imp yj id,yj h6,yj h7⟩
theorem Ko {acc:List Nat} {i:Nat} :∀{l:List Edge} {s:Nat},(l.foldl (fun s e=>if Region.binds .any e=true then s ||| (2 ^ e.on) ||| acc.getD e.on 0 else s) s).testBit i=true↔
  s.testBit i=true∨∃e∈l,Region.binds .any e=true∧(e.on=i∨(acc.getD e.on 0).testBit i=true)
 | [],s=>by simp
 |e::l,s=>by
  simp only [List.foldl_cons]
  rw [Ko]
  by_cases hb:Region.binds .any e=true
  ·simp only [hb,if_true,Nat.testBit_or,Bool.or_eq_true,Nat.testBit_two_pow,decide_eq_true_eq,List.mem_cons]
   constructor
   ·rintro (((h | h) | h) | ⟨e',h1,h2⟩)
    ·exact .inl h
    ·exact .inr ⟨e,.inl rfl,hb,.inl h⟩
    ·exact .inr ⟨e,.inl rfl,hb,.inr h⟩
    ·exact .inr ⟨e',.inr h1,h2⟩
   ·rintro (h | ⟨e',h1 | h1,h2,h3 | h3⟩)
    ·exact .inl (.inl (.inl h))
    ·subst h1;exact .inl (.inl (.inr h3))
    ·subst h1;exact .inl (.inr h3)
    ·exact .inr ⟨e',h1,h2,.inl h3⟩
    ·exact .inr ⟨e',h1,h2,.inr h3⟩
  ·simp only [hb,List.mem_cons]
   constructor
   ·rintro (h | ⟨e',h1,h2⟩)
    ·exact .inl (by simpa using h)
    ·exact .inr ⟨e',.inr h1,h2⟩
   ·rintro (h | ⟨e',h1 | h1,h2,h3⟩)
    ·exact .inl (by simpa using h)
    ·subst h1;exact absurd h2 hb
    ·exact .inr ⟨e',h1,h2,h3⟩
theorem G5 :∀{os:List Oper} {acc:List Nat},∃t,nO os acc=acc++t
 | [],acc=>⟨[],by simp [nO]⟩
 |o::os,acc=>by
  obtain ⟨t,h⟩:=G5 (os:=os) (acc:=acc++[kN acc o])
  exact ⟨kN acc o::t,by simp [nO,h]⟩
theorem G6 :∀{os:List Oper} {acc:List Nat} {j:Nat} {o:Oper},os[j]?=some o→∃acc',(∃t,nO os acc=acc'++kN acc' o::t)∧acc'.length=acc.length+j
 | [],acc,j,o,h=>by simp at h
 |o'::os,acc,0,o,h=>by
  simp only [List.getElem?_cons_zero,Option.some.injEq] at h
  subst h
  obtain ⟨t,h⟩:=G5 (os:=os) (acc:=acc++[kN acc o'])
  exact ⟨acc,⟨t,by simp [nO,h]⟩,rfl⟩
 |o'::os,acc,j+1,o,h=>by
  simp only [List.getElem?_cons_succ] at h
  obtain ⟨acc',h1,h2⟩:=G6 (acc:=acc++[kN acc o']) h
  exact ⟨acc',h1,by simp at h2;omega⟩
def Down (ops:Array Oper) (D:Nat→Bool):Prop :=∀(j:Nat) o,ops[j]?=some o→D j=true→∀e∈o.after,Region.binds .any e=true→D e.on=true
theorem G7 {j:Nat} {o:Oper} (ho:ops[j]?=some o) {i:Nat}:((nO ops.toList []).getD j 0).testBit i=true↔
  ∃e∈o.after,Region.binds .any e=true∧(e.on=i∨(e.on<j∧((nO ops.toList []).getD e.on 0).testBit i=true)):=by
 have hl:ops.toList[j]?=some o:=by simpa using ho
 obtain ⟨acc,⟨t,h1⟩,h2⟩:=G6 (acc:=[]) hl
 simp only [List.length_nil,Nat.zero_add] at h2
 rw [h1]
 have e1:(acc++kN acc o::t).getD j 0=kN acc o:=by
  rw [List.getD_eq_getElem?_getD,List.getElem?_append_right (by omega),h2];simp
 have e2 :∀k,(acc++kN acc o::t).getD k 0=if k<j then acc.getD k 0 else (acc++kN acc o::t).getD k 0:=by
  intro k
  split
  ·rename_i hk
   rw [List.getD_eq_getElem?_getD,List.getElem?_append_left (by omega),←List.getD_eq_getElem?_getD]
  ·rfl
 rw [e1]
 unfold kN
 rw [Ko]
 simp only [Nat.zero_testBit,Bool.false_eq_true,false_or,Array.mem_toList_iff]
 constructor
 ·rintro ⟨e,q1,q2,q3⟩
  refine ⟨e,q1,q2,q3.imp id fun q => ?_⟩
  by_cases hk:e.on<j
  ·refine ⟨hk,?_⟩
   have:=e2 e.on
   rw [if_pos hk] at this
   unfold kN at this
   rw [this];exact q
  ·have:acc.getD e.on 0=0:=by rw [List.getD_eq_getElem?_getD,List.getElem?_eq_none (by omega)];rfl
   rw [this] at q;simp at q
 ·rintro ⟨e,q1,q2,q3⟩
  refine ⟨e,q1,q2,q3.imp id fun ⟨hk,q⟩ => ?_⟩
  have:=e2 e.on
  rw [if_pos hk] at this
  unfold kN at this
  rw [this] at q;exact q
theorem wU (hD:Down ops D) :∀(j:Nat) {o:Oper},ops[j]?=some o→D j=true→∀i,((nO ops.toList []).getD j 0).testBit i=true→D i=true:=by
 intro j
 induction j using Nat.strongRecOn with
 |_ j ih=>
  intro o ho hj i hb
  obtain ⟨e,h1,h2,h3 | ⟨h3,h4⟩⟩:=(G7 ho).1 hb
  ·rw [←h3];exact hD j o ho hj e h1 h2
  ·have hlt:j<ops.size:=(Array.getElem?_eq_some_iff.1 ho).1
   have hlt':e.on<ops.size:=by omega
   exact ih e.on h3 (Array.getElem?_eq_getElem hlt') (hD j o ho hj e h1 h2) i h4
theorem O4 {j:Nat} {o:Oper} (ho:ops[j]?=some o) (h:(nO ops.toList []).getD j 0<2 ^ j) {e:Edge} (he:e∈o.after) (hb:Region.binds .any e=true):e.on<j:=by
 have:=(G7 ho (i:=e.on)).2 ⟨e,he,hb,.inl rfl⟩
 by_cases hk:e.on<j
 ·exact hk
 ·rw [Nat.testBit_lt_two_pow (Nat.lt_of_lt_of_le h (Nat.pow_le_pow_right (by omega) (by omega)))] at this;cases this
end
section
variable {E:Env} {N:Nat} {aU:List Nat} {oL:Nat→Gh} {st:St} {a:Act} {w:World} {Pg:Program} {T:Tab} {tt:TT} {ops:Array Oper} {Q:Exit→Act→World→Prop}
theorem O5 {gh:Nat→Gh} (h:Rel E st gh (fun t=>a.tmps.getD t undef) w) {x:S} {v:Value} (hx:cO E st gh w x v) {i:TI} {t:TypeId} (ht:oJ Pg t i) {c:Value} {p:Bool→Prop} (hp:wQ st.o x i.k c=some p) :
  ∃b,(Op.equal t v c).run Pg w=.ok b w∧p b:=by
 unfold wQ at hp
 split at hp
 ·rename_i e hk
  have hu:=ht.kind
  rw [hk] at hu
  have hu:Pg.underlying t=some (.slice e):=hu
  have eqs :∀ao n cap,(Op.equal t (.slice ao n cap) (.slice none 0 0)).run Pg w=.ok ao.isNone w:=by
   intro ao n cap
   unfold Op.equal Op.maxDepth
   show (Op.equalIn (9999+1) t _ _).run Pg w=_
   unfold Op.equalIn
   cases ao<;>simp [dQ hu]
  unfold J6 at hp
  split at hp
  ·simp only [Option.some.injEq] at hp;subst hp
   have r:=hx.eH
   generalize hl:(P.sl _ _)=y at r
   cases r with
   |nil sz ao cap=>cases hl;exact ⟨_,eqs _ _ _,fun h=>absurd rfl h⟩
   |sl sz l ad cap f _ _ _ _ _ _=>cases hl;exact ⟨_,eqs _ _ _,fun _=>rfl⟩
   |_=>cases hl
  ·rename_i g
   split at hp
   ·rename_i sz l ho
    simp only [Option.some.injEq] at hp;subst hp
    cases hx.cu with
    |own _ _ _ hb=>
     rw [hb _ _ ho]
     refine ⟨_,eqs _ _ _,fun hl => ?_⟩
     obtain ⟨ad,had,_⟩:=(uj (h.aQ g) ho).2 (by omega)
     rw [had];rfl
   ·cases hp
  ·simp only [Option.some.injEq] at hp;subst hp
   cases hx.cu
   exact ⟨_,eqs _ _ _,rfl⟩
  ·cases hp
 ·rename_i hk
  have hu:=ht.kind
  rw [hk] at hu
  obtain ⟨e,hu⟩:=(hu :∃e,Pg.underlying t=some (.pointer e))
  have eqp :∀ao,(Op.equal t (.pointer ao) (.pointer none)).run Pg w=.ok ao.isNone w:=by
   intro ao
   unfold Op.equal Op.maxDepth
   show (Op.equalIn (9999+1) t _ _).run Pg w=_
   unfold Op.equalIn
   cases ao<;>simp [dQ hu]
  unfold Ea at hp
  split at hp
  ·rename_i g off
   split at hp
   ·rename_i ws ho
    simp only [Option.some.injEq] at hp;subst hp
    cases hx.cu with
    |box _ _ _ _ hb=>
     obtain ⟨ad,_,rfl⟩:=hb ws ho
     exact ⟨_,eqp _,rfl⟩
   ·cases hp
  ·simp only [Option.some.injEq] at hp;subst hp
   cases hx.eH with
   |opq _ _=>exact ⟨_,eqp _,rfl⟩
  ·cases hp
 ·cases hp
theorem O6 (hT :∀f sp,T f=some sp→Sound Pg f sp) (htt:gQ Pg tt) {i:Nat} {o:Oper} (hi:ops[i]?=some o) (hg:Good E N aU oL st a w) {K':Eff→Prop} (h:AO T tt N ops o st K')
  {K:Act→World→Prop} (hK :∀e a' w',K' e→Good E N aU oL (st.eff o.dst e) a' w'→K a' w'):wpOp Pg ops Q i K a w:=by
 unfold AO at h
 split at h
 ·rename_i pos p hn
  obtain ⟨hd,h⟩:=h
  have hd :∀d,o.dst=some d→d<a.tmps.size:=by
   intro d e
   rw [e] at hd
   rw [hg.size];simpa using hd
  unfold MJ at hn
  split at hn
  ·cases hn
  ·rename_i hgd
   split at hn
   ·rename_i op t x c u hop
    split at hn
    ·rename_i ti ht
     obtain ⟨gh,hR,D7⟩:=hg.ex
     have hx:=mY hR x
     have key :∀p',wQ st.o (st.dK x) ti.k c=some p'→∃b,(Op.equal t (a.eval x) c).run Pg w=.ok b w∧p' b:=fun p' hp=>O5 hR hx (htt _ _ ht) hp
     have fin :∀b,(execOp a.eval o).run Pg w=.ok (.value (.bool (bif pos then b else !b))) w→p b→wpOp Pg ops Q i K a w:=by
      intro b hrun hb
      unfold wpOp
      rw [hi]
      simp only
      have:Region.wanted o (yielded ops a.tmps)=true:=by simp [Region.wanted,hgd]
      rw [if_pos this]
      left
      show o.upon Pg a K Q ((execOp a.eval o).run Pg w)
      rw [hrun]
      refine hK _ _ _ (h b hb) ⟨⟨gh,?_,fun g hg' => ?_⟩,by rw [wO];exact hg.size,hg.defers.put _ _⟩
      ·rw [wM _ _ hd]
       unfold St.eff
       simp only [Fv]
       exact hR.put o.dst (cO.ofP (.bool _)) (by simp [scalar,S.names,V.names,W.names])
      ·have ho:(st.eff o.dst { x:=scalar (.bool (bif pos then b else !b)),aF:=[],new:=[] }).o g=st.o g:=by unfold St.eff St.put;cases o.dst<;>simp [St.aF]
       have hu:(st.eff o.dst { x:=scalar (.bool (bif pos then b else !b)),aF:=[],new:=[] }).used g=st.used g:=by unfold St.eff St.put;cases o.dst<;>simp [St.aF]
       rw [ho,hu];exact D7 g hg'
     have hcv :∀b,(Op.equal t (a.eval x) c).run Pg w=.ok b w→(c=.slice none 0 0∨c=.pointer none)∧True→(eqGuard op t x (.const c) (a.eval x) c).run Pg w=.ok () w:=by
      intro b _ hc
      unfold eqGuard
      rcases hc.1 with rfl | rfl
      ·cases op<;>first | rfl | (simp only;split<;>first | rfl | simp_all)
      ·cases op<;>first | rfl | (simp only;split<;>first | rfl | simp_all)
     have hcc :∀p',wQ st.o (st.dK x) ti.k c=some p'→c=.slice none 0 0∨c=.pointer none:=by
      intro p' hp
      unfold wQ at hp
      split at hp
      ·exact .inl rfl
      ·exact .inr rfl
      ·cases hp
     split at hn
     ·rename_i p' hp
      simp only [Option.some.injEq,Prod.mk.injEq] at hn
      obtain ⟨rfl,rfl⟩:=hn
      obtain ⟨b,hb1,hb2⟩:=key _ hp
      refine fin b ?_ hb2
      have hge:=hcv b hb1 ⟨hcc _ hp,trivial⟩
      unfold execOp
      rw [hop]
      refine fU ?_
      show (eqGuard _ t x (.const c) (a.eval x) c >>= fun _=>binOp _ t (a.eval x) c).run Pg w=_
      rw [Sem.run_bind,hge]
      rcases hcc _ hp with rfl | rfl<;>simp [binOp,hb1]
     ·rename_i p' hp
      simp only [Option.some.injEq,Prod.mk.injEq] at hn
      obtain ⟨rfl,rfl⟩:=hn
      obtain ⟨b,hb1,hb2⟩:=key _ hp
      refine fin b ?_ hb2
      have hge:=hcv b hb1 ⟨hcc _ hp,trivial⟩
      unfold execOp
      rw [hop]
      refine fU ?_
      show (eqGuard _ t x (.const c) (a.eval x) c >>= fun _=>binOp _ t (a.eval x) c).run Pg w=_
      rw [Sem.run_bind,hge]
      rcases hcc _ hp with rfl | rfl<;>simp [binOp,hb1]
     ·cases hn
    ·cases hn
   ·cases hn
 ·split at h
  ·rename_i g s n hn
   obtain ⟨hd,h1,h2⟩:=h
   have hd :∀d,o.dst=some d→d<a.tmps.size:=by
    intro d e
    rw [e] at hd
    rw [hg.size];simpa using hd
   unfold MK at hn
   split at hn
   ·cases hn
   ·rename_i hgd
    split at hn
    ·rename_i x hop
     split at hn
     ·rename_i g' hx
      split at hn
      ·rename_i s' n' hog
       simp only [Option.some.injEq,Prod.mk.injEq] at hn
       obtain ⟨rfl,rfl,rfl⟩:=hn
       obtain ⟨gh,hR,D7⟩:=hg.ex
       have hrx:=mY hR x
       rw [hx] at hrx
       obtain ⟨ad,had,hv⟩ :∃ad,(gh g').ad=some ad∧a.eval x=.pointer (some ⟨ad.block,0,none⟩):=by
        have:=hrx.cu
        generalize a.eval x=z at this
        cases this with | mJ _ _ _ hb=>exact hb _ _ hog
       have hO:=hR.aQ g'
       rw [hog] at hO
       obtain ⟨ad',bs,k,q1,rfl,rfl,q4⟩:=hO
       rw [had] at q1;cases q1
       have hlt:ad.block<w.heap.size:=(hR.wr g' ad.block (by rw [hog];rfl) (Gh.jq had)).2
       have hkn:(P.int .i64 (k:Int)).nat=k:=by simp [P.nat,P.num]
       have hget:(getObj ad.block).run Pg w=.ok (.stringIter bs k) w:=by simp [getObj,Sem.run,q4]
       have fin :∀(v:Value) (w':World) (e:Eff),(∀b,b≠ad.block→w'.heap[b]?=w.heap[b]?)→(Instr.next (a.eval x) true o.type).run Pg w=.ok v w'→K' e→Rel E (st.aF e.aF e.new) gh (fun t=>a.tmps.getD t undef) w'→cO E (st.aF e.aF e.new) gh w' e.x v→(∀g∈e.x.names,(st.aF e.aF e.new).used g=true)→
         (∀g,st.used g=true→(st.aF e.aF e.new).used g=true)→(∀g,((st.aF e.aF e.new).o g=.none∨True)∧(st.o g=.none→(st.aF e.aF e.new).o g=.none))→wpOp Pg ops Q i K a w:=by
        intro v w' e hmm hrun hke hR' hx' hn' hu' ho'
        unfold wpOp
        rw [hi]
        simp only
        have:Region.wanted o (yielded ops a.tmps)=true:=by simp [Region.wanted,hgd]
        rw [if_pos this]
        left
        show o.upon Pg a K Q ((execOp a.eval o).run Pg w)
        have:(execOp a.eval o).run Pg w=.ok (.value v) w':=by
         unfold execOp
         rw [hop]
         exact fU hrun
        rw [this]
        refine hK e _ _ hke ⟨⟨gh,?_,fun g hg' => ?_⟩,by rw [wO];exact hg.size,hg.defers.same (fun D _ h3=>hmm D fun e'=>by rw [e',q4] at h3;cases h3) _ _⟩
        ·rw [wM _ _ hd]
         exact hR'.put o.dst hx' hn'
        ·obtain ⟨p1,p2⟩:=D7 g hg'
         have ho2:(st.eff o.dst e).o g=(st.aF e.aF e.new).o g:=by unfold St.eff St.put;cases o.dst<;>rfl
         have hu2:(st.eff o.dst e).used g=(st.aF e.aF e.new).used g:=by unfold St.eff St.put;cases o.dst<;>rfl
         refine ⟨by rw [hu2];exact hu' g p1,?_⟩
         rw [ho2]
         rcases p2 with p2 | p2
         ·exact .inl ((ho' g).2 p2)
         ·exact .inr p2
       cases hb:OZ (.str bs) (.int .i64 k) with
       |true=>
        have hkb:k<bs.size:=by
         have:=of_decide_eq_true hb
         rw [hkn] at this;exact this
        have hrun:(Instr.next (a.eval x) true o.type).run Pg w=.ok (.tuple #[.bool true,.int .i64 k,.int .i32 (Utf8.decode bs k).1]) { w with heap:=w.heap.setIfInBounds ad.block (.stringIter bs (k+(Utf8.decode bs k).2)) }:=by
         rw [hv]
         simp only [Instr.next,Sem.run_bind,hget,Result.andThen_ok]
         rw [if_pos hkb]
         have hset:(setObj ad.block (.stringIter bs (k+(Utf8.decode bs k).2))).run Pg w=.ok () { w with heap:=w.heap.setIfInBounds ad.block (.stringIter bs (k+(Utf8.decode bs k).2)) }:=by
          simp [setObj,Sem.run,q4]
         simp only [Sem.run_bind,hset,Result.andThen_ok,Sem.run_pure]
         rfl
        obtain ⟨w1,w2⟩:=hR.write g' ad (by rw [hog];rfl) had (.it (.str bs) (RX (.str bs) (.int .i64 k))) (by rw [hog];trivial) { w with heap:=w.heap.setIfInBounds ad.block (.stringIter bs (k+(Utf8.decode bs k).2)) }
         (fun b hb=>by simp [Array.getElem?_setIfInBounds,Ne.symm hb]) (by simp) rfl rfl rfl rfl (fun _ e=>by cases e) (fun _=>by rw [hog];rfl)
         (fun _=>⟨ad,bs,k+(Utf8.decode bs k).2,had,rfl,by simp only [RX,kZ,hkn];rfl,by simp [hlt]⟩) (fun g hg=>by simp [O.names] at hg)
        have hold :∀g,g≠g'→(st.aF (GV g' (.str bs) (.int .i64 k)).aF (GV g' (.str bs) (.int .i64 k)).new).o g=st.o g:=by
         intro g hne
         have:(g==g')=false:=by simpa using hne
         simp [GV,St.aF,List.lookup,this]
        refine fin _ _ (GV g' (.str bs) (.int .i64 k)) (fun b hb=>by simp [Array.getElem?_setIfInBounds,Ne.symm hb]) hrun (h1 hb) w1 ?_ ?_ ?_ ?_
        ·refine .kT _ _ rfl fun j x v hx hv => ?_
         match j,hx,hv with
         |0,hx,hv=>cases hx;cases hv;exact .one _ _ (.p _ _ _ _ (.bool _))
         |1,hx,hv=>cases hx;cases hv;exact .one _ _ (.p _ _ _ _ (by rw [hkn];exact .int _ _))
         |2,hx,hv=>cases hx;cases hv;exact .one _ _ (.p _ _ _ _ (by simp only [YP,hkn];exact .int _ _))
         |j+3,hx,_=>cases hx
        ·intro g hg'
         simp [GV,S.names,V.names,W.names] at hg'
        ·intro g hg';simp [St.aF,hg']
        ·intro g
         refine ⟨.inr trivial,fun h0 => ?_⟩
         by_cases e:g=g'
         ·subst e;rw [hog] at h0;cases h0
         ·rw [hold g e];exact h0
       |false=>
        have hkb:¬ k<bs.size:=by
         have:=of_decide_eq_false hb
         rw [hkn] at this;exact this
        have hrun:(Instr.next (a.eval x) true o.type).run Pg w=.ok (.tuple #[.bool false]) w:=by
         rw [hv]
         simp only [Instr.next,Sem.run_bind,hget,Result.andThen_ok]
         rw [if_neg hkb];rfl
        refine fin _ _ J7 (fun _ _=>rfl) hrun (h2 hb) (by rw [show J7.aF=[] from rfl,show J7.new=[] from rfl,Fv];exact hR) ?_ ?_ ?_ ?_
        ·refine .kT _ _ rfl fun j x v hx hv => ?_
         match j,hx,hv with
         |0,hx,hv=>cases hx;cases hv;exact .one _ _ (.p _ _ _ _ (.bool _))
         |j+1,hx,_=>cases hx
        ·intro g hg'
         simp [J7,S.names,V.names,W.names] at hg'
        ·intro g hg';simp [St.aF,hg']
        ·intro g;exact ⟨.inr trivial,fun h0=>by simpa [J7,St.aF] using h0⟩
      ·cases hn
     ·cases hn
    ·cases hn
  ·obtain ⟨e,hc,h⟩:=OV h
   exact GN hT htt hi hg hc fun a' w' hg'=>hK e a' w' h hg'
theorem AQ (hT :∀f sp,T f=some sp→Sound Pg f sp) (htt:gQ Pg tt) {K:St→Prop} (hK :∀st' a' w',K st'→Good E N aU oL st' a' w'→Q .normal a' w') :
  ∀(is:List Nat) {st:St} {a:Act} {w:World},uJ T tt N ops is st K→Good E N aU oL st a w→wpOps Pg ops Q is a w
 | [],st,a,w,h,hg=>hK st a w h hg
 |i::is,st,a,w,h,hg=>by
  simp only [uJ] at h
  split at h
  ·rename_i o ho
   rw [wpOps_cons]
   exact O6 hT htt ho hg h fun e a' w' h hg'=>AQ hT htt hK is h hg'
  ·cases h
theorem Ee {K:St→List rX→Prop} :∀(m k:Nat) (es:Nat→Eff) (fs:List rX),fs.length=k→nX T tt N ops (List.range' k m) (SD ops es st (fun _=>true) k) fs K→
  ∃(es':Nat→Eff) (fs':List rX),(∀i<k,es' i=es i)∧(∀i<k,fs'[i]?=fs[i]?)∧K (SD ops es' st (fun _=>true) (k+m)) fs'∧
   ∀i,k≤i→i<k+m→∃o,ops[i]?=some o∧Can T tt N ops (SD ops es' st (fun _=>true) i) o (es' i)∧fs'[i]?=some { rd:=pW T (SD ops es' st (fun _=>true) i) o,wr:=(es' i).aF.map (·.1),new:=(es' i).new,ld:=GX tt (SD ops es' st (fun _=>true) i) o,kp:=RY (SD ops es' st (fun _=>true) i) (es' i),pk:=rY o.op,kd:=RZ (SD ops es' st (fun _=>true) i) (es' i) }
 |0,k,es,fs,hl,h=>⟨es,fs,fun _ _=>rfl,fun _ _=>rfl,h,fun i h1 h2=>by omega⟩
 |m+1,k,es,fs,hl,h=>by
  simp only [List.range'_succ,nX] at h
  split at h
  ·rename_i o ho
   obtain ⟨e,hc,h⟩:=OV h
   let es1:Nat→Eff:=fun i=>if i=k then e else es i
   have e1:SD ops es1 st (fun _=>true) k=SD ops es st (fun _=>true) k:=GZ fun i hi=>by simp only [es1];rw [if_neg (by omega)]
   have e2:SD ops es1 st (fun _=>true) (k+1)=(SD ops es st (fun _=>true) k).eff o.dst e:=by
    simp only [SD,if_true]
    rw [e1,ho]
    simp [es1]
   rw [←e2] at h
   obtain ⟨es',fs',q1,q2,q3,q4⟩:=Ee m (k+1) es1 _ (by simp [hl]) h
   have e3:SD ops es' st (fun _=>true) k=SD ops es st (fun _=>true) k:=(GZ fun i hi=>q1 i (by omega)).trans e1
   refine ⟨es',fs',fun i hi => ?_,fun i hi => ?_,by rw [show k+(m+1)=k+1+m by omega];exact q3,fun i h1 h2 => ?_⟩
   ·rw [q1 i (by omega)];simp only [es1];rw [if_neg (by omega)]
   ·rw [q2 i (by omega),List.getElem?_append_left (by omega)]
   ·by_cases e:i=k
    ·subst e
     have hei:es' i=e:=by rw [q1 i (by omega)];simp [es1]
     refine ⟨o,ho,by rw [e3,hei];exact hc,?_⟩
     rw [q2 i (by omega),List.getElem?_append_right (by omega),e3,hei]
     simp [hl]
    ·exact q4 i (by omega) (by omega)
  ·cases h
def Rng (ws:List W) (off n:Nat) (x:O):Prop :=∃wc,x=.box wc∧wc.length=ws.length∧∀off',off≤off'→off'<off+n→wc[off']?=ws[off']?
theorem G8 {g:Nat} :∀{j:Nat} {xs ys:List W} {r:List (Nat×Nat)},AP g j xs ys=some r→xs.length=ys.length∧∀p∈r,p.1=g∧j≤p.2∧xs[p.2-j]?=ys[p.2-j]?
 |j,[],[],r,h=>by simp only [AP,Option.some.injEq] at h;subst h;exact ⟨rfl,fun p hp=>by cases hp⟩
 |j,[],y::ys,r,h=>by simp [AP] at h
 |j,x::xs,[],r,h=>by simp [AP] at h
 |j,x::xs,y::ys,r,h=>by
  simp only [AP] at h
  split at h
  ·rename_i r' hr
   obtain ⟨h1,h2⟩:=G8 hr
   have old :∀p∈r',p.1=g∧j≤p.2∧(x::xs)[p.2-j]?=(y::ys)[p.2-j]?:=fun p hp=>by
    obtain ⟨a1,a2,a3⟩:=h2 p hp
    refine ⟨a1,by omega,?_⟩
    rw [show p.2-j=(p.2-(j+1))+1 by omega,List.getElem?_cons_succ,List.getElem?_cons_succ];exact a3
   simp only [Option.some.injEq] at h
   refine ⟨by simp [h1],fun p hp => ?_⟩
   rw [←h] at hp
   split at hp
   ·rename_i hs
    rcases List.mem_cons.1 hp with rfl | hp
    ·refine ⟨rfl,Nat.le_refl _,?_⟩
     have:x=y:=by
      cases x<;>cases y<;>simp only [YQ] at hs<;>first | (cases hs) | skip
      ·rw [Nat.eq_of_beq_eq_true hs]
      ·simp only [Bool.and_eq_true] at hs
       rw [Nat.eq_of_beq_eq_true hs.1,Nat.eq_of_beq_eq_true hs.2]
     simp [this]
    ·exact old p hp
   ·exact old p hp
  ·cases h
theorem WX {st:St} {e:Eff} {p:Nat×Nat} (h:p∈RY st e) :∃wa wb,st.o p.1=.box wa∧e.aF.lookup p.1=some (.box wb)∧wa.length=wb.length∧wa[p.2]?=wb[p.2]?:=by
 unfold RY at h
 obtain ⟨g,_,hp⟩:=List.mem_flatMap.1 h
 cases ho:st.o g with
 |box ws=>
  cases hl:e.aF.lookup g with
  |none=>rw [ho,hl] at hp;cases hp
  |some x=>
   cases x with
   |box ws'=>
    rw [ho,hl] at hp
    simp only [O1] at hp
    split at hp
    ·rename_i r hr
     obtain ⟨h1,h2⟩:=G8 hr
     obtain ⟨rfl,_,a3⟩:=h2 p hp
     exact ⟨ws,ws',ho,hl,h1,by simpa using a3⟩
    ·cases hp
   |_=>rw [ho,hl] at hp;cases hp
 |_=>rw [ho] at hp;cases hp
theorem MN {st:St} {o:Oper} {g off n:Nat} (h:GX tt st o=some (g,off,n)) :∃t x i,o.op=.load t x∧tt t=some i∧i.size=n∧st.dK x=.v (.one (.box g off)):=by
 unfold GX at h
 split at h
 ·rename_i t x hop
  split at h
  ·rename_i i g' off' ht hx
   simp only [Option.some.injEq,Prod.mk.injEq] at h
   obtain ⟨rfl,rfl,rfl⟩:=h
   exact ⟨t,x,i,hop,ht,rfl,hx⟩
  ·cases h
 ·cases h
theorem WY {st:St} {o:Oper} {g off n:Nat} (h:GX tt st o=some (g,off,n)):g∈pW T st o:=by
 obtain ⟨t,x,i,h1,_,_,h4⟩:=MN h
 unfold pW
 rw [h1]
 refine List.mem_append_left _ (List.mem_flatMap.2 ⟨x,by simp [Op.operands],List.mem_flatMap.2 ⟨g,?_,by simp⟩⟩)
 rw [h4];simp [S.names,V.names,W.names]
theorem O7 {es:Nat→Eff} {D:Nat→Bool} {g:Nat} :∀(n:Nat),∃m,(∀k,m≤k→k<n→D k=true→g∉(es k).aF.map (·.1))∧(SD ops es st D n).o g=(SD ops es st (fun _=>true) m).o g∧(m=0∨∃k,m=k+1∧k<n∧D k=true∧g∈(es k).aF.map (·.1))
 |0=>⟨0,fun k _ h=>by omega,rfl,.inl rfl⟩
 |n+1=>by
  obtain ⟨m,h1,h2,h3⟩:=O7 (D:=D) (g:=g) n
  by_cases hw:D n=true∧g∈(es n).aF.map (·.1)
  ·obtain ⟨hd,hg⟩:=hw
   refine ⟨n+1,fun k a b=>by omega,?_,.inr ⟨n,rfl,by omega,hd,hg⟩⟩
   simp only [SD,hd,if_true,wR]
   cases hl:(es n).aF.lookup g with
   |some x=>rfl
   |none=>
    exfalso
    obtain ⟨p,hp,e⟩:=List.mem_map.1 hg
    have :∀{l:List (Nat×O)},p∈l→l.lookup p.1≠none:=by
     intro l
     induction l with
     |nil=>intro h;cases h
     |cons q l ih=>
      intro h hn
      simp only [List.lookup] at hn
      split at hn
      ·cases hn
      ·rename_i hb
       rcases List.mem_cons.1 h with h | h
       ·subst h;simp at hb
       ·exact ih h hn
    exact this hp (by rw [e];exact hl)
  ·refine ⟨m,fun k a b hd hg => ?_,?_,h3.imp id fun ⟨k,a,b,c⟩=>⟨k,a,by omega,c⟩⟩
   ·by_cases e:k=n
    ·subst e;exact hw ⟨hd,hg⟩
    ·exact h1 k a (by omega) hd hg
   ·cases hd:D n with
    |false=>simp only [SD,hd,Bool.false_eq_true,if_false];exact h2
    |true=>
     have hg:g∉(es n).aF.map (·.1):=fun hg=>hw ⟨hd,hg⟩
     simp only [SD,hd,if_true,wR,jv hg];exact h2
theorem zC {st:St} {o:Oper} {d:Nat} {t:TypeId} {x:Operand} {i:TI} {g off:Nat} (h1:o.op=.load t x) (h2:tt t=some i) (h4:st.dK x=.v (.one (.box g off))) {K:Eff→Prop} :
  iJ T tt d st o K↔∃ws,st.o g=.box ws∧(off+i.size≤ws.length∧0<i.size)∧K { x:=V.fH i.agg ((ws.drop off).take i.size),aF:=[],new:=[] }:=by
 have hD :∀dc,dJ tt dc d st.o st.dK (.load t x) o.type=none:=fun dc=>by
  simp only [dJ,zi,h2,h4]
  cases YA dc<;>rfl
 have e:iJ T tt d st o K↔(match kernel tt d st.o st.dK (.load t x) o.type with
   |some r=>r.pre∧K { x:=r.dst r.val,aF:=r.aF r.val,new:=r.new }
   |none=>False):=by
  unfold iJ
  rw [h1]
  simp only [hD,reduceCtorEq,false_and,exists_false,false_or,DY,cond_false]
  cases kernel tt d st.o st.dK (.load t x) o.type<;>rfl
 rw [e]
 simp only [kernel,h2,h4]
 cases ho:st.o g with
 |box ws=>
  simp only
  by_cases hs:off+i.size≤ws.length∧0<i.size
  ·rw [if_pos hs]
   simp only [E5.pure,true_and]
   constructor
   ·intro h;exact ⟨ws,rfl,hs,h⟩
   ·rintro ⟨ws',e',_,h⟩;cases e';exact h
  ·rw [if_neg hs]
   simp only [false_iff]
   rintro ⟨ws',e',h,_⟩;cases e';exact hs h
 |_=>
  simp only [false_iff]
  rintro ⟨ws',e',_⟩;cases e'
theorem YS {st:St} {o:Oper} {e:Eff} {g off n:Nat} (hc:Can T tt N ops st o e) (hl:GX tt st o=some (g,off,n)):e.aF=[]:=by
 obtain ⟨t,x,i,h1,h2,h3,h4⟩:=MN hl
 have key :∀{d:Nat},(iJ T tt d st o fun e'=>e'.new.all (fun g=>!st.used g)=true∧e'=e)→e.aF=[]:=by
  intro d h
  obtain ⟨ws,_,_,_,rfl⟩:=(zC h1 h2 h4).1 h
  rfl
 unfold Can stepW at hc
 obtain ⟨_,hc⟩:=hc
 split at hc
 ·exact key hc
 ·split at hc
  ·rename_i b _
   cases b with
   |true=>exact key hc
   |false=>have hc:Eff.skip=e:=hc;rw [←hc];rfl
  ·cases hc
theorem WZ {st:St} {e:Eff} {g:Nat} (h:g∈RZ st e) :∃x,e.aF.lookup g=some x∧kindOf x=kindOf (st.o g):=by
 unfold RZ at h
 obtain ⟨g',_,hp⟩:=List.mem_filterMap.1 h
 cases hl:e.aF.lookup g' with
 |none=>rw [hl] at hp;cases hp
 |some x=>
  rw [hl] at hp
  simp only at hp
  cases hb:Nat.beq (kindOf x) (kindOf (st.o g')) with
  |false=>rw [hb] at hp;cases hp
  |true=>
   rw [hb] at hp
   cases hp
   exact ⟨x,hl,Nat.eq_of_beq_eq_true hb⟩
theorem Kr {o o':Nat→O} {x:W} (h :∀g∈x.names,kindOf (o g)=kindOf (o' g)):x.live o=x.live o':=by
 cases x<;>simp only [W.live]<;>first | rfl | skip
 ·rename_i g off
  have:=h g (by simp [W.names])
  cases h1:o g<;>cases h2:o' g<;>rw [h1,h2] at this<;>first | rfl | cases this
 ·rename_i g n off
  have:=h g (by simp [W.names])
  cases h1:o g<;>cases h2:o' g<;>rw [h1,h2] at this<;>first | rfl | cases this
theorem O8 {o o':Nat→O} {d:Nat} {F F':Operand→S} {op:Op} {ty:TypeId} (hp:rY op=true) (hF :∀x∈op.operands.toList,F x=F' x) (ho :∀x∈op.operands.toList,∀g∈(F x).names,kindOf (o g)=kindOf (o' g)) :
  kernel tt d o F op ty=kernel tt d o' F' op ty:=by
 cases op<;>first | (cases hp;done) | skip
 ·rename_i x
  have h1:=hF x (by simp [Op.operands])
  have h2:=ho x (by simp [Op.operands])
  simp only [kernel,←h1]
  generalize F x=z at h2
  split
  ·rename_i x
   rw [Kr (o':=o') fun g hg=>h2 g (by simpa [S.names,V.names] using hg)]
  ·rfl
 ·rename_i t x n
  have h1:=hF x (by simp [Op.operands])
  have h2:=ho x (by simp [Op.operands])
  simp only [kernel,←h1]
  generalize F x=z at h2
  split
  ·rename_i x _ _
   rw [Kr (o':=o') fun g hg=>h2 g (by simpa [S.names,V.names] using hg)]
  ·rfl
theorem zD {st:St} {o:Oper} {d:Nat} (hp:rY o.op=true) {K:Eff→Prop} :
  iJ T tt d st o K↔(match kernel tt d st.o st.dK o.op o.type with
   |some r=>r.pre∧K { x:=r.dst r.val,aF:=r.aF r.val,new:=r.new }
   |none=>False):=by
 unfold iJ
 cases hop:o.op<;>rw [hop] at hp<;>first | (cases hp;done) | skip
 all_goals
  simp only [dJ,reduceCtorEq,false_and,exists_false,false_or,DY,cond_false]
  generalize kernel tt d st.o st.dK _ o.type=z
  cases z<;>rfl
theorem W9 {o:Nat→O} {F:Operand→S} {d:Nat} {op:Op} {ty:TypeId} {r:E5} (hp:rY op=true) (h:kernel tt d o F op ty=some r):r.aF r.val=[]:=by
 cases op<;>first | (cases hp;done) | skip
 all_goals
  simp only [kernel] at h
  split at h
  ·split at h
   ·simp only [Option.some.injEq] at h;subst h;rfl
   ·cases h
  ·cases h
theorem YT {st:St} {o:Oper} {e:Eff} (hc:Can T tt N ops st o e) (hp:rY o.op=true):e.aF=[]:=by
 have key :∀{d:Nat},(iJ T tt d st o fun e'=>e'.new.all (fun g=>!st.used g)=true∧e'=e)→e.aF=[]:=by
  intro d h
  have h:=(zD hp).1 h
  split at h
  ·rename_i r hr
   obtain ⟨_,_,rfl⟩:=h
   exact W9 hp hr
  ·cases h
 unfold Can stepW at hc
 obtain ⟨_,hc⟩:=hc
 split at hc
 ·exact key hc
 ·split at hc
  ·rename_i b _
   cases b with
   |true=>exact key hc
   |false=>have hc:Eff.skip=e:=hc;rw [←hc];rfl
  ·cases hc
theorem YU {st st':St} {o:Oper} {e:Eff} (hc:Can T tt N ops st o e) (hp:rY o.op=true) (hs :∀t∈o.looksAt ops,st.s t=st'.s t) (ho :∀g∈pW T st o,kindOf (st.o g)=kindOf (st'.o g)) (hu :∀g∈e.new,st.used g=st'.used g):Can T tt N ops st' o e:=by
 have hx :∀x∈o.op.operands.toList,st.dK x=st'.dK x:=by
  intro x hm
  cases x with
  |tmp t=>exact hs t (List.mem_append_left _ (List.mem_filterMap.2 ⟨_,hm,rfl⟩))
  |_=>rfl
 have hl:looks o.op=true:=by cases hop:o.op<;>rw [hop] at hp<;>first | rfl | cases hp
 have hk:kernel tt (o.dst.getD 0) st.o st.dK o.op o.type=kernel tt (o.dst.getD 0) st'.o st'.dK o.op o.type:=
  O8 hp hx fun x hm g hg=>ho g (List.mem_append_left _ (by rw [hl];exact List.mem_flatMap.2 ⟨x,hm,List.mem_flatMap.2 ⟨g,hg,by simp⟩⟩))
 have eff:(iJ T tt (o.dst.getD 0) st o fun e'=>e'.new.all (fun g=>!st.used g)=true∧e'=e)→(iJ T tt (o.dst.getD 0) st' o fun e'=>e'.new.all (fun g=>!st'.used g)=true∧e'=e):=by
  intro h
  have h:=(zD hp).1 h
  refine (zD hp).2 ?_
  rw [←hk]
  split at h
  ·obtain ⟨q1,q2,rfl⟩:=h
   refine ⟨q1,?_,rfl⟩
   rw [List.all_eq_true] at q2 ⊢
   intro g hg
   rw [←hu g hg];exact q2 g hg
  ·cases h
 unfold Can stepW at *
 refine ⟨hc.1,?_⟩
 have hc:=hc.2
 cases hg:o.guard with
 |none=>rw [hg] at hc;exact eff hc
 |some p=>
  obtain ⟨j,want⟩:=p
  rw [hg] at hc
  simp only at hc ⊢
  have:guardOf ops st j want=guardOf ops st' j want:=by
   unfold guardOf
   cases hd:(ops[j]?).bind (·.dst) with
   |none=>rfl
   |some t=>
    simp only
    rw [hs t (List.mem_append_right _ (by simp [hg,hd]))]
  rw [←this]
  split at hc
  ·rename_i b hb
   cases b with
   |true=>exact eff hc
   |false=>exact hc
  ·cases hc
theorem YV {st st':St} {o:Oper} {e:Eff} {g off n:Nat} (hc:Can T tt N ops st o e) (hs :∀t∈o.looksAt ops,st.s t=st'.s t) (hl:GX tt st o=some (g,off,n))
  (H:0<n→∀ws,st.o g=.box ws→Rng ws off n (st'.o g)) (hu :∀g∈e.new,st.used g=st'.used g):Can T tt N ops st' o e:=by
 obtain ⟨t,x,i,h1,h2,h3,h4⟩:=MN hl
 have hx:st'.dK x=.v (.one (.box g off)):=by
  rw [←h4]
  cases x with
  |tmp t=>exact (hs t (List.mem_append_left _ (List.mem_filterMap.2 ⟨.tmp t,by simp [h1,Op.operands],rfl⟩))).symm
  |_=>rfl
 have eff:(iJ T tt (o.dst.getD 0) st o fun e'=>e'.new.all (fun g=>!st.used g)=true∧e'=e)→(iJ T tt (o.dst.getD 0) st' o fun e'=>e'.new.all (fun g=>!st'.used g)=true∧e'=e):=by
  intro h
  obtain ⟨ws,ho,⟨q1,q2⟩,q3,rfl⟩:=(zC h1 h2 h4).1 h
  obtain ⟨wc,r1,r2,r3⟩:=H (by omega) ws ho
  refine (zC h1 h2 hx).2 ⟨wc,r1,⟨by omega,q2⟩,rfl,?_⟩
  have key:(wc.drop off).take i.size=(ws.drop off).take i.size:=by
   refine List.ext_getElem? fun k => ?_
   rw [List.getElem?_take,List.getElem?_take]
   split
   ·rw [List.getElem?_drop,List.getElem?_drop]
    exact r3 _ (by omega) (by omega)
   ·rfl
  rw [key]
 unfold Can stepW at *
 refine ⟨hc.1,?_⟩
 have hc:=hc.2
 cases hg:o.guard with
 |none=>rw [hg] at hc;exact eff hc
 |some p=>
  obtain ⟨j,want⟩:=p
  rw [hg] at hc
  simp only at hc ⊢
  have:guardOf ops st j want=guardOf ops st' j want:=by
   unfold guardOf
   cases hd:(ops[j]?).bind (·.dst) with
   |none=>rfl
   |some t=>
    simp only
    rw [hs t (List.mem_append_right _ (by simp [hg,hd]))]
  rw [←this]
  split at hc
  ·rename_i b hb
   cases b with
   |true=>exact eff hc
   |false=>exact hc
  ·cases hc
theorem W_ (hT :∀f sp,T f=some sp→Sound Pg f sp) (htt:gQ Pg tt) {es:Nat→Eff} {fs:List rX} (hfree:UM ops fs=true)
  (hcan :∀i,i<ops.size→∃o,ops[i]?=some o∧Can T tt N ops (SD ops es st (fun _=>true) i) o (es i)∧fs[i]?=some { rd:=pW T (SD ops es st (fun _=>true) i) o,wr:=(es i).aF.map (·.1),new:=(es i).new,ld:=GX tt (SD ops es st (fun _=>true) i) o,kp:=RY (SD ops es st (fun _=>true) i) (es i),pk:=rY o.op,kd:=RZ (SD ops es st (fun _=>true) i) (es i) })
  (hQ :∀a' w',Good E N aU oL (SD ops es st (fun _=>true) ops.size) a' w'→Q .normal a' w') :
  ∀(fuel:Nat) (listed:Array Bool) (a:Act) (w:World),listed.size=ops.size→Down ops (fun k=>listed.getD k false)→(List.range ops.size).countP (fun k=>!listed.getD k false)≤fuel→
   Good E N aU oL (SD ops es st (fun k=>listed.getD k false) ops.size) a w→wpAny Pg .any ops Q fuel listed a w:=by
 have hf :∀j,j<ops.size→(nO ops.toList []).getD j 0<2 ^ j∧∀i,i<j→((nO ops.toList []).getD j 0).testBit i=true∨∃x y fx fy,ops[i]?=some x∧ops[j]?=some y∧fs[i]?=some fx∧fs[j]?=some fy∧Apart ops x y fx fy:=by
  intro j hj
  have:=(List.all_eq_true.1 hfree) j (List.mem_range.2 hj)
  simp only [Bool.and_eq_true,decide_eq_true_eq,List.all_eq_true,List.mem_range,Bool.or_eq_true] at this
  refine ⟨this.1,fun i hi => ?_⟩
  rcases this.2 i hi with h | h
  ·exact .inl h
  ·right
   split at h
   ·rename_i x y fx fy h1 h2 h3 h4
    exact ⟨x,y,fx,fy,h1,h2,h3,h4,R_ h⟩
   ·cases h
 have done :∀(listed:Array Bool),listed.size=ops.size→Down ops (fun k=>listed.getD k false)→Region.ready .any ops listed=[]→∀k,k<ops.size→listed.getD k false=true:=by
  intro listed hsz hD hr k
  induction k using Nat.strongRecOn with
  |_ k ih=>
   intro hk
   obtain ⟨o,ho,_,_⟩:=hcan k hk
   by_cases hl:listed.getD k false=true
   ·exact hl
   ·exfalso
    have:k∈Region.ready .any ops listed:=mem_ready.2 ⟨by
     have hl:listed.getD k false=false:=by simpa using hl
     rw [Array.getD_eq_getD_getElem?] at hl ⊢
     rw [Array.getElem?_eq_getElem (by omega)] at hl ⊢
     exact hl,o,ho,fun e he hb=>ih e.on (O4 ho (hf k hk).1 he hb) (by have:=O4 ho (hf k hk).1 he hb;omega)⟩
    rw [hr] at this;cases this
 have final :∀(listed:Array Bool) (a:Act) (w:World),listed.size=ops.size→Down ops (fun k=>listed.getD k false)→Region.ready .any ops listed=[]→Good E N aU oL (SD ops es st (fun k=>listed.getD k false) ops.size) a w→Q .normal a w:=by
  intro listed a w hsz hD hr hg
  have h:=done listed hsz hD hr
  rw [CG (D':=fun _=>true) fun k hk=>h k hk] at hg
  exact hQ a w hg
 intro fuel
 induction fuel with
 |zero=>
  intro listed a w hsz hD hcnt hg
  have hr:Region.ready .any ops listed=[]:=by
   cases hr:Region.ready .any ops listed with
   |nil=>rfl
   |cons k ks=>
    exfalso
    have hk:k∈Region.ready .any ops listed:=by rw [hr];simp
    obtain ⟨h1,o,ho,_⟩:=mem_ready.1 hk
    have hlt:=(Array.getElem?_eq_some_iff.1 ho).1
    have:0<(List.range ops.size).countP (fun k=>!listed.getD k false):=by
     rw [List.countP_pos_iff]
     refine ⟨k,List.mem_range.2 hlt,?_⟩
     rw [Array.getD_eq_getD_getElem?] at h1 ⊢
     rw [Array.getElem?_eq_getElem (by omega)] at h1 ⊢
     simpa using h1
    omega
  exact ⟨hr,final listed a w hsz hD hr hg⟩
 |succ fuel ih=>
  intro listed a w hsz hD hcnt hg
  refine ⟨fun hr=>final listed a w hsz hD hr hg,fun i hi => ?_⟩
  obtain ⟨hni,oi,hoi,hpre⟩:=mem_ready.1 hi
  have hlt:i<ops.size:=(Array.getElem?_eq_some_iff.1 hoi).1
  have hDi:listed.getD i false=false:=by
   rw [Array.getD_eq_getD_getElem?] at hni ⊢
   rw [Array.getElem?_eq_getElem (by omega)] at hni ⊢
   exact hni
  obtain ⟨o,ho,hc,hfi⟩:=hcan i hlt
  rw [hoi] at ho;cases ho
  have hset :∀k,(listed.setIfInBounds i true).getD k false=if k=i then true else listed.getD k false:=by
   intro k
   by_cases e:k=i
   ·subst e
    rw [if_pos rfl,Array.getD_eq_getD_getElem?,Array.getElem?_setIfInBounds_self]
    simp [show k<listed.size by omega]
   ·rw [if_neg e,Array.getD_eq_getD_getElem?,Array.getElem?_setIfInBounds_ne (Ne.symm e),←Array.getD_eq_getD_getElem?]
  have hD':Down ops (fun k=>(listed.setIfInBounds i true).getD k false):=by
   intro j o' ho' hj e he hb
   simp only [hset] at hj ⊢
   by_cases ej:j=i
   ·subst ej
    rw [hoi] at ho';cases ho'
    have:=hpre e he hb
    rw [this];simp
   ·rw [if_neg ej] at hj
    have:=hD j o' ho' hj e he hb
    simp only at this
    rw [this];simp
  have hap :∀k,k<ops.size→k≠i→((k<i∧listed.getD k false=false)∨(i<k∧listed.getD k false=true))→∃y fy,ops[k]?=some y∧fs[k]?=some fy∧
    (∀t,y.dst=some t→t∉oi.looksAt ops)∧(∀t,oi.dst=some t→y.dst≠some t)∧((∀g∈fy.wr,g∉pW T (SD ops es st (fun _=>true) i) oi)∨∃fi,fs[i]?=some fi∧Eb fy fi=true)∧(∀g∈fy.wr,g∉(es i).aF.map (·.1))∧(∀g∈fy.new,g∉(es i).new)∧fy.wr=(es k).aF.map (·.1)∧fy.new=(es k).new:=by
   intro k hk hne hcase
   obtain ⟨y0,hy0,_,hfk⟩:=hcan k hk
   rcases hcase with ⟨hlt',hfalse⟩ | ⟨hlt',ain⟩
   ·rcases (hf i hlt).2 k hlt' with hb | ⟨x,y,fx,fy,h1,h2,h3,h4,ap⟩
    ·have:=wU hD' i hoi (by simp [hset]) k hb
     simp only [hset,if_neg hne] at this
     rw [hfalse] at this;cases this
    ·rw [hoi] at h2;cases h2
     rw [hfi] at h4;cases h4
     rw [hfk] at h3;cases h3
     exact ⟨x,_,h1,hfk,ap.dy,fun t e e'=>ap.dd t e' e,ap.wr.imp id (fun h=>⟨_,hfi,h⟩),ap.ww,ap.nn,rfl,rfl⟩
   ·rcases (hf k hk).2 i hlt' with hb | ⟨x,y,fx,fy,h1,h2,h3,h4,ap⟩
    ·have:=wU hD k hy0 ain i hb
     rw [hDi] at this;cases this
    ·rw [hoi] at h1;cases h1
     rw [hfi] at h3;cases h3
     rw [hfk] at h4;cases h4
     exact ⟨y,_,h2,hfk,ap.dx,ap.dd,ap.rw.imp id (fun h=>⟨_,hfi,h⟩),fun g hg hg'=>ap.ww g hg' hg,fun g hg hg'=>ap.nn g hg' hg,rfl,rfl⟩
  have MO:SD ops es st (fun _=>true) i=SD ops es st (fun k=>decide (k<i)) ops.size:=by
   have :∀m,i+m≤ops.size→SD ops es st (fun k=>decide (k<i)) (i+m)=SD ops es st (fun _=>true) i:=by
    intro m
    induction m with
    |zero=>intro _;exact CG fun k hk=>by simp [show k<i by omega]
    |succ m ih=>
     intro hm
     rw [←Nat.add_assoc]
     simp only [SD,show ¬ (i+m<i) by omega,decide_false,Bool.false_eq_true,if_false]
     exact ih (by omega)
   have:=this (ops.size-i) (by omega)
   rw [show i+(ops.size-i)=ops.size by omega] at this
   exact this.symm
  have hdiff :∀k,k<ops.size→decide (k<i)≠listed.getD k false→k≠i∧((k<i∧listed.getD k false=false)∨(i<k∧listed.getD k false=true)):=by
   intro k hk hne
   by_cases e:k=i
   ·subst e;rw [hDi] at hne;simp at hne
   ·refine ⟨e,?_⟩
    by_cases hki:k<i
    ·exact .inl ⟨hki,by simpa [hki] using hne⟩
    ·refine .inr ⟨by omega,?_⟩
     cases hl:listed.getD k false with
     |true=>rfl
     |false=>rw [hl] at hne;simp [hki] at hne
  have hdst :∀(k:Nat) (y:Oper),ops[k]?=some y→(ops[k]?).bind (·.dst)=y.dst:=fun k y h=>by rw [h];rfl
  have hc':Can T tt N ops (SD ops es st (fun k=>listed.getD k false) ops.size) oi (es i):=by
   have rU :∀t∈oi.looksAt ops,(SD ops es st (fun _=>true) i).s t=(SD ops es st (fun k=>listed.getD k false) ops.size).s t:=fun t ht=>by
    rw [MO]
    refine afS fun k hk hne => ?_
    obtain ⟨h1,h2⟩:=hdiff k hk hne
    obtain ⟨y,fy,h3,_,h4,_⟩:=hap k hk h1 h2
    rw [hdst k y h3]
    exact fun e=>h4 t e ht
   have Oc :∀g∈(es i).new,(SD ops es st (fun _=>true) i).used g=(SD ops es st (fun k=>listed.getD k false) ops.size).used g:=fun g hg=>by
    rw [MO]
    refine ML fun k hk hne => ?_
    obtain ⟨h1,h2⟩:=hdiff k hk hne
    obtain ⟨y,fy,h3,_,_,_,_,_,h4,_,h5⟩:=hap k hk h1 h2
    rw [←h5]
    exact fun e=>h4 g e hg
   have travel :∀(g:Nat) (Pr:O→Prop),g∉(es i).aF.map (·.1)→(∀k,k<ops.size→k≠i→((k<i∧listed.getD k false=false)∨(i<k∧listed.getD k false=true))→g∈(es k).aF.map (·.1)→
     (Pr ((SD ops es st (fun _=>true) k).o g)↔Pr ((SD ops es st (fun _=>true) (k+1)).o g)))→Pr ((SD ops es st (fun _=>true) i).o g)→Pr ((SD ops es st (fun k=>listed.getD k false) ops.size).o g):=by
    intro g Pr hgi hkeep hP0
    have hstep :∀k,k<ops.size→(g∈(es k).aF.map (·.1)→(Pr ((SD ops es st (fun _=>true) k).o g)↔Pr ((SD ops es st (fun _=>true) (k+1)).o g)))→
      (Pr ((SD ops es st (fun _=>true) k).o g)↔Pr ((SD ops es st (fun _=>true) (k+1)).o g)):=by
     intro k hk hw
     by_cases hg:g∈(es k).aF.map (·.1)
     ·exact hw hg
     ·have:(SD ops es st (fun _=>true) (k+1)).o g=(SD ops es st (fun _=>true) k).o g:=by
       simp only [SD,if_true,wR,jv hg]
      rw [this]
    obtain ⟨m',hm',hlast,hafter⟩:=O7 (ops:=ops) (es:=es) (st:=st) (D:=fun k=>listed.getD k false) (g:=g) ops.size
    rw [hlast]
    rcases Nat.lt_or_ge i m' with him | him
    ·-- forward
     have :∀d,i+d≤m'→Pr ((SD ops es st (fun _=>true) (i+d)).o g):=by
      intro d
      induction d with
      |zero=>intro _;exact hP0
      |succ d ihd=>
       intro hd
       have hk:i+d<ops.size:=by
        rcases hafter with e | ⟨k1,e,h2,_⟩<;>omega
       rw [←Nat.add_assoc]
       refine (hstep (i+d) hk (fun hg => ?_)).1 (ihd (by omega))
       by_cases e0:d=0
       ·exfalso
        subst e0
        exact hgi hg
       ·have hin:listed.getD (i+d) false=true:=by
         rcases hafter with e | ⟨k1,rfl,aio,hk1,hg1⟩
         ·omega
         ·by_cases e1:i+d=k1
          ·rw [e1];exact hk1
          ·obtain ⟨y1,hy1,_,hf1⟩:=hcan k1 aio
           rcases (hf k1 aio).2 (i+d) (by omega) with hb | ⟨x2,y2,fx,fy,h1,h2,h3,h4,ap⟩
           ·exact wU hD k1 hy1 hk1 _ hb
           ·exfalso
            obtain ⟨y0,_,_,hfk⟩:=hcan (i+d) hk
            rw [hfk] at h3;cases h3
            rw [hf1] at h4;cases h4
            exact ap.ww g hg hg1
        exact hkeep (i+d) hk (by omega) (.inr ⟨by omega,hin⟩) hg
     have:=this (m'-i) (by omega)
     rwa [show i+(m'-i)=m' by omega] at this
    ·-- backward
     have :∀d,d≤i-m'→Pr ((SD ops es st (fun _=>true) (i-d)).o g):=by
      intro d
      induction d with
      |zero=>intro _;exact hP0
      |succ d ihd=>
       intro hd
       have hk:i-(d+1)<ops.size:=by omega
       have e1:i-(d+1)+1=i-d:=by omega
       refine (hstep (i-(d+1)) hk (fun hg => ?_)).2 (by rw [e1];exact ihd (by omega))
       have hout:listed.getD (i-(d+1)) false=false:=by
        cases hl:listed.getD (i-(d+1)) false with
        |false=>rfl
        |true=>exact absurd hg (hm' (i-(d+1)) (by omega) hk hl)
       exact hkeep (i-(d+1)) hk (by omega) (.inl ⟨by omega,hout⟩) hg
     have:=this (i-m') (Nat.le_refl _)
     rwa [show i-(i-m')=m' by omega] at this
   cases hld:GX tt (SD ops es st (fun _=>true) i) oi with
   |none=>
    by_cases hpk:rY oi.op=true
    ·refine YU hc hpk rU (fun g hg => ?_) Oc
     refine (travel g (fun x=>kindOf ((SD ops es st (fun _=>true) i).o g)=kindOf x) (by rw [YT hc hpk];simp) (fun k hk hne hcase hgk => ?_) rfl)
     obtain ⟨y,fy,h3,hfk,_,_,h4,_,_,h5,_⟩:=hap k hk hne hcase
     rcases h4 with h4 | ⟨fi,O9,hs⟩
     ·exfalso
      rw [←h5] at hgk
      exact h4 g hgk hg
     ·rw [hfi] at O9;cases O9
      simp only [Eb,hld,hpk,Bool.true_and,List.all_eq_true,Bool.or_eq_true,Bool.not_eq_true',List.contains_eq_mem,decide_eq_true_eq,decide_eq_false_iff_not] at hs
      rw [h5] at hs
      rcases hs g hg with hs | hs
      ·exact absurd hgk hs
      ·obtain ⟨o',ho',_,YW⟩:=hcan k hk
       rw [hfk] at YW;cases YW
       obtain ⟨x,q1,q2⟩:=WZ hs
       have:(SD ops es st (fun _=>true) (k+1)).o g=x:=by simp only [SD,if_true,wR,q1]
       rw [this,q2]
    ·refine WW hc rU (fun g hg => ?_) Oc
     rw [MO] at hg ⊢
     refine afT fun k hk hne => ?_
     obtain ⟨h1,h2⟩:=hdiff k hk hne
     obtain ⟨y,fy,h3,_,_,_,h4,_,_,h5,_⟩:=hap k hk h1 h2
     rw [←h5]
     rcases h4 with h4 | ⟨fi,O9,hs⟩
     ·rw [MO] at h4
      exact fun e=>h4 g e hg
     ·rw [hfi] at O9;cases O9
      simp only [Eb,hld,hpk,Bool.false_and] at hs
      cases hs
   |some q=>
    obtain ⟨g,off,n⟩:=q
    refine YV hc rU hld (fun hn ws hws => ?_) Oc
    refine travel g (Rng ws off n) (by rw [YS hc hld];simp) (fun k hk hne hcase hg => ?_) ⟨ws,hws,rfl,fun _ _ _=>rfl⟩
    obtain ⟨y,fy,h3,hfk,_,_,h4,_,_,h5,_⟩:=hap k hk hne hcase
    rcases h4 with h4 | ⟨fi,O9,hs⟩
    ·exfalso
     rw [←h5] at hg
     exact h4 g hg (WY hld)
    ·rw [hfi] at O9;cases O9
     simp only [Eb,hld,List.all_eq_true,List.mem_range] at hs
     obtain ⟨o',ho',_,YW⟩:=hcan k hk
     rw [hfk] at YW;cases YW
     have one :∀off',off≤off'→off'<off+n→∃wa wb,(SD ops es st (fun _=>true) k).o g=.box wa∧(SD ops es st (fun _=>true) (k+1)).o g=.box wb∧wa.length=wb.length∧wa[off']?=wb[off']?:=by
      intro off' h1' h2'
      have:=hs (off'-off) (by omega)
      obtain ⟨p,hp,he⟩:=List.any_eq_true.1 this
      simp only [Bool.and_eq_true] at he
      have e1:=Nat.eq_of_beq_eq_true he.1
      have e2:=Nat.eq_of_beq_eq_true he.2
      obtain ⟨wa,wb,q1,q2,q3,q4⟩:=WX hp
      rw [e1] at q1 q2
      refine ⟨wa,wb,q1,?_,q3,by rw [show off'=p.2 by omega];exact q4⟩
      simp only [SD,if_true,wR,q2]
     obtain ⟨wa,wb,q1,q2,q3,_⟩:=one off (Nat.le_refl _) (by omega)
     rw [q1,q2]
     have hall :∀off',off≤off'→off'<off+n→wa[off']?=wb[off']?:=fun off' a1 a2=>by
      obtain ⟨wa',wb',r1,r2,_,r4⟩:=one off' a1 a2
      rw [q1] at r1;rw [q2] at r2;cases r1;cases r2;exact r4
     constructor
     ·rintro ⟨wc,hc,hl,hr⟩
      cases hc
      exact ⟨wb,rfl,by omega,fun off' a1 a2=>by rw [←hall off' a1 a2];exact hr off' a1 a2⟩
     ·rintro ⟨wc,hc,hl,hr⟩
      cases hc
      exact ⟨wa,rfl,by omega,fun off' a1 a2=>by rw [hall off' a1 a2];exact hr off' a1 a2⟩
  have hins:SD ops es st (fun k=>(listed.setIfInBounds i true).getD k false) ops.size=(SD ops es st (fun k=>listed.getD k false) ops.size).eff oi.dst (es i):=by
   have hDs :∀k,(fun k=>(listed.setIfInBounds i true).getD k false) k=if k=i then true else listed.getD k false:=hset
   have hne :∀k,(fun k=>(listed.setIfInBounds i true).getD k false) k≠(fun k=>listed.getD k false) k→k=i:=by
    intro k h
    simp only [hset] at h
    by_cases e:k=i
    ·exact e
    ·rw [if_neg e] at h;exact absurd rfl h
   have YX :∀k,i<k→k<ops.size→(fun k=>(listed.setIfInBounds i true).getD k false) k=true→listed.getD k false=true:=by
    intro k h1 h2 h3
    simp only [hset,if_neg (show k≠i by omega)] at h3
    exact h3
   refine St.ext' (fun t => ?_) (fun g => ?_) (fun g => ?_)
   ·rw [J8]
    by_cases hd:oi.dst=some t
    ·rw [if_pos hd]
     refine J9 (by simp [hset]) ((hdst i oi hoi).trans hd) hlt fun k h1 h2 h3 => ?_
     obtain ⟨y,fy,q1,_,_,q2,_⟩:=hap k h2 (by omega) (.inr ⟨h1,YX k h1 h2 h3⟩)
     rw [hdst k y q1]
     exact q2 t hd
    ·rw [if_neg hd]
     refine afS fun k hk hk' => ?_
     rw [hne k hk',hdst i oi hoi];exact hd
   ·rw [wR]
    cases hu:(es i).aF.lookup g with
    |some x=>
     refine J_ (by simp [hset]) hu hlt fun k h1 h2 h3 => ?_
     obtain ⟨y,fy,q1,_,_,_,_,q2,_,q3,_⟩:=hap k h2 (by omega) (.inr ⟨h1,YX k h1 h2 h3⟩)
     rw [←q3]
     exact fun e=>q2 g e (List.mem_map.2 ⟨(g,x),jP hu,rfl⟩)
    |none=>
     refine afT fun k hk hk' => ?_
     rw [hne k hk']
     intro hm
     obtain ⟨p,hp,rfl⟩:=List.mem_map.1 hm
     have :∀{l:List (Nat×O)},p∈l→l.lookup p.1≠none:=by
      intro l
      induction l with
      |nil=>intro h;cases h
      |cons q l ih=>
       intro h hn
       simp only [List.lookup] at hn
       split at hn
       ·cases hn
       ·rename_i hb
        rcases List.mem_cons.1 h with h | h
        ·subst h;simp at hb
        ·exact ih h hn
     exact this hp hu
   ·rw [sU]
    by_cases hn:g∈(es i).new
    ·rw [Ec (by simp [hset]) hn hlt];simp [hn]
    ·have:(es i).new.contains g=false:=by simpa using hn
     rw [this,Bool.false_or]
     refine ML fun k hk hk' => ?_
     rw [hne k hk'];exact hn
  refine GN hT htt hoi hg hc' fun a' w' hg'=>ih _ a' w' (by simp [hsz]) hD' ?_ (by rw [hins];exact hg')
  have hlt2:(List.range ops.size).countP (fun k=>!(listed.setIfInBounds i true).getD k false)<(List.range ops.size).countP (fun k=>!listed.getD k false):=by
   have gen :∀l:List Nat,i∈l→l.countP (fun k=>!(listed.setIfInBounds i true).getD k false)<l.countP (fun k=>!listed.getD k false):=by
    intro l
    have hle :∀l:List Nat,l.countP (fun k=>!(listed.setIfInBounds i true).getD k false)≤l.countP (fun k=>!listed.getD k false):=fun l=>List.countP_mono_left fun k _ h=>by
     simp only [hset] at h
     by_cases e:k=i
     ·simp [e] at h
     ·simpa [e] using h
    induction l with
    |nil=>intro h;cases h
    |cons k l ihl=>
     intro h
     simp only [List.countP_cons]
     by_cases e:k=i
     ·subst e
      have h1:(!(listed.setIfInBounds k true).getD k false)=false:=by simp [hset]
      have h2:(!listed.getD k false)=true:=by simp [hDi]
      rw [h1,h2]
      exact Nat.lt_succ_of_le (hle l)
     ·have:=ihl (by rcases List.mem_cons.1 h with h | h;exact absurd h.symm e;exact h)
      have e1:(!(listed.setIfInBounds i true).getD k false)=(!listed.getD k false):=by rw [hset,if_neg e]
      rw [e1];omega
   exact gen _ (List.mem_range.2 hlt)
  omega
theorem G9 (hT :∀f sp,T f=some sp→Sound Pg f sp) (htt:gQ Pg tt) {draw:Bool} {K:St→Prop} (h:oU T tt N ops draw st K) (hg:Good E N aU oL st a w)
  (hK :∀st' a' w',K st'→Good E N aU oL st' a' w'→Q .normal a' w'):(draw=false∧wpOps Pg ops Q (List.range ops.size) a w)∨(draw=true∧wpAny Pg .any ops Q ops.size (Array.replicate ops.size false) a { w with drawn:=w.drawn+1 }):=by
 cases draw with
 |false=>exact .inl ⟨rfl,AQ hT htt hK _ h hg⟩
 |true=>
  have h:nX T tt N ops (List.range ops.size) st [] (fun st' fs=>UM ops fs=true∧K st'):=h
  rw [List.range_eq_range'] at h
  obtain ⟨es,fs,_,_,⟨h1,h2⟩,h3⟩:=Ee (st:=st) ops.size 0 (fun _=>Eff.skip) [] rfl h
  rw [Nat.zero_add] at h2
  refine .inr ⟨rfl,?_⟩
  refine W_ hT htt h1 (fun i hi=>h3 i (by omega) (by omega)) (fun a' w' hg'=>hK _ a' w' h2 hg') ops.size _ a _ (by simp) ?_ ?_ ?_
  ·intro j o _ hj
   simp only [Array.getD_eq_getD_getElem?] at hj
   rw [Array.getElem?_replicate] at hj
   split at hj<;>cases hj
  ·refine Nat.le_trans List.countP_le_length ?_
   simp
  ·obtain ⟨⟨gh,hR,D7⟩,hsz,hdf⟩:=hg
   have e:SD ops es st (fun k=>(Array.replicate ops.size false).getD k false) ops.size=st:=by
    have :∀n,SD ops es st (fun k=>(Array.replicate ops.size false).getD k false) n=st:=by
     intro n
     induction n with
     |zero=>rfl
     |succ n ih=>
      have:(Array.replicate ops.size false).getD n false=false:=by
       rw [Array.getD_eq_getD_getElem?,Array.getElem?_replicate];split<;>rfl
      simp only [SD,this,Bool.false_eq_true,if_false];exact ih
    exact this _
   rw [e]
   exact ⟨⟨gh,hR.drew _,D7⟩,hsz,hdf⟩
theorem MP (hT :∀f sp,T f=some sp→Sound Pg f sp) (htt:gQ Pg tt) (hm:Pg.follows .mixedOrders=true) {id:Nat} {draw:Bool} {K:St→Prop} (h:oU T tt N ops draw st K) (hg:Good E N aU oL st a w)
  (hK :∀st' a' w',K st'→Good E N aU oL st' a' w'→Q .normal a' w'):(Code.region id ops draw).wp Pg Q a w:=by
 rcases G9 hT htt h hg hK with ⟨e,h2⟩ | ⟨e,h2⟩
 ·rw [e];exact wp_region h2
 ·rw [e];exact wp_region_any hm h2
end
end Go.Fw

namespace Go.Fw
set_option linter.unusedSectionVars false
variable [dR]
set_option linter.unusedVariables false
def UN (gs:List Nat) (o:Nat→O):W→W
 |.own g=>if gs.contains g=true then match plainO o g with
  |some (a,i,sz,l)=>.p a i (P.fF sz l)
  |none=>.own g
  else .own g
 |.vw g lo hi=>if gs.contains g=true then match plainO o g with
  |some (a,i,sz,l)=>.p a i (P.fF sz ((l.take hi.nat).drop lo.nat))
  |none=>.vw g lo hi
  else .vw g lo hi
 |x=>x
def YZ (gs:List Nat) (o:Nat→O):V→V
 |.one x=>.one (UN gs o x)
 |.agg xs=>.agg (xs.map (UN gs o))
def Y0 (gs:List Nat) (o:Nat→O):S→S
 |.v x=>.v (YZ gs o x)
 |.kT xs=>.kT (xs.map (YZ gs o))
 |.no=>.no
def Yf (gs:List Nat) (o:Nat→O) (g:Nat):O:=match o g with
 |.box ws=>.box (ws.map (UN gs o))
 |x=>if gs.contains g=true then (Fw.aK o g).2 else x
def dX (gs:List Nat) (st:St):St:={ s:=fun t=>Y0 gs st.o (st.s t),o:=fun g=>Yf gs st.o g,used:=st.used }
def ab9 (o:Nat→O) (gs:List Nat):Bool:=gs.all fun g=>(plainO o g).isSome&&(o g).names.all fun d=>gs.contains d
theorem Xa {o:Nat→O} {gs:List Nat} (h:ab9 o gs=true):vZ o gs:=fun g hg=>by
 have:=(List.all_eq_true.1 h) g hg
 simp only [Bool.and_eq_true,List.all_eq_true,List.contains_eq_mem,decide_eq_true_eq] at this
 exact this
section
variable {E:Env} {st:St} {gh:Nat→Gh} {w:World} {val:Nat→Value}
theorem CJ {gs:List Nat} {o:Nat→O} {x:W} {g:Nat} (h:g∈(UN gs o x).names):g∈x.names:=by
 unfold UN at h
 split at h
 ·split at h
  ·split at h
   ·simp [W.names] at h
   ·exact h
  ·exact h
 ·split at h
  ·split at h
   ·simp [W.names] at h
   ·exact h
  ·exact h
 ·exact h
theorem Kt {gs:List Nat} {o:Nat→O} {x:V} {g:Nat} (h:g∈(YZ gs o x).names):g∈x.names:=by
 cases x with
 |one x=>exact CJ h
 |agg xs=>
  simp only [YZ,V.names,List.mem_flatMap,List.mem_map] at h ⊢
  obtain ⟨_,⟨x,hx,rfl⟩,hg⟩:=h
  exact ⟨x,hx,CJ hg⟩
theorem Xb {gs:List Nat} {o:Nat→O} {x:S} {g:Nat} (h:g∈(Y0 gs o x).names):g∈x.names:=by
 cases x with
 |v x=>exact Kt h
 |kT xs=>
  simp only [Y0,S.names,List.mem_flatMap,List.mem_map] at h ⊢
  obtain ⟨_,⟨x,hx,rfl⟩,hg⟩:=h
  exact ⟨x,hx,Kt hg⟩
 |no=>exact h
theorem G_ (gs:List Nat) (st:St) (g:Nat):((dX gs st).o g=(st.aF (gs.map (Fw.aK st.o)) []).o g∧∀ws,st.o g≠.box ws)∨
  ∃ws,st.o g=.box ws∧(st.aF (gs.map (Fw.aK st.o)) []).o g=.box ws∧(dX gs st).o g=.box (ws.map (UN gs st.o)):=by
 rw [fJ]
 cases ho:st.o g with
 |box ws=>
  refine .inr ⟨ws,rfl,?_,by simp only [dX,Yf,ho]⟩
  split
  ·simp [Fw.aK,plainO,ho]
  ·rfl
 |_=>
  refine .inl ⟨?_,fun ws e=>by cases e⟩
  simp only [dX,Yf,ho]
  simp only [List.contains_eq_mem,decide_eq_true_eq]
theorem yP {gs:List Nat} {st:St} {g:Nat} (h:st.o g=.none):(dX gs st).o g=.none:=by
 simp only [dX,Yf,h]
 split
 ·simp [Fw.aK,plainO,h]
 ·rfl
theorem Rel.plain (h:Rel E st gh val w) (gs:List Nat) (hgs:vZ st.o gs):Rel E (dX gs st) gh val w:=by
 have h1:=(h.freezes gs hgs).1
 have hss:(st.aF (gs.map (Fw.aK st.o)) []).s=st.s:=rfl
 have hun :∀g,(st.aF (gs.map (Fw.aK st.o)) []).used g=st.used g:=fun g=>by simp [St.aF]
 have key:=G_ gs st
 have hfr:=fun g=>fJ (st:=st) gs g
 generalize hst1:st.aF (gs.map (Fw.aK st.o)) []=st1 at h1 hss hun key hfr
 have own :∀g,((dX gs st).o g).bF=(st1.o g).bF:=fun g=>by
  rcases key g with ⟨e,_⟩ | ⟨ws,_,e1,e2⟩
  ·rw [e]
  ·rw [e1,e2];rfl
 have dim :∀g,((dX gs st).o g).dim=(st1.o g).dim:=fun g=>by
  rcases key g with ⟨e,_⟩ | ⟨ws,_,e1,e2⟩
  ·rw [e]
  ·rw [e1,e2];rfl
 have inner :∀g,((dX gs st).o g).inner=(st1.o g).inner:=fun g=>by
  rcases key g with ⟨e,_⟩ | ⟨ws,_,e1,e2⟩
  ·rw [e]
  ·rw [e1,e2];rfl
 have isd :∀g,((dX gs st).o g).nG=(st1.o g).nG:=fun g=>by
  rcases key g with ⟨e,_⟩ | ⟨ws,_,e1,e2⟩
  ·rw [e]
  ·rw [e1,e2];rfl
 have alx :∀g ws,(dX gs st).o g=.box ws→∃ws',st1.o g=.box ws':=fun g ws hg=>by
  rcases key g with ⟨e,_⟩ | ⟨ws',_,e1,e2⟩
  ·rw [e] at hg;exact ⟨ws,hg⟩
  ·exact ⟨ws',e1⟩
 have oit :∀g s n,(dX gs st).o g=.it s n→st1.o g=.it s n:=fun g s n hg=>by
  rcases key g with ⟨e,_⟩ | ⟨ws',_,e1,e2⟩
  ·rw [e] at hg;exact hg
  ·rw [e2] at hg;cases hg
 have hok:E.ok (dX gs st) gh w=E.ok st1 gh w:=by funext a i b;simp only [Env.ok,own]
 have hp :∀{g a i sz l},gs.contains g=true→plainO st.o g=some (a,i,sz,l)→st1.o g=.arr true a i sz l:=fun {g a i sz l} hc hpl=>by
  rw [hfr,if_pos (by simpa using hc),lT hpl]
 have same :∀{x:W} {v:Value},dZ E st1 gh w x v→dZ E (dX gs st) gh w x v:=by
  intro x v r
  induction r with
  |p a i x v hx=>exact .p a i x v (by rw [hok];exact hx)
  |bY=>exact .bY
  |own g v hv hx=>exact .own g v hv fun sz len hg=>hx sz len (by rw [←dim];exact hg)
  |vw g lo hi v hv hx=>exact .vw g lo hi v hv fun sz len hg=>hx sz len (by rw [←dim];exact hg)
  |box g off v hv hx=>exact .box g off v hv fun ws hg=>by obtain ⟨ws',e⟩:=alx g ws hg;exact hx ws' e
  |ep g n off v hv hx=>exact .ep g n off v hv fun sz len hg=>hx sz len (by rw [←dim];exact hg)
  |sp a i row off b o hb hx=>exact .sp a i row off b o (by rw [hok];exact hb) (by rw [hok];exact hx)
  |gl g=>exact .gl g
  |mJ g v hv hx=>exact .mJ g v hv fun s n hg=>hx s n (oit g s n hg)
  |gd b x v hx ih=>exact .gd b x v ih
  |clo f caps vs hl hx ih=>exact .clo f caps vs hl ih
  |no v=>exact .no v
 have aeY :∀{a i:Bool} {sz:Nat} {l:List (List P)} {G:Gh},gY E st1 gh w a i sz l G→gY E (dX gs st) gh w a i sz l G:=by
  intro a i sz l G r
  simpa only [gY,hok] using r
 have wd :∀{x:W} {v:Value},dZ E st1 gh w x v→dZ E (dX gs st) gh w (UN gs st.o x) v:=by
  intro x v r
  unfold UN
  split
  ·rename_i g
   split
   ·rename_i hc
    split
    ·rename_i a i sz l hpl
     have ho1:=hp hc hpl
     cases r with
     |own _ _ hv hx=>
      have hv:=hx _ _ (O.jm ho1)
      have hO:=h1.aQ g
      rw [ho1] at hO
      rw [hv]
      exact .p a i _ _ (by rw [hok];exact bW.fF hO)
    ·exact same r
   ·exact same r
  ·rename_i g lo hi
   split
   ·rename_i hc
    split
    ·rename_i a i sz l hpl
     have ho1:=hp hc hpl
     cases r with
     |vw _ _ _ _ hv hx=>
      obtain ⟨n,m,c,rfl,rfl,q1,q2,qc,he⟩:=hx _ _ (O.jm ho1)
      have hO:=h1.aQ g
      rw [ho1] at hO
      rw [he]
      have e1:(P.int .i64 (n:Int)).nat=n:=by simp [P.nat,P.num]
      have e2:(P.int .i64 (m:Int)).nat=m:=by simp [P.nat,P.num]
      rw [e1,e2]
      exact .p a i _ _ (by rw [hok];exact bW.fF ((bW.sub hO q1 q2).aeN (by simp;omega)))
    ·exact same r
   ·exact same r
  ·exact same r
 have wV :∀{x:V} {v:Value},qF E st1 gh w x v→qF E (dX gs st) gh w (YZ gs st.o x) v:=by
  intro x v r
  cases r with
  |one x v r=>exact .one _ _ (wd r)
  |agg xs cs hl hv hr=>
   refine .agg _ cs (by simpa using hl) hv fun j x v hx hv => ?_
   simp only [List.getElem?_map,Option.map_eq_some_iff] at hx
   obtain ⟨y,hy,rfl⟩:=hx
   exact wd (hr j y v hy hv)
 refine ⟨fun t => ?_,fun g => ?_,?_,?_,?_,?_,h1.wb,h1.frame,h1.size,h1.os,h1.tape,h1.output,?_,?_,?_⟩
 ·have hs:=h1.slots t
  rw [hss] at hs
  show cO E _ gh w (Y0 gs st.o (st.s t)) (val t)
  cases hs':st.s t with
  |v x=>rw [hs'] at hs;cases hs with | v _ _ r=>exact .v _ _ (wV r)
  |kT xs=>
   rw [hs'] at hs
   generalize hval:val t=vt at hs
   cases hs with
   |kT _ vs hl hr=>
    refine .kT _ vs (by simpa using hl) fun j x v hx hv => ?_
    simp only [List.getElem?_map,Option.map_eq_some_iff] at hx
    obtain ⟨y,hy,rfl⟩:=hx
    exact wV (hr j y v hy hv)
  |no=>exact .no _
 ·have hO:=h1.aQ g
  rcases key g with ⟨e,_⟩ | ⟨ws',_,e1,e2⟩
  ·rw [e]
   generalize st1.o g=x at hO
   cases x with
   |none=>trivial
   |box ws=>
    obtain ⟨ad,c,ty,a1,a2,a3,a4,a5⟩:=hO
    exact ⟨ad,c,ty,a1,a2,a3,a4,fun j x hx=>let ⟨v,b1,b2,b3⟩:=a5 j x hx;⟨v,b1,b2,same b3⟩⟩
   |arr fz a i sz l=>
    cases fz with
    |false=>exact aeY hO
    |true=>simpa only [kU,hok] using hO
   |aG a i sz ah l hole=>
    rcases hO with hO | ⟨ad,c,ty,a1,a2,a3,a4,a5,a6,a7,a8⟩
    ·exact .inl hO
    ·refine .inr ⟨ad,c,ty,a1,a2,a3,a4,a5,a6,a7,fun n x hx j y hy => ?_⟩
     obtain ⟨v,hv,hr⟩:=a8 n x hx j y hy
     refine ⟨v,hv,?_⟩
     unfold g_ at *
     cases hcj:ah.lookup j with
     |none=>rw [hcj] at hr;exact (by rw [hok];exact hr:bW w (E.ok (dX gs st) gh w a i) y v)
     |some sz'=>
      rw [hcj] at hr
      simp only at *
      cases hh:gu hole n j with
      |some d=>rw [hh] at hr;exact ⟨hr.1,same hr.2⟩
      |none=>
       rw [hh] at hr
       obtain ⟨l',ao,k,q1,q2,q3,q4⟩:=hr
       exact ⟨l',ao,k,q1,q2,aeY q3,q4⟩
   |it s n=>exact hO
  ·rw [e2]
   rw [e1] at hO
   obtain ⟨ad,c,ty,a1,a2,a3,a4,a5⟩:=hO
   refine ⟨ad,c,ty,a1,a2,a3,by simpa using a4,fun j x hx => ?_⟩
   simp only [List.getElem?_map,Option.map_eq_some_iff] at hx
   obtain ⟨y,hy,rfl⟩:=hx
   obtain ⟨v,b1,b2,b3⟩:=a5 j y hy
   exact ⟨v,b1,b2,wd b3⟩
 ·intro g g' b ha ha'
  rw [own] at ha ha'
  exact h1.inj g g' b ha ha'
 ·intro g b ha
  rw [own] at ha
  exact h1.wr g b ha
 ·intro g i b hg
  rw [inner] at hg
  exact h1.wi g i b hg
 ·intro g ho hd
  rw [own] at ho
  rw [isd] at hd
  exact h1.ns g ho hd
 ·intro t g hg
  exact h.us t g (Xb hg)
 ·intro g g' hg
  rcases key g with ⟨e,_⟩ | ⟨ws',e0,e1,e2⟩
  ·rw [e] at hg
   have:=h1.uo g g' hg
   rw [hun] at this;exact this
  ·rw [e2] at hg
   simp only [O.names,List.mem_flatMap,List.mem_map] at hg
   obtain ⟨_,⟨x,hx,rfl⟩,hg⟩:=hg
   exact h.uo g g' (by rw [e0];simp only [O.names,List.mem_flatMap];exact ⟨x,hx,CJ hg⟩)
 ·intro g hg
  exact h.ul g fun e=>hg (yP e)
theorem Y1 {gs:List Nat} {w:World} {gh:Nat→Gh} {st:St} {E:Env} {a i:Bool} {b:Nat} (h:E.ok st gh w a i b):E.ok (dX gs st) gh w a i b:=by
 refine ⟨h.1,h.2.1,fun g ho had=>h.2.2 g ?_ had⟩
 rcases G_ gs st g with ⟨e,_⟩ | ⟨ws,e,_⟩
 ·rw [e,fJ] at ho
  split at ho
  ·cases hp:plainO st.o g with
   |none=>simpa [Fw.aK,hp] using ho
   |some x=>obtain ⟨a,i,sz,l⟩:=x;rw [lT hp] at ho;cases ho
  ·exact ho
 ·rw [e];rfl
theorem Rel.norm (h:Rel E st gh val w) (hs gs:List Nat) (hgs:ab9 (Fw.shuts hs st).o gs=true) :
  ∃bD,Rel E (dX gs (Fw.shuts hs st)) bD val w∧(∀x,(bD x).ad=(gh x).ad∧(bD x).cap=(gh x).cap)∧(∀a i b,E.ok st gh w a i b→E.ok (dX gs (Fw.shuts hs st)) bD w a i b)∧
   ∀g,st.o g=.none→(dX gs (Fw.shuts hs st)).o g=.none:=by
 obtain ⟨bD,h1,l1,e1⟩:=h.shuts hs
 exact ⟨bD,h1.plain gs (Xa hgs),e1,fun a i b hb=>Y1 (l1.ok a i b hb).1,fun g hg=>yP (Gq hs hg)⟩
end
end Go.Fw

namespace Go.Fw
open Go.RowKit
set_option linter.unusedSectionVars false
set_option linter.unusedVariables false
set_option linter.unusedSimpArgs false
variable [dR]
def FR (ro:Option Nat):Fence:={ Fence.wide with round:=ro }
section
variable {Pg:Program} {ro:Option Nat} {n:Nat} {ops:Array Oper} {Q:Exit→Act→World→Prop}
theorem Si {f:FuncId} {args:Array Value} {w:World} {R:Ending→World→Prop} (h:Calls Pg f args w R):CallsIn (FR ro) n Pg f args w R:=callsIn_wide.2 h
theorem Xc {row:String} {args:Array Value} {w:World} {R:Value→World→Prop} (h:Rows Pg row args w R):RowsIn (FR ro) n Pg row args w R:=by
 intro c cs _
 obtain ⟨v,w',h1,h2⟩:=h c cs
 exact ⟨v,w',h1,stepsIn_wide.2 h2⟩
theorem aly {o:Oper} (ho :∀c,o.op≠.defer c) {a:Act} {w:World} {K K':Act→World→Prop} (hK :∀a w,K a w→K' a w) (h:o.wp Pg a w K Q):o.wpIn (FR ro) n Pg a w K' Q:=by
 refine ⟨fun _ _=>trivial,?_⟩
 rw [Oper.semAt_eq _ _ _ ho]
 unfold Oper.wp at h
 have hd:(FR ro).depth.isSome=true→1≤n:=fun e=>absurd e (by simp [FR,Fence.wide])
 generalize (execOp a.eval o).run Pg w=r at *
 cases r with
 |ok x w'=>
  cases x<;>simp only [Oper.upon] at h<;>simp only [Oper.uponIn]
  all_goals first
   |exact hK _ _ h
   |exact ⟨hd,Si (Calls.mono h fun e w'' he=>by cases e<;>first | exact hK _ _ he | exact he)⟩
   |exact ⟨hd,Xc (Rows.mono h fun v w'' he=>hK _ _ he)⟩
 |halt x w'=>cases x<;>simp only [Oper.upon] at h<;>simp only [Oper.uponIn]<;>exact h
theorem Y2 (ho :∀o∈ops.toList,∀c,o.op≠.defer c) (hlo:¬ LetsOut Q) {i:Nat} {a:Act} {w:World} {K K':Act→World→Prop} (hK :∀a w,K a w→K' a w) (h:wpOp Pg ops Q i K a w):wpOpIn (FR ro) n Pg ops Q i K' a w:=by
 unfold wpOp at h
 unfold wpOpIn
 cases hi:ops[i]? with
 |none=>rw [hi] at h;exact hK _ _ h
 |some o=>
  rw [hi] at h
  simp only at h ⊢
  split
  ·rename_i hw
   rw [if_pos hw] at h
   rcases h with h | h
   ·exact aly (ho o (by have:=(Array.getElem?_eq_some_iff.1 hi).2;rw [←this];simp)) hK h
   ·exact absurd h.2 hlo
  ·rename_i hw
   rw [if_neg hw] at h
   exact ⟨fun _ _=>trivial,hK _ _ h⟩
theorem aeZ (ho :∀o∈ops.toList,∀c,o.op≠.defer c) (hlo:¬ LetsOut Q) :∀(is:List Nat) (a:Act) (w:World),wpOps Pg ops Q is a w→wpOpsIn (FR ro) n Pg ops Q is a w
 | [],a,w,h=>h
 |i::is,a,w,h=>by
  rw [wpOps_cons] at h
  rw [wpOpsIn_cons]
  exact Y2 ho hlo (fun a w=>aeZ ho hlo is a w) h
theorem ae0 {md:Region.Mode} (ho :∀o∈ops.toList,∀c,o.op≠.defer c) (hlo:¬ LetsOut Q) :∀(fuel:Nat) (listed:Array Bool) (a:Act) (w:World),wpAny Pg md ops Q fuel listed a w→wpAnyIn (FR ro) n Pg md ops Q fuel listed a w
 |0,listed,a,w,h=>h
 |fuel+1,listed,a,w,h=>⟨h.1,fun i hi=>Y2 ho hlo (fun a w=>ae0 ho hlo fuel _ a w) (h.2 i hi)⟩
end
omit [dR] in
def P.lv:P→Value
 |.int k n=>.int k n
 |.bool b=>.bool b
 |.str s=>.string s
 |_=>undef
def P.lit:P→Bool
 |.int _ _=>true
 |.bool _=>true
 |.str _=>true
 |_=>false
theorem P.ab_ {w:World} {ok:Nat→Prop} {x:P} (h:x.lit=true):bW w ok x x.lv:=by
 cases x<;>first | exact .int _ _ | exact .bool _ | exact .str _ | cases h
omit [dR] in
def He (Pg:Program) (w:World) (S:List Nat) (rows:List (List P)) (v:Value):Prop:=
 ∃gf lb,v=.func (.func gf) #[] lb∧(∀(args:Array Value) (w:World),(callFunc gf args).run Pg w=.ok (.enter gf args) w)∧
  ∀(l:Nat) (J:Nat→List Nat→World→Prop) (W:World),(∀k D A,J k D A→∀b∈S,A.heap[b]?=w.heap[b]?)→(∀k D A B D',J k D A→pV A B→(∀b∈D',b∈D∨(A.heap.size≤b∧b<B.heap.size))→J k D' B)→
   (∀k row D A,rows[k]?=some row→J k D A→YieldAt Fence.wide 0 Pg l (row.map P.lv).toArray A fun e B=>e=.returned (.bool true)∧J (k+1) D B∧∀b∈D,B.heap[b]?=A.heap[b]?)→
   J 0 [] W→Calls Pg gf (#[.func (.yield l) #[] #[]]++lb) W fun e B=>(∃v,e=.returned v)∧∃D,J rows.length D B
omit [dR] in
theorem He.mono {Pg:Program} {w w':World} {S:List Nat} {rows:List (List P)} {v:Value} (h :∀b∈S,w'.heap[b]?=w.heap[b]?) (hi:He Pg w S rows v):He Pg w' S rows v:=by
 obtain ⟨gf,lb,h1,h2,h3⟩:=hi
 exact ⟨gf,lb,h1,h2,fun l J W hJ=>h3 l J W fun k D A hA b hb=>(hJ k D A hA b hb).trans (h b hb)⟩
section
variable {Pg:Program}
theorem Y3 {g:Operand} {ps:Array Tmp} {x y:Code} {Q:Exit→Act→World→Prop} {a:Act} {w:World} {S:List Nat} {rows:List (List P)} (hit:He Pg w S rows (a.eval g)) (hlen :∀row∈rows,row.length=ps.size)
  (J:Nat→List Nat→World→Prop) (hS :∀k D A,J k D A→∀b∈S,A.heap[b]?=w.heap[b]?) (hgrow :∀k D A B D',J k D A→pV A B→(∀b∈D',b∈D∨(A.heap.size≤b∧b<B.heap.size))→J k D' B)
  (hturn :∀k D A b o o',w.heap.size≤b→b∉D→J k D A→A.heap[b]?=some o→quiet o=true→J k D (A.putObj b o')) (h0:J 0 [] w)
  (afU :∀k row D A,rows[k]?=some row→J k D A→∀l,∃a₁,(∀(K:Act→World→Prop) W,K a₁ W→x.wpIn (FR (some l)) 0 Pg (Exit.then K (fun _ _ _=>False)) { tmps:=(ps.zip (row.map P.lv).toArray).foldl (fun t (p,v)=>t.setIfInBounds p v) a.tmps,defers:=[] } W)∧
   y.wpIn (FR (some l)) 0 Pg (fun e _ B=>e=.normal∧J (k+1) D B∧(∀b∈D,B.heap[b]?=A.heap[b]?)∧∀b o,A.heap[b]?=some o→quiet o=true→w.heap.size≤b→B.heap[b]?=some o) a₁ A)
  (hdone :∀D B D',w.heap.size≤D→J rows.length D' B→B.heap[D]?=some (.deferred (some []))→Q .normal { a with defers:={ target:=.collected D,args:=#[] }::a.defers } B) :
  (Code.rangeFunc g ps x y).wp Pg Q a w:=by
 obtain ⟨gf,lb,hg,eg,hseq⟩:=hit
 rw [←wpIn_wide (n:=1)]
 refine wpIn_rangeFunc ?_
 intro fn hfn
 obtain ⟨rec,hrec⟩ :∃rec:LoopState→Option Code→Loop,rec=fun st pe=>{ state:=st,pending:=pe,fn,tmps:=a.tmps,params:=ps,assign:=x,body:=y,defers:=w.heap.size }:=⟨_,rfl⟩
 obtain ⟨W1,hW1⟩ :∃W1,(w.alloc (.deferred (some []))).alloc (.loop (rec .ready none))=W1:=⟨_,rfl⟩
 have hL1:W1.heap[w.heap.size+1]?=some (.loop (rec .ready none)):=by
  rw [←hW1];have:=World.alloc_heap_new (w.alloc (.deferred (some []))) (.loop (rec .ready none));rwa [World.size_alloc] at this
 have hK1:W1.heap[w.heap.size]?=some (.deferred (some [])):=by
  rw [←hW1];exact (Below.heap_alloc _ _ _ (by simp)).trans (World.alloc_heap_new w _)
 have hJ1:J 0 [] W1:=by rw [←hW1];exact hgrow _ _ _ _ [] (hgrow _ _ _ _ [] h0 (pV.alloc _ _) (fun b hb=>by cases hb)) (pV.alloc _ _) (fun b hb=>by cases hb)
 refine ⟨w.heap.size+1,[{ target:=.collected w.heap.size,args:=#[] }],W1,{ target:=.fn (.func gf) lb,args:=#[.func (.yield (w.heap.size+1)) #[] #[]] },W1,gf,
  #[.func (.yield (w.heap.size+1)) #[] #[]]++lb,W1,?_,?_,fun _ _=>trivial,?_,fun _=>Nat.le_refl _,?_⟩
 ·rw [←hW1,hrec];exact run_enterLoop_outer _ _ _ _ _
 ·simp only [resolve,hg]
  simp [go_sem]
 ·simp [invoke,go_sem,eg]
 refine callsIn_wide.2 (Calls.mono (hseq (w.heap.size+1)
   (fun k D A=>J k D A∧A.heap[w.heap.size+1]?=some (.loop (rec .ready none))∧A.heap[w.heap.size]?=some (.deferred (some []))∧∀b∈D,w.heap.size+1<b)
   W1 (fun k D A h=>hS k D A h.1) (fun k D A B D' h hg hD => ?_) ?_ ⟨hJ1,hL1,hK1,fun b hb=>by cases hb⟩) ?_)
 ·have lt :∀{i o},A.heap[i]?=some o→i<A.heap.size:=fun h=>(Array.getElem?_eq_some_iff.1 h).1
  refine ⟨hgrow k D A B D' h.1 hg hD,(hg.same _ (lt h.2.1)).trans h.2.1,(hg.same _ (lt h.2.2.1)).trans h.2.2.1,fun b hb => ?_⟩
  rcases hD b hb with hb | hb
  ·exact h.2.2.2 b hb
  ·exact Nat.lt_of_lt_of_le (lt h.2.1) hb.1
 ·rintro k row D A hrow ⟨hj,hl,hk,hD⟩
  have hy:=run_yield (P:=Pg) (args:=(row.map P.lv).toArray) hl (by rw [hrec];simpa using hlen row (List.mem_of_getElem? hrow))
  rw [hrec] at hy
  have hlt:w.heap.size+1<A.heap.size:=(Array.getElem?_eq_some_iff.1 hl).1
  have hnD:w.heap.size+1∉D:=fun hm=>Nat.lt_irrefl _ (hD _ hm)
  have aip :∀b∈D,b≠w.heap.size+1:=fun b hb e=>hnD (e▸hb)
  have hj2:J k D (A.putObj (w.heap.size+1) (.loop { rec .ready none with state:=.busy })):=hturn _ _ _ _ _ _ (by omega) hnD hj hl rfl
  obtain ⟨a₁,hx,hbody⟩:=afU k row D _ hrow hj2 (w.heap.size+1)
  refine ⟨fn,_,x,y,hy,roundIn_of_wpIn hfn (hx _ _ ⟨_,run_beginRound hl (by rw [hrec]),wpIn_mono hbody ?_⟩)⟩
  rintro e a3 B ⟨rfl,hj3,hkD,hkeep⟩
  have hl2:(A.putObj (w.heap.size+1) (.loop { rec .ready none with state:=.busy })).heap[w.heap.size+1]?=some (.loop { rec .ready none with state:=.busy }):=World.putObj_heap_same hlt
  have hk2:(A.putObj (w.heap.size+1) (.loop { rec .ready none with state:=.busy })).heap[w.heap.size]?=some (.deferred (some [])):=(World.putObj_heap_other (by omega)).trans hk
  have hl3:=hkeep _ _ hl2 rfl (by omega)
  have hk3:=hkeep _ _ hk2 rfl (by omega)
  have hr:=run_endRound (P:=Pg) none hl3
  refine ⟨_,_,hr,rfl,⟨hturn _ _ _ _ _ _ (by omega) hnD hj3 hl3 rfl,?_,(World.putObj_heap_other (by omega)).trans hk3,hD⟩,fun b hb => ?_⟩
  ·rw [World.putObj_heap_same (Array.getElem?_eq_some_iff.1 hl3).1,hrec];rfl
  ·rw [World.putObj_heap_other (aip b hb),hkD b hb,World.putObj_heap_other (aip b hb)]
 ·rintro e B ⟨⟨v,rfl⟩,D,hj,hl,hk,hD⟩
  have hnD:w.heap.size+1∉D:=fun hm=>Nat.lt_irrefl _ (hD _ hm)
  refine ⟨none,_,by have:=run_endLoop (P:=Pg) hl (by rw [hrec];simp);rw [hrec] at this;exact this,hdone _ _ D (Nat.le_refl _) (hturn _ _ _ _ _ _ (by omega) hnD hj hl rfl) ((World.putObj_heap_other (by omega)).trans hk)⟩
end
end Go.Fw

namespace Go.Fw
set_option linter.unusedSectionVars false
open Go.RowKit
variable [dR]
set_option linter.unusedVariables false
set_option linter.unusedSimpArgs false
structure uK where
 n:St→Prop
 x:Nat→St→Prop
 r:St→Prop
def keeps (aU:List Nat) (j:Shape) (m:Ren):Bool:=aU.all fun g=>j.nms.contains g&&(match m.lookup g with
 |some (some g')=>Nat.beq g' g
 |_=>false)
inductive Back (aU:List Nat) (j:Shape) (st:St) (G:List P→Prop):Prop where
 |mk (hs gs:List Nat) (m:Ren) (vs:List P) (hgs:ab9 (Fw.shuts hs st).o gs=true) (hm:keeps aU j m=true) (h:coerce j m (dX gs (Fw.shuts hs st))=some vs) (hG:G vs)
inductive Y4 (aU:List Nat) (body:St→uK→Prop) (st:St) (K:uK):Prop where
 |mk (j:Shape) (I:List P→Prop) (μ:List P→Nat) (h0:Back aU j st I) (round :∀us,I us→body (Fw.mk j us) { n:=fun st'=>Back aU j st' fun vs=>I vs∧μ vs<μ us,x:=K.x,r:=K.r })
inductive Wk (aU:List Nat) (K:St→Prop) (st:St):Prop where
 |now (h:K st)
 |back (j:Shape) (h:Back aU j st fun vs=>K (Fw.mk j vs))
def Hf:Op→Option Tmp
 |.assign (.tmp t)=>some t
 |.move (.tmp t)=>some t
 |_=>none
def vF (N:Nat):Code→St→Option St
 |.skip,st=>some st
 |.region _ ops false,st=>match ops.toList with
  | [o]=>match o.guard,o.dst,Hf o.op with
   |none,some d,some t=>if d<N then some (st.put (some d) (st.s t)) else none
   |_,_,_=>none
  |_=>none
 |.seq x y,st=>match vF N x st with
  |some st'=>vF N y st'
  |none=>none
 |_,_=>none
def rZ:Code→Act→Act
 |.region _ ops _,a=>match ops.toList with
  | [o]=>match o.dst,Hf o.op with
   |some d,some t=>a.put (some d) (a.tmps.getD t undef)
   |_,_=>a
  |_=>a
 |.seq x y,a=>rZ y (rZ x a)
 |_,a=>a
def wW:List Tmp→List P→St→St
 |p::ps,x::xs,st=>wW ps xs (st.put (some p) (.v (.one (.p false false x))))
 |_,_,st=>st
def acd:Op→Bool
 |.defer _=>true
 |_=>false
def calm:Code→Bool
 |.skip=>true
 |.region _ ops _=>ops.toList.all fun o=>!acd o.op
 |.seq x y=>calm x&&calm y
 |.cond _ x y=>calm x&&calm y
 |.block _ c=>calm c
 |.loop c=>calm c
 |.exit _=>true
 |.ret=>true
 |.label _=>true
 |_=>false
def Hg (st:St):St:={ s:=fun _=>.no,o:=st.o,used:=st.used }
def Y5 (N:Nat) (body:List Nat→St→uK→Prop) (ps:List Tmp) (x:Code) (row:List P) (st:St) (K:St→Prop):Prop:=
 ∃(sg:yg) (st1:St) (c:Jv) (bT:List P) (d:Nat),sg.ok=true∧((sg.aU.all fun g=>sg.pin.nms.contains g)&&sg.YH)=true∧sg.dA=0∧vF N x (wW ps row st)=some st1∧
  gy sg st.o ((List.range N).map st1.s)=some c∧c.fine sg=true∧
  body sg.aU (Fw.mk sg.pin c.ins) { n:=fun st2=>Back sg.aU sg.aI (Hg st2) fun vs=>vs=bT,x:=fun _ _=>False,r:=fun _=>False }∧
  (∀g∈(gZ sg d st.o c bT).new,st.used g=false)∧K (st.aF (gZ sg d st.o c bT).aF (gZ sg d st.o c bT).new)
inductive afV (aU:List Nat) (rows:List (List P)) (round:List P→St→(St→Prop)→Prop) (st:St) (K:St→Prop):Prop where
 |mk (j:Shape) (I:Nat→List P→Prop) (h0:Back aU j st (I 0)) (hr :∀k row us,rows[k]?=some row→I k us→round row (Fw.mk j us) fun st'=>Back aU j st' (I (k+1))) (hd :∀us,I rows.length us→K (Fw.mk j us))
def exec (T:Tab) (tt:TT) (N:Nat) (aU:List Nat):Code→St→uK→Prop
 |.skip,st,K=>K.n st
 |.region _ ops draw,st,K=>oU T tt N ops draw st (Wk aU K.n)
 |.seq x y,st,K=>exec T tt N aU x st { n:=fun st'=>exec T tt N aU y st' K,x:=K.x,r:=K.r }
 |.cond c x y,st,K=>match st.dK c with
  |.v (.one (.p _ _ (.bool b)))=>bif b then exec T tt N aU x st { n:=Wk aU K.n,x:=K.x,r:=K.r } else exec T tt N aU y st { n:=Wk aU K.n,x:=K.x,r:=K.r }
  |_=>False
 |.block id c,st,K=>exec T tt N aU c st { n:=Wk aU K.n,x:=fun id' st'=>bif Nat.beq id' id then Wk aU K.n st' else K.x id' st',r:=K.r }
 |.loop c,st,K=>Y4 aU (exec T tt N aU c) st K
 |.exit id,st,K=>K.x id st
 |.ret,st,K=>K.r st
 |.label _,st,K=>K.n st
 |.rangeFunc g ps x y,st,K=>calm y=true∧match st.dK g with
  |.v (.one (.p _ _ (.seq rows)))=>(rows.all fun r=>Nat.beq r.length ps.size&&r.all P.lit)=true∧(ps.toList.all fun p=>Nat.blt p N)=true∧
    afV aU rows (Y5 N (fun alz st' K'=>exec T tt N alz y st' K') ps.toList x) st (Wk aU K.n)
  |_=>False
 |_,_,_=>False
structure Fit (Pg:Program):Prop where
 mixed:Pg.follows .mixedOrders=true
 sq :∀w S l v,dR.sq w S l v→He Pg w S l v
section
variable {E:Env} {N:Nat} {aU:List Nat} {oL:Nat→Gh} {Pg:Program} {T:Tab} {tt:TT}
structure Knt (E:Env) (N:Nat) (aU:List Nat) (oL:Nat→Gh) (K:uK) (Q:Exit→Act→World→Prop):Prop where
 n :∀st a w,K.n st→Good E N aU oL st a w→Q .normal a w
 x :∀id st a w,K.x id st→Good E N aU oL st a w→Q (.exit id) a w
 r :∀st a w,K.r st→Good E N aU oL st a w→Q .ret a w
theorem Back.good {j:Shape} {st:St} {G:List P→Prop} (h:Back aU j st G) {a:Act} {w:World} (hg:Good E N aU oL st a w) :∃vs,G vs∧Good E N aU oL (Fw.mk j vs) a w:=by
 obtain ⟨hs,gs,m,vs,hgs,hm,h,hG⟩:=h
 obtain ⟨⟨gh,hR,D7⟩,hsz,hdf⟩:=hg
 obtain ⟨bD,hR,e1,_,e3⟩:=hR.norm hs gs hgs
 have hr:=rQ h
 refine ⟨vs,hG,⟨iY bD (Aw j m),hR.RD hr,fun g hg => ?_⟩,hsz,hdf⟩
 have:=(List.all_eq_true.1 hm) g hg
 simp only [Bool.and_eq_true] at this
 obtain ⟨h1,h2⟩:=this
 refine ⟨h1,?_⟩
 have hF:Aw j m g=some g:=by
  unfold Aw
  rw [if_pos h1]
  split at h2
  ·rename_i g' hl
   rw [hl,Nat.eq_of_beq_eq_true h2];rfl
  ·cases h2
 have ho:=hr.aQ g g hF
 rcases (D7 g hg).2 with e | e
 ·have e:=e3 g e
  rw [e] at ho
  generalize (Fw.mk j vs).o g=z at ho
  cases ho;exact .inl rfl
 ·exact .inr (by simp only [iY,hF];exact ⟨(e1 g).1.trans e.1,(e1 g).2.trans e.2⟩)
theorem Wk.good {K:St→Prop} {st:St} (h:Wk aU K st) {a:Act} {w:World} (hg:Good E N aU oL st a w) :∃st',K st'∧Good E N aU oL st' a w:=by
 cases h with
 |now h=>exact ⟨st,h,hg⟩
 |back j h=>
  obtain ⟨vs,h1,h2⟩:=h.good hg
  exact ⟨_,h1,h2⟩
theorem Knt.wk {K:uK} {Q:Exit→Act→World→Prop} (h:Knt E N aU oL K Q):Knt E N aU oL { n:=Wk aU K.n,x:=K.x,r:=K.r } Q:=
 ⟨fun st a w hk hg=>let ⟨st',h1,h2⟩:=hk.good hg;h.n st' a w h1 h2,h.x,h.r⟩
theorem Hl {ro:Option Nat} {n:Nat} {Q:Exit→Act→World→Prop} {st:St} {a:Act} {w:World} {ops:Array Oper} (hT :∀f sp,T f=some sp→Sound Pg f sp) (htt:gQ Pg tt) (hm:Pg.follows .mixedOrders=true) {id:Nat} {draw:Bool} {K:St→Prop} (hcm:calm (.region id ops draw)=true) (h:oU T tt N ops draw st K) (hg:Good E N aU oL st a w)
  (hK :∀st' a' w',K st'→Good E N aU oL st' a' w'→Q .normal a' w'):(Code.region id ops draw).wpIn (FR ro) n Pg Q a w:=by
 have hnd :∀o∈ops.toList,∀c,o.op≠.defer c:=fun o ho c e=>by
  have:=List.all_eq_true.1 hcm o ho
  rw [e] at this;cases this
 have hlo:¬ LetsOut (fun e a w=>e=.normal∧Q .normal a w):=fun ⟨_,_,e,_⟩=>by cases e
 refine wpIn_mono (Q:=fun e a w=>e=.normal∧Q .normal a w) ?_ fun e a w h=>by obtain ⟨rfl,h⟩:=h;exact h
 rcases G9 (Q:=fun e a w=>e=.normal∧Q .normal a w) hT htt h hg fun st' a' w' q hg'=>⟨rfl,hK st' a' w' q hg'⟩ with ⟨e,h2⟩ | ⟨e,h2⟩
 ·rw [e];exact wpIn_region (aeZ hnd hlo _ _ _ h2)
 ·rw [e];exact wpIn_region_any hm (ae0 hnd hlo _ _ _ _ h2)
theorem MQ (hT :∀f sp,T f=some sp→Sound Pg f sp) (htt:gQ Pg tt) (hm:Pg.follows .mixedOrders=true) (ro:Option Nat) (n:Nat) :∀(c:Code) {st:St} {K:uK} {Q:Exit→Act→World→Prop} {a:Act} {w:World},
  calm c=true→exec T tt N aU c st K→Good E N aU oL st a w→Knt E N aU oL K Q→c.wpIn (FR ro) n Pg Q a w:=by
 intro c
 induction c with
 |skip=>intro st K Q a w hcm h hg hK;exact wpIn_skip (hK.n _ _ _ h hg)
 |region id ops draw=>intro st K Q a w hcm h hg hK;exact Hl hT htt hm hcm h hg fun st' a' w' q hg'=>hK.wk.n _ _ _ q hg'
 |seq x y FB ihy=>
  intro st K Q a w hcm h hg hK
  simp only [calm,Bool.and_eq_true] at hcm
  refine wpIn_seq (FB hcm.1 h hg ⟨fun st' a' w' q hg'=>ihy hcm.2 q hg' hK,fun id st' a' w' q hg'=>hK.x _ _ _ _ q hg',fun st' a' w' q hg'=>hK.r _ _ _ q hg'⟩)
 |cond c x y FB ihy=>
  intro st K Q a w hcm h hg hK
  simp only [calm,Bool.and_eq_true] at hcm
  simp only [exec] at h
  split at h
  ·rename_i a1 i1 b hc
   obtain ⟨gh,hR,_⟩:=hg.ex
   have hv:=mY hR c
   rw [hc] at hv
   have hv:=hv.eH.lq
   refine wpIn_cond_split hv (fun hb => ?_) (fun hb => ?_)
   ·subst hb;exact FB hcm.1 h hg hK.wk
   ·subst hb;exact ihy hcm.2 h hg hK.wk
  ·cases h
 |block id c ih=>
  intro st K Q a w hcm h hg hK
  refine wpIn_block (ih hcm h hg ⟨fun st' a' w' q hg'=>hK.wk.n _ _ _ q hg',fun id' st' a' w' q hg' => ?_,fun st' a' w' q hg'=>hK.r _ _ _ q hg'⟩)
  simp only [Exit.inBlock]
  by_cases e:id'=id
  ·subst e
   rw [if_pos rfl]
   have:Nat.beq id' id'=true:=by simp
   simp only [this] at q
   exact hK.wk.n _ _ _ q hg'
  ·rw [if_neg e]
   have:Nat.beq id' id=false:=by cases hb:Nat.beq id' id with | false=>rfl | true=>exact absurd (Nat.eq_of_beq_eq_true hb) e
   simp only [this] at q
   exact hK.x _ _ _ _ q hg'
 |loop c ih=>
  intro st K Q a w hcm h hg hK
  obtain ⟨j,I,μ,h0,round⟩:=(show Y4 aU (exec T tt N aU c) st K from h)
  obtain ⟨us,hI,hg0⟩:=h0.good hg
  refine wpIn_loop_rounds (μ us+1) ?_
  have key :∀k us,I us→μ us<k→∀a w,Good E N aU oL (Fw.mk j us) a w→Code.roundsIn (FR ro) n Pg c Q k a w:=by
   intro k
   induction k with
   |zero=>intro us _ h;omega
   |succ k ihn=>
    intro us hI hlt a w hg
    refine ih hcm (round us hI) hg ⟨fun st' a' w' q hg' => ?_,fun id st' a' w' q hg'=>hK.x _ _ _ _ q hg',fun st' a' w' q hg'=>hK.r _ _ _ q hg'⟩
    obtain ⟨vs,⟨h1,h2⟩,h3⟩:=Back.good q hg'
    exact ihn vs h1 (by omega) _ _ h3
  exact key _ us hI (by omega) a w hg0
 |exit id=>intro st K Q a w hcm h hg hK;exact wpIn_exit (hK.x _ _ _ _ h hg)
 |ret=>intro st K Q a w hcm h hg hK;exact wpIn_ret (hK.r _ _ _ h hg)
 |label l=>intro st K Q a w hcm h hg hK;exact wpIn_label (hK.n _ _ _ h hg)
 |_=>intro st K Q a w hcm;cases hcm
theorem O_ {sp:yg} {st:St} {bT:List P} {kL:Nat→Gh} {rs:Nat→Value} {w':World} (hfin:Rel E st kL rs w') (Ho :∀g∈sp.aU,st.used g=true∧(st.o g=.none∨((kL g).ad=(oL g).ad∧(kL g).cap=(oL g).cap)))
  (hBk:Back sp.aU sp.aI st fun vs=>vs=bT) :∃bD,Rel E (Fw.mk sp.aI bT) bD rs w'∧∀g∈sp.aU,(bD g).ad=(oL g).ad∧(bD g).cap=(oL g).cap:=by
 obtain ⟨hs,gs,m,vs,hgs,hkm,hco,rfl⟩:=hBk
 obtain ⟨wC,hfin,e1,_,e3⟩:=hfin.norm hs gs hgs
 have hr:=rQ hco
 refine ⟨iY wC (Aw sp.aI m),hfin.RD hr,fun g hg => ?_⟩
 have:=(List.all_eq_true.1 hkm) g hg
 simp only [Bool.and_eq_true] at this
 obtain ⟨h1,h2⟩:=this
 have hF:Aw sp.aI m g=some g:=by
  unfold Aw
  rw [if_pos h1]
  split at h2
  ·rename_i g' hl
   rw [hl,Nat.eq_of_beq_eq_true h2];rfl
  ·cases h2
 have ho:=hr.aQ g g hF
 have hbox:(Fw.mk sp.aI vs).o g≠.none:=by
  have hm:g∈sp.aI.aQ.map (·.1):=by simpa [Shape.nms] using h1
  obtain ⟨x,hxx⟩:=uH (vs:=vs) (n:=(bZ vs 0 sp.aI.slots).2) hm
  have e:(Fw.mk sp.aI vs).o g=x:=by
   show (match (fP vs (bZ vs 0 sp.aI.slots).2 sp.aI.aQ).1.lookup g with | some x=>x | none=>O.none)=x
   rw [hxx]
  obtain ⟨k,n',_,h2⟩:=kC hxx
  rw [e,h2]
  cases k<;>simp [sJ]
 rcases (Ho g hg).2 with e | e
 ·exfalso
  have e:=e3 g e
  rw [e] at ho
  generalize (Fw.mk sp.aI vs).o g=z at ho hbox
  cases ho;exact hbox rfl
 ·simp only [iY,hF];exact ⟨(e1 g).1.trans e.1,(e1 g).2.trans e.2⟩
structure Head (E:Env) (aU:List Nat) (oL:Nat→Gh) (a:Act) (S D:List Nat) (w0:World) (st:St) (A:World):Prop where
 ex :∃gh,Rel E st gh (fun t=>a.tmps.getD t undef) A∧(∀g∈aU,st.used g=true∧(st.o g=.none∨((gh g).ad=(oL g).ad∧(gh g).cap=(oL g).cap)))∧∀b∈S++D,∃p q,E.ok st gh A p q b
 marks:Marks E a A
 keep :∀b∈S,A.heap[b]?=w0.heap[b]?
theorem Head.back {a:Act} {S D:List Nat} {w0 A:World} {j:Shape} {st:St} {G:List P→Prop} (h:Head E aU oL a S D w0 st A) (hb:Back aU j st G) :∃vs,G vs∧Head E aU oL a S D w0 (Fw.mk j vs) A:=by
 obtain ⟨hs,gs,m,vs,hgs,hm,hc,hG⟩:=hb
 obtain ⟨⟨gh,hR,D7,hok⟩,hmk,hkp⟩:=h
 obtain ⟨bD,hR,e1,e2,e3⟩:=hR.norm hs gs hgs
 have hr:=rQ hc
 refine ⟨vs,hG,⟨iY bD (Aw j m),hR.RD hr,fun g hg => ?_,fun b hb => ?_⟩,hmk,hkp⟩
 ·have:=(List.all_eq_true.1 hm) g hg
  simp only [Bool.and_eq_true] at this
  obtain ⟨h1,h2⟩:=this
  refine ⟨h1,?_⟩
  have hF:Aw j m g=some g:=by
   unfold Aw
   rw [if_pos h1]
   split at h2
   ·rename_i g' hl
    rw [hl,Nat.eq_of_beq_eq_true h2];rfl
   ·cases h2
  have ho:=hr.aQ g g hF
  rcases (D7 g hg).2 with e | e
  ·have e:=e3 g e
   rw [e] at ho
   generalize (Fw.mk j vs).o g=z at ho
   cases ho;exact .inl rfl
  ·exact .inr (by simp only [iY,hF];exact ⟨(e1 g).1.trans e.1,(e1 g).2.trans e.2⟩)
 ·obtain ⟨p,q,h⟩:=hok b hb
  exact ⟨p,q,hr.ok _ _ _ _ b ⟨id,id⟩ (e2 _ _ _ h)⟩
def jU:List Tmp→List P→Array Value→Array Value
 |p::ps,x::xs,t=>jU ps xs (t.setIfInBounds p x.lv)
 |_,_,t=>t
theorem Hq :∀(ps:List Tmp) (row:List P) (t:Array Value),row.length=ps.length→(ps.zip (row.map P.lv)).foldl (fun t (p:Tmp×Value)=>t.setIfInBounds p.1 p.2) t=jU ps row t
 | [],[],t,_=>rfl
 |p::ps,x::row,t,h=>by
  simp only [List.map_cons,List.zip_cons_cons,List.foldl_cons,jU]
  exact Hq ps row _ (by simpa using h)
 | [],x::row,t,h=>by simp at h
 |p::ps,[],t,h=>by simp at h
theorem AU :∀(ps:List Tmp) (row:List P) (t:Array Value),(jU ps row t).size=t.size
 |p::ps,x::row,t=>by simp only [jU,AU];simp
 | [],row,t=>by simp only [jU]
 |p::ps,[],t=>by simp only [jU]
theorem UO {gh:Nat→Gh} {w:World} :∀(ps:List Tmp) (row:List P) {st:St} {t:Array Value},(row.all P.lit)=true→(∀p∈ps,p<t.size)→Rel E st gh (fun k=>t.getD k undef) w→
  Rel E (wW ps row st) gh (fun k=>(jU ps row t).getD k undef) w∧(wW ps row st).o=st.o∧(wW ps row st).used=st.used
 |p::ps,x::row,st,t,hl,hp,h=>by
  simp only [List.all_cons,Bool.and_eq_true] at hl
  have h1:=h.put (some p) (x:=.v (.one (.p false false x))) (v:=x.lv) (.v _ _ (.one _ _ (.p _ _ _ _ (P.ab_ hl.1)))) (by simp [S.names,V.names,W.names])
  have e:wo (fun k=>t.getD k undef) (some p) x.lv=fun k=>(t.setIfInBounds p x.lv).getD k undef:=by
   funext k
   have hlt:=hp p (by simp)
   simp only [wo,Array.getD_eq_getD_getElem?]
   by_cases e:k=p
   ·subst e;simp [hlt]
   ·rw [if_neg e,Array.getElem?_setIfInBounds_ne (Ne.symm e)]
  rw [e] at h1
  obtain ⟨q1,q2,q3⟩:=UO ps row hl.2 (fun p hp'=>by simpa using hp p (by simp [hp'])) h1
  exact ⟨q1,q2,q3⟩
 | [],row,st,t,hl,hp,h=>by simp only [wW,jU];exact ⟨h,trivial,trivial⟩
 |p::ps,[],st,t,hl,hp,h=>by simp only [wW,jU];exact ⟨h,trivial,trivial⟩
theorem Y6 {op:Op} {t:Tmp} (h:Hf op=some t):op=.assign (.tmp t)∨op=.move (.tmp t):=by
 unfold Hf at h
 split at h
 ·simp only [Option.some.injEq] at h;subst h;exact .inl rfl
 ·simp only [Option.some.injEq] at h;subst h;exact .inr rfl
 ·cases h
theorem Xd {gh:Nat→Gh} {w:World} :∀(x:Code) {st st':St} {a:Act},vF N x st=some st'→a.tmps.size=N→Rel E st gh (fun k=>a.tmps.getD k undef) w→
  Rel E st' gh (fun k=>(rZ x a).tmps.getD k undef) w∧(rZ x a).tmps.size=N∧(rZ x a).defers=a.defers∧st'.o=st.o∧st'.used=st.used∧
  ∀(ro:Option Nat) (n:Nat) (K:Act→World→Prop) (W:World),K (rZ x a) W→x.wpIn (FR ro) n Pg (Exit.then K (fun _ _ _=>False)) a W:=by
 intro x
 induction x with
 |skip=>
  intro st st' a h hsz hR
  simp only [vF,Option.some.injEq] at h;subst h
  exact ⟨hR,hsz,rfl,rfl,rfl,fun ro n K W hK=>wpIn_skip hK⟩
 |region id ops draw=>
  intro st st' a h hsz hR
  cases draw with
  |true=>simp [vF] at h
  |false=>
   simp only [vF] at h
   split at h
   ·rename_i o hops
    split at h
    ·rename_i d t hg hd ht
     split at h
     ·rename_i hlt
      simp only [Option.some.injEq] at h;subst h
      have hact:rZ (.region id ops false) a=a.put (some d) (a.tmps.getD t undef):=by simp only [rZ,hops,hd,ht]
      rw [hact]
      have hv:(fun k=>(a.put (some d) (a.tmps.getD t undef)).tmps.getD k undef)=wo (fun k=>a.tmps.getD k undef) (some d) (a.tmps.getD t undef):=wM _ _ fun d' e=>by cases e;rw [hsz];exact hlt
      refine ⟨by rw [hv];exact hR.put _ (hR.slots t) (hR.us t),by rw [wO];exact hsz,put_defers _ _,rfl,rfl,fun ro n K W hK => ?_⟩
      have hsize:ops.size=1:=by rw [←Array.length_toList,hops];rfl
      have hi:ops[0]?=some o:=by rw [←Array.getElem?_toList,hops];rfl
      refine wpIn_region ?_
      rw [hsize]
      show wpOpsIn _ _ _ _ _ [0] _ _
      simp only [wpOpsIn,hi]
      have hw:Region.wanted o (yielded ops a.tmps)=true:=by simp [Region.wanted,hg]
      rw [if_pos hw]
      refine ⟨fun _ _=>trivial,?_⟩
      have hnd :∀c,o.op≠.defer c:=fun c e=>by rw [e] at ht;cases ht
      rw [Oper.semAt_eq _ _ _ hnd]
      have hx:(execOp a.eval o).run Pg W=.ok (.value (a.tmps.getD t undef)) W:=by
       rcases Y6 ht with e | e
       ·simp only [execOp,e];rfl
       ·simp only [execOp,e];rfl
      rw [hx,Oper.uponIn_value,hd]
      exact hK
     ·cases h
    ·cases h
   ·cases h
 |seq x y FB ihy=>
  intro st st' a h hsz hR
  simp only [vF] at h
  split at h
  ·rename_i st1 h1
   obtain ⟨a1,a2,a3,a4,a5,a6⟩:=FB h1 hsz hR
   obtain ⟨b1,b2,b3,b4,b5,b6⟩:=ihy h a2 a1
   refine ⟨b1,b2,b3.trans a3,b4.trans a4,b5.trans a5,fun ro n K W hK=>wpIn_seq ?_⟩
   refine wpIn_mono (a6 ro n (fun a w=>y.wpIn (FR ro) n Pg (Exit.then K fun _ _ _=>False) a w) W (b6 ro n K W hK)) fun e a w h => ?_
   cases e<;>exact h
  ·cases h
 |_=>intro st st' a h;simp [vF] at h
theorem Ph (hT :∀f sp,T f=some sp→Sound Pg f sp) (htt:gQ Pg tt) (hm:Fit Pg) {g:Operand} {ps:Array Tmp} {x y:Code} {st:St} {K:uK} {Q:Exit→Act→World→Prop} {a:Act} {w:World}
  (h:exec T tt N aU (.rangeFunc g ps x y) st K) (hg:Good E N aU oL st a w) (hK:Knt E N aU oL K Q):(Code.rangeFunc g ps x y).wp Pg Q a w:=by
 obtain ⟨hcm,h⟩:calm y=true∧_:=h
 split at h
 rotate_left
 ·exact h.elim
 rename_i p q rows hop
 obtain ⟨hrows,hps,j,I,h0,hr,hd⟩:=h
 obtain ⟨⟨gh,hR,D7⟩,hsz,hmk⟩:=hg
 have hv:=mY hR g
 rw [hop] at hv
 have hv:=hv.eH
 obtain ⟨S,hS,hq⟩ :∃S,(∀b∈S,E.ok st gh w p q b∧∃c e f,w.heap[b]?=some (.cells c e f))∧dR.sq w S rows (a.eval g):=by
  generalize a.eval g=v at hv
  cases hv with
  |seq l v S _ hS hq=>exact ⟨S,hS,hq⟩
 have hB0:E.B0≤w.heap.size:=hR.size
 have hrow :∀row∈rows,row.length=ps.toList.length∧row.all P.lit=true:=fun row hm'=>by
  have:=List.all_eq_true.1 hrows row hm'
  simp only [Bool.and_eq_true] at this
  exact ⟨by simpa using Nat.eq_of_beq_eq_true this.1,this.2⟩
 have hpN :∀p∈ps.toList,p<N:=fun p hp=>by simpa using List.all_eq_true.1 hps p hp
 have aiq :∀b∈S,b<w.heap.size:=fun b hb=>(hS b hb).1.2.1
 obtain ⟨us0,hI0,hH0⟩:=Head.back (S:=S) (D:=[]) (w0:=w) ⟨⟨gh,hR,D7,fun b hb=>⟨p,q,(hS b (by simpa using hb)).1⟩⟩,hmk,fun _ _=>rfl⟩ h0
 refine Y3 (hm.sq _ _ _ _ hq) (fun row hm'=>by simpa using (hrow row hm').1) (fun k D A=>w.heap.size≤A.heap.size∧∃us,I k us∧Head E aU oL a S D w (Fw.mk j us) A) (fun k D A hJ=>hJ.2.choose_spec.2.keep) ?_ ?_ ⟨Nat.le_refl _,us0,hI0,hH0⟩ ?_ ?_
 ·rintro k D A B D' ⟨hz,us,hI,⟨kL,hR1,Ho,hok1⟩,Sj,Xe⟩ hg hDD
  refine ⟨Nat.le_trans hz hg.size,us,hI,⟨kL,hR1.grows hg,Ho,fun b hb => ?_⟩,?_,fun b hb=>(hg.same b (Nat.lt_of_lt_of_le (aiq b hb) hz)).trans (Xe b hb)⟩
  ·have old:b∈S++D→∃p q,E.ok (Fw.mk j us) kL B p q b:=fun hb=>by
    obtain ⟨p,q,h⟩:=hok1 b hb
    exact ⟨p,q,(hg.lets.ok p q b h).1⟩
   rcases List.mem_append.1 hb with hb | hb
   ·exact old (List.mem_append_left _ hb)
   ·rcases hDD b hb with hb | hb
    ·exact old (List.mem_append_right _ hb)
    ·refine ⟨false,false,.inr (.inr (.inl (by omega))),hb.2,fun g ho had => ?_⟩
     have:=(hR1.wr g b ho had).2
     omega
  ·obtain ⟨Ds,d1,d2,d3⟩:=Sj
   exact ⟨Ds,d1,d2,fun D hD=>⟨(d3 D hD).1,(hg.same D (Array.getElem?_eq_some_iff.1 (d3 D hD).2).1).trans (d3 D hD).2⟩⟩
 ·rintro k D A b o o' hb hbD ⟨hz,us,hI,⟨kL,hR1,Ho,hok1⟩,Sj,Xe⟩ ho hqo
  have hzz:(A.putObj b o').heap.size=A.heap.size:=World.putObj_size
  refine ⟨by rw [hzz];exact hz,us,hI,⟨kL,hR1.turn ho hqo (by omega) o',Ho,fun b' hb' => ?_⟩,?_,fun b' hb'=>(World.putObj_heap_other (by have:=aiq b' hb';omega)).trans (Xe b' hb')⟩
  ·obtain ⟨p,q,h⟩:=hok1 b' hb'
   exact ⟨p,q,by rw [←uI hzz];exact h⟩
  ·obtain ⟨Ds,d1,d2,d3⟩:=Sj
   obtain ⟨Ds0,e1,e2,e3⟩:=hmk
   have:Ds=Ds0:=by
    have:=d1.symm.trans e1
    have hinj :∀(l l':List Nat),l.map mark=l'.map mark→l=l':=by
     intro l
     induction l with
     |nil=>intro l' h;cases l' with | nil=>rfl | cons=>simp at h
     |cons D l ih=>intro l' h;cases l' with | nil=>simp at h | cons D' l'=>simp [mark] at h;rw [h.1,ih l' (by simpa [mark] using h.2)]
    exact hinj _ _ this
   subst this
   exact ⟨Ds,d1,d2,fun D hD=>⟨(d3 D hD).1,(World.putObj_heap_other (by have:=(Array.getElem?_eq_some_iff.1 (e3 D hD).2).1;omega)).trans (d3 D hD).2⟩⟩
 ·rintro k row D A hrw ⟨hz,us,hI,⟨kL,hR1,Ho,hok1⟩,Sj,Xe⟩ l
  obtain ⟨hlen,hlit⟩:=hrow row (List.mem_of_getElem? hrw)
  obtain ⟨sg,st1,c,bT,d,r1,r2,r3,r4,r5,r6,r7,r8,r9⟩:=hr k row us hrw hI
  obtain ⟨r2,rb⟩:=Bool.and_eq_true_iff.1 r2
  obtain ⟨u1,u2,u3⟩:=UO (t:=a.tmps) ps.toList row hlit (fun p hp=>by rw [hsz];exact hpN p hp) hR1
  obtain ⟨v1,v2,v3,v4,v5,v6⟩:=Xd (Pg:=Pg) x (a:={ tmps:=jU ps.toList row a.tmps,defers:=[] }) r4 (by rw [AU];exact hsz) u1
  have etm:(ps.zip (row.map P.lv).toArray).foldl (fun t (p,v)=>t.setIfInBounds p v) a.tmps=jU ps.toList row a.tmps:=by
   rw [←Hq ps.toList row a.tmps hlen,←Array.foldl_toList,Array.toList_zip]
  refine ⟨rZ x { tmps:=jU ps.toList row a.tmps,defers:=[] },fun K W hKW => ?_,?_⟩
  ·rw [etm];exact v6 _ _ K W hKW
  generalize hA1:rZ x { tmps:=jU ps.toList row a.tmps,defers:=[] }=a1 at *
  obtain ⟨E',wC,q1,q2,q3,q4,q5⟩:=J3 (sp:=⟨sg,fun _ _=>True⟩) r1 hR1 (args:=(List.range N).map st1.s) (vals:=a1.tmps.toList) (fun t=>by
   rw [List.getD_eq_getElem?_getD,List.getElem?_map]
   by_cases ht:t<N
   ·rw [List.getElem?_range ht]
    have:=v1.slots t
    rw [List.getD_eq_getElem?_getD,Array.getElem?_toList,←Array.getD_eq_getD_getElem?]
    exact cO.congr (v4.trans u2).symm this
   ·rw [List.getElem?_eq_none (by simpa using ht)];exact .no _) r5 r6
  have hval:(fun k=>a1.tmps.toList.getD k undef)=fun t=>a1.tmps.getD t undef:=by
   funext t;rw [List.getD_eq_getElem?_getD,Array.getElem?_toList,←Array.getD_eq_getD_getElem?]
  rw [hval] at q3
  have hgood:Good E' N sg.aU wC (Fw.mk sg.pin c.ins) a1 A:=⟨⟨wC,q3,fun g hg=>⟨(List.all_eq_true.1 r2) g hg,.inr ⟨rfl,rfl⟩⟩⟩,v2,Marks.nil v3⟩
  refine MQ hT htt hm.mixed (some l) 0 y (Q:=fun e _ B=>e=.normal∧(w.heap.size≤B.heap.size∧∃us,I (k+1) us∧Head E aU oL a S D w (Fw.mk j us) B)∧(∀b∈D,B.heap[b]?=A.heap[b]?)∧∀b o,A.heap[b]?=some o→quiet o=true→w.heap.size≤b→B.heap[b]?=some o) hcm r7 hgood ⟨fun st2 a2 B hk hg2 => ?_,fun id st2 a2 B hk=>hk.elim,fun st2 a2 B hk=>hk.elim⟩
  obtain ⟨⟨gh3,Sl,alA⟩,_,_⟩:=hg2
  have hend:Rel E' (Hg st2) gh3 (fun k=>([]:List Value).getD k undef) B:=
   ⟨fun k=>.no _,fun g=>kU.congr (st:=st2) (st':=Hg st2) rfl (Sl.aQ g),Sl.inj,Sl.wr,Sl.wi,Sl.ns,Sl.wb,Sl.frame,Sl.size,Sl.os,Sl.tape,Sl.output,fun k g hg=>by simp [Hg,Fw.S.names] at hg,Sl.uo,Sl.ul⟩
  obtain ⟨gh4,hR4,alB⟩:=O_ (sp:=sg) hend (fun g hg=>alA g hg) hk
  obtain ⟨gh5,s1,s2,_,_⟩:=q5 d bT _ rfl r8 B [] gh4 r3.symm hR4 fun g hg=>⟨alB g hg,yg.JY rb g hg⟩
  have hfr :∀b o,A.heap[b]?=some o→quiet o=true→B.heap[b]?=some o:=fun b o ho hqo=>by
   have hlt:=(Array.getElem?_eq_some_iff.1 ho).1
   rw [Sl.frame b (by rw [q1];exact hlt) (fun hw=>by obtain ⟨c,e,f,hc⟩:=q4 b hw;rw [ho] at hc;exact iP hqo _ _ _ (Option.some.inj hc)),q2]
   exact ho
  have hBz:A.heap.size≤B.heap.size:=by rw [←q1];exact Sl.size
  have hpre:Head E aU oL a S D w ((Fw.mk j us).aF (gZ sg d (Fw.mk j us).o c bT).aF (gZ sg d (Fw.mk j us).o c bT).new) B:=by
   refine ⟨⟨gh5,s1,fun g hg => ?_,fun b hb => ?_⟩,?_,fun b hb => ?_⟩
   ·obtain ⟨p1,p2⟩:=Ho g hg
    refine ⟨by simp [St.aF,p1],?_⟩
    rcases s2.names g p1 with q | ⟨q,qk⟩
    ·exact .inl q
    ·rcases p2 with p2 | p2
     ·rw [p2] at qk;exact .inl (O.Ci qk)
     ·exact .inr ⟨q.1.trans p2.1,q.2.trans p2.2⟩
   ·obtain ⟨p,q,h⟩:=hok1 b hb
    exact ⟨p,q,(s2.ok p q b h).1⟩
   ·obtain ⟨Ds,d1,d2,d3⟩:=Sj
    exact ⟨Ds,d1,d2,fun D hD=>⟨(d3 D hD).1,hfr D _ (d3 D hD).2 rfl⟩⟩
   ·obtain ⟨p,q,h⟩:=hok1 b (List.mem_append_left _ hb)
    exact ((s2.ok p q b h).2).trans (Xe b hb)
  obtain ⟨us',hI',hH'⟩:=hpre.back r9
  exact ⟨rfl,⟨Nat.le_trans hz hBz,us',hI',hH'⟩,fun b hb=>(let ⟨p,q,h⟩:=hok1 b (List.mem_append_right _ hb);(s2.ok p q b h).2),fun b o ho hqo _=>hfr b o ho hqo⟩
 ·rintro D B D' hD ⟨hz,us,hI,⟨kL,hR1,Ho,hok1⟩,Sj,Xe⟩ hDB
  have hw:=hd us hI
  refine hK.wk.n _ _ _ hw ⟨⟨kL,hR1,Ho⟩,hsz,?_⟩
  obtain ⟨Ds,d1,d2,d3⟩:=Sj
  obtain ⟨Ds0,e1,e2,e3⟩:=hmk
  have hmem :∀D'∈Ds,D'<w.heap.size:=by
   intro D' hD'
   have:mark D'∈a.defers:=by rw [d1];exact List.mem_map.2 ⟨D',hD',rfl⟩
   rw [e1] at this
   obtain ⟨D2,h1,h2⟩:=List.mem_map.1 this
   simp [mark] at h2
   subst h2
   exact (Array.getElem?_eq_some_iff.1 (e3 D2 h1).2).1
  refine ⟨D::Ds,by simp [d1,mark],List.nodup_cons.2 ⟨fun hm'=>by have:=hmem D hm';omega,d2⟩,fun D' hD' => ?_⟩
  rcases List.mem_cons.1 hD' with rfl | hD'
  ·exact ⟨by omega,hDB⟩
  ·exact d3 D' hD'
theorem Sm (hT :∀f sp,T f=some sp→Sound Pg f sp) (htt:gQ Pg tt) (hm:Fit Pg) :∀(c:Code) {st:St} {K:uK} {Q:Exit→Act→World→Prop} {a:Act} {w:World},
  exec T tt N aU c st K→Good E N aU oL st a w→Knt E N aU oL K Q→c.wp Pg Q a w:=by
 intro c
 induction c with
 |skip=>intro st K Q a w h hg hK;exact wp_skip (hK.n _ _ _ h hg)
 |region id ops draw=>intro st K Q a w h hg hK;exact MP hT htt hm.mixed h hg fun st' a' w' q hg'=>hK.wk.n _ _ _ q hg'
 |seq x y FB ihy=>
  intro st K Q a w h hg hK
  refine wp_seq (FB h hg ⟨fun st' a' w' q hg'=>ihy q hg' hK,fun id st' a' w' q hg'=>hK.x _ _ _ _ q hg',fun st' a' w' q hg'=>hK.r _ _ _ q hg'⟩)
 |cond c x y FB ihy=>
  intro st K Q a w h hg hK
  simp only [exec] at h
  split at h
  ·rename_i a1 i1 b hc
   obtain ⟨gh,hR,_⟩:=hg.ex
   have hv:=mY hR c
   rw [hc] at hv
   have hv:=hv.eH.lq
   refine wp_cond_split hv (fun hb => ?_) (fun hb => ?_)
   ·subst hb;exact FB h hg hK.wk
   ·subst hb;exact ihy h hg hK.wk
  ·cases h
 |block id c ih=>
  intro st K Q a w h hg hK
  refine wp_block (ih h hg ⟨fun st' a' w' q hg'=>hK.wk.n _ _ _ q hg',fun id' st' a' w' q hg' => ?_,fun st' a' w' q hg'=>hK.r _ _ _ q hg'⟩)
  simp only [Exit.inBlock]
  by_cases e:id'=id
  ·subst e
   rw [if_pos rfl]
   have:Nat.beq id' id'=true:=by simp
   simp only [this] at q
   exact hK.wk.n _ _ _ q hg'
  ·rw [if_neg e]
   have:Nat.beq id' id=false:=by cases hb:Nat.beq id' id with | false=>rfl | true=>exact absurd (Nat.eq_of_beq_eq_true hb) e
   simp only [this] at q
   exact hK.x _ _ _ _ q hg'
 |loop c ih=>
  intro st K Q a w h hg hK
  obtain ⟨j,I,μ,h0,round⟩:=(show Y4 aU (exec T tt N aU c) st K from h)
  obtain ⟨us,hI,hg0⟩:=h0.good hg
  refine wp_loop_rounds (μ us+1) ?_
  have key :∀n us,I us→μ us<n→∀a w,Good E N aU oL (Fw.mk j us) a w→Code.rounds Pg c Q n a w:=by
   intro n
   induction n with
   |zero=>intro us _ h;omega
   |succ n ihn=>
    intro us hI hlt a w hg
    refine ih (round us hI) hg ⟨fun st' a' w' q hg' => ?_,fun id st' a' w' q hg'=>hK.x _ _ _ _ q hg',fun st' a' w' q hg'=>hK.r _ _ _ q hg'⟩
    obtain ⟨vs,⟨h1,h2⟩,h3⟩:=Back.good q hg'
    exact ihn vs h1 (by omega) _ _ h3
  exact key _ us hI (by omega) a w hg0
 |exit id=>intro st K Q a w h hg hK;exact wp_exit (hK.x _ _ _ _ h hg)
 |ret=>intro st K Q a w h hg hK;exact wp_ret (hK.r _ _ _ h hg)
 |label l=>intro st K Q a w h hg hK;exact wp_label (hK.n _ _ _ h hg)
 |rangeFunc g ps x y FB ihy=>intro st K Q a w h hg hK;exact Ph hT htt hm h hg hK
 |_=>intro st K Q a w h;exact absurd h (by simp [exec])
def Xf (tt:TT) (st:St):ResultVar→Option S
 |.tmp t=>some (st.s t)
 |.cell a t=>match tt t,st.s a with
  |some i,.v (.one (.box g off))=>match st.o g with
   |.box ws=>if off+i.size≤ws.length∧0<i.size then some (V.fH i.agg ((ws.drop off).take i.size)) else none
   |_=>none
  |_,_=>none
def Ef (tt:TT) (st:St):List ResultVar→Option (List S)
 | []=>some []
 |r::rs=>match Xf tt st r,Ef tt st rs with
  |some x,some xs=>some (x::xs)
  |_,_=>none
def Pj (xs:List S) (st:St):St:={ s:=fun k=>xs.getD k .no,o:=st.o,used:=st.used }
def Fin (tt:TT) (sp:yg) (ts:List ResultVar) (bT:List P) (st:St):Prop:=match Ef tt st ts with
 |some xs=>Back sp.aU sp.aI (Pj xs st) fun vs=>vs=bT
 |none=>False
def afW (tt:TT) (sp:yg) (ts:List ResultVar) (bT:List P):uK:={ n:=Fin tt sp ts bT,x:=fun _ _=>False,r:=Fin tt sp ts bT }
def CO (tmps:Array Value) (r:ResultVar):Sem Value:=match r with
 |.tmp t=>pure (tmps.getD t undef)
 |.cell a t=>do loadVar t (←asAddr (tmps.getD a undef))
theorem Sr {fn:Func} {ts:List ResultVar} (hr:fn.results=ts.toArray) (tmps:Array Value):results fn tmps=(do
  let vs ←List.toArray <$> ts.mapM (CO tmps)
  pure (if h:vs.size=1 then vs[0] else .tuple vs)):=by
 unfold results
 rw [hr,List.mapM_toArray]
 have :∀F:ResultVar→Sem Value,(∀r,F r=CO tmps r)→ts.mapM F=ts.mapM (CO tmps):=fun F hF=>by rw [funext hF]
 rw [this _ fun r=>by cases r<;>rfl]
theorem Sv (htt:gQ Pg tt) {st:St} {gh:Nat→Gh} {a:Act} {w:World} (h:Rel E st gh (fun t=>a.tmps.getD t undef) w) {r:ResultVar} {x:S} (hx:Xf tt st r=some x) :
  ∃v,(CO a.tmps r).run Pg w=.ok v w∧cO E st gh w x v∧∀g∈x.names,st.used g=true:=by
 cases r with
 |tmp t=>
  simp only [Xf,Option.some.injEq] at hx
  subst hx
  exact ⟨_,rfl,h.slots t,h.us t⟩
 |cell ad t=>
  simp only [Xf] at hx
  split at hx
  ·rename_i i g off ht hs
   have rx:=h.slots ad;rw [hs] at rx
   split at hx
   ·rename_i ws hog
    split at hx
    ·rename_i hlt
     simp only [Option.some.injEq] at hx;subst hx
     have hO:=h.aQ g;rw [hog] at hO
     obtain ⟨ad',had,cs,hl,hone,hcell,hrep⟩:=yG.cells hO
     obtain ⟨apy,LH,hv⟩:=(by cases rx.cu with | box _ _ _ _ hb=>exact hb ws hog :∃ad',(gh g).ad=some ad'∧a.tmps.getD ad undef=.pointer (some ⟨ad'.block,ad'.off+off,none⟩))
     rw [had] at LH;cases LH
     have hl':((cs.drop off).take i.size).length=i.size:=by simp;omega
     obtain ⟨v,hrun,hval⟩:=jE (Pg:=Pg) (w:=w) (htt _ _ ht) ad'.block (ad'.off+off) ((cs.drop off).take i.size) hl' (fun j u hu=>by
      have hj:j<i.size:=by have:=(List.getElem?_eq_some_iff.1 hu).1;omega
      rw [List.getElem?_take,if_pos hj,List.getElem?_drop] at hu
      rw [Nat.add_assoc];exact hcell _ _ hu) (fun _=>hlt.2)
     refine ⟨v,by simp only [CO];rw [hv];simpa [asAddr] using hrun,j_ (cs:=(cs.drop off).take i.size) (by simp;omega) (fun c hc=>hone c (List.mem_of_mem_drop (List.mem_of_mem_take hc)))
      (fun j y u hy hu => ?_) v hval,fun g' hg' => ?_⟩
     ·have hj:j<i.size:=by have:=(List.getElem?_eq_some_iff.1 hu).1;omega
      rw [List.getElem?_take,if_pos hj,List.getElem?_drop] at hy hu
      exact hrep _ _ _ hy hu
     ·obtain ⟨x,hx,hg'⟩:=iW hg'
      exact h.uo g g' (by rw [hog];simp only [O.names,List.mem_flatMap];exact ⟨x,List.mem_of_mem_drop (List.mem_of_mem_take hx),hg'⟩)
    ·cases hx
   ·cases hx
  ·cases hx
theorem Eh (htt:gQ Pg tt) {st:St} {gh:Nat→Gh} {a:Act} {w:World} (h:Rel E st gh (fun t=>a.tmps.getD t undef) w) :∀{rs:List ResultVar} {xs:List S},Ef tt st rs=some xs→
  ∃vs:List Value,(rs.mapM (CO a.tmps)).run Pg w=.ok vs w∧vs.length=rs.length∧
   ∀k,cO E st gh w (xs.getD k .no) (vs.getD k undef)∧∀g∈(xs.getD k .no).names,st.used g=true
 | [],xs,hx=>by
  simp only [Ef,Option.some.injEq] at hx
  subst hx
  exact ⟨[],rfl,rfl,fun k=>⟨.no _,by simp [S.names]⟩⟩
 |r::rs,xs,hx=>by
  simp only [Ef] at hx
  split at hx
  ·rename_i x xs h1 h2
   simp only [Option.some.injEq] at hx
   subst hx
   obtain ⟨v,q1,q2,q3⟩:=Sv htt h h1
   obtain ⟨vs,p1,p2,p3⟩:=Eh htt h h2
   refine ⟨v::vs,?_,by simp [p2],fun k => ?_⟩
   ·rw [List.mapM_cons,Sem.run_bind,q1]
    show Sem.run Pg _ w=_
    rw [Sem.run_bind,p1];rfl
   ·cases k with
    |zero=>exact ⟨q2,q3⟩
    |succ k=>simpa using p3 k
  ·cases hx
theorem JB (htt:gQ Pg tt) {st:St} {gh:Nat→Gh} {a:Act} {w:World} (h:Rel E st gh (fun t=>a.tmps.getD t undef) w) {fn:Func} {ts:List ResultVar} (hr:fn.results=ts.toArray) {xs:List S} (hx:Ef tt st ts=some xs) :
  ∃vs:List Value,(results fn a.tmps).run Pg w=.ok (WJ vs) w∧vs.length=ts.length∧∀k,cO E st gh w (xs.getD k .no) (vs.getD k undef)∧∀g∈(xs.getD k .no).names,st.used g=true:=by
 obtain ⟨vs,q1,q2,q3⟩:=Eh htt h hx
 refine ⟨vs,?_,q2,q3⟩
 rw [Sr hr,Sem.run_bind,Sem.run_map,q1]
 match vs with
 | []=>rfl
 | [v]=>rfl
 |v::u::vs=>simp [WJ]
theorem Y7 {f:FuncId} {fn:Func} {c:Code} {sp:Spec} (ts:List ResultVar) (hf:Pg.funcs[f]?=some fn) (hb:fn.body=some c) (hname:(fn.name == "runtime.NumGoroutine")=false) (hres:fn.results=ts.toArray)
  (hok:sp.sig.ok=true) (D7:(sp.sig.aU.all fun g=>sp.sig.pin.nms.contains g)=true) (hlk :∀ins bT,sp.R ins bT→∀g∈sp.sig.aU,((Fw.mk sp.sig.pin ins).o g).like ((Fw.mk sp.sig.aI bT).o g)) (hn:sp.sig.bM≤fn.ntmps) (hnr:ts.length=sp.sig.dA)
  (hT :∀f sp,T f=some sp→Sound Pg f sp) (htt:gQ Pg tt) (hm:Fit Pg)
  (h :∀ins bT,sp.R ins bT→exec T tt fn.ntmps sp.sig.aU c (Fw.mk sp.sig.pin ins) (afW tt sp.sig ts bT)):Sound Pg f sp:=by
 refine ⟨hok,fun args w => ?_,fun E w vals gh ins bT hR hB hw0 Jy hlen => ?_⟩
 ·have hname':¬ fn.name = "runtime.NumGoroutine" := by simpa using hname
  simp [callFunc,hf,hname',hb]
 ·have hsz:vals.toArray.size≤fn.ntmps:=by simp;omega
  refine callsIn_wide.1 (callsIn_of_wp_marks (n:=0) hf hb trivial (wpIn_wide.2 (Sm (E:=E) (N:=fn.ntmps) (aU:=sp.sig.aU) (oL:=gh) hT htt hm c (h ins bT hR) ⟨⟨gh,?_,fun g hg=>⟨?_,.inr ⟨rfl,rfl⟩⟩⟩,by simp;omega,Marks.nil rfl⟩ ?_)) rfl)
  ·have e:(fun t=>(vals.toArray++Array.replicate (fn.ntmps-vals.toArray.size) undef).getD t undef)=fun k=>vals.getD k undef:=by
    funext t
    rw [Array.getD_eq_getD_getElem?,List.getD_eq_getElem?_getD,Array.getElem?_append]
    split
    ·simp
    ·rename_i ht
     have ht:vals.length≤t:=by simpa using ht
     rw [List.getElem?_eq_none ht,Array.getElem?_replicate]
     split<;>rfl
   rw [e];exact Jy
  ·exact (List.all_eq_true.1 D7) g hg
  ·have fin :∀st a w',Fin tt sp.sig ts bT st→Good E fn.ntmps sp.sig.aU gh st a w'→LeavesInM Fence.wide 0 Pg fn a.tmps (fun e w' =>∃(rs:List Value) (bD:Nat→Gh),rs.length=sp.sig.dA∧e=.returned (WJ rs)∧Rel E (Fw.mk sp.sig.aI bT) bD (fun k=>rs.getD k undef) w'∧∀g∈sp.sig.aU,((bD g).ad=(gh g).ad∧(bD g).cap=(gh g).cap)∧((Fw.mk sp.sig.pin ins).o g).like ((Fw.mk sp.sig.aI bT).o g)) a.defers .returning w':=by
    intro st a w' hBk hg
    unfold Fin at hBk
    split at hBk
    rotate_left
    ·cases hBk
    rename_i xs hxs
    obtain ⟨⟨kL,hR1,Ho⟩,_,Ds,hd1,hd2,hd3⟩:=hg
    rw [hd1]
    clear hd1
    induction Ds generalizing w' with
    |nil=>
     obtain ⟨rs,hrun,hrl,hrs⟩:=JB htt hR1 hres hxs
     refine ⟨_,hrun,rs,?_⟩
     have hfin:Rel E (Pj xs st) kL (fun k=>rs.getD k undef) w':=by
      refine ⟨fun k => ?_,fun g=>kU.congr (st:=st) (st':=Pj xs st) rfl (hR1.aQ g),hR1.inj,hR1.wr,hR1.wi,hR1.ns,hR1.wb,hR1.frame,hR1.size,hR1.os,hR1.tape,hR1.output,fun k g hg=>(hrs k).2 g hg,hR1.uo,hR1.ul⟩
      exact cO.congr (st:=st) (st':=Pj xs st) rfl (hrs k).1
     obtain ⟨bD,r1,r2⟩:=O_ hfin Ho hBk
     exact ⟨bD,by omega,rfl,r1,fun g hg=>⟨r2 g hg,hlk ins bT hR g hg⟩⟩
    |cons D Ds ih=>
     obtain ⟨h1,h2⟩:=hd3 D (by simp)
     have hnd:=List.nodup_cons.1 hd2
     refine ⟨by simp,.inl ⟨D,_,rfl,run_takeDeferred h2,ih _ (hR1.turn h2 rfl h1 _) hnd.2 fun D' hD' => ?_⟩⟩
     obtain ⟨q1,q2⟩:=hd3 D' (by simp [hD'])
     exact ⟨q1,(World.putObj_heap_other (fun e:D'=D=>hnd.1 (by rw [←e];exact hD'))).trans q2⟩
   exact ⟨fun st a w' hk hg=>fin st a w' hk hg,fun id st a w' hk=>hk.elim,fun st a w' hk hg=>fin st a w' hk hg⟩
end
end Go.Fw

namespace Go.Fg
open Go.Fw
set_option linter.unusedVariables false
set_option linter.unusedSectionVars false
inductive Ty where
 |int (k:IntKind)
 |bool
 |str
 |sl (e:Ty)
 |prod (a b:Ty)
 |st (n:Nat)
 |opq
 |sq (e:Ty)
def Y8:(a b:IntKind)→Option (PLift (a=b))
 |.i8,.i8=>some ⟨rfl⟩
 |.i16,.i16=>some ⟨rfl⟩
 |.i32,.i32=>some ⟨rfl⟩
 |.i64,.i64=>some ⟨rfl⟩
 |.u8,.u8=>some ⟨rfl⟩
 |.u16,.u16=>some ⟨rfl⟩
 |.u32,.u32=>some ⟨rfl⟩
 |.u64,.u64=>some ⟨rfl⟩
 |_,_=>none
def Y9 (a b:Nat):Option (PLift (a=b)):=match h:Nat.beq a b with
 |true=>some ⟨Nat.eq_of_beq_eq_true h⟩
 |false=>none
def Ty.eq:(a b:Ty)→Option (PLift (a=b))
 |.int k,.int k'=>match Y8 k k' with
  |some ⟨h⟩=>some ⟨h▸rfl⟩
  |none=>none
 |.bool,.bool=>some ⟨rfl⟩
 |.str,.str=>some ⟨rfl⟩
 |.opq,.opq=>some ⟨rfl⟩
 |.sl a,.sl b=>match Ty.eq a b with
  |some ⟨h⟩=>some ⟨h▸rfl⟩
  |none=>none
 |.sq a,.sq b=>match Ty.eq a b with
  |some ⟨h⟩=>some ⟨h▸rfl⟩
  |none=>none
 |.prod a b,.prod a' b'=>match Ty.eq a a',Ty.eq b b' with
  |some ⟨h⟩,some ⟨h'⟩=>some ⟨h▸h'▸rfl⟩
  |_,_=>none
 |.st n,.st m=>match Y9 n m with
  |some ⟨h⟩=>some ⟨h▸rfl⟩
  |none=>none
 |_,_=>none
def Ty.word:Ty→Bool
 |.prod _ _=>false
 |.st _=>false
 |_=>true
def Ty.flat:Ty→Bool
 |.int _=>true
 |.bool=>true
 |.str=>true
 |.opq=>true
 |_=>false
def D (C:Nat→Type):Ty→Type
 |.int _=>Int
 |.bool=>Bool
 |.str=>List UInt8
 |.sl e=>List (D C e)
 |.prod a b=>D C a×D C b
 |.st n=>C n
 |.opq=>Value
 |.sq e=>List (D C e)
structure TP (C:Nat→Type) where
 t:Ty
 x:D C t
def TP.get {C:Nat→Type} (t:Ty) (d:D C t) (ws:List (TP C)) (n:Nat):D C t:=match ws[n]? with
 |some w=>match Ty.eq w.t t with
  |some ⟨h⟩=>h▸w.x
  |none=>d
 |none=>d
theorem aY {C:Nat→Type} {ws:List (TP C)} {t:Ty} {ts:List Ty} (h:ws.map (·.t)=t::ts) :∃x ws',ws=⟨t,x⟩::ws'∧ws'.map (·.t)=ts:=by
 cases ws with
 |nil=>cases h
 |cons w ws=>
  obtain ⟨t',x⟩:=w
  simp only [List.map_cons,List.cons.injEq] at h
  obtain ⟨rfl,h⟩:=h
  exact ⟨x,ws,rfl,h⟩
theorem dU {C:Nat→Type} {ws:List (TP C)} (h:ws.map (·.t)=[]):ws=[]:=by simpa using h
def Hr {C:Nat→Type} (size:Ty→Nat) (jw:(t:Ty)→D C t→List P):(t:Ty)→D C t→P
 |.int k,x=>.int k x
 |.bool,b=>.bool b
 |.str,s=>.str ⟨s.toArray⟩
 |.sl e,l=>P.fF (size e) (List.map (jw e) l)
 |.opq,v=>.opq v
 |.sq e,l=>.seq (List.map (jw e) l)
 |.prod _ _,_=>default
 |.st _,_=>default
def oh {C:Nat→Type} (F:Nat→List Ty) (er:(n:Nat)→C n→List P) (size:Ty→Nat):(t:Ty)→D C t→List P
 |.int k,x=>[.int k x]
 |.bool,b=>[.bool b]
 |.str,s=>[.str ⟨s.toArray⟩]
 |.sl e,l=>[P.fF (size e) (List.map (oh F er size e) l)]
 |.opq,v=>[.opq v]
 |.sq e,l=>[.seq (List.map (oh F er size e) l)]
 |.prod a b,x=>oh F er size a x.1++oh F er size b x.2
 |.st n,x=>er n x
def iQ (F:Nat→List Ty):Ty→Nat
 |.prod a b=>iQ F a+iQ F b
 |.st n=>(F n).length
 |_=>1
class RE where
 C:Nat→Type
 F:Nat→List Ty
 dflt:(n:Nat)→C n
 un:(n:Nat)→C n→List (TP C)
 ro:(n:Nat)→List (TP C)→C n
 er:(n:Nat)→C n→List P
 Fwd :∀n,(F n).all Ty.word=true
 ae1 :∀n x,(un n x).map (·.t)=F n
 ae2 :∀n ws,ws.map (·.t)=F n→un n (ro n ws)=ws
 ae3 :∀n x,er n x=(un n x).map fun w=>Hr (iQ F) (oh F er (iQ F)) w.t w.x
 hd:Nat:=999999
 hdF:F hd=[]:=by rfl
 G:Nat→Option ((e:Ty)×List (D C e)):=fun _=>none
 Q:World→List Nat→List (List P)→Value→Prop:=fun _ _ _ _=>False
 afX :∀{w w':World} {S:List Nat} {l:List (List P)} {v:Value},(∀b∈S,w'.heap[b]?=w.heap[b]?)→Q w S l v→Q w' S l v:=by intro _ _ _ _ _ _ h;exact h
section
variable [RE]
abbrev Dt (t:Ty):Type:=D RE.C t
abbrev Wd:=TP RE.C
def size:Ty→Nat:=iQ RE.F
def jw:(t:Ty)→Dt t→List P:=oh RE.F RE.er (iQ RE.F)
instance:dR:=⟨fun g=>(RE.G g).map fun x=>(size x.1,List.map (jw x.1) x.2),RE.Q,RE.afX⟩
theorem ae4 (g:Nat):dR.gt g=(RE.G g).map fun x=>(size x.1,List.map (jw x.1) x.2):=rfl
def bU (w:Wd):P:=Hr (iQ RE.F) (oh RE.F RE.er (iQ RE.F)) w.t w.x
def dflt:(t:Ty)→Dt t
 |.int _=>(0:Int)
 |.bool=>false
 |.str=>([]:List UInt8)
 |.sl e=>([]:List (Dt e))
 |.prod a b=>(dflt a,dflt b)
 |.st n=>RE.dflt n
 |.opq=>Value.nilFunc
 |.sq e=>([]:List (Dt e))
def TP.Aa (t:Ty) (w:Wd):Option (Dt t):=match Ty.eq w.t t with
 |some ⟨h⟩=>some (h▸w.x)
 |none=>none
def TP.as (t:Ty) (w:Wd):Dt t:=match Ty.eq w.t t with
 |some ⟨h⟩=>h▸w.x
 |none=>dflt t
def eU:(t:Ty)→Dt t→List Wd
 |.prod a b,x=>eU a x.1++eU b x.2
 |.st n,x=>RE.un n x
 |.int k,x=>[⟨.int k,x⟩]
 |.bool,x=>[⟨.bool,x⟩]
 |.str,x=>[⟨.str,x⟩]
 |.sl e,x=>[⟨.sl e,x⟩]
 |.opq,x=>[⟨.opq,x⟩]
 |.sq e,x=>[⟨.sq e,x⟩]
def iE:Ty→List Ty
 |.prod a b=>iE a++iE b
 |.st n=>RE.F n
 |t=>[t]
def jL:(t:Ty)→List Wd→Dt t
 |.prod a b,ws=>(jL a (ws.take (size a)),jL b (ws.drop (size a)))
 |.st n,ws=>RE.ro n ws
 |.int k,ws=>match ws with
  |w::_=>w.as (.int k)
  | []=>dflt (.int k)
 |.bool,ws=>match ws with
  |w::_=>w.as .bool
  | []=>dflt .bool
 |.str,ws=>match ws with
  |w::_=>w.as .str
  | []=>dflt .str
 |.sl e,ws=>match ws with
  |w::_=>w.as (.sl e)
  | []=>dflt (.sl e)
 |.opq,ws=>match ws with
  |w::_=>w.as .opq
  | []=>dflt .opq
 |.sq e,ws=>match ws with
  |w::_=>w.as (.sq e)
  | []=>dflt (.sq e)
theorem Ty.eq_self :∀(t:Ty),∃h,Ty.eq t t=some ⟨h⟩:=by
 intro t
 induction t with
 |int k=>cases k<;>exact ⟨rfl,rfl⟩
 |bool=>exact ⟨rfl,rfl⟩
 |str=>exact ⟨rfl,rfl⟩
 |opq=>exact ⟨rfl,rfl⟩
 |sl e ih=>obtain ⟨h,ih⟩:=ih;exact ⟨rfl,by simp [Ty.eq,ih]⟩
 |sq e ih=>obtain ⟨h,ih⟩:=ih;exact ⟨rfl,by simp [Ty.eq,ih]⟩
 |prod a b iha ihb=>obtain ⟨h,iha⟩:=iha;obtain ⟨h',ihb⟩:=ihb;exact ⟨rfl,by simp [Ty.eq,iha,ihb]⟩
 |st n=>
  refine ⟨rfl,?_⟩
  have:Y9 n n=some ⟨rfl⟩:=by
   unfold Y9
   split
   ·rfl
   ·rename_i h;simp at h
  simp [Ty.eq,this]
theorem qQ (t:Ty) (x:Dt t):TP.as t ⟨t,x⟩=x:=by
 obtain ⟨h,e⟩:=Ty.eq_self t
 simp [TP.as,e]
theorem vG {t:Ty} {w:Wd} (h:w.t=t):(⟨t,w.as t⟩:Wd)=w:=by
 obtain ⟨t',x⟩:=w
 simp only at h;subst h
 rw [qQ]
theorem f_ {t:Ty} {w:Wd} {x:Dt t} (h:w.Aa t=some x):w=⟨t,x⟩:=by
 obtain ⟨t',y⟩:=w
 unfold TP.Aa at h
 split at h
 ·rename_i e he
  simp only at e
  subst e
  simp only [Option.some.injEq] at h
  subst h;rfl
 ·cases h
theorem afY {t:Ty} {w:Wd} {x:Dt t} (h:w.Aa t=some x):w.t=t:=by rw [f_ h]
theorem iR :∀(t:Ty),(iE t).length=size t
 |.prod a b=>by
  have h1:=iR a
  have h2:=iR b
  simp only [size] at h1 h2
  simp [iE,size,iQ,h1,h2]
 |.st n=>by simp [iE,size,iQ]
 |.int k=>rfl
 |.bool=>rfl
 |.str=>rfl
 |.sl e=>rfl
 |.opq=>rfl
 |.sq e=>rfl
theorem pX :∀(t:Ty) (x:Dt t),(eU t x).map (·.t)=iE t
 |.prod a b,x=>by simp [eU,iE,pX a,pX b]
 |.st n,x=>by simp [eU,iE];exact RE.ae1 n x
 |.int k,x=>rfl
 |.bool,x=>rfl
 |.str,x=>rfl
 |.sl e,x=>rfl
 |.opq,x=>rfl
 |.sq e,x=>rfl
theorem o9 (t:Ty) (x:Dt t):(eU t x).length=size t:=by
 rw [←iR,←pX t x,List.length_map]
theorem fQ :∀(t:Ty) (x:Dt t),jw t x=(eU t x).map bU
 |.prod a b,x=>by
  show jw a x.1++jw b x.2=_
  rw [fQ a x.1,fQ b x.2];simp [eU]
 |.st n,x=>RE.ae3 n x
 |.int k,x=>rfl
 |.bool,x=>rfl
 |.str,x=>rfl
 |.sl e,x=>rfl
 |.opq,x=>rfl
 |.sq e,x=>rfl
theorem Ht (t:Ty) (x:Dt t):(jw t x).length=size t:=by rw [fQ,List.length_map,o9]
theorem CP {ws:List Wd} {t:Ty} (h:ws.map (·.t)=[t]) :∃w,ws=[w]∧w.t=t:=by
 match ws with
 | []=>cases h
 | [w]=>exact ⟨w,rfl,by simpa using h⟩
 |w::u::ws=>simp at h
theorem Hu :∀(t:Ty) (ws:List Wd),ws.map (·.t)=iE t→eU t (jL t ws)=ws
 |.prod a b,ws,h=>by
  have h1:(ws.take (size a)).map (·.t)=iE a:=by rw [List.map_take,h];simp [iE,←iR]
  have h2:(ws.drop (size a)).map (·.t)=iE b:=by rw [List.map_drop,h];simp [iE,←iR]
  show eU a (jL a (ws.take (size a)))++eU b (jL b (ws.drop (size a)))=ws
  rw [Hu a _ h1,Hu b _ h2,List.take_append_drop]
 |.st n,ws,h=>RE.ae2 n ws h
 |.int k,ws,h=>by
  obtain ⟨w,rfl,hw⟩:=CP (t:=(.int k)) h
  show [(⟨.int k,w.as (.int k)⟩:Wd)]=[w]
  rw [vG hw]
 |.bool,ws,h=>by
  obtain ⟨w,rfl,hw⟩:=CP (t:=.bool) h
  show [(⟨.bool,w.as .bool⟩:Wd)]=[w]
  rw [vG hw]
 |.str,ws,h=>by
  obtain ⟨w,rfl,hw⟩:=CP (t:=.str) h
  show [(⟨.str,w.as .str⟩:Wd)]=[w]
  rw [vG hw]
 |.sl e,ws,h=>by
  obtain ⟨w,rfl,hw⟩:=CP (t:=(.sl e)) h
  show [(⟨.sl e,w.as (.sl e)⟩:Wd)]=[w]
  rw [vG hw]
 |.opq,ws,h=>by
  obtain ⟨w,rfl,hw⟩:=CP (t:=.opq) h
  show [(⟨.opq,w.as .opq⟩:Wd)]=[w]
  rw [vG hw]
 |.sq e,ws,h=>by
  obtain ⟨w,rfl,hw⟩:=CP (t:=(.sq e)) h
  show [(⟨.sq e,w.as (.sq e)⟩:Wd)]=[w]
  rw [vG hw]
theorem qR {t:Ty} {ws:List Wd} (h:ws.map (·.t)=iE t):jw t (jL t ws)=ws.map bU:=by rw [fQ,Hu t ws h]
def aB (e:Ty) (l:List (Dt e)):List (List P):=List.map (jw e) l
theorem FC (e:Ty) (l:List (Dt e)):bU ⟨.sl e,l⟩=P.fF (size e) (aB e l):=rfl
theorem iL (e:Ty) (l:List (Dt e)):(bU ⟨.sl e,l⟩).list=aB e l:=by rw [FC,P.nH]
theorem Xg {w:Wd} (h:w.t.flat=true):(bU w).flat=true:=by
 obtain ⟨t,x⟩:=w
 cases t<;>simp [Ty.flat] at h<;>rfl
end
end Go.Fg

namespace Go.Fg
open Go.Fw
set_option linter.unusedVariables false
set_option linter.unusedSectionVars false
section
variable [RE]
inductive TW where
 |p (a i:Bool) (w:Wd)
 |bY
 |own (g:Nat)
 |vw (g:Nat) (lo hi:Int)
 |box (g off:Nat)
 |ep (g:Nat) (n:Int) (off:Nat)
 |sp (a i:Bool) (t:Ty) (x:Dt t) (off:Nat)
 |clo (f:FuncId) (caps:List TW)
 |gl (g:Nat)
 |mJ (g:Nat)
 |no
inductive TV where
 |one (x:TW)
 |agg (xs:List TW)
inductive TS where
 |v (x:TV)
 |kT (xs:List TV)
 |no
inductive TO where
 |none
 |box (ws:List TW)
 |arr (fz a i:Bool) (e:Ty) (l:List (Dt e))
 |it (s:List UInt8) (n:Int)
 |aG (a i:Bool) (e:Ty) (ah:List (Nat×Ty)) (l:List (Dt e)) (hole:Option (Nat×Nat×Nat))
mutual
def bP:TW→W
 |.p a i w=>.p a i (bU w)
 |.bY=>.bY
 |.own g=>.own g
 |.vw g lo hi=>.vw g (.int .i64 lo) (.int .i64 hi)
 |.box g off=>.box g off
 |.ep g n off=>.ep g (.int .i64 n) off
 |.sp a i t x off=>.sp a i (jw t x) off
 |.clo f caps=>.clo f (mZ caps)
 |.gl g=>.gl g
 |.mJ g=>.mJ g
 |.no=>.no
def mZ:List TW→List W
 | []=>[]
 |x::xs=>bP x::mZ xs
end
theorem yt :∀(l:List TW),mZ l=l.map bP
 | []=>rfl
 |x::xs=>by simp [mZ,yt xs]
def jk:TV→V
 |.one x=>.one (bP x)
 |.agg xs=>.agg (xs.map bP)
def aW:TS→S
 |.v x=>.v (jk x)
 |.kT xs=>.kT (xs.map jk)
 |.no=>.no
def iq (ah:List (Nat×Ty)):List (Nat×Nat):=ah.map fun c=>(c.1,size c.2)
def dP:TO→O
 |.none=>.none
 |.box ws=>.box (ws.map bP)
 |.arr fz a i e l=>.arr fz a i (size e) (aB e l)
 |.it s n=>.it (.str ⟨s.toArray⟩) (.int .i64 n)
 |.aG a i e ah l hole=>.aG a i (size e) (iq ah) (aB e l) hole
def jd {α:Type} (d:α):List (Nat×α)→Nat→α
 | [],_=>d
 |(k,v)::r,t=>bif Nat.beq t k then v else jd d r t
def zF {α:Type} (k:Nat) (v:α):List (Nat×α)→List (Nat×α)
 | []=>[(k,v)]
 |(k',v')::r=>bif Nat.beq k k' then (k,v)::r else (k',v')::zF k v r
def fB (g:Nat):List Nat→Bool
 | []=>false
 |x::xs=>Nat.beq g x||fB g xs
structure jB where
 s:List (Nat×TS)
 o:List (Nat×TO)
 u:List Nat
def jB.gs (st:jB) (t:Nat):TS:=jd .no st.s t
def jB.go (st:jB) (g:Nat):TO:=jd .none st.o g
def aO (st:jB):St:={ s:=fun t=>aW (st.gs t),o:=fun g=>dP (st.go g),used:=fun g=>fB g st.u }
def bQ (o:Nat→TO):Nat→O:=fun g=>dP (o g)
def jF (k:IntKind) (x:Int):Wd:=⟨.int k,x⟩
def iC (x:Bool):Wd:=⟨.bool,x⟩
def Pm (x:List UInt8):Wd:=⟨.str,x⟩
def sV (e:Ty) (x:List (Dt e)):Wd:=⟨.sl e,x⟩
def alC (x:Value):Wd:=⟨.opq,x⟩
def Xh:Value→TW
 |.int k n=>.p false false (jF k n)
 |.bool b=>.p false false (iC b)
 |.string s=>.p false false (Pm s.data.toList)
 |.slice none 0 0=>.bY
 |v=>.p false false (alC v)
def Sz:Value→TS
 |.agg cs=>bif cs.toList.all Value.oneCell' then .v (.agg (cs.toList.map Xh)) else .no
 |.tuple _=>.no
 |.func (.func f) ⟨[]⟩ ⟨[]⟩=>.v (.one (.clo f []))
 |v=>bif v.oneCell' then .v (.one (Xh v)) else .no
def jB.dK (st:jB):Operand→TS
 |.tmp t=>st.gs t
 |.const v=>Sz v
 |.func f=>.v (.one (.clo f []))
 |.global g=>match RE.G g with
  |some _=>.v (.one (.gl g))
  |none=>.no
structure qG where
 pre:Bool
 t:Ty
 val:Dt t
 dst:Dt t→TS
 aF:Dt t→List (Nat×TO)
 new:List Nat
def qG.pure (x:TS):qG:={ pre:=true,t:=.bool,val:=false,dst:=fun _=>x,aF:=fun _=>[],new:=[] }
def UQ (w:Wd):TS:=.v (.one (.p false false w))
def qG.calc (pre:Bool) (t:Ty) (x:Dt t):qG:={ pre,t,val:=x,dst:=fun z=>UQ ⟨t,z⟩,aF:=fun _=>[],new:=[] }
structure TA where
 a:Bool
 i:Bool
 e:Ty
 l:List (Dt e)
structure TH where
 a:Bool
 i:Bool
 e:Ty
 ah:List (Nat×Ty)
 l:List (Dt e)
def tyB (a b:Ty):Bool:=match Ty.eq a b with
 |some _=>true
 |none=>false
def sW (c:Nat):List (Nat×Ty)→Option Ty
 | []=>none
 |(k,t)::r=>bif Nat.beq c k then some t else sW c r
def Xi (e:Ty) (ah:List (Nat×Ty)) (c:Nat) (e':Ty):Bool:=(match sW c ah with
 |some t=>tyB t e'
 |none=>false)&&(match (iE e)[c]? with
 |some (.sl t)=>tyB t e'
 |_=>false)
def JC (e:Ty) (whole:Bool) (x:Dt e) (off:Nat) (ps:List Wd):Dt e:=match whole with
 |true=>jL e ps
 |false=>jL e (aH (eU e x) off ps)
def putRow (e:Ty) (l:List (Dt e)) (n c:Nat) (w:Wd):List (Dt e):=List.set l n (JC e (Nat.beq 1 (size e)) (l.getD n (dflt e)) c [w])
def m_ (o:Nat→TO) (g:Nat):Option TA:=match o g with
 |.arr _ a i e l=>some ⟨a,i,e,l⟩
 |.aG a i e ah l hole=>match hole with
  |none=>some ⟨a,i,e,l⟩
  |some (n,c,d)=>match o d with
   |.arr _ a' i' e' l'=>match Xi e ah c e' with
    |true=>some ⟨a||a',i||i',e,putRow e l n c (sV e' l')⟩
    |false=>none
   |_=>none
 |_=>none
def kW:TO→List Nat
 |.aG _ _ _ _ _ hole=>match hole with
  |some (_,_,d)=>[d]
  |none=>[]
 |_=>[]
def JD (o:Nat→TO) (g:Nat):Option (Ty×Nat):=match o g with
 |.arr _ _ _ e l=>some (e,l.length)
 |.aG _ _ e _ l _=>some (e,l.length)
 |_=>none
def TW.toP (o:Nat→TO) (t:Ty):TW→Option (Dt t×Bool×Bool×List Nat)
 |.p a i w=>match w.Aa t with
  |some x=>some (x,a,i,[])
  |none=>none
 |.bY=>match t with
  |.sl e=>some (([]:List (Dt e)),false,false,[])
  |_=>none
 |.own g=>match m_ o g with
  |some ⟨a,i,e,l⟩=>match (sV e l).Aa t with
   |some x=>some (x,a,i,kW (o g)++[g])
   |none=>none
  |none=>none
 |.vw g lo hi=>match m_ o g with
  |some ⟨a,i,e,l⟩=>match (sV e ((l.take hi.toNat).drop lo.toNat)).Aa t with
   |some x=>some (x,a,i,kW (o g)++[g])
   |none=>none
  |none=>none
 |_=>none
def pY (o:Nat→TO):List Ty→List TW→Option (List Wd×Bool×Bool×List Nat)
 | [],[]=>some ([],false,false,[])
 |t::ts,x::xs=>match x.toP o t,pY o ts xs with
  |some (y,a,i,gs),some (ys,a',i',gs')=>some (⟨t,y⟩::ys,a||a',i||i',gs++gs')
  |_,_=>none
 |_,_=>none
def TV.words:TV→List TW
 |.one x=>[x]
 |.agg xs=>xs
def kP (o:Nat→TO) (g:Nat):Nat×TO:=
 (g,match m_ o g with
  |some ⟨a,i,e,l⟩=>.arr true a i e l
  |none=>o g)
def TV.fH (agg:Bool) (ws:List TW):TS:=match agg with
 |true=>.v (.agg ws)
 |false=>match ws with
  | [x]=>.v (.one x)
  |_=>.no
def TW.solid:TW→Bool
 |.no=>false
 |_=>true
def TV.solid:TV→Bool
 |.one x=>x.solid
 |.agg _=>true
def AV (place:Nat→Option (Nat×Nat)) (ws:List TW):List (Nat×TS)→Option (List TW)
 | []=>some ws
 |(n,.v x)::rest=>match place n with
  |some (off,size)=>bif Nat.beq x.words.length size&&Nat.ble (off+size) ws.length&&x.solid then AV place (aH ws off x.words) rest else none
  |none=>none
 |_=>none
def TW.rows (o:Nat→TO) (e:Ty):TW→Option (List (Dt e)×Bool×Bool)
 |.p a i w=>match w.Aa (.sl e) with
  |some l=>some (l,a,i)
  |none=>none
 |.bY=>some ([],false,false)
 |.own g=>match o g with
  |.arr _ a i e' l=>match (sV e' l).Aa (.sl e) with
   |some l=>some (l,a,i)
   |none=>none
  |_=>none
 |.vw g lo hi=>match o g with
  |.arr _ a i e' l=>match (sV e' ((l.take hi.toNat).drop lo.toNat)).Aa (.sl e) with
   |some l=>some (l,a,i)
   |none=>none
  |_=>none
 |_=>none
def Pn (o:Nat→TO):TW→Option Int
 |.p _ _ ⟨.sl e,l⟩=>some (List.length (α:=Dt e) l)
 |.bY=>some 0
 |.own g=>match JD o g with
  |some (_,n)=>some n
  |none=>none
 |.vw g lo hi=>match JD o g with
  |some _=>some (hi.toNat-lo.toNat:Nat)
  |none=>none
 |_=>none
def TW.live (o:Nat→TO):TW→Bool
 |.box g _=>match o g with
  |.box _=>true
  |_=>false
 |.ep g _ _=>match JD o g with
  |some _=>true
  |none=>false
 |.sp _ _ _ _ _=>true
 |_=>false
def TW.shift (n:Nat):TW→TW
 |.box g off=>.box g (off+n)
 |.ep g k off=>.ep g k (off+n)
 |.sp a i t x off=>.sp a i t x (off+n)
 |x=>x
def lW (dflt:Int):Option TS→Option Int
 |none=>some dflt
 |some (.v (.one (.p _ _ ⟨.int .i64,x⟩)))=>some x
 |_=>none
def alD (n:Int):Int:=0-n
def eqI (a b:Int):Bool:=decide (a=b)
def inB (n:Int) (len:Nat):Bool:=decide (0≤n)&&decide (n<len)
def CQ (lo hi:Int) (len:Nat):Bool:=decide (0≤lo)&&decide (lo≤hi)&&decide (hi≤(len:Int))
def vP (bytes:Nat) (n c:Int):Bool:=decide (0≤n)&&decide (n≤c)&&decide (bytes*c≤281474976710656)&&decide (c≤9223372036854775807)
def strOf (l:List Int):List UInt8:=l.map fun n=>UInt8.ofNat n.toNat
def air {α:Type} (lo hi:Int) (z:α) (l:List α):List α:=List.take lo.toNat l++List.replicate (hi.toNat-lo.toNat) z++List.drop (lo.toNat+(List.replicate (hi.toNat-lo.toNat) z).length) l
def af0 (s:List UInt8):List Int:=s.map fun b=>(b.toNat:Int)
def Xj (a b:Int):Int:=if b<a then b else a
def Po (a b:Int):Int:=if b>a then b else a
def ib (b:Bool):Bool:=b
def SA (op:BinOp) (k k':IntKind) (a b:Int):Option (Bool×Wd):=
 match op with
 |.shl=>some (decide (0≤b),jF k (k.wrap (a*2 ^ min b.toNat k.bits)))
 |.shr=>some (decide (0≤b),jF k (a.fdiv (2 ^ min b.toNat k.bits)))
 |_=>match Y8 k k' with
  |none=>none
  |some _=>match op with
   |.add=>some (true,jF k (k.wrap (a+b)))
   |.sub=>some (true,jF k (k.wrap (a-b)))
   |.mul=>some (true,jF k (k.wrap (a*b)))
   |.quo=>some (!(decide (b=0)),jF k (k.wrap (a.tdiv b)))
   |.rem=>some (!(decide (b=0)),jF k (a.tmod b))
   |.and=>some (true,jF k (bits .and k a b))
   |.or=>some (true,jF k (bits .or k a b))
   |.xor=>some (true,jF k (bits .xor k a b))
   |.andNot=>some (true,jF k (bits .andNot k a b))
   |.eql=>some (true,iC (decide (a=b)))
   |.neq=>some (true,iC (!(decide (a=b))))
   |.lss=>some (true,iC (decide (a<b)))
   |.leq=>some (true,iC (decide (a≤b)))
   |.gtr=>some (true,iC (decide (b<a)))
   |.geq=>some (true,iC (decide (b≤a)))
   |_=>none
def AX (n m:Nat):Bool:=Nat.ble n (9223372036854775807-m)&&Nat.ble m 9223372036854775807
theorem nP {n m:Nat}:AX n m=true↔n+m≤9223372036854775807:=by
 unfold AX
 rw [Bool.and_eq_true,Nat.ble_eq,Nat.ble_eq]
 omega
def SB (op:BinOp) (a b:List UInt8):Option (Bool×Wd):=
 match op with
 |.add=>some (AX a.length b.length,Pm (a++b))
 |.eql=>some (true,iC (a==b))
 |.neq=>some (true,iC (!(a==b)))
 |.lss=>some (true,iC (Op.bytesLess a b))
 |.leq=>some (true,iC (Op.bytesLess a b||a==b))
 |.gtr=>some (true,iC (!(Op.bytesLess a b||a==b)))
 |.geq=>some (true,iC (!Op.bytesLess a b))
 |_=>none
def MR (op:BinOp) (a b:Bool):Option (Bool×Wd):=
 match op with
 |.eql=>some (true,iC (a==b))
 |.neq=>some (true,iC (a != b))
 |_=>none
def ais (k:TK) (op:BinOp) (x y:Wd):Option (Bool×Wd):=
 match k,x,y with
 |.int _,⟨.int k,a⟩,⟨.int k',b⟩=>SA op k k' a b
 |.str,⟨.str,a⟩,⟨.str,b⟩=>SB op a b
 |.bool,⟨.bool,a⟩,⟨.bool,b⟩=>MR op a b
 |_,_,_=>none
def unT (op:UnOp) (x:Wd):Option Wd:=
 match op,x with
 |.neg,⟨.int k,n⟩=>some (jF k (k.wrap (alD n)))
 |.not,⟨.bool,b⟩=>some (iC (!b))
 |_,_=>none
def ae5 (k k':IntKind) (m n:Int):Option Bool:=
 match Y8 k k' with
 |some _=>some (decide (m=n))
 |none=>none
def eqStr (a b:List UInt8):Option Bool:=some (a==b)
def ait (a b:Bool):Option Bool:=some (a==b)
def af2 (k:TK) (x y:Wd):Option Bool:=
 match k,x,y with
 |.int _,⟨.int a,m⟩,⟨.int b,n⟩=>ae5 a b m n
 |.str,⟨.str,a⟩,⟨.str,b⟩=>eqStr a b
 |.bool,⟨.bool,a⟩,⟨.bool,b⟩=>ait a b
 |_,_,_=>none
def Fb (tt:TT):Nat→List (Nat×TypeId)→List TW→List TW→Option Bool
 |_,[],[],[]=>some true
 |n,(off,t)::fs,.p _ _ x::xs,.p _ _ y::ys=>match tt t with
  |some i=>bif Nat.beq off n&&i.k.flat&&Nat.beq i.size 1 then match af2 i.k x y,Fb tt (n+1) fs xs ys with
   |some b,some c=>some (b&&c)
   |_,_=>none
   else none
  |none=>none
 |_,_,_,_=>none
def qG.nR (c:Bool×Wd):qG:=.calc c.1 c.2.t c.2.x
def Y_:Wd→Value→Bool
 |⟨.int k,n⟩,.int k' n'=>(match Y8 k k' with | some _=>true | none=>false)&&eqI n n'
 |⟨.bool,b⟩,.bool b'=>BEq.beq (α:=Bool) b b'
 |⟨.str,s⟩,.string s'=>List.isEmpty (α:=UInt8) s&&s'.data.toList.isEmpty
 |⟨.sl e,l⟩,.slice none 0 0=>List.isEmpty (α:=Dt e) l
 |_,_=>false
def r_:List Wd→List Value→Bool
 | [],[]=>true
 |w::ws,v::vs=>Y_ w v&&r_ ws vs
 |_,_=>false
def tpw (a i:Bool) (ws:List Wd):List TW:=ws.map (TW.p a i)
def MS (tt:TT) (ety:TypeId→Option Ty) (d:Nat) (o:Nat→TO) (sT:TypeId) (s x:TW):Option qG:=
 match tt sT with
 |some { k:=.slice e,.. }=>match tt e,ety e with
  |some ie,some et=>bif Nat.beq ie.bytes 0||!Nat.beq (size et) ie.size then none else match x.rows o et with
   |none=>none
   |some (new,a',i')=>
    let res (pre:Bool) (old:List (Dt et)) (a i:Bool) (kill:List (Nat×TO)):qG:=
     { pre:=pre&&decide ((old.length+new.length)*ie.bytes≤140737488355328),t:=.sl et,val:=List.append old new,dst:=fun _=>.v (.one (.own d)),aF:=fun y=>kill++[(d,.arr false (a||a') (i||i') et y)],new:=[d] }
    match s with
    |.bY=>some (res true [] false false [])
    |.own g=>match o g with
     |.arr false a i e' l=>match (sV e' l).Aa (.sl et) with
      |some l=>bif Nat.beq g d then none else some (res true l a i [(g,.none)])
      |none=>none
     |_=>none
    |.vw g lo hi=>match o g with
     |.arr false a i e' l=>match (sV e' (l.take hi.toNat)).Aa (.sl et) with
      |some l=>bif Nat.beq g d then none else some (res (decide (lo=0)) l a i [(g,.none)])
      |none=>none
     |_=>none
    |_=>none
  |_,_=>none
 |_=>none
def AY (e:Ty):Nat→List Wd→List (Dt e)
 |0,_=>[]
 |n+1,l=>jL e (l.take (size e))::AY e n (l.drop (size e))
def Hw {α:Type} (l:List α):Nat→List α
 |0=>[]
 |n+1=>l++Hw l n
def UR (tt:TT) (o:Nat→TO) (t:TypeId) (x h m:TS):Option qG:=
 match tt t,x,h,m with
 |some { k:=.slice e,.. },.v (.one (.own g)),.v (.one (.p _ _ ⟨.int .i64,h⟩)),.v (.one (.p _ _ ⟨.int .i64,m⟩))=>match tt e,o g with
  |some ie,.arr false _ _ e' l=>bif Nat.beq (size e') ie.size then some { pre:=CQ h m l.length,t:=.bool,val:=false,dst:=fun _=>.v (.one (.vw g 0 h)),aF:=fun _=>[],new:=[] } else none
  |_,_=>none
 |some { k:=.slice e,.. },.v (.one .bY),.v (.one (.p _ _ ⟨.int .i64,h⟩)),.v (.one (.p _ _ ⟨.int .i64,m⟩))=>match tt e with
  |some _=>some { pre:=CQ h m 0,t:=.bool,val:=false,dst:=fun _=>.v (.one .bY),aF:=fun _=>[],new:=[] }
  |none=>none
 |_,_,_,_=>none
def Za (tt:TT) (o:Nat→TO) (t:TypeId) (x:TS):Option qG:=
 match tt t,x with
 |some { k:=.slice e,.. },.v (.one (.vw g lo hi))=>match tt e,o g with
  |some ie,.arr false a i et l=>bif Nat.beq (size et) ie.size&&Nat.blt 0 ie.size then match pY o (iE et) (ie.zero.map Xh) with
   |some (ps,false,false,[])=>some { pre:=Nat.blt lo.toNat hi.toNat,t:=.sl et,val:=air lo hi (jL et ps) l,dst:=fun _=>.no,aF:=fun y=>[(g,.arr false a i et y)],new:=[] }
   |_=>none
   else none
  |_,_=>none
 |_,_=>none
def dH (tt:TT) (ety:TypeId→Option Ty) (d:Nat) (o:Nat→TO) (f:Operand→TS) (op:Op) (ty:TypeId):Option qG:=
 match op with
 |.move x | .assign x=>match f x with
  |.no=>none
  |s=>some (.pure s)
 |.pick c x y=>match f c with
  |.v (.one (.p _ _ ⟨.bool,b⟩))=>match f x,f y with
   |.v (.one (.p a i w)),.v (.one (.p a' i' w'))=>match w'.Aa w.t with
    |some z=>some { pre:=true,t:=w.t,val:=bif b then w.x else z,dst:=fun z=>.v (.one (.p (a||a') (i||i') ⟨w.t,z⟩)),aF:=fun _=>[],new:=[] }
    |none=>none
   |x,y=>match (bif b then x else y) with
    |.no=>none
    |s=>some (.pure s)
  |_=>none
 |.alloc t=>match tt t with
  |some i=>some { pre:=true,t:=.bool,val:=false,dst:=fun _=>.v (.one (.box d 0)),aF:=fun _=>[(d,.box (i.zero.map Xh))],new:=[d] }
  |none=>none
 |.box t x=>match tt t,f x with
  |some i,.v x=>bif Nat.beq x.words.length i.size&&x.solid then some { pre:=true,t:=.bool,val:=false,dst:=fun _=>.v (.one (.box d 0)),aF:=fun _=>[(d,.box x.words)],new:=[d] } else none
  |_,_=>none
 |.build t parts=>match tt t with
  |some i=>bif i.known tt then match AV (placeOf tt t) (i.zero.map Xh) (parts.toList.map fun p=>(p.1,f p.2)) with
   |some ws=>some (.pure (.v (.agg ws)))
   |none=>none
   else none
  |none=>none
 |.buildSlice t n parts=>match tt t with
  |some { k:=.slice e,.. }=>match tt e,ety e with
   |some ie,some et=>match AV (fun m=>if m<n then some (m*ie.size,ie.size) else none) (Hw (ie.zero.map Xh) n) (parts.toList.map fun p=>(p.1,f p.2)) with
    |some ws=>match pY o (Hw (iE et) n) ws with
     |some (ps,a,i,gs)=>bif Nat.ble (n+n*ie.size) 16777216&&Nat.beq (size et) ie.size then
       some { pre:=true,t:=.sl et,val:=AY et n ps,dst:=fun _=>.v (.one (.own d)),aF:=fun y=>gs.map (kP o)++[(d,.arr false a i et y)],new:=[d] } else none
     |none=>none
    |none=>none
   |_,_=>none
  |_=>none
 |.load t x=>match tt t,f x with
  |some i,.v (.one (.box g off))=>match o g with
   |.box ws=>bif Nat.ble (off+i.size) ws.length&&Nat.blt 0 i.size then some (.pure (TV.fH i.agg ((ws.drop off).take i.size))) else none
   |_=>none
  |some i,.v (.one (.ep g n off))=>match o g with
   |.arr _ a i' e l=>bif Nat.ble (off+i.size) (size e)&&Nat.blt 0 i.size&&r_ (((eU e (dflt e)).drop off).take i.size) i.zero then
     some { pre:=true,t:=e,val:=l.getD n.toNat (dflt e),dst:=fun z=>TV.fH i.agg (tpw a i' (((eU e z).drop off).take i.size)),aF:=fun _=>[],new:=[] } else none
   |_=>none
  |some i,.v (.one (.sp a i' e x off))=>bif Nat.blt 0 i.size&&Nat.ble (off+i.size) (size e) then
    some (.pure (TV.fH i.agg (tpw a i' (((eU e x).drop off).take i.size)))) else none
  |_,_=>none
 |.store t x y=>match tt t,f x,f y with
  |some i,.v (.one (.box g off)),.v y=>match o g with
   |.box ws=>bif Nat.ble (off+i.size) ws.length&&Nat.beq y.words.length i.size&&y.solid then
     some { pre:=true,t:=.bool,val:=false,dst:=fun _=>.no,aF:=fun _=>[(g,.box (aH ws off y.words))],new:=[] } else none
   |_=>none
  |some i,.v (.one (.ep g n off)),.v y=>match o g with
   |.arr false a i' e l=>match pY o (((iE e).drop off).take i.size) y.words with
    |some (ps,a',i'',gs)=>bif Nat.ble (off+i.size) (size e)&&Nat.beq y.words.length i.size&&y.solid&&!fB g gs then
     some { pre:=true,t:=.sl e,val:=List.set l n.toNat (JC e (Nat.beq i.size (size e)) (l.getD n.toNat (dflt e)) off ps),dst:=fun _=>.no,aF:=fun z=>gs.map (kP o)++[(g,.arr false (a||a') (i'||i'') e z)],new:=[] } else none
    |none=>none
   |_=>none
  |_,_,_=>none
 |.nilCheck x=>match f x with
  |.v (.one x)=>bif x.live o then some (.pure (.v (.one x))) else none
  |_=>none
 |.binOp op t x y _=>match f x,f y with
  |.v (.one (.p _ _ x)),.v (.one (.p _ _ y))=>match tt t with
   |some i=>match ais i.k op x y with
    |some c=>some (.nR c)
    |none=>none
   |none=>none
  |.v (.agg xs),.v (.agg ys)=>match tt t with
   |some i=>match Fb tt 0 i.k.parts xs ys,abV op with
    |some b,some true=>bif i.eq then some (.nR (true,iC b)) else none
    |some b,some false=>bif i.eq then some (.nR (true,iC (!b))) else none
    |_,_=>none
   |none=>none
  |_,_=>none
 |.unOp op _ x=>match f x with
  |.v (.one (.p _ _ x))=>match unT op x with
   |some c=>some (.nR (true,c))
   |none=>none
  |_=>none
 |.convert s t x=>match tt s,tt t,f x with
  |some { k:=.int _,.. },some { k:=.int k,.. },.v (.one (.p _ _ ⟨.int _,x⟩))=>some (.calc true (.int k) (k.wrap x))
  |some { k:=.slice e,.. },some { k:=.str,.. },.v (.one x)=>match tt e with
   |some { k:=.int .u8,.. }=>match x.rows o (.int .u8) with
    |some (l,_,_)=>some (.calc true .str (strOf l))
    |none=>none
   |_=>none
  |some { k:=.str,.. },some { k:=.slice e,.. },.v (.one (.p _ _ ⟨.str,x⟩))=>match tt e with
   |some { k:=.int .u8,.. }=>some (.calc true (.sl (.int .u8)) (af0 x))
   |_=>none
  |_,_,_=>none
 |.makeSlice t n c=>match tt t,f n,f c with
  |some { k:=.slice e,.. },.v (.one (.p _ _ ⟨.int .i64,n⟩)),.v (.one (.p _ _ ⟨.int .i64,c⟩))=>match tt e,ety e with
   |some ie,some et=>match pY o (iE et) (ie.zero.map Xh) with
    |some (ps,false,false,[])=>bif Nat.blt 0 ie.size&&Nat.beq (size et) ie.size then
     some { pre:=vP ie.bytes n c,t:=.sl et,val:=List.replicate (Int.toNat n) (jL et ps),dst:=fun _=>.v (.one (.own d)),aF:=fun y=>[(d,.arr false false false et y)],new:=[d] } else none
    |_=>none
   |_,_=>none
  |_,_,_=>none
 |.slice t x lo hi none=>match tt t,f x with
  |some { k:=.slice e,.. },.v (.one x)=>match tt e,ety e,Pn o x with
   |some ie,some et,some len=>match lW 0 (lo.map f),lW len (hi.map f) with
    |some lo,some hi=>match x with
     |.own g=>match JD o g with
      |some (e',l)=>bif Nat.beq (size e') ie.size then
        some { pre:=CQ lo hi l,t:=.bool,val:=false,dst:=fun _=>.v (.one (.vw g lo hi)),aF:=fun _=>[],new:=[] } else none
      |none=>none
     |.p a i w=>match w.Aa (.sl et) with
      |some l=>bif Nat.beq (size et) ie.size then some { pre:=CQ lo hi (List.length (α:=Dt et) l),t:=.sl et,val:=List.drop lo.toNat (List.take (α:=Dt et) hi.toNat l),dst:=fun z=>.v (.one (.p a i ⟨.sl et,z⟩)),aF:=fun _=>[],new:=[] } else none
      |none=>none
     |.bY=>some { pre:=decide (lo=0)&&decide (hi=0),t:=.bool,val:=false,dst:=fun _=>.v (.one .bY),aF:=fun _=>[],new:=[] }
     |_=>none
    |_,_=>none
   |_,_,_=>none
  |some { k:=.str,.. },.v (.one (.p _ _ ⟨.str,y⟩))=>match lW 0 (lo.map f),lW (List.length (α:=UInt8) y) (hi.map f) with
   |some lo,some hi=>some (.calc (CQ lo hi (List.length (α:=UInt8) y)) .str (List.drop lo.toNat (List.take (α:=UInt8) hi.toNat y)))
   |_,_=>none
  |_,_=>none
 |.slice t x none (some hi) (some mx)=>UR tt o t (f x) (f hi) (f mx)
 |.fieldAddr t x n=>match tt t,placeOf tt t n,f x with
  |some { k:=.struct _,.. },some (off',sz'),.v (.one x)=>bif Nat.blt 0 sz'&&x.live o then some (.pure (.v (.one (x.shift off')))) else none
  |_,_,_=>none
 |.field t x n=>match tt t,f x with
  |some { k:=.struct fs,.. },.v (.agg ws)=>match fs[n]? with
   |some (off,u)=>match tt u with
    |some iu=>bif Nat.ble (off+iu.size) ws.length&&Nat.blt 0 iu.size then some (.pure (TV.fH iu.agg ((ws.drop off).take iu.size))) else none
    |none=>none
   |none=>none
  |_,_=>none
 |.indexAddr t x ix=>match tt t,f x,f ix with
  |some { k:=.slice e,.. },.v (.one x),.v (.one (.p _ _ ⟨.int _,n⟩))=>match tt e,ety e,x with
   |some ie,some et,.own g=>match JD o g with
    |some (e',l)=>bif Nat.beq (size e') ie.size then
      some { pre:=inB n l,t:=.bool,val:=false,dst:=fun _=>.v (.one (.ep g (Int.toNat n:Nat) 0)),aF:=fun _=>[],new:=[] } else none
    |none=>none
   |some ie,some et,.vw g lo hi=>match JD o g with
    |some (e',_)=>bif Nat.beq (size e') ie.size then
      some { pre:=inB n (hi.toNat-lo.toNat),t:=.bool,val:=false,dst:=fun _=>.v (.one (.ep g (lo.toNat+Int.toNat n:Nat) 0)),aF:=fun _=>[],new:=[] } else none
    |none=>none
   |some ie,some et,.p a i w=>match w.Aa (.sl et) with
    |some l=>bif Nat.beq (size et) ie.size then some { pre:=inB n (List.length (α:=Dt et) l),t:=et,val:=List.getD (α:=Dt et) l (Int.toNat n) (dflt et),dst:=fun z=>.v (.one (.sp a i et z 0)),aF:=fun _=>[],new:=[] } else none
    |none=>none
   |_,_,_=>none
  |some { k:=.arr m e,.. },.v (.one (.gl g)),.v (.one (.p _ _ ⟨.int _,n⟩))=>match tt e,RE.G g with
   |some ie,some ⟨et,l⟩=>bif Nat.beq (size et) ie.size&&Nat.beq (List.length (α:=Dt et) l) m then some { pre:=inB n m,t:=et,val:=List.getD (α:=Dt et) l (Int.toNat n) (dflt et),dst:=fun z=>.v (.one (.sp false false et z 0)),aF:=fun _=>[],new:=[] } else none
   |_,_=>none
  |some { k:=.arr m e,.. },.v (.one x),.v (.one (.p _ _ ⟨.int _,n⟩))=>match tt e with
   |some ie=>bif inB n m&&x.live o then some (.pure (.v (.one (x.shift (Int.toNat n*ie.size))))) else none
   |none=>none
  |_,_,_=>none
 |.index t x ix=>match tt t,f x,f ix with
  |some { k:=.str,.. },.v (.one (.p _ _ ⟨.str,s⟩)),.v (.one (.p _ _ ⟨.int _,n⟩))=>
    some (.calc (inB n (List.length (α:=UInt8) s)) (.int .u8) ((List.getD (α:=UInt8) s (Int.toNat n) 0).toNat:Int))
  |_,_,_=>none
 |.range t x=>match tt t,f x with
  |some { k:=.str,.. },.v (.one (.p _ _ ⟨.str,s⟩))=>some { pre:=true,t:=.str,val:=s,dst:=fun _=>.v (.one (.mJ d)),aF:=fun z=>[(d,.it z 0)],new:=[d] }
  |_,_=>none
 |.extract t n=>match f t with
  |.kT xs=>match xs[n]? with
   |some x=>some (.pure (.v x))
   |none=>none
  |_=>none
 |.makeFunc (.func g) first caps=>bif Nat.beq first.size 0 then
   match caps.toList.mapM (fun x=>match f x with | .v (.one w)=>some w | _=>none) with
   |some ws=>some (.pure (.v (.one (.clo g ws))))
   |none=>none
   else none
 |.call { callee:=.builtin .len,args,argTypes }=>match args.toList,argTypes.toList with
  | [x],[t]=>match tt t,f x with
   |some { k:=.slice _,.. },.v (.one x)=>match Pn o x with
    |some n=>some (.calc true (.int .i64) n)
    |none=>none
   |some { k:=.str,.. },.v (.one (.p _ _ ⟨.str,s⟩))=>some (.calc true (.int .i64) (List.length (α:=UInt8) s:Int))
   |_,_=>none
  |_,_=>none
 |.call { callee:=.builtin .append,args,argTypes }=>match args.toList,argTypes.toList with
  | [s,x],sT::xT::_=>match tt xT,f s,f x with
   |some { k:=.slice _,.. },.v (.one s),.v (.one x)=>MS tt ety d o sT s x
   |_,_,_=>none
  |_,_=>none
 |.call { callee:=.builtin .clear,args,argTypes }=>match args.toList,argTypes.toList with
  | [x],t::_=>Za tt o t (f x)
  |_,_=>none
 |.call { callee:=.builtin .min,args,.. }=>match args.toList with
  | [x,y]=>match f x,f y with
   |.v (.one (.p _ _ ⟨.int k,x⟩)),.v (.one (.p _ _ ⟨.int _,y⟩))=>some (.calc true (.int k) (Xj x y))
   |_,_=>none
  | [x,y,z]=>match f x,f y,f z with
   |.v (.one (.p _ _ ⟨.int k,x⟩)),.v (.one (.p _ _ ⟨.int _,y⟩)),.v (.one (.p _ _ ⟨.int _,z⟩))=>some (.calc true (.int k) (Xj (Xj x y) z))
   |_,_,_=>none
  |_=>none
 |.call { callee:=.builtin .max,args,.. }=>match args.toList with
  | [x,y]=>match f x,f y with
   |.v (.one (.p _ _ ⟨.int k,x⟩)),.v (.one (.p _ _ ⟨.int _,y⟩))=>some (.calc true (.int k) (Po x y))
   |_,_=>none
  | [x,y,z]=>match f x,f y,f z with
   |.v (.one (.p _ _ ⟨.int k,x⟩)),.v (.one (.p _ _ ⟨.int _,y⟩)),.v (.one (.p _ _ ⟨.int _,z⟩))=>some (.calc true (.int k) (Po (Po x y) z))
   |_,_,_=>none
  |_=>none
 |_=>none
end
end Go.Fg

namespace Go.Fg
open Go.Fw
set_option linter.unusedVariables false
set_option linter.unusedSectionVars false
set_option linter.unusedSimpArgs false
section
variable [RE] {o:Nat→TO} {tt:TT} {ety:TypeId→Option Ty}
theorem eP (e:Ty) (l:List (Dt e)):(aB e l).length=l.length:=by simp [aB]
theorem qU (e:Ty) (l:List (Dt e)) (lo hi:Int):((aB e l).take (P.nat (.int .i64 hi))).drop (P.nat (.int .i64 lo))=aB e ((l.take hi.toNat).drop lo.toNat):=by
 simp [aB,P.nat,P.num,List.map_take,List.map_drop]
theorem uM (e:Ty) (l:List (Dt e)) (hi:Int):(aB e l).take (P.nat (.int .i64 hi))=aB e (l.take hi.toNat):=by
 simp [aB,P.nat,P.num,List.map_take]
theorem gB {g:Nat} {fz a i:Bool} {e:Ty} {l:List (Dt e)} (h:o g=.arr fz a i e l):bQ o g=.arr fz a i (size e) (aB e l):=by simp [bQ,h,dP]
theorem nS {g:Nat} {ws:List TW} (h:o g=.box ws):bQ o g=.box (ws.map bP):=by simp [bQ,h,dP]
theorem oq {g n:Nat} {e:Ty} (h:JD o g=some (e,n)):(bQ o g).dim=some (size e,n):=by
 unfold JD at h
 unfold bQ
 cases ho:o g with
 |arr fz a i e l=>rw [ho] at h;cases h;simp [dP,O.dim,aB]
 |aG a i e ah l hole=>rw [ho] at h;cases h;simp [dP,O.dim,aB]
 |_=>rw [ho] at h;cases h
theorem wX {a b:Ty} (h:tyB a b=true):a=b:=by
 unfold tyB at h
 split at h
 ·rename_i p _;exact p.down
 ·cases h
theorem CU {c:Nat} :∀{ah:List (Nat×Ty)} {t:Ty},sW c ah=some t→(iq ah).lookup c=some (size t)
 | [],t,h=>by cases h
 |(k,u)::r,t,h=>by
  simp only [sW] at h
  simp only [iq,List.map_cons,List.lookup]
  by_cases e:c=k
  ·subst e
   have:Nat.beq c c=true:=by simp
   rw [this] at h
   simp only [cond_true,Option.some.injEq] at h;subst h
   simp
  ·have e1:Nat.beq c k=false:=by cases hb:Nat.beq c k with | false=>rfl | true=>exact absurd (Nat.eq_of_beq_eq_true hb) e
   have e2:(c==k)=false:=by simpa using e
   rw [e1] at h
   rw [e2]
   exact CU h
theorem Hy {c:Nat} :∀{ah:List (Nat×Ty)},sW c ah=none→(iq ah).lookup c=none
 | [],h=>rfl
 |(k,u)::r,h=>by
  simp only [sW] at h
  simp only [iq,List.map_cons,List.lookup]
  by_cases e:c=k
  ·subst e
   have:Nat.beq c c=true:=by simp
   rw [this] at h;cases h
  ·have e1:Nat.beq c k=false:=by cases hb:Nat.beq c k with | false=>rfl | true=>exact absurd (Nat.eq_of_beq_eq_true hb) e
   have e2:(c==k)=false:=by simpa using e
   rw [e1] at h
   rw [e2]
   exact Hy h
theorem sZ {e e':Ty} {ah:List (Nat×Ty)} {c:Nat} (h:Xi e ah c e'=true):(iq ah).lookup c=some (size e')∧(iE e)[c]?=some (.sl e')∧c<size e:=by
 simp only [Xi,Bool.and_eq_true] at h
 obtain ⟨h1,h2⟩:=h
 have k1:sW c ah=some e':=by
  split at h1
  ·rename_i t ht;rw [ht,wX h1]
  ·cases h1
 have k2:(iE e)[c]?=some (.sl e'):=by
  split at h2
  ·rename_i t ht;rw [ht,wX h2]
  ·cases h2
 exact ⟨CU k1,k2,by have:=(List.getElem?_eq_some_iff.1 k2).1;rwa [iR] at this⟩
theorem yQ {α β:Type} (f:α→β) (l:List α) (off:Nat) (new:List α):(aH l off new).map f=aH (l.map f) off (new.map f):=by
 simp [aH,List.map_take,List.map_drop]
theorem Zb {e:Ty} {x:Dt e} {off:Nat} {ps:List Wd} (hty:ps.map (·.t)=((iE e).drop off).take ps.length) (hlt:off+ps.length≤size e):jw e (JC e (Nat.beq ps.length (size e)) x off ps)=aH (jw e x) off (ps.map bU):=by
 have hty':(aH (eU e x) off ps).map (·.t)=iE e:=by
  have e0:iE e=(iE e).take off++(((iE e).drop off).take ps.length++(iE e).drop (off+ps.length)):=by
   rw [←List.drop_drop,List.take_append_drop,List.take_append_drop]
  simp only [aH,List.map_append,List.map_take,List.map_drop,pX,hty,List.append_assoc]
  exact e0.symm
 unfold JC
 cases hc:Nat.beq ps.length (size e) with
 |true=>
  have hc:=Nat.eq_of_beq_eq_true hc
  have h0:off=0:=by omega
  subst h0
  have e2:aH (eU e x) 0 ps=ps:=by
   simp only [aH,List.take_zero,List.nil_append,Nat.zero_add]
   rw [List.drop_of_length_le (by rw [o9];omega),List.append_nil]
  have e3:aH (jw e x) 0 (ps.map bU)=ps.map bU:=by rw [fQ,←yQ,e2]
  rw [e2] at hty'
  rw [e3]
  exact qR hty'
 |false=>
  simp only
  rw [qR hty',yQ,←fQ]
theorem Ei {e:Ty} {l:List (Dt e)} {n off:Nat} {ps:List Wd} (hty:ps.map (·.t)=((iE e).drop off).take ps.length) (hlt:off+ps.length≤size e) :
  aB e (List.set l n (JC e (Nat.beq ps.length (size e)) (l.getD n (dflt e)) off ps))=(aB e l).set n (aH ((aB e l).getD n []) off (ps.map bU)):=by
 have e0 :∀x,aB e (List.set l n x)=(aB e l).set n (jw e x):=fun x=>by simp [aB,List.map_set]
 rw [e0]
 by_cases hn:n<l.length
 ·have e1:(aB e l).getD n []=jw e (l.getD n (dflt e)):=by simp [aB,List.getD_eq_getElem?_getD,hn]
  rw [e1,Zb hty hlt]
 ·have e1 :∀z,(aB e l).set n z=aB e l:=fun z=>List.set_eq_of_length_le (by rw [eP];omega)
  rw [e1,e1]
theorem zG {e e':Ty} {l:List (Dt e)} {n c:Nat} {l':List (Dt e')} (hc:(iE e)[c]?=some (.sl e')):aB e (putRow e l n c (sV e' l'))=iH (aB e l) n c (P.fF (size e') (aB e' l')):=by
 have hlt:c<size e:=by have:=(List.getElem?_eq_some_iff.1 hc).1;rwa [iR] at this
 have:=Ei (e:=e) (l:=l) (n:=n) (off:=c) (ps:=[sV e' l']) (by
  show [Ty.sl e']=((iE e).drop c).take 1
  have hlt':c<(iE e).length:=by rw [iR];exact hlt
  rw [List.drop_eq_getElem_cons hlt']
  rw [List.getElem?_eq_getElem hlt'] at hc
  simp only [Option.some.injEq] at hc
  rw [hc];rfl) (by simp only [List.length_singleton];omega)
 exact this
theorem nT {g:Nat} {a i:Bool} {e:Ty} {l:List (Dt e)} (h:m_ o g=some ⟨a,i,e,l⟩):plainO (bQ o) g=some (a,i,size e,aB e l)∧(bQ o g).names=kW (o g):=by
 unfold m_ at h
 cases ho:o g with
 |arr fz a' i' e' l'=>
  rw [ho] at h;cases h
  have:=gB ho
  exact ⟨by simp [plainO,this],by rw [this];rfl⟩
 |aG a0 i0 e0 ah l0 hole=>
  rw [ho] at h
  have hg:bQ o g=.aG a0 i0 (size e0) (iq ah) (aB e0 l0) hole:=by simp [bQ,ho,dP]
  rcases hole with _ | ⟨n,c,d⟩
  ·cases h
   exact ⟨by simp [plainO,hg],by rw [hg];rfl⟩
  ·simp only at h
   cases hd:o d with
   |arr fz a' i' e' l'=>
    rw [hd] at h
    simp only at h
    split at h
    ·rename_i hc
     cases h
     obtain ⟨k1,k2,k3⟩:=sZ hc
     refine ⟨?_,by rw [hg];rfl⟩
     simp only [plainO,hg,gB hd]
     rw [if_pos ⟨k1,k3⟩,zG k2]
    ·cases h
   |_=>rw [hd] at h;cases h
 |_=>rw [ho] at h;cases h
theorem nU {e:Ty} {l:List (Dt e)} {t:Ty} {x:Dt t} (h:(sV e l).Aa t=some x) :∃h:Ty.sl e=t,x=h▸l:=by
 have:=f_ h
 unfold sV at this
 cases this
 exact ⟨rfl,rfl⟩
theorem MV {t:Ty} {x:TW} {y:Dt t} {a i:Bool} {gs:List Nat} (h:x.toP o t=some (y,a,i,gs)):(bP x).toP (bQ o)=some (bU ⟨t,y⟩,a,i,gs):=by
 cases x with
 |p a' i' w=>
  simp only [TW.toP] at h
  split at h
  ·rename_i x hx
   simp only [Option.some.injEq,Prod.mk.injEq] at h
   obtain ⟨rfl,rfl,rfl,rfl⟩:=h
   rw [f_ hx];rfl
  ·cases h
 |bY=>
  simp only [TW.toP] at h
  split at h
  ·simp only [Option.some.injEq,Prod.mk.injEq] at h
   obtain ⟨rfl,rfl,rfl,rfl⟩:=h
   rfl
  ·cases h
 |own g=>
  simp only [TW.toP] at h
  split at h
  ·rename_i a' i' e l hg
   split at h
   ·rename_i z hz
    simp only [Option.some.injEq,Prod.mk.injEq] at h
    obtain ⟨rfl,rfl,rfl,rfl⟩:=h
    rw [←f_ hz]
    obtain ⟨k1,k2⟩:=nT hg
    simp only [bP,W.toP,k1,k2];rfl
   ·cases h
  ·cases h
 |vw g lo hi=>
  simp only [TW.toP] at h
  split at h
  ·rename_i a' i' e l hg
   split at h
   ·rename_i z hz
    simp only [Option.some.injEq,Prod.mk.injEq] at h
    obtain ⟨rfl,rfl,rfl,rfl⟩:=h
    rw [←f_ hz]
    obtain ⟨k1,k2⟩:=nT hg
    simp only [bP,W.toP,k1,k2,qU];rfl
   ·cases h
  ·cases h
 |_=>simp [TW.toP] at h
theorem wY :∀{ts:List Ty} {xs:List TW} {ys:List Wd} {a i:Bool} {gs:List Nat},pY o ts xs=some (ys,a,i,gs)→rE (bQ o) (xs.map bP)=some (ys.map bU,a,i,gs)∧ys.map (·.t)=ts
 | [],[],ys,a,i,gs,h=>by
  simp only [pY,Option.some.injEq,Prod.mk.injEq] at h
  obtain ⟨rfl,rfl,rfl,rfl⟩:=h
  exact ⟨rfl,rfl⟩
 | [],x::xs,ys,a,i,gs,h=>by simp [pY] at h
 |t::ts,[],ys,a,i,gs,h=>by simp [pY] at h
 |t::ts,x::xs,ys,a,i,gs,h=>by
  simp only [pY] at h
  split at h
  ·rename_i h1 h2
   simp only [Option.some.injEq,Prod.mk.injEq] at h
   obtain ⟨rfl,rfl,rfl,rfl⟩:=h
   obtain ⟨k1,k2⟩:=wY h2
   refine ⟨?_,by simp only [List.map_cons,k2]⟩
   simp only [List.map_cons,rE,MV h1,k1]
  ·cases h
def h_ (l:List (Nat×TO)):List (Nat×O):=l.map fun p=>(p.1,dP p.2)
def Pl (o:Nat→TO) (gs:List Nat):Prop :=∀g∈gs,∃p,m_ o g=some p
theorem Pl.append {a b:List Nat} (h:Pl o a) (h':Pl o b):Pl o (a++b):=fun g hg=>by
 rcases List.mem_append.1 hg with x | x
 ·exact h g x
 ·exact h' g x
theorem Pl.nil:Pl o []:=fun g hg=>by cases hg
theorem Ku {g:Nat} {p:TA} (h:m_ o g=some p):Pl o (kW (o g)++[g]):=by
 refine Pl.append (fun d hd => ?_) (fun g' hg'=>by rw [List.mem_singleton] at hg';subst hg';exact ⟨p,h⟩)
 unfold m_ at h
 cases ho:o g with
 |aG a i e ah l hole=>
  rw [ho] at h hd
  rcases hole with _ | ⟨n,c,d'⟩
  ·cases hd
  ·simp only [kW,List.mem_singleton] at hd
   subst hd
   simp only at h
   cases hod:o d with
   |arr fz a' i' e' l'=>exact ⟨⟨a',i',e',l'⟩,by simp only [m_,hod]⟩
   |_=>rw [hod] at h;cases h
 |_=>rw [ho] at hd;cases hd
theorem SC {t:Ty} {x:TW} {y:Dt t} {a i:Bool} {gs:List Nat} (h:x.toP o t=some (y,a,i,gs)):Pl o gs:=by
 cases x with
 |p a' i' w=>
  simp only [TW.toP] at h
  split at h
  ·simp only [Option.some.injEq,Prod.mk.injEq] at h;obtain ⟨_,_,_,rfl⟩:=h;exact Pl.nil
  ·cases h
 |bY=>
  simp only [TW.toP] at h
  split at h
  ·simp only [Option.some.injEq,Prod.mk.injEq] at h;obtain ⟨_,_,_,rfl⟩:=h;exact Pl.nil
  ·cases h
 |own g=>
  simp only [TW.toP] at h
  split at h
  ·rename_i hg
   split at h
   ·simp only [Option.some.injEq,Prod.mk.injEq] at h;obtain ⟨_,_,_,rfl⟩:=h;exact Ku hg
   ·cases h
  ·cases h
 |vw g lo hi=>
  simp only [TW.toP] at h
  split at h
  ·rename_i hg
   split at h
   ·simp only [Option.some.injEq,Prod.mk.injEq] at h;obtain ⟨_,_,_,rfl⟩:=h;exact Ku hg
   ·cases h
  ·cases h
 |_=>simp [TW.toP] at h
theorem MW :∀{ts:List Ty} {xs:List TW} {ys:List Wd} {a i:Bool} {gs:List Nat},pY o ts xs=some (ys,a,i,gs)→Pl o gs
 | [],[],ys,a,i,gs,h=>by simp only [pY,Option.some.injEq,Prod.mk.injEq] at h;obtain ⟨_,_,_,rfl⟩:=h;exact Pl.nil
 | [],x::xs,ys,a,i,gs,h=>by simp [pY] at h
 |t::ts,[],ys,a,i,gs,h=>by simp [pY] at h
 |t::ts,x::xs,ys,a,i,gs,h=>by
  simp only [pY] at h
  split at h
  ·rename_i h1 h2
   simp only [Option.some.injEq,Prod.mk.injEq] at h
   obtain ⟨_,_,_,rfl⟩:=h
   exact (SC h1).append (MW h2)
  ·cases h
theorem Hz {g:Nat} (h :∃p,m_ o g=some p):Fw.aK (bQ o) g=((kP o g).1,dP (kP o g).2):=by
 obtain ⟨⟨a,i,e,l⟩,hp⟩:=h
 simp only [Fw.aK,kP,hp,(nT hp).1];rfl
theorem oz {gs:List Nat} (h:Pl o gs):gs.map (Fw.aK (bQ o))=h_ (gs.map (kP o)):=by
 simp only [h_,List.map_map]
 exact List.map_congr_left fun g hg=>Hz (h g hg)
theorem tq (x:TV):(jk x).words=x.words.map bP:=by cases x<;>rfl
theorem tu (x:TV) (h:x.solid=true):(jk x).solid=true:=by
 cases x with
 |one x=>cases x<;>first | rfl | (simp [TV.solid,TW.solid] at h)
 |agg xs=>rfl
theorem kE (agg:Bool) (ws:List TW):aW (TV.fH agg ws)=V.fH agg (ws.map bP):=by
 cases agg with
 |true=>rfl
 |false=>
  match ws with
  | []=>rfl
  | [x]=>rfl
  |x::y::ws=>rfl
theorem oV {α β:Type} (f:α→β) (l:List α) (off:Nat) (new:List α):(aH l off new).map f=aH (l.map f) off (new.map f):=by
 simp [aH,List.map_take,List.map_drop]
theorem AZ {place:Nat→Option (Nat×Nat)} :∀{ps:List (Nat×TS)} {ws r:List TW},AV place ws ps=some r→lg place (ws.map bP) (ps.map fun p=>(p.1,aW p.2))=some (r.map bP)
 | [],ws,r,h=>by simp only [AV,Option.some.injEq] at h;subst h;rfl
 |(n,.v x)::ps,ws,r,h=>by
  simp only [AV] at h
  split at h
  ·rename_i off size hp
   cases hb:(Nat.beq x.words.length size&&Nat.ble (off+size) ws.length&&x.solid) with
   |false=>rw [hb] at h;cases h
   |true=>
    rw [hb,cond_true] at h
    simp only [Bool.and_eq_true] at hb
    have h1:=Nat.eq_of_beq_eq_true hb.1.1
    have h2:=Nat.le_of_ble_eq_true hb.1.2
    have ih:=AZ h
    rw [oV] at ih
    simp only [List.map_cons,aW,lg,hp,tq,List.length_map]
    rw [if_pos ⟨h1,h2,tu x hb.2⟩]
    exact ih
  ·cases h
 |(n,.kT xs)::ps,ws,r,h=>by simp [AV] at h
 |(n,.no)::ps,ws,r,h=>by simp [AV] at h
theorem ace (sz:Nat) (l:List (List P)):(P.fF sz l).Rh sz:=by cases l<;>simp [P.fF,P.Rh]
theorem HY (e:Ty) (l:List (Dt e)):(bU ⟨.sl e,l⟩).Rh (size e):=ace _ _
theorem Pq {e:Ty} {x:TW} {l:List (Dt e)} {a i:Bool} (h:x.rows o e=some (l,a,i)) :∃ask,(bP x).rows (bQ o) (size e)=some (ask,aB e l,a,i)∧ask:=by
 cases x with
 |p a' i' w=>
  simp only [TW.rows] at h
  split at h
  ·rename_i y hy
   simp only [Option.some.injEq,Prod.mk.injEq] at h
   obtain ⟨rfl,rfl,rfl⟩:=h
   rw [f_ hy]
   exact ⟨(bU ⟨.sl e,l⟩).Rh (size e),by simp only [bP,W.rows,iL],HY _ _⟩
  ·cases h
 |bY=>
  simp only [TW.rows,Option.some.injEq,Prod.mk.injEq] at h
  obtain ⟨rfl,rfl,rfl⟩:=h
  exact ⟨_,rfl,trivial⟩
 |own g=>
  simp only [TW.rows] at h
  split at h
  ·rename_i fz a' i' e' l' hg
   split at h
   ·rename_i z hz
    simp only [Option.some.injEq,Prod.mk.injEq] at h
    obtain ⟨rfl,rfl,rfl⟩:=h
    obtain ⟨he,hz⟩:=nU hz
    cases he
    subst hz
    exact ⟨True,by simp only [bP,W.rows,gB hg,if_true],trivial⟩
   ·cases h
  ·cases h
 |vw g lo hi=>
  simp only [TW.rows] at h
  split at h
  ·rename_i fz a' i' e' l' hg
   split at h
   ·rename_i z hz
    simp only [Option.some.injEq,Prod.mk.injEq] at h
    obtain ⟨rfl,rfl,rfl⟩:=h
    obtain ⟨he,hz⟩:=nU hz
    cases he
    subst hz
    exact ⟨True,by simp only [bP,W.rows,gB hg,if_true,qU],trivial⟩
   ·cases h
  ·cases h
 |_=>simp [TW.rows] at h
theorem SE (sz:Nat) (l:List (List P)):(P.fF sz l).isSlice:=by cases l<;>simp [P.fF,P.isSlice]
theorem af4 (sz:Nat) (l:List (List P)):(P.fF sz l).len=.int .i64 l.length:=by cases l<;>rfl
theorem acf (e:Ty) (l:List (Dt e)):(bU ⟨.sl e,l⟩).len=.int .i64 l.length:=by rw [FC,af4,eP]
theorem UU {x:TW} {n:Int} (h:Pn o x=some n) :∃ask,lenOf (bQ o) (bP x)=some (ask,.int .i64 n)∧ask:=by
 cases x with
 |p a i w=>
  obtain ⟨t,x⟩:=w
  cases t<;>simp only [Pn] at h<;>try (cases h;done)
  rename_i e
  simp only [Option.some.injEq] at h;subst h
  refine ⟨(bU ⟨.sl e,x⟩).isSlice,?_,SE _ _⟩
  have e1:(bU ⟨.sl e,x⟩).len=.int .i64 (List.length (α:=Dt e) x):=acf e x
  simp only [bP,lenOf]
  rw [e1]
 |bY=>simp only [Pn,Option.some.injEq] at h;subst h;exact ⟨_,rfl,trivial⟩
 |own g=>
  simp only [Pn] at h
  split at h
  ·rename_i hg
   simp only [Option.some.injEq] at h;subst h
   exact ⟨True,by simp only [bP,lenOf,oq hg],trivial⟩
  ·cases h
 |vw g lo hi=>
  simp only [Pn] at h
  split at h
  ·rename_i hg
   simp only [Option.some.injEq] at h;subst h
   rename_i x
   obtain ⟨e,n⟩:=x
   exact ⟨True,by simp only [bP,lenOf,oq hg,P.nat,P.num],trivial⟩
  ·cases h
 |_=>simp [Pn] at h
theorem H6 {x:TW} (h:x.live o=true):(bP x).live (bQ o)=true:=by
 cases x with
 |box g off=>
  simp only [TW.live] at h
  split at h
  ·rename_i hg;simp only [bP,W.live,nS hg]
  ·cases h
 |ep g n off=>
  simp only [TW.live] at h
  split at h
  ·rename_i x hg
   obtain ⟨e,n⟩:=x
   simp only [bP,W.live,oq hg];rfl
  ·cases h
 |sp=>rfl
 |_=>simp [TW.live] at h
theorem Kv (n:Nat) (x:TW):bP (x.shift n)=(bP x).shift n:=by cases x<;>simp [TW.shift,bP,W.shift]
theorem Zc (v:Value):bP (Xh v)=cv v:=by
 unfold Xh
 split
 ·rfl
 ·rfl
 ·rfl
 ·rfl
 ·rename_i x h1 h2 h3 h4
  show W.p false false (P.opq v)=cv v
  unfold cv
  split
  ·exact (h1 _ _ rfl).elim
  ·exact (h2 _ rfl).elim
  ·exact (h3 _ rfl).elim
  ·exact (h4 rfl).elim
  ·rfl
theorem qV (l:List Value):(l.map Xh).map bP=l.map cv:=by
 rw [List.map_map];exact List.map_congr_left fun v _=>Zc v
theorem Xk (v:Value):aW (Sz v)=t_ v:=by
 unfold Sz
 split
 ·rename_i cs
  unfold t_
  have e:(cs.toList.map Xh).map bP=cs.toList.map cv:=qV _
  cases h:cs.toList.all Value.oneCell'
  ·simp only [h,cond_false,Bool.false_eq_true,if_false];rfl
  ·simp only [h,cond_true,if_true,aW,jk,e]
 ·rfl
 ·simp only [aW,jk,bP,mZ];rfl
 ·rename_i x h1 h2 h3
  have e:t_ v=if v.oneCell'=true then .v (.one (cv v)) else .no:=by
   unfold t_
   split
   ·exact (h1 _ rfl).elim
   ·exact (h2 _ rfl).elim
   ·exact (h3 _ rfl).elim
   ·rfl
  rw [e]
  cases h:v.oneCell'
  ·simp only [cond_false,Bool.false_eq_true,if_false];rfl
  ·simp only [cond_true,if_true,aW,jk,Zc]
theorem ng (st:jB) (x:Operand):(aO st).dK x=aW (st.dK x):=by
 cases x with
 |tmp t=>rfl
 |const v=>exact (Xk v).symm
 |func f=>simp [St.dK,jB.dK,aW,jk,bP,mZ]
 |global g=>
  simp only [Fw.St.dK,jB.dK,ae4]
  cases RE.G g<;>rfl
end
end Go.Fg

namespace Go.Fg
open Go.Fw
set_option linter.unusedVariables false
set_option linter.unusedSectionVars false
set_option linter.unusedSimpArgs false
section
variable [RE] {o:Nat→TO} {tt:TT} {ety:TypeId→Option Ty} {d:Nat} {f:Operand→TS} {ty:TypeId}
structure fC (r:qG) (r':E5):Prop where
 pre:r.pre=true→r'.pre
 dst:r'.dst r'.val=aW (r.dst r.val)
 aF:r'.aF r'.val=h_ (r.aF r.val)
 new:r'.new=r.new
def gq (tt:TT) (ety:TypeId→Option Ty) (d:Nat) (o:Nat→TO) (f:Operand→TS) (op:Op) (ty:TypeId):Prop:=
 ∀r,dH tt ety d o f op ty=some r→∃r',kernel tt d (bQ o) (fun x=>aW (f x)) op ty=some r'∧fC r r'
def aiu (r:qG) (r':E5):Prop:=(r.pre=true→fC r r')∧r'.new=r.new
theorem fC.toC {r:qG} {r':E5} (h:fC r r'):aiu r r':=⟨fun _=>h,h.new⟩
def Zd (tt:TT) (ety:TypeId→Option Ty) (d:Nat) (o:Nat→TO) (f:Operand→TS) (op:Op) (ty:TypeId):Prop:=
 ∀r,dH tt ety d o f op ty=some r→∃r',kernel tt d (bQ o) (fun x=>aW (f x)) op ty=some r'∧aiu r r'
theorem gq.toC {tt:TT} {ety:TypeId→Option Ty} {d:Nat} {o:Nat→TO} {f:Operand→TS} {op:Op} {ty:TypeId} (h:gq tt ety d o f op ty):Zd tt ety d o f op ty:=fun r hr=>
 let ⟨r',h1,h2⟩:=h r hr
 ⟨r',h1,h2.toC⟩
theorem fC.pure (x:TS):fC (.pure x) (.pure (aW x)):=⟨fun _=>trivial,rfl,rfl,rfl⟩
theorem MX {x:TS} (h:aW x=.no):x=.no:=by cases x<;>first | rfl | cases h
theorem acg (x:Operand):gq tt ety d o f (.move x) ty:=by
 intro r h
 simp only [dH] at h
 split at h
 ·cases h
 ·rename_i s hs
  simp only [Option.some.injEq] at h;subst h
  refine ⟨.pure (aW (f x)),?_,fC.pure _⟩
  simp only [kernel]
  split
  ·rename_i e;exact (hs (MX e)).elim
  ·rfl
theorem Xl (x:Operand):gq tt ety d o f (.assign x) ty:=by
 intro r h
 simp only [dH] at h
 split at h
 ·cases h
 ·rename_i s hs
  simp only [Option.some.injEq] at h;subst h
  refine ⟨.pure (aW (f x)),?_,fC.pure _⟩
  simp only [kernel]
  split
  ·rename_i e;exact (hs (MX e)).elim
  ·rfl
theorem Ze {x:TS} {a i:Bool} {y:P} (h:aW x=.v (.one (.p a i y))) :∃w,x=.v (.one (.p a i w))∧bU w=y:=by
 cases x with
 |v x=>cases x with
  |one x=>cases x<;>simp [aW,jk,bP] at h<;>exact ⟨_,by rw [h.1,h.2.1],h.2.2⟩
  |agg xs=>cases h
 |_=>cases h
theorem Zf (b:Bool):bU ⟨.bool,b⟩=.bool b:=rfl
theorem ach (c x y:Operand):gq tt ety d o f (.pick c x y) ty:=by
 intro r h
 simp only [dH] at h
 split at h
 ·rename_i a0 i0 b hc
  change Bool at b
  have hc':aW (f c)=.v (.one (.p a0 i0 (.bool b))):=by rw [hc];rfl
  split at h
  ·rename_i a i w a' i' w' hx hy
   split at h
   ·rename_i z hz
    simp only [Option.some.injEq] at h;subst h
    have hx':aW (f x)=.v (.one (.p a i (bU w))):=by rw [hx];rfl
    have hy':aW (f y)=.v (.one (.p a' i' (bU w'))):=by rw [hy];rfl
    simp only [kernel,hc',hx',hy']
    refine ⟨_,rfl,⟨fun _=>trivial,?_,rfl,rfl⟩⟩
    have e:=f_ hz
    rw [e]
    cases b<;>rfl
   ·cases h
  ·rename_i hno
   have eb:(bif b then aW (f x) else aW (f y))=aW (bif b then f x else f y):=by cases b<;>rfl
   split at h
   ·cases h
   ·rename_i s hs
    simp only [Option.some.injEq] at h;subst h
    refine ⟨.pure (aW (bif b then f x else f y)),?_,fC.pure _⟩
    simp only [kernel,hc']
    split
    ·rename_i a1 i1 x1 a2 i2 y1 h1 h2
     obtain ⟨w1,e1,_⟩:=Ze h1
     obtain ⟨w2,e2,_⟩:=Ze h2
     exact (hno _ _ _ _ _ _ e1 e2).elim
    ·rw [eb]
     split
     ·rename_i e;exact (hs (MX e)).elim
     ·rfl
 ·cases h
theorem bH {α:Type} {b:Bool} {x:Option α} {y:α} (h:(bif b then x else none)=some y):b=true∧x=some y:=by
 cases b
 ·cases h
 ·exact ⟨rfl,h⟩
theorem Zg (t:TypeId):gq tt ety d o f (.alloc t) ty:=by
 intro r h
 simp only [dH] at h
 split at h
 ·rename_i i hi
  simp only [Option.some.injEq] at h;subst h
  simp only [kernel,hi]
  refine ⟨_,rfl,⟨fun _=>trivial,rfl,?_,rfl⟩⟩
  simp only [h_,List.map_cons,List.map_nil,dP,qV]
 ·cases h
theorem af5 (t:TypeId) (x:Operand):gq tt ety d o f (.box t x) ty:=by
 intro r h
 simp only [dH] at h
 split at h
 ·rename_i i x' hi hx
  obtain ⟨hb,h⟩:=bH h
  simp only [Option.some.injEq] at h;subst h
  simp only [Bool.and_eq_true] at hb
  simp only [kernel,hi,hx,aW,tq,List.length_map]
  rw [if_pos ⟨Nat.eq_of_beq_eq_true hb.1,tu _ hb.2⟩]
  exact ⟨_,rfl,⟨fun _=>trivial,rfl,rfl,rfl⟩⟩
 ·cases h
theorem CV (ps:List (Nat×Operand)):(ps.map fun p=>(p.1,aW (f p.2)))=(ps.map fun p=>(p.1,f p.2)).map fun p=>(p.1,aW p.2):=by
 rw [List.map_map];rfl
theorem Zh (t:TypeId) (ps:Array (Nat×Operand)):gq tt ety d o f (.build t ps) ty:=by
 intro r h
 simp only [dH] at h
 split at h
 ·rename_i i hi
  obtain ⟨hb,h⟩:=bH h
  split at h
  ·rename_i ws hw
   simp only [Option.some.injEq] at h;subst h
   have:=AZ hw
   rw [qV] at this
   simp only [kernel,hi,hb,if_true,CV,this]
   exact ⟨_,rfl,fC.pure _⟩
  ·cases h
 ·cases h
theorem H7 {α β:Type} (g:α→β) (l:List α) :∀n,(Hw l n).map g=fD (l.map g) n
 |0=>rfl
 |n+1=>by simp [Hw,fD,H7 g l n]
theorem zH (e:Ty) :∀(n:Nat) (ws:List Wd),ws.map (·.t)=Hw (iE e) n→aB e (AY e n ws)=chunks (size e) n (ws.map bU)
 |0,ws,h=>rfl
 |n+1,ws,h=>by
  have h1:(ws.take (size e)).map (·.t)=iE e:=by
   rw [List.map_take,h,Hw,←iR,List.take_left]
  have h2:(ws.drop (size e)).map (·.t)=Hw (iE e) n:=by
   rw [List.map_drop,h,Hw,←iR,List.drop_left]
  simp only [AY,aB,List.map_cons,chunks]
  rw [qR h1,List.map_take]
  congr 1
  rw [←List.map_drop]
  exact zH e n _ h2
theorem kF (a b:List (Nat×TO)):h_ (a++b)=h_ a++h_ b:=by simp [h_]
theorem JE (t:TypeId) (n:Nat) (ps:Array (Nat×Operand)):gq tt ety d o f (.buildSlice t n ps) ty:=by
 intro r h
 simp only [dH] at h
 split at h
 ·rename_i e i1 i2 i3 ht
  split at h
  ·rename_i ie et he het
   split at h
   ·rename_i ws hw
    split at h
    ·rename_i qs a i gs hp
     obtain ⟨hb,h⟩:=bH h
     simp only [Option.some.injEq] at h;subst h
     simp only [Bool.and_eq_true] at hb
     have hsz:=Nat.eq_of_beq_eq_true hb.2
     have:=AZ hw
     rw [H7,qV] at this
     obtain ⟨k1,k2⟩:=wY hp
     simp only [kernel,ht,he,CV,this,k1]
     rw [if_pos (Nat.le_of_ble_eq_true hb.1)]
     refine ⟨_,rfl,⟨fun _=>trivial,rfl,?_,rfl⟩⟩
     simp only [kF,←oz (MW hp)]
     congr 1
     simp only [P.list,h_,List.map_cons,List.map_nil,dP,zH et n qs k2,hsz]
    ·cases h
   ·cases h
  ·cases h
 ·cases h
end
end Go.Fg

namespace Go.Fg
open Go.Fw
set_option linter.unusedVariables false
set_option linter.unusedSectionVars false
set_option linter.unusedSimpArgs false
section
variable [RE] {o:Nat→TO} {tt:TT} {ety:TypeId→Option Ty} {d:Nat} {f:Operand→TS} {ty:TypeId}
theorem fV {a b:Bool} (h:(a&&b)=true):a=true∧b=true:=by simpa using h
theorem aci (a i:Bool) (ws:List Wd):(tpw a i ws).map bP=ws.map fun w=>W.p a i (bU w):=by
 simp only [tpw,List.map_map];rfl
theorem wZ (e:Ty) (x:Dt e) (a i:Bool) (off n:Nat) (h:off+n≤size e) (df:Nat→P) :
  ((List.range n).map fun j=>W.p a i ((jw e x).getD (off+j) (df j)))=(tpw a i (((eU e x).drop off).take n)).map bP:=by
 rw [aci,fQ]
 apply List.ext_getElem?
 intro j
 simp only [List.getElem?_map,List.getElem?_take,List.getElem?_drop]
 by_cases hj:j<n
 ·have hlt:off+j<(eU e x).length:=by rw [o9];omega
  rw [List.getElem?_range hj,if_pos hj]
  simp [List.getD_eq_getElem?_getD,List.getElem?_eq_getElem hlt]
 ·rw [List.getElem?_eq_none (by simp;omega),if_neg hj];rfl
theorem H8 {n:Nat} (h:Nat.blt 0 n=true):0<n:=Nat.le_of_ble_eq_true h
theorem Zi {w:Wd} {v:Value} (h:Y_ w v=true):bU w=Ri [v] 0:=by
 unfold Y_ at h
 split at h
 ·rename_i k n k' n'
  change Int at n
  simp only [Bool.and_eq_true,eqI,decide_eq_true_eq] at h
  obtain ⟨h1,h2⟩:=h
  cases hk:Y8 k k' with
  |none=>rw [hk] at h1;cases h1
  |some p=>have e:=p.down;subst e;subst h2;rfl
 ·rename_i b b'
  change Bool at b
  have h:b=b':=LawfulBEq.eq_of_beq h
  subst h;rfl
 ·rename_i s s'
  change List UInt8 at s
  simp only [Bool.and_eq_true,List.isEmpty_iff] at h
  obtain ⟨h1,h2⟩:=h
  subst h1
  obtain ⟨⟨l⟩⟩:=s'
  simp only at h2
  subst h2
  rfl
 ·rename_i e l
  change List (Dt e) at l
  have hl:l=[]:=by simpa using h
  subst hl;rfl
 ·cases h
theorem CW :∀{ws:List Wd} {vs:List Value},r_ ws vs=true→∀j,(ws.map bU)[j]?=if j<vs.length then some (Ri vs j) else none
 | [],[],h,j=>by simp
 |w::ws,[],h,j=>by simp [r_] at h
 | [],v::vs,h,j=>by simp [r_] at h
 |w::ws,v::vs,h,j=>by
  obtain ⟨h1,h2⟩:=fV h
  cases j with
  |zero=>simp only [List.map_cons,List.getElem?_cons_zero,List.length_cons,Nat.zero_lt_succ,if_true,Zi h1];rfl
  |succ j=>
   have:=CW h2 j
   simp only [List.map_cons,List.getElem?_cons_succ,List.length_cons,this,Nat.succ_lt_succ_iff]
   rfl
theorem MZ (e:Ty) (l:List (Dt e)) (n off size':Nat) (z:List Value) (h:off+size'≤size e) (hz:r_ (((eU e (dflt e)).drop off).take size') z=true) (a i:Bool) :
  ((List.range size').map fun j=>W.p a i (((aB e l).getD n []).getD (off+j) (Ri z j)))=(tpw a i (((eU e (l.getD n (dflt e))).drop off).take size')).map bP:=by
 by_cases hn:n<l.length
 ·have e1:(aB e l).getD n []=jw e (l.getD n (dflt e)):=by simp [aB,List.getD_eq_getElem?_getD,hn]
  rw [e1]
  exact wZ e _ a i off size' h _
 ·have e1:(aB e l).getD n []=[]:=by simp [aB,List.getD_eq_getElem?_getD,List.getElem?_eq_none (Nat.le_of_not_lt hn)]
  have e2:l.getD n (dflt e)=dflt e:=by simp [List.getD_eq_getElem?_getD,List.getElem?_eq_none (Nat.le_of_not_lt hn)]
  rw [e1,e2,←wZ e _ a i off size' h (Ri z)]
  refine List.map_congr_left fun j hj => ?_
  have hj:j<size':=List.mem_range.1 hj
  have:=CW hz j
  rw [List.map_take,List.map_drop,List.getElem?_take,if_pos hj,List.getElem?_drop,←fQ] at this
  have hlen:off+j<(jw e (dflt e)).length:=by rw [Ht];omega
  rw [List.getD_eq_getElem?_getD,List.getD_eq_getElem?_getD,this]
  split
  ·rfl
  ·rfl
theorem acj (t:TypeId) (x:Operand):gq tt ety d o f (.load t x) ty:=by
 intro r h
 simp only [dH] at h
 split at h
 ·rename_i i g off ht hx
  have hx':aW (f x)=.v (.one (.box g off)):=by rw [hx];rfl
  split at h
  ·rename_i ws hg
   obtain ⟨hb,h⟩:=bH h
   simp only [Option.some.injEq] at h;subst h
   obtain ⟨h1,h2⟩:=fV hb
   simp only [kernel,ht,hx',nS hg,List.length_map]
   rw [if_pos ⟨Nat.le_of_ble_eq_true h1,H8 h2⟩]
   refine ⟨_,rfl,?_⟩
   have:=fC.pure (TV.fH i.agg ((ws.drop off).take i.size))
   rw [kE,List.map_take,List.map_drop] at this
   exact this
  ·cases h
 ·rename_i i g n off ht hx
  have hx':aW (f x)=.v (.one (.ep g (.int .i64 n) off)):=by rw [hx];rfl
  split at h
  ·rename_i fz a i' e l hg
   obtain ⟨hb,h⟩:=bH h
   simp only [Option.some.injEq] at h;subst h
   obtain ⟨hb,h3⟩:=fV hb
   obtain ⟨h1,h2⟩:=fV hb
   have h1:=Nat.le_of_ble_eq_true h1
   simp only [kernel,ht,hx',gB hg]
   rw [if_pos ⟨h1,H8 h2⟩]
   refine ⟨_,rfl,⟨fun _=>trivial,?_,rfl,rfl⟩⟩
   simp only [E5.pure,kE]
   congr 1
   have en:(P.int .i64 n).nat=n.toNat:=rfl
   rw [en]
   exact MZ e l n.toNat off i.size i.zero h1 h3 a i'
  ·cases h
 ·rename_i i a i' e x' off ht hx
  have hx':aW (f x)=.v (.one (.sp a i' (jw e x') off)):=by rw [hx];rfl
  obtain ⟨hb,h⟩:=bH h
  simp only [Option.some.injEq] at h;subst h
  obtain ⟨h1,h2⟩:=fV hb
  have h2:=Nat.le_of_ble_eq_true h2
  simp only [kernel,ht,hx']
  rw [if_pos (H8 h1)]
  refine ⟨_,rfl,⟨fun _=>by rw [Ht];exact h2,?_,rfl,rfl⟩⟩
  simp only [qG.pure,kE]
  congr 1
  exact wZ e x' a i' off i.size h2 fun _=>default
 ·cases h
theorem bJ (g:Nat) :∀(l:List Nat),fB g l=l.contains g
 | []=>rfl
 |x::xs=>by
  simp only [fB,List.contains_cons,bJ g xs]
  congr 1
  rw [Bool.eq_iff_iff];simp
theorem acn (e:Ty) (l:List (Dt e)) (n:Nat) (x:Dt e):aB e (l.set n x)=(aB e l).set n (jw e x):=by simp [aB,List.map_set]
theorem Zj (t:TypeId) (x y:Operand):gq tt ety d o f (.store t x y) ty:=by
 intro r h
 simp only [dH] at h
 split at h
 ·rename_i i g off y' ht hx hy
  have hx':aW (f x)=.v (.one (.box g off)):=by rw [hx];rfl
  have hy':aW (f y)=.v (jk y'):=by rw [hy];rfl
  split at h
  ·rename_i ws hg
   obtain ⟨hb,h⟩:=bH h
   simp only [Option.some.injEq] at h;subst h
   obtain ⟨hb,h3⟩:=fV hb
   obtain ⟨h1,h2⟩:=fV hb
   simp only [kernel,ht,hx',hy',nS hg,List.length_map,tq]
   rw [if_pos ⟨Nat.le_of_ble_eq_true h1,Nat.eq_of_beq_eq_true h2,tu _ h3⟩]
   refine ⟨_,rfl,⟨fun _=>trivial,rfl,?_,rfl⟩⟩
   simp only [h_,List.map_cons,List.map_nil,dP,oV]
  ·cases h
 ·rename_i i g n off y' ht hx hy
  have hx':aW (f x)=.v (.one (.ep g (.int .i64 n) off)):=by rw [hx];rfl
  have hy':aW (f y)=.v (jk y'):=by rw [hy];rfl
  split at h
  ·rename_i a i' e l hg
   split at h
   ·rename_i ps a' i'' gs hp
    obtain ⟨hb,h⟩:=bH h
    simp only [Option.some.injEq] at h;subst h
    obtain ⟨hb,h4⟩:=fV hb
    obtain ⟨hb,h3⟩:=fV hb
    obtain ⟨h1,h2⟩:=fV hb
    have h1:=Nat.le_of_ble_eq_true h1
    have h2:=Nat.eq_of_beq_eq_true h2
    obtain ⟨k1,k2⟩:=wY hp
    have hl:ps.length=i.size:=by
     have:=congrArg List.length k2
     simp [iR] at this
     omega
    simp only [kernel,ht,hx',hy',gB hg,tq,k1,List.length_map]
    rw [if_pos ⟨h1,hl,h2,tu _ h3,by simpa [bJ] using h4⟩]
    refine ⟨_,rfl,⟨fun _=>trivial,rfl,?_,rfl⟩⟩
    simp only [kF,←oz (MW hp)]
    congr 1
    simp only [P.list,h_,List.map_cons,List.map_nil,dP,acn]
    have en:(P.int .i64 n).nat=n.toNat:=rfl
    rw [en]
    by_cases hn:n.toNat<l.length
    ·have e1:(aB e l).getD n.toNat []=jw e (l.getD n.toNat (dflt e)):=by simp [aB,List.getD_eq_getElem?_getD,hn]
     have hty:(aH (eU e (l.getD n.toNat (dflt e))) off ps).map (·.t)=iE e:=by
      have e0:iE e=(iE e).take off++(((iE e).drop off).take i.size++(iE e).drop (off+i.size)):=by
       rw [←List.drop_drop,List.take_append_drop,List.take_append_drop]
      simp only [aH,List.map_append,List.map_take,List.map_drop,pX,k2,hl,List.append_assoc]
      exact e0.symm
     have key:jw e (JC e (Nat.beq i.size (size e)) (l.getD n.toNat (dflt e)) off ps)=aH ((aB e l).getD n.toNat []) off (ps.map bU):=by
      rw [e1]
      unfold JC
      cases hc:Nat.beq i.size (size e) with
      |true=>
       have hc:=Nat.eq_of_beq_eq_true hc
       have h0:off=0:=by omega
       subst h0
       have e2:aH (eU e (l.getD n.toNat (dflt e))) 0 ps=ps:=by
        simp only [aH,List.take_zero,List.nil_append,Nat.zero_add]
        rw [List.drop_of_length_le (by rw [o9];omega),List.append_nil]
       have e3:aH (jw e (l.getD n.toNat (dflt e))) 0 (ps.map bU)=ps.map bU:=by
        rw [fQ,←oV,e2]
       rw [e2] at hty
       rw [e3]
       exact qR hty
      |false=>
       simp only
       rw [qR hty,oV,←fQ]
     rw [key]
    ·have e1 :∀z,(aB e l).set n.toNat z=aB e l:=fun z=>List.set_eq_of_length_le (by rw [eP];omega)
     rw [e1,e1]
   ·cases h
  ·cases h
 ·cases h
theorem Pv (x:Operand):gq tt ety d o f (.nilCheck x) ty:=by
 intro r h
 simp only [dH] at h
 split at h
 ·rename_i x' hx
  obtain ⟨hb,h⟩:=bH h
  simp only [Option.some.injEq] at h;subst h
  have hx':aW (f x)=.v (.one (bP x')):=by rw [hx];rfl
  simp only [kernel,hx']
  rw [if_pos (H6 hb)]
  exact ⟨_,rfl,fC.pure _⟩
 ·cases h
theorem SG {op:BinOp} {k k':IntKind} {a b:Int} {c:Bool×Wd} (h:SA op k k' a b=some c):(c.1=true→P.Ob op (.int k a) (.int k' b))∧P.bin op (.int k a) (.int k' b)=bU c.2:=by
 unfold SA at h
 cases op<;>simp only at h
 case shl=>simp only [Option.some.injEq] at h;subst h;exact ⟨fun h=>(by simpa using h:0≤b),rfl⟩
 case shr=>simp only [Option.some.injEq] at h;subst h;exact ⟨fun h=>(by simpa using h:0≤b),rfl⟩
 all_goals
  split at h
  ·cases h
  ·rename_i p hp
   obtain ⟨e⟩:=p
   subst e
   simp only [Option.some.injEq] at h
   first
    |(cases h;done)
    |(
      
      subst h
      refine ⟨fun h => ?_,?_⟩
      ·first
       |exact rfl
       |(simp at h;exact ⟨rfl,h⟩)
      ·first
       |rfl
       |(simp only [P.bin,iC,Zf];congr 1))
theorem Xm (a b:List UInt8):(⟨a.toArray⟩++⟨b.toArray⟩:ByteArray)=⟨(a++b).toArray⟩:=by
 apply ByteArray.ext;simp [ByteArray.data_append]
theorem CY (a:List UInt8):(⟨a.toArray⟩:ByteArray).toList=a:=by rw [ByteArray.toList_eq]
theorem SH {op:BinOp} {a b:List UInt8} {c:Bool×Wd} (h:SB op a b=some c):(c.1=true→P.Ob op (.str ⟨a.toArray⟩) (.str ⟨b.toArray⟩))∧P.bin op (.str ⟨a.toArray⟩) (.str ⟨b.toArray⟩)=bU c.2:=by
 unfold SB at h
 cases op<;>simp only [Option.some.injEq] at h<;>try (cases h;done)
 all_goals subst h
 case add=>
  refine ⟨fun h => ?_,?_⟩
  ·simp only [nP] at h
   show a.toArray.size+b.toArray.size≤_
   simp only [List.size_toArray];omega
  ·simp only [P.bin,Xm];rfl
 all_goals exact ⟨fun _=>trivial,by simp only [P.bin,CY];rfl⟩
theorem Px {op:BinOp} {a b:Bool} {c:Bool×Wd} (h:MR op a b=some c):(c.1=true→P.Ls op (.bool a) (.bool b))∧P.bin op (.bool a) (.bool b)=bU c.2:=by
 unfold MR at h
 cases op<;>simp only [Option.some.injEq] at h<;>try (cases h;done)
 all_goals subst h
 ·exact ⟨fun _=>.inl rfl,rfl⟩
 ·exact ⟨fun _=>.inr rfl,rfl⟩
theorem fC.nR {c:Bool×Wd} {pre:Prop} {x:P} (h:c.1=true→pre) (hx:x=bU c.2):fC (.nR c) (.calc pre x):=by
 subst hx
 obtain ⟨c1,t,y⟩:=c
 exact ⟨h,rfl,rfl,rfl⟩
theorem aco (a b:List UInt8):P.eqB (.str ⟨a.toArray⟩) (.str ⟨b.toArray⟩)=(a==b):=by
 show ((⟨a.toArray⟩:ByteArray)==⟨b.toArray⟩)=_
 rw [beq_toListBytes,CY,CY]
theorem Zk {k:TK} {x y:Wd} {b:Bool} (h:af2 k x y=some b):Uw k (bU x) (bU y)∧P.eqB (bU x) (bU y)=b:=by
 unfold af2 at h
 split at h
 ·unfold ae5 at h
  split at h
  ·rename_i p hp
   obtain ⟨e⟩:=p
   subst e
   simp only [Option.some.injEq] at h;subst h
   exact ⟨rfl,rfl⟩
  ·cases h
 ·rename_i a b'
  simp only [eqStr,Option.some.injEq] at h;subst h
  exact ⟨trivial,aco a b'⟩
 ·simp only [ait,Option.some.injEq] at h;subst h
  exact ⟨trivial,rfl⟩
 ·cases h
theorem Py {tt:TT} :∀(fs:List (Nat×TypeId)) (n:Nat) (xs ys:List TW) (b:Bool),Fb tt n fs xs ys=some b→∃c,mM tt n fs (xs.map bP) (ys.map bP)=some c∧c.1∧c.2=b
 | [],n,[],[],b,h=>by
  simp only [Fb,Option.some.injEq] at h;subst h
  exact ⟨(True,true),rfl,trivial,rfl⟩
 |(off,t)::fs,n,x::xs,y::ys,b,h=>by
  cases x with
  |p a1 i1 x=>cases y with
   |p a2 i2 y=>
    simp only [Fb] at h
    split at h
    ·rename_i i hi
     cases hb:(Nat.beq off n&&i.k.flat&&Nat.beq i.size 1) with
     |false=>rw [hb] at h;cases h
     |true=>
      rw [hb] at h
      simp only [cond_true] at h
      split at h
      ·rename_i b1 b2 h1 h2
       simp only [Option.some.injEq] at h;subst h
       obtain ⟨c,e1,e2,e3⟩:=Py fs (n+1) xs ys b2 h2
       obtain ⟨q1,q2⟩:=Zk h1
       simp only [Bool.and_eq_true] at hb
       have hoff:off=n∧i.k.flat=true∧i.size=1:=⟨Nat.eq_of_beq_eq_true hb.1.1,hb.1.2,Nat.eq_of_beq_eq_true hb.2⟩
       refine ⟨(Uw i.k (bU x) (bU y)∧c.1,P.eqB (bU x) (bU y)&&c.2),?_,⟨q1,e2⟩,by rw [q2,e3]⟩
       simp only [List.map_cons,bP,mM,hi]
       rw [if_pos hoff,e1]
      ·cases h
    ·cases h
   |_=>simp [Fb] at h
  |_=>simp [Fb] at h
 | [],n,_::_,_,b,h=>by simp [Fb] at h
 | [],n,[],_::_,b,h=>by simp [Fb] at h
 |_::_,n,[],_,b,h=>by simp [Fb] at h
 |_::_,n,x::xs,[],b,h=>by cases x<;>simp [Fb] at h
theorem Zl (op:BinOp) (t:TypeId) (x y:Operand) (u:TypeId):gq tt ety d o f (.binOp op t x y u) ty:=by
 intro r h
 simp only [dH] at h
 split at h
 ·rename_i a1 i1 x' a2 i2 y' hx hy
  have hx':aW (f x)=.v (.one (.p a1 i1 (bU x'))):=by rw [hx];rfl
  have hy':aW (f y)=.v (.one (.p a2 i2 (bU y'))):=by rw [hy];rfl
  split at h
  ·rename_i i ht
   split at h
   ·rename_i c hc
    simp only [Option.some.injEq] at h;subst h
    obtain ⟨ik,isz,ib,iz⟩:=i
    simp only at hc
    unfold ais at hc
    split at hc
    ·obtain ⟨k1,k2⟩:=SG hc
     simp only [kernel,hx',hy',ht]
     exact ⟨_,rfl,fC.nR k1 k2⟩
    ·obtain ⟨k1,k2⟩:=SH hc
     simp only [kernel,hx',hy',ht]
     exact ⟨_,rfl,fC.nR k1 k2⟩
    ·obtain ⟨k1,k2⟩:=Px hc
     simp only [kernel,hx',hy',ht]
     exact ⟨_,rfl,fC.nR k1 k2⟩
    ·cases hc
   ·cases h
  ·cases h
 ·rename_i xs ys hx hy
  have hx':aW (f x)=.v (.agg (xs.map bP)):=by rw [hx];rfl
  have hy':aW (f y)=.v (.agg (ys.map bP)):=by rw [hy];rfl
  split at h
  ·rename_i i ht
   have key :∀{b q:Bool} {v:Bool},Fb tt 0 i.k.parts xs ys=some b→abV op=some q→i.eq=true→v=(b==q)→∃r',kernel tt d (bQ o) (fun a=>aW (f a)) (.binOp op t x y u) ty=some r'∧fC (.nR (true,iC v)) r':=by
    intro b q v h1 h2 h3 h4
    obtain ⟨c,e1,e2,e3⟩:=Py _ _ _ _ _ h1
    simp only [kernel,hx',hy',ht,e1,h2]
    rw [if_pos h3]
    exact ⟨_,rfl,fC.nR (fun _=>e2) (by rw [e3,h4];rfl)⟩
   split at h
   ·rename_i b h1 h2
    cases h3:i.eq with
    |false=>rw [h3] at h;cases h
    |true=>
     rw [h3] at h
     simp only [cond_true,Option.some.injEq] at h;subst h
     exact key (v:=b) h1 h2 h3 (by cases b<;>rfl)
   ·rename_i b h1 h2
    cases h3:i.eq with
    |false=>rw [h3] at h;cases h
    |true=>
     rw [h3] at h
     simp only [cond_true,Option.some.injEq] at h;subst h
     exact key (v:=!b) h1 h2 h3 (by cases b<;>rfl)
   ·cases h
  ·cases h
 ·cases h
theorem acp (op:UnOp) (t:TypeId) (x:Operand):gq tt ety d o f (.unOp op t x) ty:=by
 intro r h
 simp only [dH] at h
 split at h
 ·rename_i a1 i1 x' hx
  have hx':aW (f x)=.v (.one (.p a1 i1 (bU x'))):=by rw [hx];rfl
  split at h
  ·rename_i c hc
   simp only [Option.some.injEq] at h;subst h
   simp only [kernel,hx']
   unfold unT at hc
   split at hc
   ·simp only [Option.some.injEq] at hc;subst hc
    exact ⟨_,rfl,fC.nR (fun _=>trivial) rfl⟩
   ·simp only [Option.some.injEq] at hc;subst hc
    exact ⟨_,rfl,fC.nR (fun _=>trivial) rfl⟩
   ·cases hc
  ·cases h
 ·cases h
theorem SI (s t:TypeId) (x:Operand):gq tt ety d o f (.convert s t x) ty:=by
 intro r h
 simp only [dH] at h
 split at h
 ·rename_i k0 s0 b0 z0 k s1 b1 z1 a1 i1 k2 x' hs ht hx
  have hx':aW (f x)=.v (.one (.p a1 i1 (.int k2 x'))):=by rw [hx];rfl
  simp only [Option.some.injEq] at h;subst h
  simp only [kernel,hs,ht,hx']
  exact ⟨_,rfl,⟨fun _=>trivial,rfl,rfl,rfl⟩⟩
 ·rename_i e s0 b0 z0 s1 b1 z1 x' hs ht hx
  have hx':aW (f x)=.v (.one (bP x')):=by rw [hx];rfl
  split at h
  ·rename_i s2 b2 z2 he
   split at h
   ·rename_i l a1 i1 hr
    simp only [Option.some.injEq] at h;subst h
    obtain ⟨ask,hr',hask⟩:=Pq hr
    have hr':(bP x').rows (bQ o) 1=some (ask,aB (.int .u8) l,a1,i1):=hr'
    simp only [kernel,hs,ht,hx',he,hr']
    refine ⟨_,rfl,⟨fun _=>⟨hask,fun r hr => ?_⟩,?_,rfl,rfl⟩⟩
    ·simp only [aB,List.mem_map] at hr
     obtain ⟨n,_,rfl⟩:=hr
     exact ⟨n,rfl⟩
    ·have e:F6 (aB (.int .u8) l)=bU ⟨.str,strOf l⟩:=by
      show P.str _=P.str _
      congr 2
      simp only [aB,List.map_map,strOf]
      congr 1
     show S.v (V.one (W.p false false (F6 (aB (.int .u8) l))))=_
     rw [e];rfl
   ·cases h
  ·cases h
 ·rename_i s0 b0 z0 e s1 b1 z1 a1 i1 x' hs ht hx
  change List UInt8 at x'
  have hx':aW (f x)=.v (.one (.p a1 i1 (.str ⟨x'.toArray⟩))):=by rw [hx];rfl
  split at h
  ·rename_i s2 b2 z2 he
   simp only [Option.some.injEq] at h;subst h
   simp only [kernel,hs,ht,hx',he]
   refine ⟨_,rfl,⟨fun _=>trivial,?_,rfl,rfl⟩⟩
   have e:Lu (.str ⟨x'.toArray⟩)=bU ⟨.sl (.int .u8),af0 x'⟩:=by
    show P.fF 1 _=P.fF 1 _
    have key :∀l:List UInt8,(l.map fun b=>[P.int .u8 (b.toNat:Int)])=aB (.int .u8) (af0 l):=by
     intro l
     induction l with
     |nil=>rfl
     |cons a l ih=>exact congrArg (List.cons _) ih
    exact congrArg (P.fF 1) (key x')
   show S.v (V.one (W.p false false (Lu (.str ⟨x'.toArray⟩))))=_
   rw [e];rfl
  ·cases h
 ·cases h
end
end Go.Fg

namespace Go.Fg
open Go.Fw
set_option linter.unusedVariables false
set_option linter.unusedSectionVars false
set_option linter.unusedSimpArgs false
section
variable [RE] {o:Nat→TO} {tt:TT} {ety:TypeId→Option Ty} {d:Nat} {f:Operand→TS} {ty:TypeId}
theorem w_ {k:IntKind} {n:Int} {m:Nat} (h:inB n m=true):inRange (.int k n) m:=by
 simp only [inB,Bool.and_eq_true,decide_eq_true_eq] at h;exact h
theorem M_ (t:TypeId) (n c:Operand):gq tt ety d o f (.makeSlice t n c) ty:=by
 intro r h
 simp only [dH] at h
 split at h
 ·rename_i e i1 i2 i3 a1 j1 n' a2 j2 c' ht hn hc
  change Int at n';change Int at c'
  have hn':aW (f n)=.v (.one (.p a1 j1 (.int .i64 n'))):=by rw [hn];rfl
  have hc':aW (f c)=.v (.one (.p a2 j2 (.int .i64 c'))):=by rw [hc];rfl
  split at h
  ·rename_i ie et he het
   split at h
   ·rename_i ps hp
    obtain ⟨hb,h⟩:=bH h
    simp only [Option.some.injEq] at h;subst h
    obtain ⟨h1,h2⟩:=fV hb
    obtain ⟨k1,k2⟩:=wY hp
    have hsz:=Nat.eq_of_beq_eq_true h2
    rw [qV] at k1
    simp only [kernel,ht,hn',hc',he,k1]
    rw [if_pos (H8 h1)]
    refine ⟨_,rfl,⟨fun hp => ?_,rfl,?_,rfl⟩⟩
    ·simp only [vP,Bool.and_eq_true,decide_eq_true_eq] at hp
     obtain ⟨⟨⟨p1,p2⟩,p3⟩,p4⟩:=hp
     refine ⟨n'.toNat,c'.toNat,by rw [Int.toNat_of_nonneg p1],by rw [Int.toNat_of_nonneg (by omega)],by omega,?_,by omega⟩
     have e:((ie.bytes*c'.toNat:Nat):Int)=ie.bytes*c':=by rw [Int.natCast_mul,Int.toNat_of_nonneg (by omega)]
     omega
    ·simp only [P.list,h_,List.map_cons,List.map_nil,dP,hsz]
     have en:(P.int .i64 n').nat=n'.toNat:=rfl
     rw [en]
     simp only [aB,List.map_replicate]
     rw [qR k2]
   ·cases h
  ·cases h
 ·cases h
theorem ni {df:Int} {lo:Option Operand} {m:Int} (h:lW df (lo.map f)=some m):mO (.int .i64 df) (lo.map fun x=>aW (f x))=some (.int .i64 m):=by
 cases lo with
 |none=>simp only [Option.map_none,lW,Option.some.injEq] at h;subst h;rfl
 |some x=>
  simp only [Option.map_some] at h ⊢
  unfold lW at h
  split at h
  ·rename_i hh;cases hh
  ·rename_i hh
   simp only [Option.some.injEq] at hh
   cases h
   rw [hh];rfl
  ·cases h
theorem tC {lo hi:Int} {len:Nat} (h:CQ lo hi len=true) :∃m k:Nat,P.int .i64 lo=.int .i64 m∧P.int .i64 hi=.int .i64 k∧m≤k∧k≤len:=by
 simp only [CQ,Bool.and_eq_true,decide_eq_true_eq] at h
 exact ⟨lo.toNat,hi.toNat,by rw [Int.toNat_of_nonneg (by omega)],by rw [Int.toNat_of_nonneg (by omega)],by omega,by omega⟩
theorem SK (y:List UInt8) (a b:Nat):(⟨y.toArray⟩:ByteArray).extract a b=⟨((y.take b).drop a).toArray⟩:=by
 apply ByteArray.ext
 simp [ByteArray.data_extract,List.drop_take]
theorem Xn (t:TypeId) (x hi mx:Operand):gq tt ety d o f (.slice t x none (some hi) (some mx)) ty:=by
 intro r h
 simp only [dH] at h
 unfold UR at h
 split at h
 ·rename_i e i1 i2 i3 g a1 j1 h' a2 j2 m' ht hx hh hm
  change Int at h';change Int at m'
  have hx':aW (f x)=.v (.one (.own g)):=by rw [hx];rfl
  have hh':aW (f hi)=.v (.one (.p a1 j1 (.int .i64 h'))):=by rw [hh];rfl
  have hm':aW (f mx)=.v (.one (.p a2 j2 (.int .i64 m'))):=by rw [hm];rfl
  split at h
  ·rename_i ie a i e' l he hg
   obtain ⟨hb,h⟩:=bH h
   simp only [Option.some.injEq] at h;subst h
   have hg':bQ o g=.arr false a i (size e') (aB e' l):=by unfold bQ;rw [hg];rfl
   simp only [kernel,Ag,ht,hx',hh',hm',he,hg']
   rw [if_pos (Nat.eq_of_beq_eq_true hb)]
   refine ⟨_,rfl,⟨fun hp => ?_,rfl,rfl,rfl⟩⟩
   obtain ⟨k,j,q1,q2,q3,q4⟩:=tC hp
   exact ⟨k,j,q1,q2,q3,by rw [eP];exact q4⟩
  ·cases h
 ·rename_i e i1 i2 i3 a1 j1 h' a2 j2 m' ht hx hh hm
  change Int at h';change Int at m'
  have hx':aW (f x)=.v (.one .bY):=by rw [hx];rfl
  have hh':aW (f hi)=.v (.one (.p a1 j1 (.int .i64 h'))):=by rw [hh];rfl
  have hm':aW (f mx)=.v (.one (.p a2 j2 (.int .i64 m'))):=by rw [hm];rfl
  split at h
  ·rename_i ie he
   simp only [Option.some.injEq] at h;subst h
   simp only [kernel,Ag,ht,hx',hh',hm',he]
   refine ⟨_,rfl,⟨fun hp => ?_,rfl,rfl,rfl⟩⟩
   obtain ⟨k,j,q1,q2,q3,q4⟩:=tC hp
   have hj:j=0:=by omega
   have hk:k=0:=by omega
   subst hj;subst hk
   exact ⟨q1,q2⟩
  ·cases h
 ·cases h
theorem Zm (args:Array Operand) (ts:Array TypeId):gq tt ety d o f (.call { callee:=.builtin .clear,args:=args,argTypes:=ts }) ty:=by
 intro r h
 simp only [dH] at h
 split at h
 ·rename_i x t tl ha hts
  unfold Za at h
  split at h
  ·rename_i e i1 i2 i3 g lo hi ht hx
   change Int at lo;change Int at hi
   have hx':aW (f x)=.v (.one (.vw g (.int .i64 lo) (.int .i64 hi))):=by rw [hx];rfl
   split at h
   ·rename_i ie a i et l he hg
    obtain ⟨hb,h⟩:=bH h
    split at h
    ·rename_i ps hp
     simp only [Option.some.injEq] at h;subst h
     obtain ⟨h1,h2⟩:=fV hb
     obtain ⟨k1,k2⟩:=wY hp
     have hsz:=Nat.eq_of_beq_eq_true h1
     rw [qV] at k1
     have hg':bQ o g=.arr false a i (size et) (aB et l):=by unfold bQ;rw [hg];rfl
     simp only [kernel,ha,hts,LC,ht,hx',he,hg',k1]
     rw [if_pos ⟨hsz,by rw [hsz];exact H8 h2⟩]
     refine ⟨_,rfl,⟨fun hp=>Nat.le_of_ble_eq_true hp,rfl,?_,rfl⟩⟩
     simp only [P.list,h_,List.map_cons,List.map_nil,dP]
     have e1:(P.int .i64 lo).nat=lo.toNat:=rfl
     have e2:(P.int .i64 hi).nat=hi.toNat:=rfl
     rw [e1,e2]
     simp only [aB,air,aH,List.map_append,List.map_take,List.map_drop,List.map_replicate,List.length_replicate]
     rw [qR k2]
    ·cases h
   ·cases h
  ·cases h
 ·cases h
theorem Zn (t:TypeId) (x:Operand) (lo hi:Option Operand):gq tt ety d o f (.slice t x lo hi none) ty:=by
 intro r h
 simp only [dH] at h
 split at h
 ·rename_i e i1 i2 i3 x' ht hx
  have hx':aW (f x)=.v (.one (bP x')):=by rw [hx];rfl
  split at h
  ·rename_i ie et len he het hlen
   split at h
   ·rename_i lo' hi' hlo hhi
    obtain ⟨ask,hl,hask⟩:=UU hlen
    have Gj:=ni hlo
    have zf:=ni hhi
    have en0:kZ 0=P.int .i64 0:=rfl
    simp only [kernel,ht,hx',he,hl,en0,Gj,zf]
    split at h
    ·rename_i g
     split at h
     ·rename_i e' l hg
      obtain ⟨hb,h⟩:=bH h
      simp only [Option.some.injEq] at h;subst h
      simp only [bP,oq hg]
      rw [if_pos (Nat.eq_of_beq_eq_true hb)]
      refine ⟨_,rfl,⟨fun hp => ?_,rfl,rfl,rfl⟩⟩
      exact tC hp
     ·cases h
    ·rename_i a i w
     split at h
     ·rename_i l hl'
      change List (Dt et) at l
      obtain ⟨hb,h⟩:=bH h
      simp only [Option.some.injEq] at h;subst h
      have hsz:=Nat.eq_of_beq_eq_true hb
      simp only [bP]
      refine ⟨_,rfl,⟨fun hp=>⟨hask,?_,?_⟩,?_,rfl,rfl⟩⟩
      ·rw [f_ hl',←hsz];exact HY _ _
      ·rw [f_ hl',iL,eP];exact tC hp
      ·rw [f_ hl']
       show S.v (V.one (W.p a i (P.sub ie.size (P.int .i64 lo').nat (P.int .i64 hi').nat (bU ⟨.sl et,l⟩))))=S.v (V.one (W.p a i (bU ⟨.sl et,List.drop lo'.toNat (List.take hi'.toNat l)⟩)))
       rw [P.sub,iL,qU,←hsz];rfl
     ·cases h
    ·simp only [Option.some.injEq] at h;subst h
     simp only [bP]
     refine ⟨_,rfl,⟨fun hp => ?_,rfl,rfl,rfl⟩⟩
     obtain ⟨h1,h2⟩:=fV hp
     have h1:lo'=0:=by simpa using h1
     have h2:hi'=0:=by simpa using h2
     subst h1;subst h2;exact ⟨rfl,rfl⟩
    ·cases h
   ·cases h
  ·cases h
 ·rename_i s0 b0 z0 a1 i1 y ht hx
  have hx':aW (f x)=.v (.one (.p a1 i1 (.str ⟨y.toArray⟩))):=by rw [hx];rfl
  change List UInt8 at y
  split at h
  ·rename_i lo' hi' hlo hhi
   simp only [Option.some.injEq] at h;subst h
   have Gj:=ni hlo
   have zf:=ni hhi
   have en0:kZ 0=P.int .i64 0:=rfl
   have el:(P.str ⟨y.toArray⟩).len=P.int .i64 (y.length:Nat):=by show P.int .i64 (y.toArray.size:Nat)=_;simp
   simp only [kernel,ht,hx',en0,el,Gj,zf]
   refine ⟨_,rfl,⟨fun hp=>⟨trivial,?_⟩,?_,rfl,rfl⟩⟩
   ·have:=tC hp
    simpa [P.bytes,ByteArray.size] using this
   ·show S.v (V.one (W.p false false (P.str ((⟨y.toArray⟩:ByteArray).extract lo'.toNat hi'.toNat))))=S.v (V.one (W.p false false (P.str ⟨(List.drop lo'.toNat (List.take hi'.toNat y)).toArray⟩)))
    rw [SK]
  ·cases h
 ·cases h
theorem Na (t:TypeId) (x:Operand) (n:Nat):gq tt ety d o f (.fieldAddr t x n) ty:=by
 intro r h
 simp only [dH] at h
 split at h
 ·rename_i fs i1 i2 i3 off' sz' x' ht hp hx
  have hx':aW (f x)=.v (.one (bP x')):=by rw [hx];rfl
  obtain ⟨hb,h⟩:=bH h
  simp only [Option.some.injEq] at h;subst h
  obtain ⟨h1,h2⟩:=fV hb
  simp only [kernel,ht,hp,hx']
  rw [if_pos ⟨H8 h1,H6 h2⟩]
  refine ⟨_,rfl,?_⟩
  have:=fC.pure (.v (.one (x'.shift off')))
  simpa only [aW,jk,Kv] using this
 ·cases h
theorem Zo (t:TypeId) (x:Operand) (n:Nat):gq tt ety d o f (.field t x n) ty:=by
 intro r h
 simp only [dH] at h
 split at h
 ·rename_i fs i1 i2 i3 ws ht hx
  have hx':aW (f x)=.v (.agg (ws.map bP)):=by rw [hx];rfl
  split at h
  ·rename_i off u hf
   split at h
   ·rename_i iu hu
    obtain ⟨hb,h⟩:=bH h
    simp only [Option.some.injEq] at h;subst h
    obtain ⟨h1,h2⟩:=fV hb
    simp only [kernel,ht,hx',hf,hu,List.length_map]
    rw [if_pos ⟨Nat.le_of_ble_eq_true h1,H8 h2⟩]
    refine ⟨_,rfl,?_⟩
    have:=fC.pure (TV.fH iu.agg ((ws.drop off).take iu.size))
    rw [kE,List.map_take,List.map_drop] at this
    exact this
   ·cases h
  ·cases h
 ·cases h
theorem Nb (t:TypeId) (x ix:Operand):Zd tt ety d o f (.indexAddr t x ix) ty:=by
 intro r h
 simp only [dH] at h
 split at h
 ·rename_i e i1 i2 i3 x' a1 j1 k n ht hx hn
  change Int at n
  have hx':aW (f x)=.v (.one (bP x')):=by rw [hx];rfl
  have hn':aW (f ix)=.v (.one (.p a1 j1 (.int k n))):=by rw [hn];rfl
  have en:(P.int k n).nat=n.toNat:=rfl
  split at h
  ·rename_i ie et g he het
   split at h
   ·rename_i e' l hg
    obtain ⟨hb,h⟩:=bH h
    simp only [Option.some.injEq] at h;subst h
    simp only [kernel,ht,hx',hn',he,bP,oq hg]
    rw [if_pos (Nat.eq_of_beq_eq_true hb)]
    refine ⟨_,rfl,fC.toC ⟨fun hp => ?_,rfl,rfl,rfl⟩⟩
    exact w_ (k:=k) hp
   ·cases h
  ·rename_i ie et g lo hi he het
   split at h
   ·rename_i e' l hg
    obtain ⟨hb,h⟩:=bH h
    simp only [Option.some.injEq] at h;subst h
    simp only [kernel,ht,hx',hn',he,bP,oq hg]
    rw [if_pos (Nat.eq_of_beq_eq_true hb)]
    exact ⟨_,rfl,fC.toC ⟨fun hp=>w_ (k:=k) hp,rfl,rfl,rfl⟩⟩
   ·cases h
  ·rename_i ie et a i w he het
   split at h
   ·rename_i l hl
    change List (Dt et) at l
    obtain ⟨hb,h⟩:=bH h
    simp only [Option.some.injEq] at h;subst h
    have hsz:=Nat.eq_of_beq_eq_true hb
    simp only [kernel,ht,hx',hn',he,bP]
    refine ⟨_,rfl,⟨fun hp=>⟨fun _=>⟨?_,?_⟩,?_,rfl,rfl⟩,rfl⟩⟩
    ·rw [f_ hl,←hsz];exact HY _ _
    ·rw [f_ hl,iL,eP];exact w_ (k:=k) hp
    ·have hlt:n.toNat<l.length:=by
      have hp:inB n l.length=true:=hp
      simp only [inB,Bool.and_eq_true,decide_eq_true_eq] at hp;omega
     rw [f_ hl]
     show S.v (V.one (W.sp a i ((bU ⟨.sl et,l⟩).list.getD (P.int k n).nat []) 0))=S.v (V.one (W.sp a i (jw et (List.getD l n.toNat (dflt et))) 0))
     rw [iL,en]
     simp [aB,List.getD_eq_getElem?_getD,hlt]
   ·cases h
  ·cases h
 ·rename_i m e i1 i2 i3 g a1 j1 k n ht hx hn
  change Int at n
  have hx':aW (f x)=.v (.one (.gl g)):=by rw [hx];rfl
  have hn':aW (f ix)=.v (.one (.p a1 j1 (.int k n))):=by rw [hn];rfl
  split at h
  ·rename_i ie et l he hg
   obtain ⟨hb,h⟩:=bH h
   simp only [Option.some.injEq] at h;subst h
   obtain ⟨h1,h2⟩:=fV hb
   have h1:=Nat.eq_of_beq_eq_true h1
   have h2:=Nat.eq_of_beq_eq_true h2
   simp only [kernel,ht,hx',hn',he,ae4,hg,Option.map_some]
   rw [if_pos ⟨h1,by rw [List.length_map];exact h2⟩]
   refine ⟨_,rfl,⟨fun hp=>⟨fun _=>w_ (k:=k) hp,?_,rfl,rfl⟩,rfl⟩⟩
   have hlt:n.toNat<l.length:=by
    have hp:inB n m=true:=hp
    simp only [inB,Bool.and_eq_true,decide_eq_true_eq] at hp;omega
   show S.v (V.one (W.sp false false ((List.map (jw et) l).getD (P.int k n).nat []) 0))=S.v (V.one (W.sp false false (jw et (List.getD l n.toNat (dflt et))) 0))
   have en:(P.int k n).nat=n.toNat:=rfl
   rw [en]
   simp [List.getD_eq_getElem?_getD,hlt]
  ·cases h
 ·rename_i m e i1 i2 i3 x' a1 j1 k n hng ht hx hn
  change Int at n
  have hx':aW (f x)=.v (.one (bP x')):=by rw [hx];rfl
  have hn':aW (f ix)=.v (.one (.p a1 j1 (.int k n))):=by rw [hn];rfl
  split at h
  ·rename_i ie he
   obtain ⟨hb,h⟩:=bH h
   simp only [Option.some.injEq] at h;subst h
   obtain ⟨h1,h2⟩:=fV hb
   simp only [inB,Bool.and_eq_true,decide_eq_true_eq] at h1
   have hl:=H6 h2
   have key :∃r',kernel tt d (bQ o) (fun x=>aW (f x)) (.indexAddr t x ix) ty=some r'∧r'=.pure (.v (.one ((bP x').shift (n.toNat*ie.size)))):=by
    cases x'<;>first
     |(cases h2;done)
     |(
       simp only [bP] at hx' hl ⊢
       simp only [kernel,ht,hx',hn',he]
       rw [if_pos ⟨h1.1,h1.2,hl⟩]
       exact ⟨_,rfl,rfl⟩)
   obtain ⟨r',e1,rfl⟩:=key
   refine ⟨_,e1,fC.toC ?_⟩
   have:=fC.pure (.v (.one (x'.shift (n.toNat*ie.size))))
   simpa only [aW,jk,Kv] using this
  ·cases h
 ·cases h
theorem Zp (t:TypeId) (x ix:Operand):gq tt ety d o f (.index t x ix) ty:=by
 intro r h
 simp only [dH] at h
 split at h
 ·rename_i i1 i2 i3 a1 j1 s a2 j2 k n ht hx hn
  change List UInt8 at s;change Int at n
  have hx':aW (f x)=.v (.one (.p a1 j1 (.str ⟨s.toArray⟩))):=by rw [hx];rfl
  have hn':aW (f ix)=.v (.one (.p a2 j2 (.int k n))):=by rw [hn];rfl
  simp only [Option.some.injEq] at h;subst h
  simp only [kernel,ht,hx',hn']
  refine ⟨_,rfl,⟨fun hp=>⟨trivial,?_⟩,?_,rfl,rfl⟩⟩
  ·have:(P.str ⟨s.toArray⟩).bytes.size=s.length:=by show s.toArray.size=_;simp
   rw [this];exact w_ (k:=k) hp
  ·have:(s.toArray.getD n.toNat 0)=s.getD n.toNat 0:=by simp [Array.getD_eq_getD_getElem?,List.getD_eq_getElem?_getD]
   simp only [P.aeL,this];rfl
 ·cases h
theorem Zq (t:TypeId) (x:Operand):gq tt ety d o f (.range t x) ty:=by
 intro r h
 simp only [dH] at h
 split at h
 ·rename_i i1 i2 i3 a1 j1 s ht hx
  change List UInt8 at s
  have hx':aW (f x)=.v (.one (.p a1 j1 (.str ⟨s.toArray⟩))):=by rw [hx];rfl
  simp only [Option.some.injEq] at h;subst h
  simp only [kernel,ht,hx']
  exact ⟨_,rfl,⟨fun _=>trivial,rfl,rfl,rfl⟩⟩
 ·cases h
theorem SL (t:Operand) (n:Nat):gq tt ety d o f (.extract t n) ty:=by
 intro r h
 simp only [dH] at h
 split at h
 ·rename_i xs hx
  have hx':aW (f t)=.kT (xs.map jk):=by rw [hx];rfl
  split at h
  ·rename_i x hn
   simp only [Option.some.injEq] at h;subst h
   simp only [kernel,hx',List.getElem?_map,hn,Option.map_some]
   exact ⟨_,rfl,fC.pure _⟩
  ·cases h
 ·cases h
theorem Pz {F:Operand→Option TW} {G:Operand→Option W} (hFG :∀x w,F x=some w→G x=some (bP w)) :∀{xs:List Operand} {ws:List TW},xs.mapM F=some ws→xs.mapM G=some (ws.map bP)
 | [],ws,h=>by simp at h;subst h;rfl
 |x::xs,ws,h=>by
  simp only [List.mapM_cons,Option.bind_eq_bind,Option.bind_eq_some_iff] at h ⊢
  obtain ⟨w,hw,ws',hws,h⟩:=h
  cases h
  exact ⟨bP w,hFG x w hw,ws'.map bP,Pz hFG hws,rfl⟩
theorem PD (g:FuncId) (first caps:Array Operand):gq tt ety d o f (.makeFunc (.func g) first caps) ty:=by
 intro r h
 simp only [dH] at h
 obtain ⟨hb,h⟩:=bH h
 split at h
 ·rename_i ws hw
  simp only [Option.some.injEq] at h;subst h
  simp only [kernel]
  rw [if_pos (Nat.eq_of_beq_eq_true hb)]
  have key :∀{G:Operand→Option W},(∀x,G x=match aW (f x) with | .v (.one w)=>some w | _=>none)→caps.toList.mapM G=some (ws.map bP):=by
   intro G hG
   refine Pz (fun x w hx => ?_) hw
   rw [hG]
   split at hx
   ·rename_i hf;cases hx;rw [hf];rfl
   ·cases hx
  split
  ·rename_i ws' hw'
   have e:=hw'.symm.trans (key fun x=>rfl)
   simp only [Option.some.injEq] at e;subst e
   refine ⟨_,rfl,?_⟩
   have:=fC.pure (.v (.one (.clo g ws)))
   simpa only [aW,jk,bP,yt] using this
  ·rename_i hw'
   exact nomatch hw'.symm.trans (key fun x=>rfl)
 ·cases h
theorem af6 (args:Array Operand) (ts:Array TypeId):gq tt ety d o f (.call { callee:=.builtin .len,args:=args,argTypes:=ts }) ty:=by
 intro r h
 simp only [dH] at h
 split at h
 ·rename_i x t ha hts
  split at h
  ·rename_i e i1 i2 i3 x' ht hx
   have hx':aW (f x)=.v (.one (bP x')):=by rw [hx];rfl
   split at h
   ·rename_i n hn
    simp only [Option.some.injEq] at h;subst h
    obtain ⟨ask,hl,hask⟩:=UU hn
    simp only [kernel,ha,hts,ht,hx',hl]
    exact ⟨_,rfl,⟨fun _=>hask,rfl,rfl,rfl⟩⟩
   ·cases h
  ·rename_i i1 i2 i3 a1 j1 s ht hx
   change List UInt8 at s
   have hx':aW (f x)=.v (.one (.p a1 j1 (.str ⟨s.toArray⟩))):=by rw [hx];rfl
   simp only [Option.some.injEq] at h;subst h
   simp only [kernel,ha,hts,ht,hx']
   refine ⟨_,rfl,⟨fun _=>trivial,?_,rfl,rfl⟩⟩
   have:(P.str ⟨s.toArray⟩).len=.int .i64 s.length:=by show P.int .i64 (s.toArray.size:Nat)=_;simp
   simp only [this];rfl
  ·cases h
 ·cases h
theorem af7 (args:Array Operand) (ts:Array TypeId):gq tt ety d o f (.call { callee:=.builtin .min,args:=args,argTypes:=ts }) ty:=by
 intro r h
 simp only [dH] at h
 split at h
 ·rename_i x y ha
  split at h
  ·rename_i a1 j1 k x' a2 j2 k2 y' hx hy
   have hx':aW (f x)=.v (.one (.p a1 j1 (.int k x'))):=by rw [hx];rfl
   have hy':aW (f y)=.v (.one (.p a2 j2 (.int k2 y'))):=by rw [hy];rfl
   simp only [Option.some.injEq] at h;subst h
   simp only [kernel,ha,hx',hy']
   exact ⟨_,rfl,⟨fun _=>⟨trivial,trivial⟩,rfl,rfl,rfl⟩⟩
  ·cases h
 ·rename_i x y z ha
  split at h
  ·rename_i a1 j1 k x' a2 j2 k2 y' a3 j3 k3 z' hx hy hz
   have hx':aW (f x)=.v (.one (.p a1 j1 (.int k x'))):=by rw [hx];rfl
   have hy':aW (f y)=.v (.one (.p a2 j2 (.int k2 y'))):=by rw [hy];rfl
   have hz':aW (f z)=.v (.one (.p a3 j3 (.int k3 z'))):=by rw [hz];rfl
   simp only [Option.some.injEq] at h;subst h
   simp only [kernel,ha,hx',hy',hz']
   exact ⟨_,rfl,⟨fun _=>⟨trivial,trivial,trivial⟩,rfl,rfl,rfl⟩⟩
  ·cases h
 ·cases h
theorem af8 (args:Array Operand) (ts:Array TypeId):gq tt ety d o f (.call { callee:=.builtin .max,args:=args,argTypes:=ts }) ty:=by
 intro r h
 simp only [dH] at h
 split at h
 ·rename_i x y ha
  split at h
  ·rename_i a1 j1 k x' a2 j2 k2 y' hx hy
   have hx':aW (f x)=.v (.one (.p a1 j1 (.int k x'))):=by rw [hx];rfl
   have hy':aW (f y)=.v (.one (.p a2 j2 (.int k2 y'))):=by rw [hy];rfl
   simp only [Option.some.injEq] at h;subst h
   simp only [kernel,ha,hx',hy']
   exact ⟨_,rfl,⟨fun _=>⟨trivial,trivial⟩,rfl,rfl,rfl⟩⟩
  ·cases h
 ·rename_i x y z ha
  split at h
  ·rename_i a1 j1 k x' a2 j2 k2 y' a3 j3 k3 z' hx hy hz
   have hx':aW (f x)=.v (.one (.p a1 j1 (.int k x'))):=by rw [hx];rfl
   have hy':aW (f y)=.v (.one (.p a2 j2 (.int k2 y'))):=by rw [hy];rfl
   have hz':aW (f z)=.v (.one (.p a3 j3 (.int k3 z'))):=by rw [hz];rfl
   simp only [Option.some.injEq] at h;subst h
   simp only [kernel,ha,hx',hy',hz']
   exact ⟨_,rfl,⟨fun _=>⟨trivial,trivial,trivial⟩,rfl,rfl,rfl⟩⟩
  ·cases h
 ·cases h
theorem xg (e:Ty) (a b:List (Dt e)):aB e (a++b)=aB e a++aB e b:=by simp [aB]
theorem SN {sT:TypeId} {s x:TW} {r:qG} (h:MS tt ety d o sT s x=some r) :∃r',uf tt d (bQ o) sT (bP s) (bP x)=some r'∧fC r r':=by
 simp only [MS] at h
 split at h
 ·rename_i e i1 i2 i3 ht
  split at h
  ·rename_i ie et he het
   cases hb:(Nat.beq ie.bytes 0||!Nat.beq (size et) ie.size) with
   |true=>rw [hb] at h;cases h
   |false=>
    rw [hb,cond_false] at h
    simp only [Bool.or_eq_false_iff,Bool.not_eq_false'] at hb
    have hsz:=Nat.eq_of_beq_eq_true hb.2
    have hb0:¬ ie.bytes=0:=fun e=>by rw [e] at hb;cases hb.1
    split at h
    ·cases h
    ·rename_i new a' i' hrow
     obtain ⟨ask,hr,hask⟩:=Pq hrow
     rw [hsz] at hr
     simp only [uf,ht,he,if_neg hb0,hr]
     have key :∀(pre:Bool) (pre':Prop) (old:List (Dt et)) (a i:Bool) (kill:List (Nat×TO)),(pre=true→pre')→
       fC { pre:=pre&&decide ((old.length+new.length)*ie.bytes≤140737488355328),t:=.sl et,val:=List.append old new,dst:=fun _=>.v (.one (.own d)),aF:=fun y=>kill++[(d,.arr false (a||a') (i||i') et y)],new:=[d] }
        (.mk (ask∧pre'∧((aB et old).length+(aB et new).length)*ie.bytes≤140737488355328) (.sl ie.size (aB et old++aB et new)) (fun _=>.v (.one (.own d)))
         (fun y=>h_ kill++[(d,.arr false (a||a') (i||i') ie.size y.list)]) [d]):=by
      intro pre pre' old a i kill hpre
      refine ⟨fun hp => ?_,rfl,?_,rfl⟩
      ·obtain ⟨h1,h2⟩:=fV hp
       refine ⟨hask,hpre h1,?_⟩
       rw [eP,eP]
       simpa using h2
      ·simp only [kF]
       congr 1
       simp only [P.list,h_,List.map_cons,List.map_nil,dP,hsz]
       rw [←xg];rfl
     split at h
     ·simp only [Option.some.injEq] at h;subst h
      exact ⟨_,rfl,key true True [] false false [] fun _=>trivial⟩
     ·rename_i g
      split at h
      ·rename_i a i e' l hg
       split at h
       ·rename_i l' hl
        cases hgd:Nat.beq g d with
        |true=>rw [hgd] at h;cases h
        |false=>
         rw [hgd,cond_false] at h
         simp only [Option.some.injEq] at h;subst h
         obtain ⟨ee,hl⟩:=nU hl
         cases ee
         subst hl
         simp only [bP,gB hg]
         rw [if_pos ⟨hsz,fun e=>by subst e;simp at hgd⟩]
         exact ⟨_,rfl,key true True _ a i [(g,.none)] fun _=>trivial⟩
       ·cases h
      ·cases h
     ·rename_i g lo hi
      split at h
      ·rename_i a i e' l hg
       split at h
       ·rename_i l' hl
        cases hgd:Nat.beq g d with
        |true=>rw [hgd] at h;cases h
        |false=>
         rw [hgd,cond_false] at h
         simp only [Option.some.injEq] at h;subst h
         obtain ⟨ee,hl⟩:=nU hl
         cases ee
         subst hl
         simp only [bP,gB hg,uM]
         rw [if_pos ⟨hsz,fun e=>by subst e;simp at hgd⟩]
         refine ⟨_,rfl,key (decide (lo=0)) (P.int .i64 lo=kZ 0) (l.take hi.toNat) a i [(g,.none)] fun h => ?_⟩
         have h:lo=0:=by simpa using h
         subst h;rfl
       ·cases h
      ·cases h
     ·cases h
  ·cases h
 ·cases h
theorem Xo (args:Array Operand) (ts:Array TypeId):gq tt ety d o f (.call { callee:=.builtin .append,args:=args,argTypes:=ts }) ty:=by
 intro r h
 simp only [dH] at h
 split at h
 ·rename_i s x sT xT rest ha hts
  split at h
  ·rename_i e i1 i2 i3 s' x' ht hs hx
   have hs':aW (f s)=.v (.one (bP s')):=by rw [hs];rfl
   have hx':aW (f x)=.v (.one (bP x')):=by rw [hx];rfl
   simp only [kernel,ha,hts,ht,hs',hx']
   exact SN h
  ·cases h
 ·cases h
theorem SQ (op:Op):Zd tt ety d o f op ty:=by
 cases op
 case move x=>exact gq.toC (acg x)
 case assign x=>exact gq.toC (Xl x)
 case pick c x y=>exact gq.toC (ach c x y)
 case alloc t=>exact gq.toC (Zg t)
 case box t x=>exact gq.toC (af5 t x)
 case build t ps=>exact gq.toC (Zh t ps)
 case buildSlice t n ps=>exact gq.toC (JE t n ps)
 case load t x=>exact gq.toC (acj t x)
 case store t x y=>exact gq.toC (Zj t x y)
 case nilCheck x=>exact gq.toC (Pv x)
 case binOp op t x y u=>exact gq.toC (Zl op t x y u)
 case unOp op t x=>exact gq.toC (acp op t x)
 case convert s t x=>exact gq.toC (SI s t x)
 case makeSlice t n c=>exact gq.toC (M_ t n c)
 case slice t x lo hi mx=>
  cases mx with
  |none=>exact gq.toC (Zn t x lo hi)
  |some m=>cases lo with
   |some l=>intro r h;simp [dH] at h
   |none=>cases hi with
    |none=>intro r h;simp [dH] at h
    |some hi=>exact gq.toC (Xn t x hi m)
 case fieldAddr t x n=>exact gq.toC (Na t x n)
 case field t x n=>exact gq.toC (Zo t x n)
 case indexAddr t x ix=>exact Nb t x ix
 case index t x ix=>exact gq.toC (Zp t x ix)
 case range t x=>exact gq.toC (Zq t x)
 case extract t n=>exact gq.toC (SL t n)
 case makeFunc fn first caps=>
  cases fn
  case func g=>exact gq.toC (PD g first caps)
  all_goals (intro r h;simp [dH] at h)
 case call c=>
  obtain ⟨callee,args,ts⟩:=c
  cases callee
  case builtin b=>
   cases b
   case len=>exact gq.toC (af6 args ts)
   case append=>exact gq.toC (Xo args ts)
   case clear=>exact gq.toC (Zm args ts)
   case min=>exact gq.toC (af7 args ts)
   case max=>exact gq.toC (af8 args ts)
   all_goals (intro r h;simp [dH] at h)
  all_goals (intro r h;simp [dH] at h)
 all_goals (intro r h;simp [dH] at h)
end
end Go.Fg

namespace Go.Fg
open Go.Fw
set_option linter.unusedVariables false
set_option linter.unusedSectionVars false
set_option linter.unusedSimpArgs false
section
variable [RE]
def wdF:Wd:=⟨.bool,false⟩
def placesOf:Ty→List Nat
 |.prod (.st c) r=>c::placesOf r
 |_=>[]
def SV (et:Ty):List Nat→List (Nat×Ty)
 | []=>[]
 |c::cs=>match (iE et)[c]? with
  |some (.sl t)=>(c,t)::SV et cs
  |_=>SV et cs
def Zr (ety:TypeId→Option Ty) (e:TypeId) (et:Ty):List (Nat×Ty):=match ety (1000000+e) with
 |some t=>SV et (placesOf t)
 |none=>[]
def yu (ah:List (Nat×Ty)) (off n:Nat):List (Nat×Ty):=match ah with
 | []=>[]
 |(c,t)::r=>match Nat.ble off c&&Nat.blt c (off+n) with
  |true=>(c,t)::yu r off n
  |false=>yu r off n
def xk (o:Nat→TO) (g:Nat):Option TH:=match o g with
 |.aG a i e ah l hole=>match hole with
  |none=>some ⟨a,i,e,ah,l⟩
  |some (n,c,d)=>match o d with
   |.arr false a' i' e' l'=>match Xi e ah c e' with
    |true=>some ⟨a||a',i||i',e,ah,putRow e l n c (sV e' l')⟩
    |false=>none
   |_=>none
 |_=>none
def aiv:TO→Bool
 |.arr fz _ _ _ _=>!fz
 |_=>false
def kG:List Nat→List (Nat×TO)
 | []=>[]
 |g::gs=>(g,.none)::kG gs
def cellT (e:Ty) (x:Dt e) (c:Nat) (e':Ty):List (Dt e'):=((eU e x).getD c wdF).as (.sl e')
def Nc (o:Nat→TO) (col:Nat→Option Ty):Nat→List Ty→List TW→Option (List Wd×Bool×Bool×List Nat×List (Nat×Nat))
 |_,[],[]=>some ([],false,false,[],[])
 |j,t::ts,x::xs=>match Nc o col (j+1) ts xs with
  |none=>none
  |some (ys,a',i',gs',es)=>match col j with
   |none=>match x.toP o t with
    |some (y,a,i,gs)=>some (⟨t,y⟩::ys,a||a',i||i',gs++gs',es)
    |none=>none
   |some s=>match tyB t (.sl s) with
    |true=>match x with
     |.bY=>some (sV s []::ys,a',i',gs',es)
     |.own e=>match o e with
      |.arr false a i s' l=>match (sV s' l).Aa (.sl s) with
       |some l=>some (sV s l::ys,a||a',i||i',gs',(j,e)::es)
       |none=>none
      |_=>none
     |_=>none
    |false=>none
 |_,_,_=>none
def Ej:List (Nat×Ty)→List (Nat×Ty)→Bool
 | [],[]=>true
 |(c,t)::r,(c',t')::r'=>Nat.beq c c'&&tyB t t'&&Ej r r'
 |_,_=>false
def PG (o:Nat→TO) (et:Ty) (ah:List (Nat×Ty)):TW→Option (Bool×Bool×Bool×List (Dt et)×List Nat)
 |.bY=>some (true,false,false,[],[])
 |.own g=>match xk o g with
  |some ⟨a,i,e,jK,l⟩=>match (sV e l).Aa (.sl et),Ej jK ah with
   |some l,true=>some (true,a,i,l,g::kW (o g))
   |_,_=>none
  |none=>none
 |.vw g lo hi=>match xk o g with
  |some ⟨a,i,e,jK,l⟩=>match (sV e (l.take hi.toNat)).Aa (.sl et),Ej jK ah with
   |some l,true=>some (decide (lo=0),a,i,l,g::kW (o g))
   |_,_=>none
  |none=>none
 |_=>none
def uN:Ty:=.st RE.hd
def Xp (n:Nat):List (Dt uN):=List.replicate n (dflt uN)
def Nh (tt:TT) (o:Nat→TO) (f:Operand→TS) (t:TypeId) (x:Operand):Option qG:=match tt t,f x with
 |some i,.v (.one (.ep g n off))=>match xk o g with
  |some ⟨a,i',e,ah,l⟩=>match sW off ah with
   |some e'=>bif Xi e ah off e'&&(Nat.beq i.size 1&&!i.agg)&&r_ (((eU e (dflt e)).drop off).take i.size) i.zero then
     some { pre:=true,t:=.sl uN,val:=Xp (List.length (α:=Dt e') (cellT e (l.getD n.toNat (dflt e)) off e')),dst:=fun z=>.v (.one (.p false false ⟨.sl uN,z⟩)),aF:=fun _=>[],new:=[] } else none
   |none=>none
  |none=>none
 |_,_=>none
def iT (tt:TT) (ety:TypeId→Option Ty) (d:Nat) (o:Nat→TO) (f:Operand→TS) (op:Op) (ty:TypeId):Option qG:=
 match op with
 |.load t x=>match ety (3000000+d) with
  |some _=>Nh tt o f t x
  |none=>match tt t,f x with
  |some i,.v (.one (.ep g n off))=>match o g with
   |.aG a0 i0 e0 jS l0 _=>bif Nat.ble (off+i.size) (size e0)&&Nat.blt 0 i.size&&r_ (((eU e0 (dflt e0)).drop off).take i.size) i.zero then
     match yu jS off i.size with
     | []=>some { pre:=true,t:=e0,val:=l0.getD n.toNat (dflt e0),dst:=fun z=>TV.fH i.agg (tpw a0 i0 (((eU e0 z).drop off).take i.size)),aF:=fun _=>[],new:=[] }
     | [(c,e')]=>match xk o g with
      |some ⟨a,i',e,ah,l⟩=>match Xi e ah c e'&&Nat.ble (off+i.size) (size e)&&r_ (((eU e (dflt e)).drop off).take i.size) i.zero with
       |true=>some { pre:=true,t:=.sl e,val:=l,dst:=fun (y:List (Dt e))=>TV.fH i.agg ((tpw a i' (((eU e (y.getD n.toNat (dflt e))).drop off).take i.size)).set (c-off) (.own d)),aF:=fun (y:List (Dt e))=>(g,.aG a i' e ah y (some (n.toNat,c,d)))::(d,.arr false a i' e' (cellT e (y.getD n.toNat (dflt e)) c e'))::kG (kW (o g)),new:=[d] }
       |false=>none
      |none=>none
     |_=>none
     else none
   |_=>none
  |_,_=>none
 |.store t x y=>match tt t,f x,f y with
  |some i,.v (.one (.ep g n off)),.v y=>match o g with
   |.aG a0 i0 e0 ah l0 hole=>match Nc o (fun j=>sW j ah) off (((iE e0).drop off).take i.size) y.words with
    |some (ps,a',i',gs,es)=>bif Nat.ble (off+i.size) (size e0)&&Nat.beq y.words.length i.size&&y.solid&&!fB g gs&&rM (es.map (·.2))&&B_ (es.map (·.2)) gs then
      let res (pre:Bool) (a i1:Bool) (e:Ty) (l:List (Dt e)) (iG:Option (Nat×Nat×Nat)) (ks:List Nat):qG:=
       { pre,t:=.sl e,val:=List.set l n.toNat (JC e (Nat.beq i.size (size e)) (l.getD n.toNat (dflt e)) off ps),dst:=fun _=>.no,aF:=fun z=>(g,.aG (a||a') (i1||i') e ah z iG)::kG (es.map (·.2))++kG ks++gs.map (kP o),new:=[] }
      match yu ah off i.size with
      | []=>some (res true a0 i0 e0 l0 hole [])
      |_::_=>match hole with
       |none=>some (res true a0 i0 e0 l0 none [])
       |some (n0,c0,d0)=>match xk o g with
        |some ⟨a,i1,e,jK,l⟩=>match !fB d0 (es.map (·.2))&&!fB d0 gs with
         |true=>match tyB e e0 with
          |true=>some (res true a i1 e l none [d0])
          |false=>none
         |false=>bif Nat.ble off c0&&Nat.blt c0 (off+i.size) then some (res (Nat.beq n0 n.toNat) a0 i0 e0 l0 none []) else none
        |none=>match aiv (o d0) with
         |true=>none
         |false=>bif Nat.ble off c0&&Nat.blt c0 (off+i.size) then some (res (Nat.beq n0 n.toNat) a0 i0 e0 l0 none []) else none
      else none
    |none=>none
   |_=>none
  |_,_,_=>none
 |.buildSlice t n parts=>match tt t with
  |some { k:=.slice e,.. }=>match tt e,ety e with
   |some ie,some et=>match Zr ety e et with
    | []=>none
    |yM::Ce=>match AV (fun m=>if m<n then some (m*ie.size,ie.size) else none) (Hw (ie.zero.map Xh) n) (parts.toList.map fun p=>(p.1,f p.2)) with
     |some ws=>match Nc o (fun j=>sW (j % ie.size) (yM::Ce)) 0 (Hw (iE et) n) ws with
      |some (ps,a,i,gs,es)=>bif Nat.ble (n+n*ie.size) 16777216&&Nat.beq (size et) ie.size&&rM (es.map (·.2))&&B_ (es.map (·.2)) gs then
        some { pre:=true,t:=.sl et,val:=AY et n ps,dst:=fun _=>.v (.one (.own d)),aF:=fun y=>(d,.aG a i et (yM::Ce) y none)::kG (es.map (·.2))++gs.map (kP o),new:=[d] } else none
      |none=>none
     |none=>none
   |_,_=>none
  |_=>none
 |.makeSlice t n c=>match tt t,f n,f c with
  |some { k:=.slice e,.. },.v (.one (.p _ _ ⟨.int .i64,n⟩)),.v (.one (.p _ _ ⟨.int .i64,c⟩))=>match tt e,ety e with
   |some ie,some et=>match Zr ety e et with
    | []=>none
    |yM::Ce=>match Nc o (fun j=>sW j (yM::Ce)) 0 (iE et) (ie.zero.map Xh) with
     |some (ps,false,false,[],[])=>bif Nat.blt 0 ie.size&&Nat.beq (size et) ie.size then
      some { pre:=vP ie.bytes n c,t:=.sl et,val:=List.replicate (Int.toNat n) (jL et ps),dst:=fun _=>.v (.one (.own d)),aF:=fun y=>[(d,.aG false false et (yM::Ce) y none)],new:=[d] } else none
     |_=>none
   |_,_=>none
  |_,_,_=>none
 |.call { callee:=.builtin .append,args,argTypes }=>match args.toList,argTypes.toList with
  | [s,x],sT::xT::_=>match tt sT,tt xT,f s,f x with
   |some { k:=.slice e,.. },some { k:=.slice _,.. },.v (.one s),.v (.one (.own g2))=>match tt e,xk o g2 with
    |some ie,some ⟨a2,i2,et,ah,new⟩=>match PG o et ah s with
     |some (pre,a,i,old,ks)=>bif !Nat.beq ie.bytes 0&&Nat.beq (size et) ie.size&&rM (ks++g2::kW (o g2)) then
       some { pre:=pre&&decide ((old.length+new.length)*ie.bytes≤140737488355328),t:=.sl et,val:=List.append old new,dst:=fun _=>.v (.one (.own d)),aF:=fun y=>(d,.aG (a||a2) (i||i2) et ah y none)::kG (ks++g2::kW (o g2)),new:=[d] } else none
     |none=>none
    |_,_=>none
   |_,_,_,_=>none
  |_,_=>none
 |.slice t x none hi none=>match ety 2000000 with
  |none=>none
  |some _=>match tt t,f x with
   |some { k:=.slice e,.. },.v (.one (.own g))=>match tt e,o g with
    |some ie,.arr false a i et l=>bif Nat.beq (size et) ie.size then match lW (List.length (α:=Dt et) l) (hi.map f) with
     |some hi=>some { pre:=decide (0≤hi)&&decide (hi≤(List.length (α:=Dt et) l:Int)),t:=.sl et,val:=List.take (α:=Dt et) hi.toNat l,dst:=fun _=>.v (.one (.own d)),aF:=fun y=>[(d,.arr false a i et y),(g,.none)],new:=[d] }
     |none=>none
     else none
    |_,_=>none
   |_,_=>none
 |_=>none
section
variable {o:Nat→TO} {tt:TT} {ety:TypeId→Option Ty} {d:Nat} {f:Operand→TS} {ty:TypeId}
theorem qg (off n:Nat) :∀(ah:List (Nat×Ty)),mV (iq ah) off n=iq (yu ah off n)
 | []=>rfl
 |(c,t)::r=>by
  have ih:=qg off n r
  simp only [mV,iq,List.map_cons,List.filter_cons,yu] at ih ⊢
  cases hb:(Nat.ble off c&&Nat.blt c (off+n)) with
  |true=>simp only [if_true,List.map_cons,ih]
  |false=>simp only [Bool.false_eq_true,if_false,ih]
theorem CZ (c:Nat) (ah:List (Nat×Ty)):(iq ah).lookup c=(sW c ah).map size:=by
 cases h:sW c ah with
 |none=>exact Hy h
 |some t=>exact CU h
theorem o_ (g:Nat) (x:TO) (r:List (Nat×TO)):h_ ((g,x)::r)=(g,dP x)::h_ r:=rfl
theorem pq :∀(gs:List Nat),h_ (kG gs)=kills gs
 | []=>rfl
 |g::gs=>by
  show (g,O.none)::h_ (kG gs)=(g,O.none)::kills gs
  rw [pq gs]
theorem pz {g:Nat} {a i:Bool} {e:Ty} {ah:List (Nat×Ty)} {l:List (Dt e)} (h:xk o g=some ⟨a,i,e,ah,l⟩):jg (bQ o) g=some (a,i,size e,iq ah,aB e l)∧(bQ o g).hn=kW (o g):=by
 unfold xk at h
 cases ho:o g with
 |aG a0 i0 e0 jS l0 hole=>
  rw [ho] at h
  have hg:bQ o g=.aG a0 i0 (size e0) (iq jS) (aB e0 l0) hole:=by simp [bQ,ho,dP]
  rcases hole with _ | ⟨n,c,d⟩
  ·cases h
   exact ⟨by simp [jg,hg],by rw [hg];rfl⟩
  ·simp only at h
   cases hd:o d with
   |arr fz a' i' e' l'=>
    rw [hd] at h
    cases fz with
    |true=>cases h
    |false=>
     simp only at h
     split at h
     ·rename_i hc
      cases h
      obtain ⟨k1,k2,k3⟩:=sZ hc
      refine ⟨?_,by rw [hg];rfl⟩
      simp only [jg,hg,gB hd]
      rw [if_pos ⟨k1,k3⟩,zG k2]
     ·cases h
   |_=>rw [hd] at h;cases h
 |_=>rw [ho] at h;cases h
theorem SX {g n c d0:Nat} {a0 i0:Bool} {e0:Ty} {ah:List (Nat×Ty)} {l0:List (Dt e0)} (hog:o g=.aG a0 i0 e0 ah l0 (some (n,c,d0))) (h:aiv (o d0)=false):jg (bQ o) g=none:=by
 have hg:bQ o g=.aG a0 i0 (size e0) (iq ah) (aB e0 l0) (some (n,c,d0)):=by simp [bQ,hog,dP]
 simp only [jg,hg]
 cases hd:o d0 with
 |arr fz a i e l=>
  rw [hd] at h
  cases fz with
  |true=>simp [bQ,hd,dP]
  |false=>cases h
 |_=>simp [bQ,hd,dP]
theorem PI {e e':Ty} {x:Dt e} {c:Nat} (hc:(iE e)[c]?=some (.sl e')):(jw e x)[c]?=some (bU ⟨.sl e',cellT e x c e'⟩):=by
 rw [fQ,List.getElem?_map]
 have hlt:c<(eU e x).length:=by rw [o9,←iR];exact (List.getElem?_eq_some_iff.1 hc).1
 rw [List.getElem?_eq_getElem hlt,Option.map_some]
 have ht:((eU e x)[c]).t=.sl e':=by
  have:=pX e x
  have h2:=congrArg (fun l=>l[c]?) this
  simp only [List.getElem?_map,List.getElem?_eq_getElem hlt,Option.map_some,hc,Option.some.injEq] at h2
  exact h2
 have hg:(eU e x).getD c wdF=(eU e x)[c]:=by rw [List.getD_eq_getElem?_getD,List.getElem?_eq_getElem hlt];rfl
 unfold cellT
 rw [hg,vG ht]
theorem A_ {col:Nat→Option Ty} {col':Nat→Option Nat} (ab1 :∀j,col' j=(col j).map size) :∀{ts:List Ty} {xs:List TW} {j:Nat} {ys:List Wd} {a i:Bool} {gs:List Nat} {es:List (Nat×Nat)},Nc o col j ts xs=some (ys,a,i,gs,es)→
  N7 (bQ o) col' j (xs.map bP)=some (ys.map bU,a,i,gs,es)∧ys.map (·.t)=ts∧Pl o gs
 | [],[],j,ys,a,i,gs,es,h=>by
  simp only [Nc,Option.some.injEq,Prod.mk.injEq] at h
  obtain ⟨rfl,rfl,rfl,rfl,rfl⟩:=h
  exact ⟨rfl,rfl,Pl.nil⟩
 | [],x::xs,j,ys,a,i,gs,es,h=>by simp [Nc] at h
 |t::ts,[],j,ys,a,i,gs,es,h=>by simp [Nc] at h
 |t::ts,x::xs,j,ys,a,i,gs,es,h=>by
  simp only [Nc] at h
  split at h
  ·cases h
  ·rename_i ys' a' i' gs' es' h2
   obtain ⟨k1,k2,k3⟩:=A_ ab1 h2
   simp only [List.map_cons,N7,k1,ab1 j]
   cases hc:col j with
   |none=>
    rw [hc] at h
    simp only at h
    split at h
    ·rename_i h1
     simp only [Option.some.injEq,Prod.mk.injEq] at h
     obtain ⟨rfl,rfl,rfl,rfl,rfl⟩:=h
     refine ⟨by simp only [Option.map_none,MV h1,List.map_cons],by simp only [List.map_cons,k2],(SC h1).append k3⟩
    ·cases h
   |some s=>
    rw [hc] at h
    simp only at h
    split at h
    ·rename_i hts
     have hts:=wX hts
     split at h
     ·simp only [Option.some.injEq,Prod.mk.injEq] at h
      obtain ⟨rfl,rfl,rfl,rfl,rfl⟩:=h
      exact ⟨by simp only [Option.map_some,bP,List.map_cons];rfl,by simp only [List.map_cons,k2,hts];rfl,k3⟩
     ·rename_i e
      split at h
      ·rename_i a1 i1 s' l hoe
       split at h
       ·rename_i l1 hl
        simp only [Option.some.injEq,Prod.mk.injEq] at h
        obtain ⟨rfl,rfl,rfl,rfl,rfl⟩:=h
        obtain ⟨he,hl⟩:=nU hl
        cases he
        subst hl
        refine ⟨?_,by simp only [List.map_cons,k2,hts];rfl,k3⟩
        simp only [Option.map_some,bP,gB hoe,if_true,List.map_cons]
        rfl
       ·cases h
      ·cases h
     ·cases h
    ·cases h
def H9 (tt:TT) (ety:TypeId→Option Ty) (d:Nat) (o:Nat→TO) (f:Operand→TS) (op:Op) (ty:TypeId):Prop:=
 ∀r,iT tt ety d o f op ty=some r→∃dc r',dJ tt dc d (bQ o) (fun x=>aW (f x)) op ty=some r'∧fC r r'
theorem Kw {i:TI} {e e':Ty} {l:List (Dt e)} {n off c:Nat} (hz:r_ (((eU e (dflt e)).drop off).take i.size) i.zero=true) (c2:(iE e)[c]?=some (.sl e')) (hc1:off≤c) (hc2:c<off+i.size) :
  (((aB e l).getD n []).getD c default).list=aB e' (cellT e (l.getD n (dflt e)) c e'):=by
 by_cases hn:n<l.length
 ·have e1:(aB e l).getD n []=jw e (l.getD n (dflt e)):=by simp [aB,List.getD_eq_getElem?_getD,hn]
  rw [e1,List.getD_eq_getElem?_getD,PI c2]
  exact iL _ _
 ·have e1:(aB e l).getD n []=[]:=by simp [aB,List.getD_eq_getElem?_getD,List.getElem?_eq_none (Nat.le_of_not_lt hn)]
  have e2:l.getD n (dflt e)=dflt e:=by simp [List.getD_eq_getElem?_getD,List.getElem?_eq_none (Nat.le_of_not_lt hn)]
  rw [e1,e2]
  have hz':=CW hz (c-off)
  rw [List.map_take,List.map_drop,List.getElem?_take,if_pos (by omega),List.getElem?_drop,←fQ] at hz'
  have e3:off+(c-off)=c:=by omega
  rw [e3,PI c2] at hz'
  split at hz'
  ·simp only [Option.some.injEq] at hz'
   have hl:=congrArg P.list hz'
   rw [iL] at hl
   rw [hl]
   have:(Ri i.zero (c-off)).list=[]:=by
    have hsl :∃sz l,Ri i.zero (c-off)=P.fF sz l:=⟨_,_,hz'.symm⟩
    unfold Ri at hsl ⊢
    split<;>rfl
   rw [this];rfl
  ·cases hz'
theorem acr (n:Nat):bU ⟨.sl uN,Xp n⟩=hdr (List.replicate n ([]:List P)):=by
 have e0 :∀x,jw uN x=[]:=fun x=>by
  have h1:=o9 uN x
  have h2:size uN=0:=by simp [uN,size,iQ,RE.hdF]
  rw [h2] at h1
  rw [fQ,List.eq_nil_of_length_eq_zero h1];rfl
 rw [FC]
 have e1:aB uN (Xp n)=List.replicate n []:=by
  have :∀(n:Nat),List.map (jw uN) (Xp n)=List.replicate n []:=fun n=>by
   induction n with
   |zero=>rfl
   |succ n ih=>
    have e1:jw uN (dflt uN)=[]:=e0 _
    show jw uN (dflt uN)::List.map (jw uN) (Xp n)=[]::List.replicate n []
    rw [ih,e1]
  exact this n
 have e2:size uN=0:=by simp [uN,size,iQ,RE.hdF]
 rw [e1,e2]
 unfold hdr
 rw [List.length_replicate]
 cases n<;>rfl
theorem SY {t:TypeId} {x:Operand} {r:qG} (h:Nh tt o f t x=some r) :∃r',zi tt (bQ o) (fun x=>aW (f x)) t x=some r'∧fC r r':=by
 unfold Nh at h
 split at h
 ·rename_i i g n off ht hx
  have hx':aW (f x)=.v (.one (.ep g (.int .i64 n) off)):=by rw [hx];rfl
  have en:(P.int .i64 n).nat=n.toNat:=rfl
  split at h
  ·rename_i a i' e ah l hh
   split at h
   ·rename_i e' hca
    obtain ⟨hb,h⟩:=bH h
    obtain ⟨hb,hz⟩:=fV hb
    obtain ⟨hcb,hb⟩:=fV hb
    obtain ⟨h1,h2⟩:=fV hb
    have h1:=Nat.eq_of_beq_eq_true h1
    have h2:i.agg=false:=by simpa using h2
    simp only [Option.some.injEq] at h;subst h
    obtain ⟨k1,k2⟩:=pz hh
    obtain ⟨c1,c2,c3⟩:=sZ hcb
    unfold zi
    simp only [ht,hx',k1,c1]
    rw [if_pos ⟨c3,h1,h2⟩]
    refine ⟨_,rfl,⟨fun _=>trivial,?_,rfl,rfl⟩⟩
    have key:(((aB e l).getD (P.int .i64 n).nat []).getD off default).list=aB e' (cellT e (l.getD n.toNat (dflt e)) off e'):=by
     rw [en];exact Kw hz c2 (Nat.le_refl _) (by omega)
    show S.v (.one (.p false false (hdr (((aB e l).getD (P.int .i64 n).nat []).getD off default).list)))=S.v (.one (.p false false (bU ⟨.sl uN,Xp _⟩)))
    rw [acr,key]
    unfold hdr
    rw [eP,List.length_replicate]
   ·cases h
  ·cases h
 ·cases h
theorem Zt (t:TypeId) (x:Operand):H9 tt ety d o f (.load t x) ty:=by
 intro r h
 simp only [iT] at h
 split at h
 ·obtain ⟨r',h1,h2⟩:=SY h
  exact ⟨[(0,0)],r',h1,h2⟩
 split at h
 ·rename_i i g n off ht hx
  have hx':aW (f x)=.v (.one (.ep g (.int .i64 n) off)):=by rw [hx];rfl
  have en:(P.int .i64 n).nat=n.toNat:=rfl
  split at h
  ·rename_i a0 i0 e0 jS l0 hole hog
   have hg:bQ o g=.aG a0 i0 (size e0) (iq jS) (aB e0 l0) hole:=by simp [bQ,hog,dP]
   obtain ⟨hb,h⟩:=bH h
   obtain ⟨hb,h3⟩:=fV hb
   obtain ⟨h1,h2⟩:=fV hb
   have h1:=Nat.le_of_ble_eq_true h1
   split at h
   ·rename_i hci
    simp only [Option.some.injEq] at h;subst h
    refine ⟨[],?_⟩
    simp only [dJ,YA,cond_false,ht,hx',hg]
    rw [if_pos ⟨h1,H8 h2⟩]
    have eci:mV (iq jS) off i.size=[]:=by rw [qg,hci];rfl
    simp only [eci]
    refine ⟨_,rfl,⟨fun _=>trivial,?_,rfl,rfl⟩⟩
    simp only [E5.pure,kE]
    congr 1
    rw [en]
    exact MZ e0 l0 n.toNat off i.size i.zero h1 h3 a0 i0
   ·rename_i c e' hci
    split at h
    ·rename_i a i' e ah l hh
     split at h
     ·rename_i hcc
      obtain ⟨hcc,hz⟩:=fV hcc
      obtain ⟨hcb,hle⟩:=fV hcc
      have hle:=Nat.le_of_ble_eq_true hle
      simp only [Option.some.injEq] at h;subst h
      obtain ⟨k1,k2⟩:=pz hh
      obtain ⟨c1,c2,c3⟩:=sZ hcb
      have hcin:off≤c∧c<off+i.size:=by
       have hm:(c,size e')∈mV (iq jS) off i.size:=by rw [qg,hci];simp [iq]
       have:=(List.mem_filter.1 hm).2
       simp only [Bool.and_eq_true,Nat.ble_eq,Nat.blt_eq] at this
       exact this
      refine ⟨[],?_⟩
      simp only [dJ,YA,cond_false,ht,hx',hg]
      rw [if_pos ⟨h1,H8 h2⟩]
      rw [hg] at k2
      have eci:mV (iq jS) off i.size=[(c,size e')]:=by rw [qg,hci];rfl
      simp only [eci,k1]
      refine ⟨_,rfl,⟨fun _=>trivial,?_,?_,rfl⟩⟩
      ·simp only [kE]
       congr 1
       rw [en]
       have key:=MZ e l n.toNat off i.size i.zero hle hz a i'
       simp only [P.list]
       rw [List.map_set,←key]
       apply List.ext_getElem?
       intro j
       rw [List.getElem?_set]
       simp only [List.getElem?_map,List.length_map,List.length_range]
       by_cases hj:j<i.size
       ·rw [List.getElem?_range hj]
        by_cases hjc:c-off=j
        ·rw [if_pos hjc,if_pos (by omega)]
         have:Nat.beq (off+j) c=true:=by simp;omega
         simp only [Option.map_some,this,if_true];rfl
        ·rw [if_neg hjc]
         have:Nat.beq (off+j) c=false:=by
          cases hb:Nat.beq (off+j) c with
          |false=>rfl
          |true=>have:=Nat.eq_of_beq_eq_true hb;omega
         simp only [Option.map_some,this,Bool.false_eq_true,if_false]
       ·rw [List.getElem?_eq_none (by simp;omega),if_neg (by omega)]
        rfl
      ·have key:(((aB e l).getD n.toNat []).getD c default).list=aB e' (cellT e (l.getD n.toNat (dflt e)) c e'):=Kw hz c2 hcin.1 hcin.2
       show (g,O.aG a i' (size e) (iq ah) (aB e l) (some ((P.int .i64 n).nat,c,d)))::(d,O.arr false a i' (size e') ((((aB e l).getD (P.int .i64 n).nat []).getD c default).list))::kills _=h_ (_::_::kG _)
       rw [o_,o_,pq,k2,en,key];rfl
     ·cases h
    ·cases h
   ·cases h
  ·cases h
 ·cases h
theorem H_ {g:Nat} {l:List Nat}:(!fB g l)=true→l.contains g=false:=by
 intro h;rw [bJ] at h;simpa using h
theorem nV :∀{a b:List (Nat×Ty)},Ej a b=true→a=b
 | [],[],_=>rfl
 | [],_::_,h=>by cases h
 |_::_,[],h=>by cases h
 |(c,t)::r,(c',t')::r',h=>by
  simp only [Ej,Bool.and_eq_true] at h
  rw [Nat.eq_of_beq_eq_true h.1.1,wX h.1.2,nV h.2]
theorem Xq (t:TypeId) (x y:Operand):H9 tt ety d o f (.store t x y) ty:=by
 intro r h
 simp only [iT] at h
 split at h
 ·rename_i i g n off y' ht hx hy
  have hx':aW (f x)=.v (.one (.ep g (.int .i64 n) off)):=by rw [hx];rfl
  have hy':aW (f y)=.v (jk y'):=by rw [hy];rfl
  have en:(P.int .i64 n).nat=n.toNat:=rfl
  split at h
  ·rename_i a0 i0 e0 ah l0 hole hog
   have hg:bQ o g=.aG a0 i0 (size e0) (iq ah) (aB e0 l0) hole:=by simp [bQ,hog,dP]
   split at h
   ·rename_i ps a' i' gs es hD
    obtain ⟨hb,h⟩:=bH h
    obtain ⟨hb,h6⟩:=fV hb
    obtain ⟨hb,h5⟩:=fV hb
    obtain ⟨hb,h4⟩:=fV hb
    obtain ⟨hb,h3⟩:=fV hb
    obtain ⟨h1,h2⟩:=fV hb
    have h1:=Nat.le_of_ble_eq_true h1
    have h2:=Nat.eq_of_beq_eq_true h2
    obtain ⟨k1,k2,k3⟩:=A_ (col':=fun j=>(iq ah).lookup j) (fun j=>CZ j ah) hD
    have hl:ps.length=i.size:=by
     have:=congrArg List.length k2
     simp [iR] at this
     omega
    have hgl:gs.contains g=false:=H_ h4
    have hcnd:off+i.size≤size e0∧(y'.words.map bP).length=i.size∧(jk y').solid=true∧gs.contains g=false∧rM (es.map (·.2))=true∧B_ (es.map (·.2)) gs=true:=
     ⟨h1,by rw [List.length_map];exact h2,tu _ h3,hgl,h5,h6⟩
    have key :∀(pre:Bool) (pre':Prop) (a i1:Bool) (e:Ty) (l:List (Dt e)) (iG:Option (Nat×Nat×Nat)) (ks:List Nat),e=e0→(pre=true→pre')→
      fC { pre,t:=.sl e,val:=List.set l n.toNat (JC e (Nat.beq i.size (size e)) (l.getD n.toNat (dflt e)) off ps),dst:=fun _=>.no,aF:=fun z=>(g,.aG (a||a') (i1||i') e ah z iG)::kG (es.map (·.2))++kG ks++gs.map (kP o),new:=[] }
       (.mk pre' (.sl (size e0) ((aB e l).set (P.int .i64 n).nat (aH ((aB e l).getD (P.int .i64 n).nat []) off (ps.map bU)))) (fun _=>.no)
        (fun z=>(g,.aG (a||a') (i1||i') (size e0) (iq ah) z.list iG)::kills (es.map (·.2))++kills ks++gs.map (Fw.aK (bQ o))) []):=by
     intro pre pre' a i1 e l iG ks he hpre
     subst he
     refine ⟨hpre,rfl,?_,rfl⟩
     show (g,O.aG (a||a') (i1||i') (size e) (iq ah) ((aB e l).set (P.int .i64 n).nat (aH ((aB e l).getD (P.int .i64 n).nat []) off (ps.map bU))) iG)::kills (es.map (·.2))++kills ks++gs.map (Fw.aK (bQ o))=h_ ((_::kG _)++kG _++_)
     rw [kF,kF,o_,pq,pq,oz k3,en]
     have hp:=Ei (e:=e) (l:=l) (n:=n.toNat) (off:=off) (ps:=ps) (by rw [hl];exact k2) (by omega)
     rw [hl] at hp
     rw [←hp];rfl
    have eci:=qg off i.size ah
    have hk:dJ tt [] d (bQ o) (fun x=>aW (f x)) (.store t x y) ty=dJ tt [] d (bQ o) (fun x=>aW (f x)) (.store t x y) ty:=rfl
    refine ⟨[],?_⟩
    simp only [dJ,ht,hx',hy',hg,tq,k1]
    rw [if_pos hcnd]
    split at h
    ·rename_i hci
     simp only [Option.some.injEq] at h;subst h
     have eci:mV (iq ah) off i.size=[]:=by rw [eci,hci];rfl
     simp only [eci]
     exact ⟨_,rfl,key true True a0 i0 e0 l0 hole [] rfl fun _=>trivial⟩
    ·rename_i c0 cs hci
     have eci:mV (iq ah) off i.size=(c0.1,size c0.2)::iq cs:=by rw [eci,hci];rfl
     simp only [eci]
     split at h
     ·simp only [Option.some.injEq] at h;subst h
      exact ⟨_,rfl,key true True a0 i0 e0 l0 none [] rfl fun _=>trivial⟩
     ·rename_i n0 c1 d0 _
      have over :∀(r:qG),(bif Nat.ble off c1&&Nat.blt c1 (off+i.size) then some
         ({ pre:=Nat.beq n0 n.toNat,t:=.sl e0,val:=List.set l0 n.toNat (JC e0 (Nat.beq i.size (size e0)) (l0.getD n.toNat (dflt e0)) off ps),dst:=fun _=>.no,aF:=fun z=>(g,.aG (a0||a') (i0||i') e0 ah z none)::kG (es.map (·.2))++kG []++gs.map (kP o),new:=[] }:qG) else none)=some r→
        (off≤c1∧c1<off+i.size)∧fC r (.mk (n0=(P.int .i64 n).nat) (.sl (size e0) ((aB e0 l0).set (P.int .i64 n).nat (aH ((aB e0 l0).getD (P.int .i64 n).nat []) off (ps.map bU)))) (fun _=>.no)
         (fun z=>(g,.aG (a0||a') (i0||i') (size e0) (iq ah) z.list none)::kills (es.map (·.2))++kills []++gs.map (Fw.aK (bQ o))) []):=by
       intro r hr
       obtain ⟨hb,hr⟩:=bH hr
       simp only [Option.some.injEq] at hr;subst hr
       obtain ⟨q1,q2⟩:=fV hb
       exact ⟨⟨Nat.le_of_ble_eq_true q1,Nat.le_of_ble_eq_true q2⟩,key _ _ a0 i0 e0 l0 none [] rfl fun hp=>by rw [en];exact Nat.eq_of_beq_eq_true hp⟩
      split at h
      ·rename_i a i1 e jK l hh
       obtain ⟨j1,j2⟩:=pz hh
       simp only [j1]
       split at h
       ·rename_i hcc
        obtain ⟨q1,q2⟩:=fV hcc
        split at h
        ·rename_i hty
         simp only [Option.some.injEq] at h;subst h
         rw [if_pos ⟨H_ q1,H_ q2⟩]
         exact ⟨_,rfl,key true True a i1 e l none [d0] (wX hty) fun _=>trivial⟩
        ·cases h
       ·rename_i hcc
        obtain ⟨q1,q2⟩:=over r h
        rw [if_neg (by
         rintro ⟨z1,z2⟩
         rw [←bJ] at z1 z2
         rw [z1,z2] at hcc;cases hcc),if_pos q1]
        exact ⟨_,rfl,q2⟩
      ·split at h
       ·cases h
       ·rename_i har
        obtain ⟨q1,q2⟩:=over r h
        simp only [SX hog har]
        rw [if_pos q1]
        exact ⟨_,rfl,q2⟩
   ·cases h
  ·cases h
 ·cases h
theorem JG (t:TypeId) (n c:Operand):H9 tt ety d o f (.makeSlice t n c) ty:=by
 intro r h
 simp only [iT] at h
 split at h
 ·rename_i e i1 i2 i3 a1 j1 n' a2 j2 c' ht hn hc
  change Int at n';change Int at c'
  have hn':aW (f n)=.v (.one (.p a1 j1 (.int .i64 n'))):=by rw [hn];rfl
  have hc':aW (f c)=.v (.one (.p a2 j2 (.int .i64 c'))):=by rw [hc];rfl
  split at h
  ·rename_i ie et he het
   split at h
   ·cases h
   ·rename_i yM Ce hdc
    split at h
    ·rename_i ps hp
     obtain ⟨hb,h⟩:=bH h
     simp only [Option.some.injEq] at h;subst h
     obtain ⟨h1,h2⟩:=fV hb
     have hsz:=Nat.eq_of_beq_eq_true h2
     obtain ⟨k1,k2,_⟩:=A_ (col':=fun j=>(iq (yM::Ce)).lookup j) (fun j=>CZ j (yM::Ce)) hp
     rw [qV] at k1
     refine ⟨iq (yM::Ce),?_⟩
     have edc:iq (yM::Ce)=(yM.1,size yM.2)::iq Ce:=rfl
     simp only [dJ,ht,hn',hc',edc,he]
     rw [edc] at k1
     simp only [k1]
     rw [if_pos (H8 h1)]
     refine ⟨_,rfl,⟨fun hp => ?_,rfl,?_,rfl⟩⟩
     ·have hp:vP ie.bytes n' c'=true:=hp
      simp only [vP,Bool.and_eq_true,decide_eq_true_eq] at hp
      obtain ⟨⟨⟨q1,q2⟩,q3⟩,q4⟩:=hp
      exact ⟨n'.toNat,c'.toNat,by congr 1;omega,by congr 1;omega,by omega,by
       have:((ie.bytes*c'.toNat:Nat):Int)≤281474976710656:=by
        rw [Int.natCast_mul,Int.toNat_of_nonneg (by omega)];exact q3
       omega,by omega⟩
     ·show [(d,O.aG false false ie.size ((yM.1,size yM.2)::iq Ce) (List.replicate (P.int .i64 n').nat (ps.map bU)) none)]=h_ [(d,_)]
      have en:(P.int .i64 n').nat=n'.toNat:=rfl
      rw [o_,en]
      simp only [dP,edc,hsz,aB,List.map_replicate,qR k2];rfl
    ·cases h
  ·cases h
 ·cases h
theorem Ia (t:TypeId) (n:Nat) (ps:Array (Nat×Operand)):H9 tt ety d o f (.buildSlice t n ps) ty:=by
 intro r h
 simp only [iT] at h
 split at h
 ·rename_i e i1 i2 i3 ht
  split at h
  ·rename_i ie et he het
   split at h
   ·cases h
   ·rename_i yM Ce hdc
    split at h
    ·rename_i ws hw
     split at h
     ·rename_i qs a i gs es hp
      obtain ⟨hb,h⟩:=bH h
      simp only [Option.some.injEq] at h;subst h
      obtain ⟨hb,h4⟩:=fV hb
      obtain ⟨hb,h3⟩:=fV hb
      obtain ⟨h1,h2⟩:=fV hb
      have hsz:=Nat.eq_of_beq_eq_true h2
      have:=AZ hw
      rw [H7,qV] at this
      have edc:iq (yM::Ce)=(yM.1,size yM.2)::iq Ce:=rfl
      obtain ⟨k1,k2,k3⟩:=A_ (col':=fun j=>((yM.1,size yM.2)::iq Ce).lookup (j % ie.size)) (fun j=>by rw [←edc];exact CZ (j % ie.size) (yM::Ce)) hp
      refine ⟨iq (yM::Ce),?_⟩
      simp only [dJ,ht,edc,he,CV,this,k1]
      rw [if_pos ⟨Nat.le_of_ble_eq_true h1,h3,h4⟩]
      refine ⟨_,rfl,⟨fun _=>trivial,rfl,?_,rfl⟩⟩
      show (d,O.aG a i ie.size ((yM.1,size yM.2)::iq Ce) (chunks ie.size n (qs.map bU)) none)::kills (es.map (·.2))++gs.map (Fw.aK (bQ o))=h_ ((_::kG _)++_)
      rw [kF,o_,pq,oz k3]
      have e1:=zH et n qs k2
      rw [hsz] at e1
      simp only [dP,edc,hsz]
      rw [←e1]
     ·cases h
    ·cases h
  ·cases h
 ·cases h
theorem S9 (args:Array Operand) (ts:Array TypeId):H9 tt ety d o f (.call { callee:=.builtin .append,args:=args,argTypes:=ts }) ty:=by
 intro r h
 simp only [iT] at h
 split at h
 ·rename_i s x sT xT rest ha hts
  split at h
  ·rename_i e i1 i2 i3 e' j1 j2 j3 s' g2 hsT hxT hs hx
   have hs':aW (f s)=.v (.one (bP s')):=by rw [hs];rfl
   have hx':aW (f x)=.v (.one (.own g2)):=by rw [hx];rfl
   split at h
   ·rename_i ie a2 i2' et ah new he hh
    obtain ⟨j1',j2'⟩:=pz hh
    split at h
    ·rename_i pre a i old ks hbase
     obtain ⟨hb,h⟩:=bH h
     simp only [Option.some.injEq] at h;subst h
     obtain ⟨hb,h3⟩:=fV hb
     obtain ⟨h1,h2⟩:=fV hb
     have hsz:=Nat.eq_of_beq_eq_true h2
     have hb0:ie.bytes≠0:=fun e=>by rw [e] at h1;cases h1
     have hB :∃ask src,baseD (bQ o) (bP s')=some (ask,a,i,aB et old,ks,src)∧(src=none∨src=some (size et,iq ah))∧(pre=true→ask):=by
      cases s' with
      |bY=>
       simp only [PG,Option.some.injEq,Prod.mk.injEq] at hbase
       obtain ⟨rfl,rfl,rfl,rfl,rfl⟩:=hbase
       exact ⟨True,none,rfl,.inl rfl,fun _=>trivial⟩
      |own g=>
       simp only [PG] at hbase
       split at hbase
       ·rename_i a1 i1 e1 jK l hg
        obtain ⟨q1,q2⟩:=pz hg
        split at hbase
        ·rename_i l1 hl hc
         simp only [Option.some.injEq,Prod.mk.injEq] at hbase
         obtain ⟨rfl,rfl,rfl,rfl,rfl⟩:=hbase
         obtain ⟨ee,hl⟩:=nU hl
         cases ee
         subst hl
         have:=nV hc
         subst this
         exact ⟨True,some (size et,iq jK),by simp only [bP,baseD,q1,q2],.inr rfl,fun _=>trivial⟩
        ·cases hbase
       ·cases hbase
      |vw g lo hi=>
       simp only [PG] at hbase
       split at hbase
       ·rename_i a1 i1 e1 jK l hg
        obtain ⟨q1,q2⟩:=pz hg
        split at hbase
        ·rename_i l1 hl hc
         simp only [Option.some.injEq,Prod.mk.injEq] at hbase
         obtain ⟨rfl,rfl,rfl,rfl,rfl⟩:=hbase
         obtain ⟨ee,hl⟩:=nU hl
         cases ee
         subst hl
         have:=nV hc
         subst this
         refine ⟨P.int .i64 lo=kZ 0,some (size et,iq jK),by simp only [bP,baseD,q1,q2,uM],.inr rfl,fun h => ?_⟩
         have h:lo=0:=by simpa using h
         subst h;rfl
        ·cases hbase
       ·cases hbase
      |_=>simp [PG] at hbase
     obtain ⟨ask,src,q1,q2,q3⟩:=hB
     refine ⟨[],?_⟩
     simp only [dJ,ha,hts,hsT,hxT,hs',hx',he,q1,j1']
     rw [if_pos ⟨hb0,hsz,q2,by rw [j2'];exact h3⟩]
     refine ⟨_,rfl,⟨fun hp => ?_,rfl,?_,rfl⟩⟩
     ·obtain ⟨p1,p2⟩:=fV hp
      refine ⟨q3 p1,?_⟩
      rw [eP,eP]
      simpa using p2
     ·show (d,O.aG (a||a2) (i||i2') (size et) (iq ah) (aB et old++aB et new) none)::kills (ks++g2::(bQ o g2).hn)=h_ (_::kG _)
      rw [o_,pq,j2',←xg];rfl
    ·cases h
   ·cases h
  ·cases h
 ·cases h
theorem Xr (t:TypeId) (x:Operand) (lo hi mx:Option Operand):H9 tt ety d o f (.slice t x lo hi mx) ty:=by
 intro r h
 cases lo with
 |some _=>simp [iT] at h
 |none=>
 cases mx with
 |some _=>simp [iT] at h
 |none=>
 simp only [iT] at h
 split at h
 ·cases h
 ·split at h
  ·rename_i e i1 i2 i3 g ht hx
   have hx':aW (f x)=.v (.one (.own g)):=by rw [hx];rfl
   split at h
   ·rename_i ie a i et l he hg
    change List (Dt et) at l
    obtain ⟨hb,h⟩:=bH h
    split at h
    ·rename_i hi' hhi
     simp only [Option.some.injEq] at h;subst h
     have zf:=ni hhi
     have hg':bQ o g=.arr false a i (size et) (aB et l):=gB hg
     refine ⟨[],?_⟩
     have en:kZ (aB et l).length=P.int .i64 (List.length (α:=Dt et) l:Int):=by rw [eP];rfl
     simp only [dJ,ht,hx',he,hg']
     rw [if_pos (Nat.eq_of_beq_eq_true hb)]
     simp only [en,zf]
     refine ⟨_,rfl,⟨fun hp => ?_,rfl,?_,rfl⟩⟩
     ·obtain ⟨h1,h2⟩:=fV hp
      have h1:=of_decide_eq_true h1
      have h2:=of_decide_eq_true h2
      exact ⟨hi'.toNat,by rw [Int.toNat_of_nonneg h1],by rw [eP];omega⟩
     ·show [(d,O.arr false a i (size et) ((aB et l).take (P.nat (.int .i64 hi')))),(g,O.none)]=[(d,O.arr false a i (size et) (aB et (List.take hi'.toNat l))),(g,O.none)]
      rw [uM]
    ·cases h
   ·cases h
  ·cases h
theorem PK (op:Op):H9 tt ety d o f op ty:=by
 cases op
 case load t x=>exact Zt t x
 case store t x y=>exact Xq t x y
 case buildSlice t n ps=>exact Ia t n ps
 case makeSlice t n c=>exact JG t n c
 case slice t x lo hi mx=>exact Xr t x lo hi mx
 case call c=>
  obtain ⟨callee,args,ts⟩:=c
  cases callee
  case builtin b=>
   cases b
   case append=>exact S9 args ts
   all_goals (intro r h;simp [iT] at h)
  all_goals (intro r h;simp [iT] at h)
 all_goals (intro r h;simp [iT] at h)
end
end
end Go.Fg

namespace Go.Fg
open Go.Fw
set_option linter.unusedVariables false
set_option linter.unusedSectionVars false
inductive Prog:Type→Type 1 where
 |ret {R:Type} (r:R):Prog R
 |stuck {R:Type} (n:Nat):Prog R
 |cond {R:Type} (b:Bool) (x y:Prog R):Prog R
 |chk {R:Type} (b:Bool) (x:Prog R):Prog R
 |any {R:Type} (x y:Prog R):Prog R
 |let_ {A R:Type} (x:A) (k:A→Prog R):Prog R
 |join {A R:Type} (x:Prog A) (k:A→Prog R):Prog R
 |Ky {A R:Type} (x:Prog (A ⊕ R)) (k:A→Prog R):Prog R
 |loop {A R:Type} (a:A) (body:A→Prog (A ⊕ R)):Prog R
 |call {A B R:Type} (n:Nat) (f:A→Option B) (a:A) (k:B→Prog R):Prog R
def Prog.map:{R R':Type}→(R→R')→Prog R→Prog R'
 |_,_,f,.ret r=>.ret (f r)
 |_,_,_,.stuck n=>.stuck n
 |_,_,f,.cond b x y=>.cond b (x.map f) (y.map f)
 |_,_,f,.chk b x=>.chk b (x.map f)
 |_,_,f,.any x y=>.any (x.map f) (y.map f)
 |_,_,f,.let_ x k=>.let_ x fun z=>(k z).map f
 |_,_,f,.join x k=>.join x fun z=>(k z).map f
 |_,_,f,.Ky x k=>.Ky (x.map (Sum.map id f)) fun z=>(k z).map f
 |_,_,f,.loop a body=>.loop a fun z=>(body z).map (Sum.map id f)
 |_,_,f,.call n g a k=>.call n g a fun z=>(k z).map f
def iD {A R:Type} (body:A→Option (A ⊕ R)):Nat→A→Option R
 |0,_=>none
 |n+1,a=>(body a).bind fun
  |.inl a'=>iD body n a'
  |.inr r=>some r
open Classical in
noncomputable def aZ {A R:Type} (body:A→Option (A ⊕ R)) (a:A):Option R:=
 if h :∃n r,iD body n a=some r then iD body (Classical.choose h) a else none
open Classical in
noncomputable def both {R:Type} (x y:Option R):Option R:=if x=y then x else none
def ck {R:Type} (b:Bool) (x:Option R):Option R:=bif b then x else none
def dI {A R:Type} (x:Option (A ⊕ R)) (k:A→Option R):Option R:=x.bind fun
 |.inl z=>k z
 |.inr r=>some r
def cZ (x:Int):Int:=IntKind.i64.wrap x
noncomputable def Prog.run:{R:Type}→Prog R→Option R
 |_,.ret r=>some r
 |_,.stuck _=>none
 |_,.cond b x y=>bif b then x.run else y.run
 |_,.chk b x=>ck b x.run
 |_,.any x y=>both x.run y.run
 |_,.let_ x k=>(k x).run
 |_,.join x k=>x.run.bind fun z=>(k z).run
 |_,.Ky x k=>dI x.run fun z=>(k z).run
 |_,.loop a body=>aZ (fun z=>(body z).run) a
 |_,.call _ g a k=>(g a).bind fun z=>(k z).run
section
variable [RE]
inductive jH where
 |p (a i:Bool) (t:Ty)
 |bY
 |own (g:Nat)
 |box (g off:Nat)
 |fn (f:FuncId) (gs:List Nat)
 |mJ (g:Nat)
 |no
 |vw (g:Nat)
 |ep (g off:Nat)
inductive jX where
 |one (x:jH)
 |agg (xs:List jH)
inductive gX where
 |box (ws:List jH)
 |arr (fz a i:Bool) (e:Ty)
 |it
 |aG (a i:Bool) (e:Ty) (ah:List (Nat×Ty))
structure Kz where
 slots:List (Nat×jX)
 aQ:List (Nat×gX)
def jH.er:jH→WS
 |.p a i _=>.p a i
 |.bY=>.bY
 |.own g=>.own g
 |.box g off=>.box g off
 |.fn f gs=>.fn f gs
 |.mJ g=>.mJ g
 |.no=>.no
 |.vw g=>.vw g
 |.ep g off=>.ep g off
def jX.er:jX→SS
 |.one x=>.one x.er
 |.agg xs=>.agg (xs.map jH.er)
def gX.er:gX→OS
 |.box ws=>.box (ws.map jH.er)
 |.arr fz a i e=>.arr fz a i (size e)
 |.it=>.it
 |.aG a i e ah=>.aG a i (size e) (iq ah)
def Kz.er (j:Kz):Shape:=⟨j.slots.map fun p=>(p.1,p.2.er),j.aQ.map fun p=>(p.1,p.2.er)⟩
def jH.tys:jH→List Ty
 |.p _ _ t=>[t]
 |.vw _=>[.int .i64,.int .i64]
 |.ep _ _=>[.int .i64]
 |_=>[]
def jX.tys:jX→List Ty
 |.one x=>x.tys
 |.agg xs=>xs.flatMap jH.tys
def gX.tys:gX→List Ty
 |.box ws=>ws.flatMap jH.tys
 |.arr _ _ _ e=>[.sl e]
 |.it=>[.str,.int .i64]
 |.aG _ _ e _=>[.sl e]
def Kz.tys (j:Kz):List Ty:=j.slots.flatMap (fun p=>p.2.tys)++j.aQ.flatMap fun p=>p.2.tys
def Tup:List Ty→Type
 | []=>Unit
 | [t]=>Dt t
 |t::u::ts=>Dt t×Tup (u::ts)
def Tup.jI:(ts:List Ty)→Tup ts→List Wd
 | [],_=>[]
 | [t],x=>[⟨t,x⟩]
 |t::u::ts,x=>⟨t,x.1⟩::Tup.jI (u::ts) x.2
def Tup.ofL:(ts:List Ty)→List Wd→Option (Tup ts)
 | [],[]=>some ()
 | [t],[w]=>w.Aa t
 |t::u::ts,w::ws=>match w.Aa t,Tup.ofL (u::ts) ws with
  |some x,some xs=>some (x,xs)
  |_,_=>none
 |_,_=>none
def FD (m:Ren):List Nat→List TW→Bool
 | [],[]=>true
 |g'::gs,.box g off::cs=>decide (m.lookup g'=some (some g))&&(Nat.beq off 0&&FD m gs cs)
 |_,_=>false
def C9:List Nat→List TW
 | []=>[]
 |g::gs=>.box g 0::C9 gs
def C_ (m:Ren):jH→TW→Option (List Wd)
 |.p a i t,.p a' i' w=>match w.Aa t with
  |some _=>bif (imp a' a&&imp i' i)||w.t.flat then some [w] else none
  |none=>none
 |.p _ _ t,.bY=>match t with
  |.sl e=>some [sV e []]
  |_=>none
 |.bY,.bY=>some []
 |.own g',.own g=>if m.lookup g'=some (some g) then some [] else none
 |.own g',.bY=>if m.lookup g'=some none then some [] else none
 |.box g' off,.box g off'=>if m.lookup g'=some (some g)∧off=off' then some [] else none
 |.fn f gs,.clo f' caps=>bif Nat.beq f f'&&FD m gs caps then some [] else none
 |.mJ g',.mJ g=>if m.lookup g'=some (some g) then some [] else none
 |.no,_=>some []
 |.vw g',.vw g lo hi=>if m.lookup g'=some (some g) then some [jF .i64 lo,jF .i64 hi] else none
 |.ep g' off,.ep g n off'=>if m.lookup g'=some (some g)∧off=off' then some [jF .i64 n] else none
 |_,_=>none
def xq (m:Ren):List jH→List TW→Option (List Wd)
 | [],[]=>some []
 |k::ks,x::xs=>match C_ m k x,xq m ks xs with
  |some u,some v=>some (u++v)
  |_,_=>none
 |_,_=>none
def acs (m:Ren):jX→TS→Option (List Wd)
 |.one k,.v (.one x)=>C_ m k x
 |.agg ks,.v (.agg xs)=>xq m ks xs
 |_,_=>none
def S_ (m:Ren):gX→TO→Option (List Wd)
 |.box ks,.box xs=>xq m ks xs
 |.arr fz a i e,.arr fz' a' i' e' l=>match (sV e' l).Aa (.sl e) with
  |some l=>if fz=fz'∧(imp a' a&&imp i' i)=true then some [sV e l] else none
  |none=>none
 |.it,.it s n=>some [Pm s,jF .i64 n]
 |.aG a i e ah,.aG a' i' e' jK l hole=>match hole,(sV e' l).Aa (.sl e),Ej ah jK with
  |none,some l,true=>if (imp a' a&&imp i' i)=true then some [sV e l] else none
  |_,_,_=>none
 |_,_=>none
def ny (m:Ren) (s:Nat→TS):List (Nat×jX)→Option (List Wd)
 | []=>some []
 |(t,k)::rest=>match acs m k (s t),ny m s rest with
  |some u,some v=>some (u++v)
  |_,_=>none
def oW (m:Ren) (o:Nat→TO):List (Nat×gX)→Option (List Wd)
 | []=>some []
 |(g',k)::rest=>match (match m.lookup g' with
   |some (some g)=>S_ m k (o g)
   |some none=>(match k with
    |.arr false _ _ e=>some [sV e []]
    |.aG _ _ e _=>some [sV e []]
    |_=>none)
   |none=>none),oW m o rest with
  |some u,some v=>some (u++v)
  |_,_=>none
def yw (j:Kz) (m:Ren) (st:jB):Option (List Wd):=
 match j.er.ok&&aeQ j.er m with
 |true=>match ny m st.gs j.slots,oW m st.go j.aQ with
  |some u,some v=>some (u++v)
  |_,_=>none
 |false=>none
def zI:Wd:=⟨.bool,false⟩
def zJ (vs:List Wd) (n:Nat):jH→TW×Nat
 |.p a i _=>(.p a i (vs.getD n zI),n+1)
 |.bY=>(.bY,n)
 |.own g=>(.own g,n)
 |.box g off=>(.box g off,n)
 |.fn f gs=>(.clo f (C9 gs),n)
 |.mJ g=>(.mJ g,n)
 |.no=>(.no,n)
 |.vw g=>(.vw g ((vs.getD n zI).as (.int .i64)) ((vs.getD (n+1) zI).as (.int .i64)),n+2)
 |.ep g off=>(.ep g ((vs.getD n zI).as (.int .i64)) off,n+1)
def tH (vs:List Wd):Nat→List jH→List TW×Nat
 |n,[]=>([],n)
 |n,k::ks=>((zJ vs n k).1::(tH vs (zJ vs n k).2 ks).1,(tH vs (zJ vs n k).2 ks).2)
def Fh (vs:List Wd) (n:Nat):jX→TS×Nat
 |.one k=>(.v (.one (zJ vs n k).1),(zJ vs n k).2)
 |.agg ks=>(.v (.agg (tH vs n ks).1),(tH vs n ks).2)
def Dc (vs:List Wd) (n:Nat):gX→TO×Nat
 |.box ks=>(.box (tH vs n ks).1,(tH vs n ks).2)
 |.arr fz a i e=>(.arr fz a i e ((vs.getD n zI).as (.sl e)),n+1)
 |.it=>(.it ((vs.getD n zI).as .str) ((vs.getD (n+1) zI).as (.int .i64)),n+2)
 |.aG a i e ah=>(.aG a i e ah ((vs.getD n zI).as (.sl e)) none,n+1)
def fK (vs:List Wd):Nat→List (Nat×jX)→List (Nat×TS)×Nat
 |n,[]=>([],n)
 |n,(t,k)::rest=>((t,(Fh vs n k).1)::(fK vs (Fh vs n k).2 rest).1,(fK vs (Fh vs n k).2 rest).2)
def jo (vs:List Wd):Nat→List (Nat×gX)→List (Nat×TO)×Nat
 |n,[]=>([],n)
 |n,(g,k)::rest=>((g,(Dc vs n k).1)::(jo vs (Dc vs n k).2 rest).1,(jo vs (Dc vs n k).2 rest).2)
def mkT (j:Kz) (vs:List Wd):jB:=
 { s:=(fK vs 0 j.slots).1,o:=(jo vs (fK vs 0 j.slots).2 j.aQ).1,u:=j.aQ.map (·.1) }
def UW:List Nat→List TW→Ren
 |g'::gs,.box g _::cs=>(g',some g)::UW gs cs
 |_,_=>[]
def aiw:jH→TW→Ren
 |.own g',.own g=>[(g',some g)]
 |.own g',.bY=>[(g',none)]
 |.box g' _,.box g _=>[(g',some g)]
 |.mJ g',.mJ g=>[(g',some g)]
 |.fn _ gs,.clo _ caps=>UW gs caps
 |.vw g',.vw g _ _=>[(g',some g)]
 |.ep g' _,.ep g _ _=>[(g',some g)]
 |_,_=>[]
def Zu:List jH→List TW→Ren
 |k::ks,x::xs=>aiw k x++Zu ks xs
 |_,_=>[]
def alE:jX→TS→Ren
 |.one k,.v (.one x)=>aiw k x
 |.agg ks,.v (.agg xs)=>Zu ks xs
 |_,_=>[]
def PN (s:Nat→TS):List (Nat×jX)→Ren
 | []=>[]
 |(t,k)::r=>alE k (s t)++PN s r
def FH (m:Ren) (o:Nat→TO):List (Nat×gX)→Ren
 | []=>[]
 |(g',.box ks)::r=>(match m.lookup g' with
  |some (some g)=>match o g with
   |.box ws=>Zu ks ws
   |_=>[]
  |_=>[])++FH m o r
 |_::r=>FH m o r
def derive (aU:List Nat) (j:Kz) (st:jB):Ren:=
 let m0:=aU.map (fun g=>(g,some g))++PN st.gs j.slots
 let m1:=m0++FH m0 st.go j.aQ
 m1++FH m1 st.go j.aQ
structure dB where
 bM:Nat
 pin:Kz
 aI:Kz
 dA:Nat
 aU:List Nat
 aT:List Nat
 kept:List Nat:=[]
def dB.er (s:dB):yg:={ bM:=s.bM,pin:=s.pin.er,aI:=s.aI.er,dA:=s.dA,aU:=s.aU,aT:=s.aT }
open Classical in
noncomputable def vS {A R:Type} (x y:A) (r:Option R):Option R:=if x=y then r else none
noncomputable def Ib {R:Type} (a b:Nat→TO) (r:R):List Nat→Option R
 | []=>some r
 |g::gs=>match a g,b g with
  |.arr false _ _ e l,.arr false _ _ e' l'=>match (sV e' l').Aa (.sl e) with
   |some l''=>vS (A:=List (Dt e)) l'' l (Ib a b r gs)
   |none=>none
  |.aG _ _ e ah l none,.aG _ _ e' jK l' none=>match (sV e' l').Aa (.sl e),Ej ah jK with
   |some l'',true=>vS (A:=List (Dt e)) l'' l (Ib a b r gs)
   |_,_=>none
  |_,_=>none
structure aX where
 sig:dB
 f:Tup sig.pin.tys→Option (Tup sig.aI.tys)
noncomputable def aX.ff (s:aX):Tup s.sig.pin.tys→Option (Tup s.sig.aI.tys):=match s.sig.kept with
 | []=>s.f
 |g::gs=>fun x=>(s.f x).bind fun y=>Ib (mkT s.sig.pin (Tup.jI s.sig.pin.tys x)).go (mkT s.sig.aI (Tup.jI s.sig.aI.tys y)).go y (g::gs)
abbrev nC:=FuncId→Option aX
structure Fj where
 ins:List Wd
 A:Bool×Bool
 I:Bool×Bool
 tZ:List Nat
 ren:List (Nat×Nat)
def oC:List Nat→List TW→Option (List (Nat×Nat))
 | [],[]=>some []
 |g'::gs,.box g off::cs=>bif Nat.beq off 0 then match oC gs cs with
  |some r=>some ((g',g)::r)
  |none=>none
  else none
 |_,_=>none
def KA (o:Nat→TO):jH→TW→Option (List Wd×(Bool×Bool)×List Nat×List (Nat×Nat))
 |.p _ _ t,x=>match x.toP o t with
  |some (y,a,i,gs)=>some ([⟨t,y⟩],(a,i),gs,[])
  |none=>none
 |.own g',.own g=>some ([],(false,false),[],[(g',g)])
 |.box g' off',.box g off=>bif Nat.beq off' 0&&Nat.beq off 0 then some ([],(false,false),[],[(g',g)]) else none
 |.fn f gs,.clo f' caps=>bif Nat.beq f f' then match oC gs caps with
  |some r=>some ([],(false,false),[],r)
  |none=>none
  else none
 |_,_=>none
def oM (o:Nat→TO):List jH→List TW→Option (List Wd×(Bool×Bool)×List Nat×List (Nat×Nat))
 | [],[]=>some ([],(false,false),[],[])
 |k::ks,x::xs=>match KA o k x,oM o ks xs with
  |some (u,c,g,r),some (u',c',g',r')=>some (u++u',vN c c',g++g',r++r')
  |_,_=>none
 |_,_=>none
def UY (o:Nat→TO):jX→TS→Option (List Wd×(Bool×Bool)×List Nat×List (Nat×Nat))
 |.one k,.v (.one x)=>KA o k x
 |.agg ks,.v (.agg xs)=>oM o ks xs
 |_,_=>none
def lX (o:Nat→TO) (args:List TS):List (Nat×jX)→Option (List Wd×(Bool×Bool)×List Nat×List (Nat×Nat))
 | []=>some ([],(false,false),[],[])
 |(t,k)::rest=>match UY o k (args.getD t .no),lX o args rest with
  |some (u,c,g,r),some (u',c',g',r')=>some (u++u',vN c c',g++g',r++r')
  |_,_=>none
def af_:jH→TW→Option (List Wd×(Bool×Bool)×List (Nat×Nat))
 |.p _ _ t,.p a i w=>match w.Aa t with
  |some x=>some ([⟨t,x⟩],(a,i),[])
  |none=>none
 |.p _ _ t,.bY=>match t with
  |.sl e=>some ([sV e []],(false,false),[])
  |_=>none
 |.own g',.own g=>some ([],(false,false),[(g',g)])
 |.box g' off',.box g off=>bif Nat.beq off' 0&&Nat.beq off 0 then some ([],(false,false),[(g',g)]) else none
 |.fn f gs,.clo f' caps=>bif Nat.beq f f' then match oC gs caps with
  |some r=>some ([],(false,false),r)
  |none=>none
  else none
 |_,_=>none
def Ic:List jH→List TW→Option (List Wd×(Bool×Bool)×List (Nat×Nat))
 | [],[]=>some ([],(false,false),[])
 |k::ks,x::xs=>match af_ k x,Ic ks xs with
  |some (u,c,r),some (u',c',r')=>some (u++u',vN c c',r++r')
  |_,_=>none
 |_,_=>none
def uO (o:Nat→TO):List (Nat×Nat)→List (Nat×gX)→Option (List Wd×(Bool×Bool)×List (Nat×Nat))
 |ren,[]=>some ([],(false,false),ren)
 |ren,(g',k)::rest=>match ren.lookup g' with
  |some g=>match k,o g with
   |.box ks,.box ws=>match Ic ks ws with
    |some (u,c,r)=>match uO o (ren++r) rest with
     |some (u',c',r')=>some (u++u',vN c c',r')
     |none=>none
    |none=>none
   |.arr _ _ _ e,.arr false a i e' l=>match (sV e' l).Aa (.sl e) with
    |some l=>match uO o ren rest with
     |some (u',c',r')=>some (sV e l::u',vN (a,i) c',r')
     |none=>none
    |none=>none
   |.aG _ _ e ah,.aG a i e' jK l hole=>match hole,(sV e' l).Aa (.sl e),Ej ah jK with
    |none,some l,true=>match uO o ren rest with
     |some (u',c',r')=>some (sV e l::u',vN (a,i) c',r')
     |none=>none
    |_,_,_=>none
   |_,_=>none
  |none=>none
def uP (s:dB) (o:Nat→TO) (args:List TS):Option Fj:=
 match lX o args s.pin.slots with
 |some (u,A,gs,r)=>match uO o r s.pin.aQ with
  |some (u',I,r')=>some { ins:=u++u',A,I,tZ:=gs,ren:=jr r' }
  |none=>none
 |none=>none
def Fj.er (c:Fj):Jv:={ ins:=c.ins.map bU,A:=c.A,I:=c.I,tZ:=c.tZ,ren:=c.ren }
def xu (f:Nat→Nat):List TW→List TW
 | []=>[]
 |.box g off::r=>.box (f g) off::xu f r
 |_::r=>.no::xu f r
def Xt (A I:Bool×Bool) (f:Nat→Nat):TW→TW
 |.p a i x=>.p (pR A I a i).1 (pR A I a i).2 x
 |.bY=>.bY
 |.own g=>.own (f g)
 |.box g off=>.box (f g) off
 |.clo fn caps=>.clo fn (xu f caps)
 |_=>.no
def aga (A I:Bool×Bool) (f:Nat→Nat):TV→TV
 |.one x=>.one (Xt A I f x)
 |.agg xs=>.agg (xs.map (Xt A I f))
def Zv (A I:Bool×Bool) (f:Nat→Nat):TS→TV
 |.v x=>aga A I f x
 |_=>.one .no
def Nj (A I:Bool×Bool) (f:Nat→Nat):TO→TO
 |.none=>.none
 |.box ws=>.box (ws.map (Xt A I f))
 |.arr fz a i e l=>.arr fz (pR A I a i).1 (pR A I a i).2 e l
 |.it s n=>.it s n
 |.aG a i e ah l _=>.aG (pR A I a i).1 (pR A I a i).2 e ah l none
structure jC where
 x:TS
 aF:List (Nat×TO)
 new:List Nat
def jC.er (e:jC):Eff:={ x:=aW e.x,aF:=h_ e.aF,new:=e.new }
def Zw (vs:List TV):TS:=match vs with
 | [x]=>.v x
 |xs=>.kT xs
def jM (s:dB) (d:Nat) (o:Nat→TO) (c:Fj) (bT:List Wd):jC:=
 let x:=mkT s.aI bT
 let f:=callName d s.er c.ren
 { x:=Zw ((List.range s.dA).map fun k=>Zv c.A c.I f (x.gs k)),aF:=(bif s.er.lC then c.tZ.map (kP o) else [])++c.ren.map (fun p=>(p.2,bif s.aU.contains p.1 then Nj c.A c.I f (x.go p.1) else .none))++s.aT.map (fun g=>(f g,Nj c.A c.I f (x.go g))),new:=s.aT.map f }
def agb:Bool→Bool→Bool
 |true,true=>true
 |false,false=>true
 |_,_=>false
def Tc:TO→Option (Bool×Bool)
 |.arr fz a i _ _=>match fz with
  |true=>none
  |false=>some (a,i)
 |.aG a i _ _ _ hole=>match hole with
  |none=>some (a,i)
  |some _=>none
 |_=>none
def Ba (s:dB) (o f:Nat→TO):List (Nat×Nat)→List Nat
 | []=>[]
 |(g',g)::r=>match fB g' s.kept&&s.aU.contains g',Tc (o g),Tc (f g') with
  |true,some (a,i),some (a',i')=>match agb a a'&&agb i i' with
   |true=>g::Ba s o f r
   |false=>Ba s o f r
  |_,_,_=>Ba s o f r
def KC (same:List Nat):List (Nat×TO)→List (Nat×TO)
 | []=>[]
 |(g,x)::r=>match fB g same with
  |true=>KC same r
  |false=>(g,x)::KC same r
def yx (s:dB) (d:Nat) (o:Nat→TO) (c:Fj) (bT:List Wd):jC:=match s.kept with
 | []=>jM s d o c bT
 |_::_=>
  let e:=jM s d o c bT
  { e with aF:=KC (Ba s o (fun g'=>Nj c.A c.I (callName d s.er c.ren) ((mkT s.aI bT).go g')) c.ren) e.aF }
def jC.skip:jC:={ x:=.kT [],aF:=[],new:=[] }
def Df (l:List (Nat×TO)):List (Nat×TO)→List (Nat×TO)
 | []=>l
 |(g,x)::r=>zF g x (Df l r)
structure je where
 st:jB
 ds:List Nat
 od:List Nat
def jB.put (st:jB) (dst:Option Tmp) (x:TS):jB:=match dst with
 |some t=>{ st with s:=zF t x st.s }
 |none=>st
def je.eff (q:je) (dst:Option Tmp) (e:jC):je:=
 { st:={ s:=(q.st.put dst e.x).s,o:=Df q.st.o e.aF,u:=e.new++q.st.u },ds:=(match dst with | some t=>t::q.ds | none=>q.ds),od:=e.aF.map (·.1)++q.od }
def Zx {β:Type 1} (b:Bool) (k:Bool→β):β:=match b with
 |true=>k true
 |false=>k false
def Nk {β:Type 1}:Ty→(Ty→β)→β
 |.int .i8,k=>k (.int .i8)
 |.int .i16,k=>k (.int .i16)
 |.int .i32,k=>k (.int .i32)
 |.int .i64,k=>k (.int .i64)
 |.int .u8,k=>k (.int .u8)
 |.int .u16,k=>k (.int .u16)
 |.int .u32,k=>k (.int .u32)
 |.int .u64,k=>k (.int .u64)
 |.bool,k=>k .bool
 |.str,k=>k .str
 |.sl e,k=>Nk e fun e=>k (.sl e)
 |.prod a b,k=>Nk a fun a=>Nk b fun b=>k (.prod a b)
 |.st n,k=>k (.st n)
 |.opq,k=>k .opq
 |.sq e,k=>Nk e fun e=>k (.sq e)
def frW {β:Type 1}:TW→(TW→β)→β
 |.p a i ⟨t,x⟩,k=>Zx a fun a=>Zx i fun i=>k (.p a i ⟨t,x⟩)
 |.bY,k=>k .bY
 |.own g,k=>k (.own g)
 |.vw g lo hi,k=>k (.vw g lo hi)
 |.box g off,k=>k (.box g off)
 |.ep g n off,k=>k (.ep g n off)
 |.sp a i t x off,k=>Zx a fun a=>Zx i fun i=>k (.sp a i t x off)
 |.clo f caps,k=>k (.clo f caps)
 |.gl g,k=>k (.gl g)
 |.mJ g,k=>k (.mJ g)
 |.no,k=>k .no
def Zy {β:Type 1}:List TW→(List TW→β)→β
 | [],k=>k []
 |x::xs,k=>frW x fun x=>Zy xs fun xs=>k (x::xs)
def frV {β:Type 1}:TV→(TV→β)→β
 |.one x,k=>frW x fun x=>k (.one x)
 |.agg xs,k=>Zy xs fun xs=>k (.agg xs)
def acu {β:Type 1}:List TV→(List TV→β)→β
 | [],k=>k []
 |x::xs,k=>frV x fun x=>acu xs fun xs=>k (x::xs)
def frS {β:Type 1}:TS→(TS→β)→β
 |.v x,k=>frV x fun x=>k (.v x)
 |.kT xs,k=>acu xs fun xs=>k (.kT xs)
 |.no,k=>k .no
def frC {β:Type 1}:List (Nat×Ty)→(List (Nat×Ty)→β)→β
 | [],k=>k []
 |(c,t)::r,k=>Nk t fun t=>frC r fun r=>k ((c,t)::r)
def frH {β:Type 1}:Option (Nat×Nat×Nat)→(Option (Nat×Nat×Nat)→β)→β
 |none,k=>k none
 |some (n,c,d),k=>k (some (n,c,d))
def frO {β:Type 1}:TO→(TO→β)→β
 |.none,k=>k .none
 |.box ws,k=>Zy ws fun ws=>k (.box ws)
 |.arr fz a i e l,k=>Zx fz fun fz=>Zx a fun a=>Zx i fun i=>k (.arr fz a i e l)
 |.it s n,k=>k (.it s n)
 |.aG a i e ah l hole,k=>Zx a fun a=>Zx i fun i=>frC ah fun ah=>frH hole fun hole=>k (.aG a i e ah l hole)
def acv {β:Type 1}:List (Nat×TS)→(List (Nat×TS)→β)→β
 | [],k=>k []
 |(t,x)::r,k=>frS x fun x=>acv r fun r=>k ((t,x)::r)
def acw {β:Type 1}:List (Nat×TO)→(List (Nat×TO)→β)→β
 | [],k=>k []
 |(t,x)::r,k=>frO x fun x=>acw r fun r=>k ((t,x)::r)
def JH {β:Type 1}:List Nat→(List Nat→β)→β
 | [],k=>k []
 |x::r,k=>JH r fun r=>k (x::r)
def frX {β:Type 1} (q:je) (k:je→β):β:=
 acv q.st.s fun s=>acw q.st.o fun o=>JH q.st.u fun u=>JH q.ds fun ds=>JH q.od fun od=>k ⟨⟨s,o,u⟩,ds,od⟩
noncomputable def Zz {R:Type} (T:nC) (tt:TT) (ety:TypeId→Option Ty) (d:Nat) (st:jB) (o:Oper) (K:jC→Prog R):Prog R:=
 match o.op with
 |.call { callee:=.value f,args,.. }=>match st.dK f with
  |.v (.one (.clo fn caps))=>match T fn with
   |some sp=>match uP sp.sig st.go ((args.toList.map st.dK)++caps.map fun x=>TS.v (.one x)) with
    |some c=>match c.er.fine sp.sig.er&&Nat.beq (args.size+caps.length) sp.sig.bM with
     |true=>match Tup.ofL sp.sig.pin.tys c.ins with
      |some x=>match sp.sig.er.ok with
       |true=>.call fn sp.ff x fun y=>K (yx sp.sig d st.go c (Tup.jI sp.sig.aI.tys y))
       |false=>.stuck 17
      |none=>.stuck 11
     |false=>.stuck 12
    |none=>.stuck 13
   |none=>.stuck 14
  |_=>.stuck 15
 |op=>match iT tt ety d st.go st.dK op o.type with
  |some r=>.chk r.pre (.let_ r.val fun z=>K { x:=r.dst z,aF:=r.aF z,new:=r.new })
  |none=>match dH tt ety d st.go st.dK op o.type with
   |some r=>.chk r.pre (.let_ r.val fun z=>K { x:=r.dst z,aF:=r.aF z,new:=r.new })
   |none=>.stuck 16
def zK (u:List Nat):List Nat→Bool
 | []=>true
 |g::gs=>!fB g u&&zK u gs
def Td (ops:Array Oper) (st:jB) (j:Nat):Option (Tmp×Option (Bool×Bool×Bool)):=
 match (ops[j]?).bind (·.dst) with
 |some t=>match st.gs t with
  |.v (.one (.p a i ⟨.bool,b⟩))=>some (t,some (a,i,b))
  |.kT []=>some (t,none)
  |_=>none
 |none=>none
def UZ (N:Nat):Option Tmp→Bool
 |some d=>Nat.blt d N
 |none=>true
def je.know (q:je) (t:Tmp) (a i b:Bool):je:={ q with st:={ q.st with s:=zF t (.v (.one (.p a i (iC b)))) q.st.s } }
noncomputable def stepT {R:Type} (T:nC) (tt:TT) (ety:TypeId→Option Ty) (N:Nat) (ops:Array Oper) (o:Oper) (q:je) (K:je→jC→Prog R):Prog R:=
 match UZ N o.dst with
 |false=>.stuck 20
 |true=>match o.guard with
  |none=>Zz T tt ety (o.dst.getD 0) q.st o fun e=>match zK q.st.u e.new with
   |true=>K q e
   |false=>.stuck 21
  |some (j,want)=>match Td ops q.st j with
   |none=>.stuck 22
   |some (t,none)=>K q jC.skip
   |some (t,some (a,i,b))=>
    let on (q:je):Prog R:=Zz T tt ety (o.dst.getD 0) q.st o fun e=>match zK q.st.u e.new with
     |true=>K q e
     |false=>.stuck 21
    .cond b (frX (q.know t a i true) fun q=>bif want then on q else K q jC.skip) (frX (q.know t a i false) fun q=>bif want then K q jC.skip else on q)
inductive Nl where
 |yes
 |no
 |may (empty:Bool)
def Ie (o:Nat→TO):TS→Option Nl
 |.v (.one (.p _ _ ⟨.sl e,l⟩))=>some (.may (List.isEmpty (α:=Dt e) l))
 |.v (.one (.own g))=>match o g with
  |.arr _ _ _ _ l=>some (.may l.isEmpty)
  |.aG _ _ _ _ l _=>some (.may l.isEmpty)
  |_=>none
 |.v (.one .bY)=>some .yes
 |_=>none
def Ig (o:Nat→TO):TS→Option Nl
 |.v (.one (.box g _))=>match o g with
  |.box _=>some .no
  |_=>none
 |.v (.one (.p _ _ ⟨.opq,.pointer none⟩))=>some .yes
 |_=>none
def Np (o:Nat→TO) (x:TS) (k:TK) (c:Value):Option Nl:=
 match k,c with
 |.slice _,.slice none 0 0=>Ie o x
 |.ptr,.pointer none=>Ig o x
 |_,_=>none
def agc (tt:TT) (st:jB) (o:Oper):Option (Bool×Nl):=
 match o.guard with
 |some _=>none
 |none=>match o.op with
  |.binOp op t x (.const c) _=>match tt t with
   |some i=>match op,Np st.go (st.dK x) i.k c with
    |.eql,some p=>some (true,p)
    |.neq,some p=>some (false,p)
    |_,_=>none
   |none=>none
  |_=>none
def acy (s:List UInt8) (n:Int):Bool:=decide (n.toNat<s.length)
def agd (s:List UInt8) (n:Int):Int:=((Utf8.decode ⟨s.toArray⟩ n.toNat).1:Nat)
def Xu (s:List UInt8) (n:Int):Int:=((n.toNat+(Utf8.decode ⟨s.toArray⟩ n.toNat).2:Nat):Int)
def PO (n:Int):Int:=((n.toNat:Nat):Int)
def ZA (st:jB) (o:Oper):Option (Nat×List UInt8×Int):=
 match o.guard with
 |some _=>none
 |none=>match o.op with
  |.next x true=>match st.dK x with
   |.v (.one (.mJ g))=>match st.go g with
    |.it s n=>some (g,s,n)
    |_=>none
   |_=>none
  |_=>none
def Nq (g:Nat) (s:List UInt8) (n:Int):jC:={ x:=.kT [.one (.p false false (iC true)),.one (.p false false (jF .i64 (PO n))),.one (.p false false (jF .i32 (agd s n)))],aF:=[(g,.it s (Xu s n))],new:=[] }
def Tf:jC:={ x:=.kT [.one (.p false false (iC false))],aF:=[],new:=[] }
def qh (b:Bool):jC:={ x:=UQ (iC b),aF:=[],new:=[] }
noncomputable def Ti {R:Type} (T:nC) (tt:TT) (ety:TypeId→Option Ty) (N:Nat) (ops:Array Oper) (o:Oper) (q:je) (K:je→jC→Prog R):Prog R:=
 match agc tt q.st o with
 |some (pos,c)=>match UZ N o.dst with
  |false=>.stuck 23
  |true=>match c with
   |.yes=>K q (qh pos)
   |.no=>K q (qh (!pos))
   |.may e=>.cond e (.any (K q (qh true)) (K q (qh false))) (K q (qh (!pos)))
 |none=>match ZA q.st o with
  |some (g,s,n)=>match UZ N o.dst with
   |false=>.stuck 23
   |true=>.cond (acy s n) (K q (Nq g s n)) (K q Tf)
  |none=>stepT T tt ety N ops o q K
noncomputable def runT {R:Type} (T:nC) (tt:TT) (ety:TypeId→Option Ty) (N:Nat) (ops:Array Oper):List Oper→je→(je→Prog R)→Prog R
 | [],q,K=>K q
 |o::os,q,K=>Ti T tt ety N ops o q fun q e=>frX (q.eff o.dst e) fun q=>runT T tt ety N ops os q K
def xw:List TW→List Nat
 | []=>[]
 |.box g _::r=>g::xw r
 |x::r=>(bP x).names++xw r
def W.namesT:TW→List Nat
 |.own g | .vw g _ _ | .box g _ | .ep g _ _ | .mJ g=>[g]
 |.clo _ caps=>xw caps
 |_=>[]
def V.namesT:TV→List Nat
 |.one x=>W.namesT x
 |.agg xs=>xs.flatMap W.namesT
def S.namesT:TS→List Nat
 |.v x=>V.namesT x
 |.kT xs=>xs.flatMap V.namesT
 |.no=>[]
def U0 (args:List TS):List (Nat×jX)→Bool
 | []=>false
 |(t,_)::rest=>match args.getD t .no with
  |.no=>true
  |.kT _=>true
  |_=>U0 args rest
def Tj (T:nC) (st:jB) (o:Oper):Option (List Nat):=
 match o.op with
 |.call { callee:=.value f,args,.. }=>match st.dK f with
  |.v (.one (.clo fn caps))=>match T fn with
   |some sp=>match uP sp.sig st.go ((args.toList.map st.dK)++caps.map fun x=>TS.v (.one x)) with
    |some c=>some (c.ren.map (·.2))
    |none=>bif U0 ((args.toList.map st.dK)++caps.map fun x=>TS.v (.one x)) sp.sig.pin.slots then some [] else none
   |none=>some []
  |_=>some []
 |_=>some []
def ZB (T:nC) (st:jB) (o:Oper):Option (List Nat):=match Tj T st o with
 |some r=>some ((bif looks o.op then (o.op.operands.toList.flatMap fun x=>(S.namesT (st.dK x)).flatMap fun g=>g::kW (st.go g)) else [])++r)
 |none=>none
def acz {β:Type 1}:List (Nat×Nat)→(List (Nat×Nat)→β)→β
 | [],k=>k []
 |(a,b)::r,k=>acz r fun r=>k ((a,b)::r)
def frF {β:Type 1} (f:rX) (k:rX→β):β:=JH f.rd fun rd=>JH f.wr fun wr=>JH f.new fun new=>frH f.ld fun ld=>acz f.kp fun kp=>Zx f.pk fun pk=>JH f.kd fun kd=>k ⟨rd,wr,new,ld,kp,pk,kd⟩
def ZC:TW→TW→Bool
 |.own g,.own g'=>Nat.beq g g'
 |.box g off,.box g' off'=>Nat.beq g g'&&Nat.beq off off'
 |_,_=>false
def Dh (g:Nat):Nat→List TW→List TW→Option (List (Nat×Nat))
 |_,[],[]=>some []
 |j,x::xs,y::ys=>match Dh g (j+1) xs ys with
  |some r=>some (match ZC x y with
   |true=>(g,j)::r
   |false=>r)
  |none=>none
 |_,_,_=>none
def Tn (g:Nat):TO→Option TO→List (Nat×Nat)
 |.box ws,some (.box ws')=>match Dh g 0 ws ws' with
  |some r=>r
  |none=>[]
 |_,_=>[]
def kpT (st:jB) (aF:List (Nat×TO)):List (Nat×Nat):=(aF.map (·.1)).flatMap fun g=>Tn g (st.go g) (aF.lookup g)
def ZE:TO→Nat
 |.box _=>1
 |.arr _ _ _ _ _=>2
 |.aG _ _ _ _ _ _=>2
 |.it _ _=>3
 |.none=>0
def kdT (st:jB) (aF:List (Nat×TO)):List Nat:=(aF.map (·.1)).filterMap fun g=>match aF.lookup g with
 |some x=>bif Nat.beq (ZE x) (ZE (st.go g)) then some g else none
 |none=>none
def ldT (tt:TT) (st:jB) (o:Oper):Option (Nat×Nat×Nat):=match o.op with
 |.load t x=>match tt t,st.dK x with
  |some i,.v (.one (.box g off))=>some (g,off,i.size)
  |_,_=>none
 |_=>none
noncomputable def runNT {R:Type} (T:nC) (tt:TT) (ety:TypeId→Option Ty) (N:Nat) (ops:Array Oper):List Oper→je→List rX→(je→List rX→Prog R)→Prog R
 | [],q,fs,K=>K q fs
 |o::os,q,fs,K=>match ZB T q.st o with
  |none=>.stuck 25
  |some rd=>stepT T tt ety N ops o q fun q' e=>frF { rd,wr:=e.aF.map (·.1),new:=e.new,ld:=ldT tt q.st o,kp:=kpT q.st e.aF,pk:=rY o.op,kd:=kdT q.st e.aF } fun ft=>frX (q'.eff o.dst e) fun q=>runNT T tt ety N ops os q (fs++[ft]) K
noncomputable def uQ {R:Type} (T:nC) (tt:TT) (ety:TypeId→Option Ty) (N:Nat) (ops:Array Oper) (draw:Bool) (q:je) (K:je→Prog R):Prog R:=
 match draw with
 |false=>runT T tt ety N ops ops.toList q K
 |true=>runNT T tt ety N ops ops.toList q [] fun q fs=>match UM ops fs with
  |true=>K q
  |false=>.stuck 24
inductive Md where
 |keep
 |sl (k:jX)
inductive Mo where
 |keep
 |ob (k:gX)
structure JT where
 slots:List (Nat×Md)
 aQ:List (Nat×Mo)
def Bc:List TW→Option (List Nat)
 | []=>some []
 |.box g off::cs=>bif Nat.beq off 0 then match Bc cs with
  |some gs=>some (g::gs)
  |none=>none
  else none
 |_=>none
def PU:TW→Option (jH×List Wd)
 |.p a i w=>some (.p a i w.t,[w])
 |.bY=>some (.bY,[])
 |.own g=>some (.own g,[])
 |.box g off=>some (.box g off,[])
 |.clo f caps=>match Bc caps with
  |some gs=>some (.fn f gs,[])
  |none=>none
 |.mJ g=>some (.mJ g,[])
 |.vw g lo hi=>some (.vw g,[jF .i64 lo,jF .i64 hi])
 |.ep g n off=>some (.ep g off,[jF .i64 n])
 |_=>none
def vH:List TW→Option (List jH×List Wd)
 | []=>some ([],[])
 |x::xs=>match PU x,vH xs with
  |some (k,u),some (ks,us)=>some (k::ks,u++us)
  |_,_=>none
def Nr:TS→Option (jX×List Wd)
 |.v (.one x)=>match PU x with
  |some (k,u)=>some (.one k,u)
  |none=>none
 |.v (.agg xs)=>match vH xs with
  |some (ks,u)=>some (.agg ks,u)
  |none=>none
 |_=>none
def vT:TO→Option (gX×List Wd)
 |.box ws=>match vH ws with
  |some (ks,u)=>some (.box ks,u)
  |none=>none
 |.arr fz a i e l=>some (.arr fz a i e,[sV e l])
 |.it s n=>some (.it,[Pm s,jF .i64 n])
 |.aG a i e ah l hole=>match hole with
  |none=>some (.aG a i e ah,[sV e l])
  |some _=>none
 |.none=>none
def zL (s:Nat→TS):List (Nat×Md)→Option (List (Nat×jX×Option (List Wd)))
 | []=>some []
 |(t,.keep)::r=>match Nr (s t),zL s r with
  |some (k,u),some l=>some ((t,k,some u)::l)
  |_,_=>none
 |(t,.sl k)::r=>match zL s r with
  |some l=>some ((t,k,none)::l)
  |none=>none
def Ih (o:Nat→TO):List (Nat×Mo)→Option (List (Nat×gX×Option (List Wd)))
 | []=>some []
 |(t,.keep)::r=>match vT (o t),Ih o r with
  |some (k,u),some l=>some ((t,k,some u)::l)
  |_,_=>none
 |(t,.ob k)::r=>match Ih o r with
  |some l=>some ((t,k,none)::l)
  |none=>none
structure JF where
 slots:List (Nat×jX×Option (List Wd))
 aQ:List (Nat×gX×Option (List Wd))
def JF.sh (j:JF):Kz:=⟨j.slots.map fun p=>(p.1,p.2.1),j.aQ.map fun p=>(p.1,p.2.1)⟩
def ji:List (Nat×jX×Option (List Wd))→List Ty
 | []=>[]
 |(_,k,none)::r=>k.tys++ji r
 |(_,_,some _)::r=>ji r
def oD:List (Nat×gX×Option (List Wd))→List Ty
 | []=>[]
 |(_,k,none)::r=>k.tys++oD r
 |(_,_,some _)::r=>oD r
def JF.tys (j:JF):List Ty:=ji j.slots++oD j.aQ
def lF:List (Nat×jX×Option (List Wd))→List Wd→List Wd×List Wd
 | [],ws=>([],ws)
 |(_,k,none)::r,ws=>(ws.take k.tys.length++(lF r (ws.drop k.tys.length)).1,(lF r (ws.drop k.tys.length)).2)
 |(_,_,some u)::r,ws=>(u++(lF r ws).1,(lF r ws).2)
def qj:List (Nat×gX×Option (List Wd))→List Wd→List Wd×List Wd
 | [],ws=>([],ws)
 |(_,k,none)::r,ws=>(ws.take k.tys.length++(qj r (ws.drop k.tys.length)).1,(qj r (ws.drop k.tys.length)).2)
 |(_,_,some u)::r,ws=>(u++(qj r ws).1,(qj r ws).2)
def JF.pay (j:JF) (ws:List Wd):List Wd:=(lF j.slots ws).1++(qj j.aQ (lF j.slots ws).2).1
def Ns:List (Nat×jX×Option (List Wd))→List Wd→List Wd×List Wd
 | [],ws=>([],ws)
 |(_,k,none)::r,ws=>(ws.take k.tys.length++(Ns r (ws.drop k.tys.length)).1,(Ns r (ws.drop k.tys.length)).2)
 |(_,k,some u)::r,ws=>((Ns r (ws.drop u.length)).1,(Ns r (ws.drop u.length)).2)
def PY:List (Nat×gX×Option (List Wd))→List Wd→List Wd×List Wd
 | [],ws=>([],ws)
 |(_,k,none)::r,ws=>(ws.take k.tys.length++(PY r (ws.drop k.tys.length)).1,(PY r (ws.drop k.tys.length)).2)
 |(_,k,some u)::r,ws=>((PY r (ws.drop u.length)).1,(PY r (ws.drop u.length)).2)
def JF.ext (j:JF) (ws:List Wd):List Wd:=(Ns j.slots ws).1++(PY j.aQ (Ns j.slots ws).2).1
def hasK {α:Type} (t:Nat):List (Nat×α)→Bool
 | []=>false
 |(k,_)::r=>Nat.beq t k||hasK t r
def PZ (s:List (Nat×TS)) (ds:List Nat):List (Nat×jX×Option (List Wd))→Bool
 | []=>true
 |(t,_,some _)::r=>hasK t s&&!fB t ds&&PZ s ds r
 |(_,_,none)::r=>PZ s ds r
def P5 (s:List (Nat×TO)) (ds:List Nat):List (Nat×gX×Option (List Wd))→Bool
 | []=>true
 |(t,_,some _)::r=>hasK t s&&!fB t ds&&P5 s ds r
 |(_,_,none)::r=>P5 s ds r
def keysB (aU:List Nat) (j:Kz) (m:Ren):Bool:=keeps aU j.er m
def KD:List (Nat×gX×Option (List Wd))→Ren
 | []=>[]
 |(t,_,some _)::r=>(t,some t)::KD r
 |(_,_,none)::r=>KD r
def ZF (gs:List Nat) (o:Nat→TO):TW→TW
 |.own g=>bif fB g gs then match m_ o g with
  |some ⟨a,i,e,l⟩=>.p a i (sV e l)
  |none=>.own g
  else .own g
 |.vw g lo hi=>bif fB g gs then match m_ o g with
  |some ⟨a,i,e,l⟩=>.p a i (sV e ((l.take hi.toNat).drop lo.toNat))
  |none=>.vw g lo hi
  else .vw g lo hi
 |x=>x
def tpV (gs:List Nat) (o:Nat→TO):TV→TV
 |.one x=>.one (ZF gs o x)
 |.agg xs=>.agg (xs.map (ZF gs o))
def tpS (gs:List Nat) (o:Nat→TO):TS→TS
 |.v x=>.v (tpV gs o x)
 |.kT xs=>.kT (xs.map (tpV gs o))
 |.no=>.no
def tpO (gs:List Nat) (o:Nat→TO) (g:Nat):TO→TO
 |.none=>.none
 |.box ws=>.box (ws.map (ZF gs o))
 |.arr fz a i e l=>.arr (fz||fB g gs) a i e l
 |.it s n=>.it s n
 |.aG a i e ah l hole=>bif fB g gs then (kP o g).2 else .aG a i e ah l hole
def Ii (gs:List Nat) (st:jB):jB:=match gs with
 | []=>st
 |g::r=>{ s:=st.s.map fun p=>(p.1,tpS (g::r) st.go p.2),o:=st.o.map fun p=>(p.1,tpO (g::r) st.go p.1 p.2),u:=st.u }
def plB (o:Nat→TO) (g:Nat):Bool:=match m_ o g with
 |some _=>true
 |none=>false
def acC (o:Nat→TO) (gs:List Nat):Bool:=gs.all fun g=>plB o g&&(kW (o g)).all fun d=>fB d gs
def U1:TO→Option Nat
 |.aG _ _ _ _ _ hole=>match hole with
  |some (_,_,d)=>some d
  |none=>none
 |_=>none
def lN (keep:List Nat):List Nat→jB→List Nat×jB
 | [],st=>([],st)
 |g::gs,st=>match U1 (st.go g),xk st.go g with
  |some d,some ⟨a,i,e,ah,l⟩=>match !fB g keep&&!fB d keep with
   |true=>let r:=lN keep gs { st with o:=Df st.o [(g,.aG a i e ah l none),(d,.none)] }
    (g::r.1,r.2)
   |false=>lN keep gs st
  |_,_=>lN keep gs st
def JI:List (Nat×TO)→List Nat
 | []=>[]
 |(g,x)::r=>match U1 x with
  |some _=>g::JI r
  |none=>JI r
def yR:List (Nat×gX×Option (List Wd))→List Nat
 | []=>[]
 |(t,_,some _)::r=>t::yR r
 |(_,_,none)::r=>yR r
def fzW (o:Nat→TO):jH→TW→List Nat
 |.p _ _ _,.own g=>bif plB o g then kW (o g)++[g] else []
 |.p _ _ _,.vw g _ _=>bif plB o g then kW (o g)++[g] else []
 |_,_=>[]
def agf (o:Nat→TO):List jH→List TW→List Nat
 |k::ks,x::xs=>fzW o k x++agf o ks xs
 |_,_=>[]
def fzS (o:Nat→TO):jX→TS→List Nat
 |.one k,.v (.one x)=>fzW o k x
 |.agg ks,.v (.agg xs)=>agf o ks xs
 |_,_=>[]
def U2 (st:jB):List (Nat×jX)→List Nat
 | []=>[]
 |(t,k)::r=>fzS st.go k (st.gs t)++U2 st r
def Tq (m:Ren) (st:jB):List (Nat×gX)→List Nat
 | []=>[]
 |(g',.box ks)::r=>(match m.lookup g' with
  |some (some g)=>match st.go g with
   |.box ws=>agf st.go ks ws
   |_=>[]
  |_=>[])++Tq m st r
 |_::r=>Tq m st r
def acD (aU:List Nat) (j:Kz) (st:jB):List Nat:=U2 st j.slots++Tq (derive aU j st) st j.aQ
def Tt (gs:List Nat) (x:TS):Bool:=(S.namesT x).all fun g=>!fB g gs
def Ij (gs:List Nat) (g:Nat):TO→Bool
 |.none=>true
 |.box ws=>(ws.flatMap W.namesT).all fun g=>!fB g gs
 |.arr _ _ _ _ _=>!fB g gs
 |.it _ _=>true
 |.aG _ _ _ _ _ _=>!fB g gs
def ZG (gs:List Nat) (s:Nat→TS):List (Nat×jX×Option (List Wd))→Bool
 | []=>true
 |(t,_,some _)::r=>Tt gs (s t)&&ZG gs s r
 |(_,_,none)::r=>ZG gs s r
def ZH (gs:List Nat) (o:Nat→TO):List (Nat×gX×Option (List Wd))→Bool
 | []=>true
 |(t,_,some _)::r=>Ij gs t (o t)&&ZH gs o r
 |(_,_,none)::r=>ZH gs o r
def ql {R:Type} (aU:List Nat) (j:JF) (q:je) (K:Tup j.tys→Prog R):Prog R:=
 let st0:=(lN (yR j.aQ) (JI q.st.o) q.st).2
 let gs:=acD aU j.sh st0
 let st:=Ii gs st0
 let m:=KD j.aQ++derive aU j.sh st
 match PZ q.st.s q.ds j.slots&&P5 q.st.o q.od j.aQ&&keysB aU j.sh m&&acC st0.go gs&&ZG gs st0.gs j.slots&&ZH gs st0.go j.aQ with
 |false=>.stuck 30
 |true=>match yw j.sh m st with
  |none=>.stuck 31
  |some vs=>match Tup.ofL j.tys (j.ext vs) with
   |none=>.stuck 32
   |some x=>K x
def qm (j:JF) (x:Tup j.tys):jB:=mkT j.sh (j.pay (Tup.jI j.tys x))
def newS:List (Nat×jX×Option (List Wd))→List Nat
 | []=>[]
 |(t,_,none)::r=>t::newS r
 |(_,_,some _)::r=>newS r
def qH:List (Nat×gX×Option (List Wd))→List Nat
 | []=>[]
 |(t,_,none)::r=>t::qH r
 |(_,_,some _)::r=>qH r
def je.fresh (q:je):je:={ q with ds:=[],od:=[] }
def je.since (q' q:je):je:={ q' with ds:=q'.ds++q.ds,od:=q'.od++q.od }
structure TK (R:Type) where
 n:je→Prog R
 x:Nat→je→Prog R
 r:je→Prog R
inductive gJ where
 |nil
 |seq (a b:gJ)
 |meet (early:Bool) (j:JT) (a:gJ)
 |loop (j:JT) (a:gJ)
 |range (j:JT) (sg:dB) (a:gJ)
def gJ.fst:gJ→gJ
 |.seq a _=>a
 |_=>.nil
def gJ.snd:gJ→gJ
 |.seq _ b=>b
 |_=>.nil
def ZI (nw:List Nat):List (Nat×jX×Option (List Wd))→Bool
 | []=>true
 |(t,_,some _)::r=>!fB t nw&&ZI nw r
 |(_,_,none)::r=>ZI nw r
def ZJ (nw:List Nat):List (Nat×gX×Option (List Wd))→Bool
 | []=>true
 |(t,_,some _)::r=>!fB t nw&&ZJ nw r
 |(_,_,none)::r=>ZJ nw r
def jOf (st:jB) (j:JT):Option JF:=match zL st.gs j.slots,Ih st.go j.aQ with
 |some s,some o=>match ZI (newS s) s&&ZJ (qH o) o with
  |true=>some ⟨s,o⟩
  |false=>none
 |_,_=>none
def knT (c:Operand) (a i b:Bool) (q:je):je:=match c with
 |.tmp t=>q.know t a i b
 |_=>q
def U3 {R:Type} (c:Operand) (q:je) (x y:je→Prog R):Prog R:=match q.st.dK c with
 |.v (.one (.p a i ⟨.bool,b⟩))=>.cond b (frX (knT c a i true q) x) (frX (knT c a i false q) y)
 |_=>.stuck 50
def KE {R:Type} (aU:List Nat) (early:Bool) (jt:JT) (here:Nat→Bool) (q:je) (inner:(R':Type)→je→TK R'→Prog R') (K:TK R):Prog R:=
 match jOf q.st jt with
 |none=>.stuck 40
 |some j=>match early with
  |false=>.join (inner (Tup j.tys) q.fresh { n:=fun q'=>ql aU j q' .ret,x:=fun id q'=>bif here id then ql aU j q' .ret else .stuck 41,r:=fun _=>.stuck 42 })
    fun x=>frX ⟨qm j x,newS j.slots++q.ds,qH j.aQ++q.od⟩ K.n
  |true=>.Ky (inner (Tup j.tys ⊕ R) q.fresh { n:=fun q'=>ql aU j q' fun x=>.ret (.inl x),x:=fun id q'=>bif here id then ql aU j q' (fun x=>.ret (.inl x)) else (K.x id (q'.since q)).map .inr,r:=fun q'=>(K.r (q'.since q)).map .inr })
    fun x=>frX ⟨qm j x,newS j.slots++q.ds,qH j.aQ++q.od⟩ K.n
def Ty.lit:Ty→Bool
 |.int _=>true
 |.bool=>true
 |.str=>true
 |_=>false
def Nu (N:Nat):Code→jB→Option jB
 |.skip,st=>some st
 |.region _ ops false,st=>match ops.toList with
  | [o]=>match o.guard,o.dst,Hf o.op with
   |none,some d,some t=>match Nat.blt d N with
    |true=>some (st.put (some d) (st.gs t))
    |false=>none
   |_,_,_=>none
  |_=>none
 |.seq x y,st=>match Nu N x st with
  |some st'=>Nu N y st'
  |none=>none
 |_,_=>none
def rowT:List Tmp→List Wd→jB→jB
 |p::ps,x::xs,st=>rowT ps xs (st.put (some p) (.v (.one (.p false false x))))
 |_,_,st=>st
def outT (sg:dB) (q:je):Prog (Tup sg.aI.tys):=
 let st0:jB:=(lN [] (JI q.st.o) { s:=[],o:=q.st.o,u:=q.st.u }).2
 let gs:=acD sg.aU sg.aI st0
 let st:=Ii gs st0
 let m:=derive sg.aU sg.aI st
 match keysB sg.aU sg.aI m&&acC st0.go gs with
 |false=>.stuck 81
 |true=>match yw sg.aI m st with
  |none=>.stuck 82
  |some vs=>match Tup.ofL sg.aI.tys vs with
   |none=>.stuck 83
   |some x=>.ret x
def Nv {R:Type} (N:Nat) (sg:dB) (body:je→TK (Tup sg.aI.tys)→Prog (Tup sg.aI.tys)) (ps:Array Tmp) (x:Code) (ws:List Wd) (q:je) (K:je→Prog R):Prog R:=
 match Nu N x (rowT ps.toList ws q.st) with
 |none=>.stuck 70
 |some st1=>match uP sg q.st.go ((List.range N).map st1.gs) with
  |none=>.stuck 71
  |some c=>match sg.er.ok&&(sg.aU.all (fun g=>sg.pin.er.nms.contains g)&&sg.er.YH)&&Nat.beq sg.dA 0&&c.er.fine sg.er with
   |false=>.stuck 72
   |true=>match Tup.ofL sg.pin.tys c.ins with
    |none=>.stuck 73
    |some z=>.join (frX ⟨mkT sg.pin (Tup.jI sg.pin.tys z),[],[]⟩ fun qb=>body qb { n:=outT sg,x:=fun _ _=>.stuck 74,r:=fun _=>.stuck 75 }) fun bT=>
      match zK q.st.u (jM sg (ps.getD 0 0) q.st.go c (Tup.jI sg.aI.tys bT)).new with
      |true=>frX (q.eff none (jM sg (ps.getD 0 0) q.st.go c (Tup.jI sg.aI.tys bT))) K
      |false=>.stuck 76
noncomputable def lG (T:nC) (tt:TT) (ety:TypeId→Option Ty) (N:Nat) (aU:List Nat):Code→(R:Type)→gJ→je→TK R→Prog R
 |.skip,R,_,q,K=>K.n q
 |.region _ ops draw,R,a,q,K=>match a with
  |.meet e j _=>KE aU e j (fun _=>false) q (fun _ q K=>uQ T tt ety N ops draw q K.n) K
  |_=>uQ T tt ety N ops draw q K.n
 |.seq x y,R,a,q,K=>lG T tt ety N aU x R a.fst q { n:=fun q'=>lG T tt ety N aU y R a.snd q' K,x:=K.x,r:=K.r }
 |.cond c x y,R,a,q,K=>match a with
  |.meet e j a=>KE aU e j (fun _=>false) q (fun R q K=>U3 c q (fun q=>lG T tt ety N aU x R a.fst q K) fun q=>lG T tt ety N aU y R a.snd q K) K
  |a=>U3 c q (fun q=>lG T tt ety N aU x R a.fst q K) fun q=>lG T tt ety N aU y R a.snd q K
 |.block id c,R,a,q,K=>match a with
  |.meet e j a=>KE aU e j (Nat.beq id) q (fun R q K=>lG T tt ety N aU c R a q K) K
  |a=>lG T tt ety N aU c R a.fst q { n:=K.n,x:=fun id' q'=>bif Nat.beq id' id then K.n q' else K.x id' q',r:=K.r }
 |.loop c,R,a,q,K=>match a with
  |.loop jt a=>match jOf q.st jt with
   |none=>.stuck 43
   |some j=>ql aU j q.fresh fun x=>.loop x fun x=>
     frX ⟨qm j x,[],[]⟩ fun q'=>lG T tt ety N aU c (Tup j.tys ⊕ R) a q'
      { n:=fun q'=>ql aU j q' fun x=>.ret (.inl x),x:=fun id q'=>(K.x id (q'.since ⟨q'.st,newS j.slots++q.ds,qH j.aQ++q.od⟩)).map .inr,r:=fun q'=>(K.r (q'.since ⟨q'.st,newS j.slots++q.ds,qH j.aQ++q.od⟩)).map .inr }
  |_=>.stuck 44
 |.exit id,R,_,q,K=>K.x id q
 |.ret,R,_,q,K=>K.r q
 |.label _,R,_,q,K=>K.n q
 |.rangeFunc g ps x y,R,a,q,K=>match a with
  |.range jt sg a=>match calm y,q.st.dK g with
   |true,.v (.one (.p _ _ ⟨.sq e,rows⟩))=>match (iE e).all Ty.lit&&Nat.beq (iE e).length ps.size&&ps.toList.all (fun p=>Nat.blt p N) with
    |true=>match jOf q.st jt with
     |none=>.stuck 77
     |some j=>ql aU j q.fresh fun z0=>.loop (z0,(0:Nat)) fun (zk:Tup j.tys×Nat)=>
       .cond (Nat.blt zk.2 (List.length (α:=Dt e) rows))
        (frX ⟨qm j zk.1,[],[]⟩ fun q'=>Nv N sg (fun q K=>lG T tt ety N sg.aU y (Tup sg.aI.tys) a q K) ps x (eU e (List.getD (α:=Dt e) rows zk.2 (dflt e))) q' fun q''=>ql aU j q'' fun z'=>.ret (.inl (z',zk.2+1)))
        (frX ⟨qm j zk.1,newS j.slots++q.ds,qH j.aQ++q.od⟩ fun q'=>(K.n q').map .inr)
    |false=>.stuck 78
   |_,_=>.stuck 79
  |_=>.stuck 80
 |_,R,_,_,_=>.stuck 45
def U4 (tt:TT) (st:jB):ResultVar→Option TS
 |.tmp t=>some (st.gs t)
 |.cell a t=>match tt t,st.gs a with
  |some i,.v (.one (.box g off))=>match st.go g with
   |.box ws=>bif Nat.ble (off+i.size) ws.length&&Nat.blt 0 i.size then some (TV.fH i.agg ((ws.drop off).take i.size)) else none
   |_=>none
  |_,_=>none
def Ik (tt:TT) (st:jB):List ResultVar→Option (List TS)
 | []=>some []
 |r::rs=>match U4 tt st r,Ik tt st rs with
  |some x,some xs=>some (x::xs)
  |_,_=>none
def Tv (n:Nat):List TS→List (Nat×TS)
 | []=>[]
 |x::xs=>(n,x)::Tv (n+1) xs
def acE (tt:TT) (sp:dB) (ts:List ResultVar) (q:je):Prog (Tup sp.aI.tys):=
 match Ik tt q.st ts with
 |none=>.stuck 60
 |some xs=>
  let st0:jB:=(lN [] (JI q.st.o) { s:=Tv 0 xs,o:=q.st.o,u:=q.st.u }).2
  let gs:=acD sp.aU sp.aI st0
  let st:=Ii gs st0
  let m:=derive sp.aU sp.aI st
  match keysB sp.aU sp.aI m&&acC st0.go gs with
  |false=>.stuck 61
  |true=>match yw sp.aI m st with
   |none=>.stuck 62
   |some vs=>match Tup.ofL sp.aI.tys vs with
    |none=>.stuck 63
    |some x=>.ret x
inductive LkC where
 |yes
 |no
 |len (n m:Nat)
def P6:TO→TO→LkC
 |.box _,.box _=>.yes
 |.arr _ _ _ e l,.arr _ _ _ e' l'=>bif Nat.beq (size e) (size e') then .len (List.length (α:=Dt e) l) (List.length (α:=Dt e') l') else .no
 |.aG _ _ e _ l _,.aG _ _ e' _ l' _=>bif Nat.beq (size e) (size e') then .len (List.length (α:=Dt e) l) (List.length (α:=Dt e') l') else .no
 |_,_=>.no
def zM {R:Type} (a b:Nat→TO) (K:Prog R):List Nat→Prog R
 | []=>K
 |g::gs=>match P6 (a g) (b g) with
  |.yes=>zM a b K gs
  |.no=>.stuck 90
  |.len n m=>.chk (decide (n=m)) (zM a b K gs)
noncomputable def tfun (T:nC) (tt:TT) (ety:TypeId→Option Ty) (N:Nat) (sp:dB) (ts:List ResultVar) (c:Code) (a:gJ) (x:Tup sp.pin.tys):Prog (Tup sp.aI.tys):=
 frX ⟨mkT sp.pin (Tup.jI sp.pin.tys x),[],[]⟩ fun q=>lG T tt ety N sp.aU c (Tup sp.aI.tys) a q { n:=acE tt sp ts,x:=fun _ _=>.stuck 64,r:=acE tt sp ts }
noncomputable def ZK (T:nC) (tt:TT) (ety:TypeId→Option Ty) (N:Nat) (sp:dB) (ts:List ResultVar) (c:Code) (a:gJ) (x:Tup sp.pin.tys):Prog (Tup sp.aI.tys):=
 match sp.er.YH with
 |true=>tfun T tt ety N sp ts c a x
 |false=>.join (tfun T tt ety N sp ts c a x) fun y=>zM (mkT sp.pin (Tup.jI sp.pin.tys x)).go (mkT sp.aI (Tup.jI sp.aI.tys y)).go (.ret y) sp.aU
end
end Go.Fg

