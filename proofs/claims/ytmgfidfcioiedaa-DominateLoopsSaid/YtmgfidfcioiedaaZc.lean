/-
  The framework (a machine on plain data that answers as the program does), part 3.
-/
import Derived.RangeFuncLeaves
import Derived.RangeFuncCalls
import Derived.OrdersIn
import Derived.LoopNIn
import Derived.LoopN
import Derived.Tactics
import Derived.Laws.Strings
import Derived.Test.YtmgfidfcioiedaaZb
set_option linter.unusedSimpArgs false
set_option linter.unusedVariables false
namespace Go.Fw
set_option linter.unusedSectionVars false
variable [dw]
set_option linter.unusedVariables false
theorem JM (st:St) (dst:Option Tmp) (e:Eff) (t:Nat):(st.eff dst e).s t=if dst=some t then e.x else st.s t:=by
 cases dst with
 |none=>simp [St.eff,St.put,St.upd]
 |some d=>
  simp only [St.eff,St.put,St.upd,Option.some.injEq]
  by_cases h:t=d
  ·subst h;simp
  ·have h1:Nat.beq t d=false:=by cases hb:Nat.beq t d with | false=>rfl | true=>exact absurd (Nat.eq_of_beq_eq_true hb) h
   rw [h1,if_neg (fun e=>h e.symm)];rfl
theorem vZ (st:St) (dst:Option Tmp) (e:Eff) (g:Nat):(st.eff dst e).o g=match e.upd.lookup g with | some x=>x | none=>st.o g:=by
 cases dst<;>rfl
theorem rX (st:St) (dst:Option Tmp) (e:Eff) (g:Nat):(st.eff dst e).used g=(e.new.contains g||st.used g):=by
 cases dst<;>rfl
theorem iY {α:Type} {g:Nat} :∀{l:List (Nat×α)},g∉l.map (·.1)→l.lookup g=none
 | [],_=>rfl
 |(k,v)::l,h=>by
  simp only [List.map_cons,List.mem_cons,not_or] at h
  have:(g==k)=false:=by simpa using h.1
  simp only [List.lookup,this]
  exact iY h.2
theorem St.ext' {a b:St} (h1 :∀t,a.s t=b.s t) (h2 :∀g,a.o g=b.o g) (h3 :∀g,a.used g=b.used g):a=b:=by
 obtain ⟨s,o,u⟩:=a
 obtain ⟨s',o',u'⟩:=b
 simp only at h1 h2 h3
 rw [funext h1,funext h2,funext h3]
section
variable {ops:Array Oper} {es es':Nat→Eff} {st:St} {D D':Nat→Bool}
def SD (ops:Array Oper) (es:Nat→Eff) (st:St) (D:Nat→Bool):Nat→St
 |0=>st
 |k+1=>if D k=true then (SD ops es st D k).eff ((ops[k]?).bind (·.dst)) (es k) else SD ops es st D k
theorem Gu :∀{n:Nat},(∀k<n,es k=es' k)→SD ops es st D n=SD ops es' st D n
 |0,_=>rfl
 |n+1,h=>by simp only [SD];rw [Gu fun k hk=>h k (by omega),h n (by omega)]
theorem BN :∀{n:Nat},(∀k<n,D k=D' k)→SD ops es st D n=SD ops es st D' n
 |0,_=>rfl
 |n+1,h=>by simp only [SD];rw [BN fun k hk=>h k (by omega),h n (by omega)]
theorem afv {t:Nat} :∀{n:Nat},(∀k<n,D k≠D' k→(ops[k]?).bind (·.dst)≠some t)→(SD ops es st D n).s t=(SD ops es st D' n).s t
 |0,_=>rfl
 |n+1,h=>by
  have ih:=afv (n:=n) fun k hk=>h k (by omega)
  have hn:=h n (by omega)
  simp only [SD]
  cases h1:D n<;>cases h2:D' n
  ·simpa using ih
  ·have:=hn (by rw [h1,h2];simp)
   simp only [if_true,JM,if_neg this];simpa using ih
  ·have:=hn (by rw [h1,h2];simp)
   simp only [if_true,JM,if_neg this];simpa using ih
  ·simp only [if_true,JM,ih]
theorem afw {g:Nat} :∀{n:Nat},(∀k<n,D k≠D' k→g∉(es k).upd.map (·.1))→(SD ops es st D n).o g=(SD ops es st D' n).o g
 |0,_=>rfl
 |n+1,h=>by
  have ih:=afw (n:=n) fun k hk=>h k (by omega)
  have hn:=h n (by omega)
  simp only [SD]
  cases h1:D n<;>cases h2:D' n
  ·simpa using ih
  ·have:=iY (hn (by rw [h1,h2];simp))
   simp only [if_true,vZ,this];simpa using ih
  ·have:=iY (hn (by rw [h1,h2];simp))
   simp only [if_true,vZ,this];simpa using ih
  ·simp only [if_true,vZ,ih]
theorem LY {g:Nat} :∀{n:Nat},(∀k<n,D k≠D' k→g∉(es k).new)→(SD ops es st D n).used g=(SD ops es st D' n).used g
 |0,_=>rfl
 |n+1,h=>by
  have ih:=LY (n:=n) fun k hk=>h k (by omega)
  have hn:=h n (by omega)
  simp only [SD]
  cases h1:D n<;>cases h2:D' n
  ·simpa using ih
  ·have:=hn (by rw [h1,h2];simp)
   have:(es n).new.contains g=false:=by simpa using this
   simp only [if_true,rX,this,Bool.false_or];simpa using ih
  ·have:=hn (by rw [h1,h2];simp)
   have:(es n).new.contains g=false:=by simpa using this
   simp only [if_true,rX,this,Bool.false_or];simpa using ih
  ·simp only [if_true,rX,ih]
theorem JO {t i:Nat} (hi:D i=true) (hd:(ops[i]?).bind (·.dst)=some t) :∀{n:Nat},i<n→(∀k,i<k→k<n→D k=true→(ops[k]?).bind (·.dst)≠some t)→(SD ops es st D n).s t=(es i).x
 |0,h,_=>by omega
 |n+1,hin,h=>by
  simp only [SD]
  by_cases e:n=i
  ·subst e;simp [hi,JM,hd]
  ·have ih:=JO hi hd (n:=n) (by omega) fun k h1 h2=>h k h1 (by omega)
   cases hn:D n with
   |false=>simpa using ih
   |true=>
    have:=h n (by omega) (by omega) hn
    simp only [if_true,JM,if_neg this,ih]
theorem JQ {g i:Nat} {x:O} (hi:D i=true) (hd:(es i).upd.lookup g=some x) :∀{n:Nat},i<n→(∀k,i<k→k<n→D k=true→g∉(es k).upd.map (·.1))→(SD ops es st D n).o g=x
 |0,h,_=>by omega
 |n+1,hin,h=>by
  simp only [SD]
  by_cases e:n=i
  ·subst e;simp [hi,vZ,hd]
  ·have ih:=JQ hi hd (n:=n) (by omega) fun k h1 h2=>h k h1 (by omega)
   cases hn:D n with
   |false=>simpa using ih
   |true=>
    have:=iY (h n (by omega) (by omega) hn)
    simp only [if_true,vZ,this,ih]
theorem DR {g i:Nat} (hi:D i=true) (hd:g∈(es i).new) :∀{n:Nat},i<n→(SD ops es st D n).used g=true
 |0,h=>by omega
 |n+1,hin=>by
  simp only [SD]
  by_cases e:n=i
  ·subst e;simp [hi,rX,hd]
  ·have ih:=DR hi hd (n:=n) (by omega)
   cases hn:D n with
   |false=>simpa using ih
   |true=>simp only [if_true,rX,ih,Bool.or_true]
structure Apart (ops:Array Oper) (x y:Oper) (fx fy:qZ):Prop where
 dy :∀t,x.dst=some t→t∉y.looksAt ops
 dx :∀t,y.dst=some t→t∉x.looksAt ops
 dd :∀t,x.dst=some t→y.dst≠some t
 wr:(∀g∈fx.wr,g∉fy.rd)∨DN fx fy=true
 rw:(∀g∈fy.wr,g∉fx.rd)∨DN fy fx=true
 ww :∀g∈fx.wr,g∉fy.wr
 nn :∀g∈fx.new,g∉fy.new
theorem wo {x:Option Tmp} {ts:List Tmp} (h:Gt x ts=true) :∀t,x=some t→t∉ts:=by
 intro t e
 subst e
 simpa [Gt] using h
theorem xJ {xs ys:List Nat} (h:LG xs ys=true) :∀x∈xs,x∉ys:=by
 intro x hx
 have:=(List.all_eq_true.1 h) x hx
 simpa using this
theorem RD {x y:Oper} {fx fy:qZ} (h:Yx ops x y fx fy=true):Apart ops x y fx fy:=by
 simp only [Yx,Bool.and_eq_true,Bool.or_eq_true] at h
 obtain ⟨⟨⟨⟨⟨⟨h1,h2⟩,h3⟩,h4⟩,h5⟩,h6⟩,h7⟩:=h
 exact ⟨wo h1,wo h2,fun t e e'=>wo h3 t e (by simp [e']),h4.imp xJ id,h5.imp xJ id,xJ h6,xJ h7⟩
theorem JR {acc:List Nat} {i:Nat} :∀{l:List Edge} {s:Nat},(l.foldl (fun s e=>if Region.binds .any e=true then s ||| (2 ^ e.on) ||| acc.getD e.on 0 else s) s).testBit i=true↔
  s.testBit i=true∨∃e∈l,Region.binds .any e=true∧(e.on=i∨(acc.getD e.on 0).testBit i=true)
 | [],s=>by simp
 |e::l,s=>by
  simp only [List.foldl_cons]
  rw [JR]
  by_cases hb:Region.binds .any e=true
  ·simp only [hb,if_true,Nat.testBit_or,Bool.or_eq_true,Nat.testBit_two_pow,decide_eq_true_eq,List.mem_cons]
   constructor
   ·rintro (((h | h) | h) | ⟨e',h1,h2⟩)
    ·exact .inl h
    ·exact .inr ⟨e,.inl rfl,hb,.inl h⟩
    ·exact .inr ⟨e,.inl rfl,hb,.inr h⟩
    ·exact .inr ⟨e',.inr h1,h2⟩
   ·rintro (h | ⟨e',h1 | h1,h2,h3 | h3⟩)
    ·exact .inl (.inl (.inl h))
    ·subst h1;exact .inl (.inl (.inr h3))
    ·subst h1;exact .inl (.inr h3)
    ·exact .inr ⟨e',h1,h2,.inl h3⟩
    ·exact .inr ⟨e',h1,h2,.inr h3⟩
  ·simp only [hb,List.mem_cons]
   constructor
   ·rintro (h | ⟨e',h1,h2⟩)
    ·exact .inl (by simpa using h)
    ·exact .inr ⟨e',.inr h1,h2⟩
   ·rintro (h | ⟨e',h1 | h1,h2,h3⟩)
    ·exact .inl (by simpa using h)
    ·subst h1;exact absurd h2 hb
    ·exact .inr ⟨e',h1,h2,h3⟩
theorem Gv :∀{os:List Oper} {acc:List Nat},∃t,mZ os acc=acc++t
 | [],acc=>⟨[],by simp [mZ]⟩
 |o::os,acc=>by
  obtain ⟨t,h⟩:=Gv (os:=os) (acc:=acc++[jZ acc o])
  exact ⟨jZ acc o::t,by simp [mZ,h]⟩
theorem Gw :∀{os:List Oper} {acc:List Nat} {j:Nat} {o:Oper},os[j]?=some o→∃acc',(∃t,mZ os acc=acc'++jZ acc' o::t)∧acc'.length=acc.length+j
 | [],acc,j,o,h=>by simp at h
 |o'::os,acc,0,o,h=>by
  simp only [List.getElem?_cons_zero,Option.some.injEq] at h
  subst h
  obtain ⟨t,h⟩:=Gv (os:=os) (acc:=acc++[jZ acc o'])
  exact ⟨acc,⟨t,by simp [mZ,h]⟩,rfl⟩
 |o'::os,acc,j+1,o,h=>by
  simp only [List.getElem?_cons_succ] at h
  obtain ⟨acc',h1,h2⟩:=Gw (acc:=acc++[jZ acc o']) h
  exact ⟨acc',h1,by simp at h2;omega⟩
def Down (ops:Array Oper) (D:Nat→Bool):Prop :=∀(j:Nat) o,ops[j]?=some o→D j=true→∀e∈o.after,Region.binds .any e=true→D e.on=true
theorem Gx {j:Nat} {o:Oper} (ho:ops[j]?=some o) {i:Nat}:((mZ ops.toList []).getD j 0).testBit i=true↔
  ∃e∈o.after,Region.binds .any e=true∧(e.on=i∨(e.on<j∧((mZ ops.toList []).getD e.on 0).testBit i=true)):=by
 have hl:ops.toList[j]?=some o:=by simpa using ho
 obtain ⟨acc,⟨t,h1⟩,h2⟩:=Gw (acc:=[]) hl
 simp only [List.length_nil,Nat.zero_add] at h2
 rw [h1]
 have e1:(acc++jZ acc o::t).getD j 0=jZ acc o:=by
  rw [List.getD_eq_getElem?_getD,List.getElem?_append_right (by omega),h2];simp
 have e2 :∀k,(acc++jZ acc o::t).getD k 0=if k<j then acc.getD k 0 else (acc++jZ acc o::t).getD k 0:=by
  intro k
  split
  ·rename_i hk
   rw [List.getD_eq_getElem?_getD,List.getElem?_append_left (by omega),←List.getD_eq_getElem?_getD]
  ·rfl
 rw [e1]
 unfold jZ
 rw [JR]
 simp only [Nat.zero_testBit,Bool.false_eq_true,false_or,Array.mem_toList_iff]
 constructor
 ·rintro ⟨e,q1,q2,q3⟩
  refine ⟨e,q1,q2,q3.imp id fun q => ?_⟩
  by_cases hk:e.on<j
  ·refine ⟨hk,?_⟩
   have:=e2 e.on
   rw [if_pos hk] at this
   unfold jZ at this
   rw [this];exact q
  ·have:acc.getD e.on 0=0:=by rw [List.getD_eq_getElem?_getD,List.getElem?_eq_none (by omega)];rfl
   rw [this] at q;simp at q
 ·rintro ⟨e,q1,q2,q3⟩
  refine ⟨e,q1,q2,q3.imp id fun ⟨hk,q⟩ => ?_⟩
  have:=e2 e.on
  rw [if_pos hk] at this
  unfold jZ at this
  rw [this] at q;exact q
theorem wu (hD:Down ops D) :∀(j:Nat) {o:Oper},ops[j]?=some o→D j=true→∀i,((mZ ops.toList []).getD j 0).testBit i=true→D i=true:=by
 intro j
 induction j using Nat.strongRecOn with
 |_ j ih=>
  intro o ho hj i hb
  obtain ⟨e,h1,h2,h3 | ⟨h3,h4⟩⟩:=(Gx ho).1 hb
  ·rw [←h3];exact hD j o ho hj e h1 h2
  ·have hlt:j<ops.size:=(Array.getElem?_eq_some_iff.1 ho).1
   have hlt':e.on<ops.size:=by omega
   exact ih e.on h3 (Array.getElem?_eq_getElem hlt') (hD j o ho hj e h1 h2) i h4
theorem OI {j:Nat} {o:Oper} (ho:ops[j]?=some o) (h:(mZ ops.toList []).getD j 0<2 ^ j) {e:Edge} (he:e∈o.after) (hb:Region.binds .any e=true):e.on<j:=by
 have:=(Gx ho (i:=e.on)).2 ⟨e,he,hb,.inl rfl⟩
 by_cases hk:e.on<j
 ·exact hk
 ·rw [Nat.testBit_lt_two_pow (Nat.lt_of_lt_of_le h (Nat.pow_le_pow_right (by omega) (by omega)))] at this;cases this
end
section
variable {E:Env} {N:Nat} {aN:List Nat} {nU:Nat→Gh} {st:St} {a:Act} {w:World} {Pg:Program} {T:Tab} {tt:TT} {ops:Array Oper} {Q:Exit→Act→World→Prop}
theorem OJ {gh:Nat→Gh} (h:Rel E st gh (fun t=>a.tmps.getD t undef) w) {x:S} {v:Value} (hx:bI E st gh w x v) {i:TI} {t:TypeId} (ht:nS Pg t i) {c:Value} {p:Bool→Prop} (hp:vY st.o x i.k c=some p) :
  ∃b,(Op.equal t v c).run Pg w=.ok b w∧p b:=by
 unfold vY at hp
 split at hp
 ·rename_i e hk
  have hu:=ht.kind
  rw [hk] at hu
  have hu:Pg.underlying t=some (.slice e):=hu
  have eqs :∀ao n cap,(Op.equal t (.slice ao n cap) (.slice none 0 0)).run Pg w=.ok ao.isNone w:=by
   intro ao n cap
   unfold Op.equal Op.maxDepth
   show (Op.equalIn (9999+1) t _ _).run Pg w=_
   unfold Op.equalIn
   cases ao<;>simp [dh hu]
  unfold JK at hp
  split at hp
  ·simp only [Option.some.injEq] at hp;subst hp
   have r:=hx.dL
   generalize hl:(P.sl _ _)=y at r
   cases r with
   |nil sz ao cap=>cases hl;exact ⟨_,eqs _ _ _,fun h=>absurd rfl h⟩
   |sl sz l ad cap f _ _ _ _ _ _=>cases hl;exact ⟨_,eqs _ _ _,fun _=>rfl⟩
   |_=>cases hl
  ·rename_i g
   split at hp
   ·rename_i sz l ho
    simp only [Option.some.injEq] at hp;subst hp
    cases hx.bH with
    |own _ _ _ hb=>
     rw [hb _ _ ho]
     refine ⟨_,eqs _ _ _,fun hl => ?_⟩
     obtain ⟨ad,had,_⟩:=(tq (h.objs g) ho).2 (by omega)
     rw [had];rfl
   ·cases hp
  ·simp only [Option.some.injEq] at hp;subst hp
   cases hx.bH
   exact ⟨_,eqs _ _ _,rfl⟩
  ·cases hp
 ·rename_i hk
  have hu:=ht.kind
  rw [hk] at hu
  obtain ⟨e,hu⟩:=(hu :∃e,Pg.underlying t=some (.pointer e))
  have eqp :∀ao,(Op.equal t (.pointer ao) (.pointer none)).run Pg w=.ok ao.isNone w:=by
   intro ao
   unfold Op.equal Op.maxDepth
   show (Op.equalIn (9999+1) t _ _).run Pg w=_
   unfold Op.equalIn
   cases ao<;>simp [dh hu]
  unfold DL at hp
  split at hp
  ·rename_i g off
   split at hp
   ·rename_i ws ho
    simp only [Option.some.injEq] at hp;subst hp
    cases hx.bH with
    |box _ _ _ _ hb=>
     obtain ⟨ad,_,rfl⟩:=hb ws ho
     exact ⟨_,eqp _,rfl⟩
   ·cases hp
  ·simp only [Option.some.injEq] at hp;subst hp
   cases hx.dL with
   |opq _ _=>exact ⟨_,eqp _,rfl⟩
  ·cases hp
 ·cases hp
theorem OL (hT :∀f sp,T f=some sp→Sound Pg f sp) (htt:fM Pg tt) {i:Nat} {o:Oper} (hi:ops[i]?=some o) (hg:Good E N aN nU st a w) {K':Eff→Prop} (h:Ah T tt N ops o st K')
  {K:Act→World→Prop} (hK :∀e a' w',K' e→Good E N aN nU (st.eff o.dst e) a' w'→K a' w'):wpOp Pg ops Q i K a w:=by
 unfold Ah at h
 split at h
 ·rename_i pos p hn
  obtain ⟨hd,h⟩:=h
  have hd :∀d,o.dst=some d→d<a.tmps.size:=by
   intro d e
   rw [e] at hd
   rw [hg.size];simpa using hd
  unfold LW at hn
  split at hn
  ·cases hn
  ·rename_i hgd
   split at hn
   ·rename_i op t x c u hop
    split at hn
    ·rename_i ti ht
     obtain ⟨gh,hR,DF⟩:=hg.ex
     have hx:=lW hR x
     have key :∀p',vY st.o (st.bZ x) ti.k c=some p'→∃b,(Op.equal t (a.eval x) c).run Pg w=.ok b w∧p' b:=fun p' hp=>OJ hR hx (htt _ _ ht) hp
     have fin :∀b,(execOp a.eval o).run Pg w=.ok (.value (.bool (bif pos then b else !b))) w→p b→wpOp Pg ops Q i K a w:=by
      intro b hrun hb
      unfold wpOp
      rw [hi]
      simp only
      have:Region.wanted o (yielded ops a.tmps)=true:=by simp [Region.wanted,hgd]
      rw [if_pos this]
      left
      show o.upon Pg a K Q ((execOp a.eval o).run Pg w)
      rw [hrun]
      refine hK _ _ _ (h b hb) ⟨⟨gh,?_,fun g hg' => ?_⟩,by rw [vW];exact hg.size,hg.defers.put _ _⟩
      ·rw [vV _ _ hd]
       unfold St.eff
       simp only [EU]
       exact hR.put o.dst (bI.ofP (.bool _)) (by simp [scalar,S.names,V.names,W.names])
      ·have ho:(st.eff o.dst { x:=scalar (.bool (bif pos then b else !b)),upd:=[],new:=[] }).o g=st.o g:=by unfold St.eff St.put;cases o.dst<;>simp [St.upd]
       have hu:(st.eff o.dst { x:=scalar (.bool (bif pos then b else !b)),upd:=[],new:=[] }).used g=st.used g:=by unfold St.eff St.put;cases o.dst<;>simp [St.upd]
       rw [ho,hu];exact DF g hg'
     have hcv :∀b,(Op.equal t (a.eval x) c).run Pg w=.ok b w→(c=.slice none 0 0∨c=.pointer none)∧True→(eqGuard op t x (.const c) (a.eval x) c).run Pg w=.ok () w:=by
      intro b _ hc
      unfold eqGuard
      rcases hc.1 with rfl | rfl
      ·cases op<;>first | rfl | (simp only;split<;>first | rfl | simp_all)
      ·cases op<;>first | rfl | (simp only;split<;>first | rfl | simp_all)
     have hcc :∀p',vY st.o (st.bZ x) ti.k c=some p'→c=.slice none 0 0∨c=.pointer none:=by
      intro p' hp
      unfold vY at hp
      split at hp
      ·exact .inl rfl
      ·exact .inr rfl
      ·cases hp
     split at hn
     ·rename_i p' hp
      simp only [Option.some.injEq,Prod.mk.injEq] at hn
      obtain ⟨rfl,rfl⟩:=hn
      obtain ⟨b,hb1,hb2⟩:=key _ hp
      refine fin b ?_ hb2
      have hge:=hcv b hb1 ⟨hcc _ hp,trivial⟩
      unfold execOp
      rw [hop]
      refine eY ?_
      show (eqGuard _ t x (.const c) (a.eval x) c >>= fun _=>binOp _ t (a.eval x) c).run Pg w=_
      rw [Sem.run_bind,hge]
      rcases hcc _ hp with rfl | rfl<;>simp [binOp,hb1]
     ·rename_i p' hp
      simp only [Option.some.injEq,Prod.mk.injEq] at hn
      obtain ⟨rfl,rfl⟩:=hn
      obtain ⟨b,hb1,hb2⟩:=key _ hp
      refine fin b ?_ hb2
      have hge:=hcv b hb1 ⟨hcc _ hp,trivial⟩
      unfold execOp
      rw [hop]
      refine eY ?_
      show (eqGuard _ t x (.const c) (a.eval x) c >>= fun _=>binOp _ t (a.eval x) c).run Pg w=_
      rw [Sem.run_bind,hge]
      rcases hcc _ hp with rfl | rfl<;>simp [binOp,hb1]
     ·cases hn
    ·cases hn
   ·cases hn
 ·split at h
  ·rename_i g s n hn
   obtain ⟨hd,h1,h2⟩:=h
   have hd :∀d,o.dst=some d→d<a.tmps.size:=by
    intro d e
    rw [e] at hd
    rw [hg.size];simpa using hd
   unfold LX at hn
   split at hn
   ·cases hn
   ·rename_i hgd
    split at hn
    ·rename_i x hop
     split at hn
     ·rename_i g' hx
      split at hn
      ·rename_i s' n' hog
       simp only [Option.some.injEq,Prod.mk.injEq] at hn
       obtain ⟨rfl,rfl,rfl⟩:=hn
       obtain ⟨gh,hR,DF⟩:=hg.ex
       have hrx:=lW hR x
       rw [hx] at hrx
       obtain ⟨ad,had,hv⟩ :∃ad,(gh g').ad=some ad∧a.eval x=.pointer (some ⟨ad.block,0,none⟩):=by
        have:=hrx.bH
        generalize a.eval x=z at this
        cases this with | lH _ _ _ hb=>exact hb _ _ hog
       have hO:=hR.objs g'
       rw [hog] at hO
       obtain ⟨ad',bs,k,q1,rfl,rfl,q4⟩:=hO
       rw [had] at q1;cases q1
       have hlt:ad.block<w.heap.size:=(hR.wr g' ad.block (by rw [hog];rfl) (Gh.iV had)).2
       have hkn:(P.int .i64 (k:Int)).nat=k:=by simp [P.nat,P.num]
       have hget:(getObj ad.block).run Pg w=.ok (.stringIter bs k) w:=by simp [getObj,Sem.run,q4]
       have fin :∀(v:Value) (w':World) (e:Eff),(∀b,b≠ad.block→w'.heap[b]?=w.heap[b]?)→(Instr.next (a.eval x) true o.type).run Pg w=.ok v w'→K' e→Rel E (st.upd e.upd e.new) gh (fun t=>a.tmps.getD t undef) w'→bI E (st.upd e.upd e.new) gh w' e.x v→(∀g∈e.x.names,(st.upd e.upd e.new).used g=true)→
         (∀g,st.used g=true→(st.upd e.upd e.new).used g=true)→(∀g,((st.upd e.upd e.new).o g=.none∨True)∧(st.o g=.none→(st.upd e.upd e.new).o g=.none))→wpOp Pg ops Q i K a w:=by
        intro v w' e hmm hrun hke hR' hx' hn' hu' ho'
        unfold wpOp
        rw [hi]
        simp only
        have:Region.wanted o (yielded ops a.tmps)=true:=by simp [Region.wanted,hgd]
        rw [if_pos this]
        left
        show o.upon Pg a K Q ((execOp a.eval o).run Pg w)
        have:(execOp a.eval o).run Pg w=.ok (.value v) w':=by
         unfold execOp
         rw [hop]
         exact eY hrun
        rw [this]
        refine hK e _ _ hke ⟨⟨gh,?_,fun g hg' => ?_⟩,by rw [vW];exact hg.size,hg.defers.same (fun D _ h3=>hmm D fun e'=>by rw [e',q4] at h3;cases h3) _ _⟩
        ·rw [vV _ _ hd]
         exact hR'.put o.dst hx' hn'
        ·obtain ⟨p1,p2⟩:=DF g hg'
         have ho2:(st.eff o.dst e).o g=(st.upd e.upd e.new).o g:=by unfold St.eff St.put;cases o.dst<;>rfl
         have hu2:(st.eff o.dst e).used g=(st.upd e.upd e.new).used g:=by unfold St.eff St.put;cases o.dst<;>rfl
         refine ⟨by rw [hu2];exact hu' g p1,?_⟩
         rw [ho2]
         rcases p2 with p2 | p2
         ·exact .inl ((ho' g).2 p2)
         ·exact .inr p2
       cases hb:OG (.str bs) (.int .i64 k) with
       |true=>
        have hkb:k<bs.size:=by
         have:=of_decide_eq_true hb
         rw [hkn] at this;exact this
        have hrun:(Instr.next (a.eval x) true o.type).run Pg w=.ok (.tuple #[.bool true,.int .i64 k,.int .i32 (Utf8.decode bs k).1]) { w with heap:=w.heap.setIfInBounds ad.block (.stringIter bs (k+(Utf8.decode bs k).2)) }:=by
         rw [hv]
         simp only [Instr.next,Sem.run_bind,hget,Result.andThen_ok]
         rw [if_pos hkb]
         have hset:(setObj ad.block (.stringIter bs (k+(Utf8.decode bs k).2))).run Pg w=.ok () { w with heap:=w.heap.setIfInBounds ad.block (.stringIter bs (k+(Utf8.decode bs k).2)) }:=by
          simp [setObj,Sem.run,q4]
         simp only [Sem.run_bind,hset,Result.andThen_ok,Sem.run_pure]
         rfl
        obtain ⟨w1,w2⟩:=hR.write g' ad (by rw [hog];rfl) had (.it (.str bs) (Rx (.str bs) (.int .i64 k))) (by rw [hog];trivial) { w with heap:=w.heap.setIfInBounds ad.block (.stringIter bs (k+(Utf8.decode bs k).2)) }
         (fun b hb=>by simp [Array.getElem?_setIfInBounds,Ne.symm hb]) (by simp) rfl rfl rfl rfl (fun _ e=>by cases e) (fun _=>by rw [hog];rfl)
         (fun _=>⟨ad,bs,k+(Utf8.decode bs k).2,had,rfl,by simp only [Rx,kJ,hkn];rfl,by simp [hlt]⟩) (fun g hg=>by simp [O.names] at hg)
        have hold :∀g,g≠g'→(st.upd (Gq g' (.str bs) (.int .i64 k)).upd (Gq g' (.str bs) (.int .i64 k)).new).o g=st.o g:=by
         intro g hne
         have:(g==g')=false:=by simpa using hne
         simp [Gq,St.upd,List.lookup,this]
        refine fin _ _ (Gq g' (.str bs) (.int .i64 k)) (fun b hb=>by simp [Array.getElem?_setIfInBounds,Ne.symm hb]) hrun (h1 hb) w1 ?_ ?_ ?_ ?_
        ·refine .kC _ _ rfl fun j x v hx hv => ?_
         match j,hx,hv with
         |0,hx,hv=>cases hx;cases hv;exact .one _ _ (.p _ _ _ _ (.bool _))
         |1,hx,hv=>cases hx;cases hv;exact .one _ _ (.p _ _ _ _ (by rw [hkn];exact .int _ _))
         |2,hx,hv=>cases hx;cases hv;exact .one _ _ (.p _ _ _ _ (by simp only [Yv,hkn];exact .int _ _))
         |j+3,hx,_=>cases hx
        ·intro g hg'
         simp [Gq,S.names,V.names,W.names] at hg'
        ·intro g hg';simp [St.upd,hg']
        ·intro g
         refine ⟨.inr trivial,fun h0 => ?_⟩
         by_cases e:g=g'
         ·subst e;rw [hog] at h0;cases h0
         ·rw [hold g e];exact h0
       |false=>
        have hkb:¬ k<bs.size:=by
         have:=of_decide_eq_false hb
         rw [hkn] at this;exact this
        have hrun:(Instr.next (a.eval x) true o.type).run Pg w=.ok (.tuple #[.bool false]) w:=by
         rw [hv]
         simp only [Instr.next,Sem.run_bind,hget,Result.andThen_ok]
         rw [if_neg hkb];rfl
        refine fin _ _ JL (fun _ _=>rfl) hrun (h2 hb) (by rw [show JL.upd=[] from rfl,show JL.new=[] from rfl,EU];exact hR) ?_ ?_ ?_ ?_
        ·refine .kC _ _ rfl fun j x v hx hv => ?_
         match j,hx,hv with
         |0,hx,hv=>cases hx;cases hv;exact .one _ _ (.p _ _ _ _ (.bool _))
         |j+1,hx,_=>cases hx
        ·intro g hg'
         simp [JL,S.names,V.names,W.names] at hg'
        ·intro g hg';simp [St.upd,hg']
        ·intro g;exact ⟨.inr trivial,fun h0=>by simpa [JL,St.upd] using h0⟩
      ·cases hn
     ·cases hn
    ·cases hn
  ·obtain ⟨e,hc,h⟩:=OA h
   exact Gm hT htt hi hg hc fun a' w' hg'=>hK e a' w' h hg'
theorem Aj (hT :∀f sp,T f=some sp→Sound Pg f sp) (htt:fM Pg tt) {K:St→Prop} (hK :∀st' a' w',K st'→Good E N aN nU st' a' w'→Q .normal a' w') :
  ∀(is:List Nat) {st:St} {a:Act} {w:World},t_ T tt N ops is st K→Good E N aN nU st a w→wpOps Pg ops Q is a w
 | [],st,a,w,h,hg=>hK st a w h hg
 |i::is,st,a,w,h,hg=>by
  simp only [t_] at h
  split at h
  ·rename_i o ho
   rw [wpOps_cons]
   exact OL hT htt ho hg h fun e a' w' h hg'=>Aj hT htt hK is h hg'
  ·cases h
theorem DT {K:St→List qZ→Prop} :∀(m k:Nat) (es:Nat→Eff) (fs:List qZ),fs.length=k→nG T tt N ops (List.range' k m) (SD ops es st (fun _=>true) k) fs K→
  ∃(es':Nat→Eff) (fs':List qZ),(∀i<k,es' i=es i)∧(∀i<k,fs'[i]?=fs[i]?)∧K (SD ops es' st (fun _=>true) (k+m)) fs'∧
   ∀i,k≤i→i<k+m→∃o,ops[i]?=some o∧Can T tt N ops (SD ops es' st (fun _=>true) i) o (es' i)∧fs'[i]?=some { rd:=oZ T (SD ops es' st (fun _=>true) i) o,wr:=(es' i).upd.map (·.1),new:=(es' i).new,ld:=Gs tt (SD ops es' st (fun _=>true) i) o,kp:=Ry (SD ops es' st (fun _=>true) i) (es' i),pk:=rC o.op,kd:=Rz (SD ops es' st (fun _=>true) i) (es' i) }
 |0,k,es,fs,hl,h=>⟨es,fs,fun _ _=>rfl,fun _ _=>rfl,h,fun i h1 h2=>by omega⟩
 |m+1,k,es,fs,hl,h=>by
  simp only [List.range'_succ,nG] at h
  split at h
  ·rename_i o ho
   obtain ⟨e,hc,h⟩:=OA h
   let es1:Nat→Eff:=fun i=>if i=k then e else es i
   have e1:SD ops es1 st (fun _=>true) k=SD ops es st (fun _=>true) k:=Gu fun i hi=>by simp only [es1];rw [if_neg (by omega)]
   have e2:SD ops es1 st (fun _=>true) (k+1)=(SD ops es st (fun _=>true) k).eff o.dst e:=by
    simp only [SD,if_true]
    rw [e1,ho]
    simp [es1]
   rw [←e2] at h
   obtain ⟨es',fs',q1,q2,q3,q4⟩:=DT m (k+1) es1 _ (by simp [hl]) h
   have e3:SD ops es' st (fun _=>true) k=SD ops es st (fun _=>true) k:=(Gu fun i hi=>q1 i (by omega)).trans e1
   refine ⟨es',fs',fun i hi => ?_,fun i hi => ?_,by rw [show k+(m+1)=k+1+m by omega];exact q3,fun i h1 h2 => ?_⟩
   ·rw [q1 i (by omega)];simp only [es1];rw [if_neg (by omega)]
   ·rw [q2 i (by omega),List.getElem?_append_left (by omega)]
   ·by_cases e:i=k
    ·subst e
     have hei:es' i=e:=by rw [q1 i (by omega)];simp [es1]
     refine ⟨o,ho,by rw [e3,hei];exact hc,?_⟩
     rw [q2 i (by omega),List.getElem?_append_right (by omega),e3,hei]
     simp [hl]
    ·exact q4 i (by omega) (by omega)
  ·cases h
def Rng (ws:List W) (off n:Nat) (x:O):Prop :=∃wc,x=.box wc∧wc.length=ws.length∧∀off',off≤off'→off'<off+n→wc[off']?=ws[off']?
theorem Gy {g:Nat} :∀{j:Nat} {xs ys:List W} {r:List (Nat×Nat)},Ai g j xs ys=some r→xs.length=ys.length∧∀p∈r,p.1=g∧j≤p.2∧xs[p.2-j]?=ys[p.2-j]?
 |j,[],[],r,h=>by simp only [Ai,Option.some.injEq] at h;subst h;exact ⟨rfl,fun p hp=>by cases hp⟩
 |j,[],y::ys,r,h=>by simp [Ai] at h
 |j,x::xs,[],r,h=>by simp [Ai] at h
 |j,x::xs,y::ys,r,h=>by
  simp only [Ai] at h
  split at h
  ·rename_i r' hr
   obtain ⟨h1,h2⟩:=Gy hr
   have old :∀p∈r',p.1=g∧j≤p.2∧(x::xs)[p.2-j]?=(y::ys)[p.2-j]?:=fun p hp=>by
    obtain ⟨a1,a2,a3⟩:=h2 p hp
    refine ⟨a1,by omega,?_⟩
    rw [show p.2-j=(p.2-(j+1))+1 by omega,List.getElem?_cons_succ,List.getElem?_cons_succ];exact a3
   simp only [Option.some.injEq] at h
   refine ⟨by simp [h1],fun p hp => ?_⟩
   rw [←h] at hp
   split at hp
   ·rename_i hs
    rcases List.mem_cons.1 hp with rfl | hp
    ·refine ⟨rfl,Nat.le_refl _,?_⟩
     have:x=y:=by
      cases x<;>cases y<;>simp only [Yw] at hs<;>first | (cases hs) | skip
      ·rw [Nat.eq_of_beq_eq_true hs]
      ·simp only [Bool.and_eq_true] at hs
       rw [Nat.eq_of_beq_eq_true hs.1,Nat.eq_of_beq_eq_true hs.2]
     simp [this]
    ·exact old p hp
   ·exact old p hp
  ·cases h
theorem Wy {st:St} {e:Eff} {p:Nat×Nat} (h:p∈Ry st e) :∃wa wb,st.o p.1=.box wa∧e.upd.lookup p.1=some (.box wb)∧wa.length=wb.length∧wa[p.2]?=wb[p.2]?:=by
 unfold Ry at h
 obtain ⟨g,_,hp⟩:=List.mem_flatMap.1 h
 cases ho:st.o g with
 |box ws=>
  cases hl:e.upd.lookup g with
  |none=>rw [ho,hl] at hp;cases hp
  |some x=>
   cases x with
   |box ws'=>
    rw [ho,hl] at hp
    simp only [OH] at hp
    split at hp
    ·rename_i r hr
     obtain ⟨h1,h2⟩:=Gy hr
     obtain ⟨rfl,_,a3⟩:=h2 p hp
     exact ⟨ws,ws',ho,hl,h1,by simpa using a3⟩
    ·cases hp
   |_=>rw [ho,hl] at hp;cases hp
 |_=>rw [ho] at hp;cases hp
theorem LZ {st:St} {o:Oper} {g off n:Nat} (h:Gs tt st o=some (g,off,n)) :∃t x i,o.op=.load t x∧tt t=some i∧i.size=n∧st.bZ x=.v (.one (.box g off)):=by
 unfold Gs at h
 split at h
 ·rename_i t x hop
  split at h
  ·rename_i i g' off' ht hx
   simp only [Option.some.injEq,Prod.mk.injEq] at h
   obtain ⟨rfl,rfl,rfl⟩:=h
   exact ⟨t,x,i,hop,ht,rfl,hx⟩
  ·cases h
 ·cases h
theorem WA {st:St} {o:Oper} {g off n:Nat} (h:Gs tt st o=some (g,off,n)):g∈oZ T st o:=by
 obtain ⟨t,x,i,h1,_,_,h4⟩:=LZ h
 unfold oZ
 rw [h1]
 refine List.mem_append_left _ (List.mem_flatMap.2 ⟨x,by simp [Op.operands],List.mem_flatMap.2 ⟨g,?_,by simp⟩⟩)
 rw [h4];simp [S.names,V.names,W.names]
theorem OM {es:Nat→Eff} {D:Nat→Bool} {g:Nat} :∀(n:Nat),∃m,(∀k,m≤k→k<n→D k=true→g∉(es k).upd.map (·.1))∧(SD ops es st D n).o g=(SD ops es st (fun _=>true) m).o g∧(m=0∨∃k,m=k+1∧k<n∧D k=true∧g∈(es k).upd.map (·.1))
 |0=>⟨0,fun k _ h=>by omega,rfl,.inl rfl⟩
 |n+1=>by
  obtain ⟨m,h1,h2,h3⟩:=OM (D:=D) (g:=g) n
  by_cases hw:D n=true∧g∈(es n).upd.map (·.1)
  ·obtain ⟨hd,hg⟩:=hw
   refine ⟨n+1,fun k a b=>by omega,?_,.inr ⟨n,rfl,by omega,hd,hg⟩⟩
   simp only [SD,hd,if_true,vZ]
   cases hl:(es n).upd.lookup g with
   |some x=>rfl
   |none=>
    exfalso
    obtain ⟨p,hp,e⟩:=List.mem_map.1 hg
    have :∀{l:List (Nat×O)},p∈l→l.lookup p.1≠none:=by
     intro l
     induction l with
     |nil=>intro h;cases h
     |cons q l ih=>
      intro h hn
      simp only [List.lookup] at hn
      split at hn
      ·cases hn
      ·rename_i hb
       rcases List.mem_cons.1 h with h | h
       ·subst h;simp at hb
       ·exact ih h hn
    exact this hp (by rw [e];exact hl)
  ·refine ⟨m,fun k a b hd hg => ?_,?_,h3.imp id fun ⟨k,a,b,c⟩=>⟨k,a,by omega,c⟩⟩
   ·by_cases e:k=n
    ·subst e;exact hw ⟨hd,hg⟩
    ·exact h1 k a (by omega) hd hg
   ·cases hd:D n with
    |false=>simp only [SD,hd,Bool.false_eq_true,if_false];exact h2
    |true=>
     have hg:g∉(es n).upd.map (·.1):=fun hg=>hw ⟨hd,hg⟩
     simp only [SD,hd,if_true,vZ,iY hg];exact h2
theorem y7 {st:St} {o:Oper} {d:Nat} {t:TypeId} {x:Operand} {i:TI} {g off:Nat} (h1:o.op=.load t x) (h2:tt t=some i) (h4:st.bZ x=.v (.one (.box g off))) {K:Eff→Prop} :
  gZ T tt d st o K↔∃ws,st.o g=.box ws∧(off+i.size≤ws.length∧0<i.size)∧K { x:=V.d_ i.agg ((ws.drop off).take i.size),upd:=[],new:=[] }:=by
 have hD :∀dc,bY tt dc d st.o st.bZ (.load t x) o.type=none:=fun dc=>by
  simp only [bY,yP,h2,h4]
  cases Yf dc<;>rfl
 have e:gZ T tt d st o K↔(match kernel tt d st.o st.bZ (.load t x) o.type with
   |some r=>r.pre∧K { x:=r.dst r.val,upd:=r.upd r.val,new:=r.new }
   |none=>False):=by
  unfold gZ
  rw [h1]
  simp only [hD,reduceCtorEq,false_and,exists_false,false_or,Dx,cond_false]
  cases kernel tt d st.o st.bZ (.load t x) o.type<;>rfl
 rw [e]
 simp only [kernel,h2,h4]
 cases ho:st.o g with
 |box ws=>
  simp only
  by_cases hs:off+i.size≤ws.length∧0<i.size
  ·rw [if_pos hs]
   simp only [EK.pure,true_and]
   constructor
   ·intro h;exact ⟨ws,rfl,hs,h⟩
   ·rintro ⟨ws',e',_,h⟩;cases e';exact h
  ·rw [if_neg hs]
   simp only [false_iff]
   rintro ⟨ws',e',h,_⟩;cases e';exact hs h
 |_=>
  simp only [false_iff]
  rintro ⟨ws',e',_⟩;cases e'
theorem Yy {st:St} {o:Oper} {e:Eff} {g off n:Nat} (hc:Can T tt N ops st o e) (hl:Gs tt st o=some (g,off,n)):e.upd=[]:=by
 obtain ⟨t,x,i,h1,h2,h3,h4⟩:=LZ hl
 have key :∀{d:Nat},(gZ T tt d st o fun e'=>e'.new.all (fun g=>!st.used g)=true∧e'=e)→e.upd=[]:=by
  intro d h
  obtain ⟨ws,_,_,_,rfl⟩:=(y7 h1 h2 h4).1 h
  rfl
 unfold Can stepW at hc
 obtain ⟨_,hc⟩:=hc
 split at hc
 ·exact key hc
 ·split at hc
  ·rename_i b _
   cases b with
   |true=>exact key hc
   |false=>have hc:Eff.skip=e:=hc;rw [←hc];rfl
  ·cases hc
theorem WB {st:St} {e:Eff} {g:Nat} (h:g∈Rz st e) :∃x,e.upd.lookup g=some x∧kindOf x=kindOf (st.o g):=by
 unfold Rz at h
 obtain ⟨g',_,hp⟩:=List.mem_filterMap.1 h
 cases hl:e.upd.lookup g' with
 |none=>rw [hl] at hp;cases hp
 |some x=>
  rw [hl] at hp
  simp only at hp
  cases hb:Nat.beq (kindOf x) (kindOf (st.o g')) with
  |false=>rw [hb] at hp;cases hp
  |true=>
   rw [hb] at hp
   cases hp
   exact ⟨x,hl,Nat.eq_of_beq_eq_true hb⟩
theorem JU {o o':Nat→O} {x:W} (h :∀g∈x.names,kindOf (o g)=kindOf (o' g)):x.live o=x.live o':=by
 cases x<;>simp only [W.live]<;>first | rfl | skip
 ·rename_i g off
  have:=h g (by simp [W.names])
  cases h1:o g<;>cases h2:o' g<;>rw [h1,h2] at this<;>first | rfl | cases this
 ·rename_i g n off
  have:=h g (by simp [W.names])
  cases h1:o g<;>cases h2:o' g<;>rw [h1,h2] at this<;>first | rfl | cases this
theorem OO {o o':Nat→O} {d:Nat} {F F':Operand→S} {op:Op} {ty:TypeId} (hp:rC op=true) (hF :∀x∈op.operands.toList,F x=F' x) (ho :∀x∈op.operands.toList,∀g∈(F x).names,kindOf (o g)=kindOf (o' g)) :
  kernel tt d o F op ty=kernel tt d o' F' op ty:=by
 cases op<;>first | (cases hp;done) | skip
 ·rename_i x
  have h1:=hF x (by simp [Op.operands])
  have h2:=ho x (by simp [Op.operands])
  simp only [kernel,←h1]
  generalize F x=z at h2
  split
  ·rename_i x
   rw [JU (o':=o') fun g hg=>h2 g (by simpa [S.names,V.names] using hg)]
  ·rfl
 ·rename_i t x n
  have h1:=hF x (by simp [Op.operands])
  have h2:=ho x (by simp [Op.operands])
  simp only [kernel,←h1]
  generalize F x=z at h2
  split
  ·rename_i x _ _
   rw [JU (o':=o') fun g hg=>h2 g (by simpa [S.names,V.names] using hg)]
  ·rfl
theorem y8 {st:St} {o:Oper} {d:Nat} (hp:rC o.op=true) {K:Eff→Prop} :
  gZ T tt d st o K↔(match kernel tt d st.o st.bZ o.op o.type with
   |some r=>r.pre∧K { x:=r.dst r.val,upd:=r.upd r.val,new:=r.new }
   |none=>False):=by
 unfold gZ
 cases hop:o.op<;>rw [hop] at hp<;>first | (cases hp;done) | skip
 all_goals
  simp only [bY,reduceCtorEq,false_and,exists_false,false_or,Dx,cond_false]
  generalize kernel tt d st.o st.bZ _ o.type=z
  cases z<;>rfl
theorem WC {o:Nat→O} {F:Operand→S} {d:Nat} {op:Op} {ty:TypeId} {r:EK} (hp:rC op=true) (h:kernel tt d o F op ty=some r):r.upd r.val=[]:=by
 cases op<;>first | (cases hp;done) | skip
 all_goals
  simp only [kernel] at h
  split at h
  ·split at h
   ·simp only [Option.some.injEq] at h;subst h;rfl
   ·cases h
  ·cases h
theorem Yz {st:St} {o:Oper} {e:Eff} (hc:Can T tt N ops st o e) (hp:rC o.op=true):e.upd=[]:=by
 have key :∀{d:Nat},(gZ T tt d st o fun e'=>e'.new.all (fun g=>!st.used g)=true∧e'=e)→e.upd=[]:=by
  intro d h
  have h:=(y8 hp).1 h
  split at h
  ·rename_i r hr
   obtain ⟨_,_,rfl⟩:=h
   exact WC hp hr
  ·cases h
 unfold Can stepW at hc
 obtain ⟨_,hc⟩:=hc
 split at hc
 ·exact key hc
 ·split at hc
  ·rename_i b _
   cases b with
   |true=>exact key hc
   |false=>have hc:Eff.skip=e:=hc;rw [←hc];rfl
  ·cases hc
theorem YA {st st':St} {o:Oper} {e:Eff} (hc:Can T tt N ops st o e) (hp:rC o.op=true) (hs :∀t∈o.looksAt ops,st.s t=st'.s t) (ho :∀g∈oZ T st o,kindOf (st.o g)=kindOf (st'.o g)) (hu :∀g∈e.new,st.used g=st'.used g):Can T tt N ops st' o e:=by
 have hx :∀x∈o.op.operands.toList,st.bZ x=st'.bZ x:=by
  intro x hm
  cases x with
  |tmp t=>exact hs t (List.mem_append_left _ (List.mem_filterMap.2 ⟨_,hm,rfl⟩))
  |_=>rfl
 have hl:looks o.op=true:=by cases hop:o.op<;>rw [hop] at hp<;>first | rfl | cases hp
 have hk:kernel tt (o.dst.getD 0) st.o st.bZ o.op o.type=kernel tt (o.dst.getD 0) st'.o st'.bZ o.op o.type:=
  OO hp hx fun x hm g hg=>ho g (List.mem_append_left _ (by rw [hl];exact List.mem_flatMap.2 ⟨x,hm,List.mem_flatMap.2 ⟨g,hg,by simp⟩⟩))
 have eff:(gZ T tt (o.dst.getD 0) st o fun e'=>e'.new.all (fun g=>!st.used g)=true∧e'=e)→(gZ T tt (o.dst.getD 0) st' o fun e'=>e'.new.all (fun g=>!st'.used g)=true∧e'=e):=by
  intro h
  have h:=(y8 hp).1 h
  refine (y8 hp).2 ?_
  rw [←hk]
  split at h
  ·obtain ⟨q1,q2,rfl⟩:=h
   refine ⟨q1,?_,rfl⟩
   rw [List.all_eq_true] at q2 ⊢
   intro g hg
   rw [←hu g hg];exact q2 g hg
  ·cases h
 unfold Can stepW at *
 refine ⟨hc.1,?_⟩
 have hc:=hc.2
 cases hg:o.guard with
 |none=>rw [hg] at hc;exact eff hc
 |some p=>
  obtain ⟨j,want⟩:=p
  rw [hg] at hc
  simp only at hc ⊢
  have:guardOf ops st j want=guardOf ops st' j want:=by
   unfold guardOf
   cases hd:(ops[j]?).bind (·.dst) with
   |none=>rfl
   |some t=>
    simp only
    rw [hs t (List.mem_append_right _ (by simp [hg,hd]))]
  rw [←this]
  split at hc
  ·rename_i b hb
   cases b with
   |true=>exact eff hc
   |false=>exact hc
  ·cases hc
theorem YB {st st':St} {o:Oper} {e:Eff} {g off n:Nat} (hc:Can T tt N ops st o e) (hs :∀t∈o.looksAt ops,st.s t=st'.s t) (hl:Gs tt st o=some (g,off,n))
  (H:0<n→∀ws,st.o g=.box ws→Rng ws off n (st'.o g)) (hu :∀g∈e.new,st.used g=st'.used g):Can T tt N ops st' o e:=by
 obtain ⟨t,x,i,h1,h2,h3,h4⟩:=LZ hl
 have hx:st'.bZ x=.v (.one (.box g off)):=by
  rw [←h4]
  cases x with
  |tmp t=>exact (hs t (List.mem_append_left _ (List.mem_filterMap.2 ⟨.tmp t,by simp [h1,Op.operands],rfl⟩))).symm
  |_=>rfl
 have eff:(gZ T tt (o.dst.getD 0) st o fun e'=>e'.new.all (fun g=>!st.used g)=true∧e'=e)→(gZ T tt (o.dst.getD 0) st' o fun e'=>e'.new.all (fun g=>!st'.used g)=true∧e'=e):=by
  intro h
  obtain ⟨ws,ho,⟨q1,q2⟩,q3,rfl⟩:=(y7 h1 h2 h4).1 h
  obtain ⟨wc,r1,r2,r3⟩:=H (by omega) ws ho
  refine (y7 h1 h2 hx).2 ⟨wc,r1,⟨by omega,q2⟩,rfl,?_⟩
  have key:(wc.drop off).take i.size=(ws.drop off).take i.size:=by
   refine List.ext_getElem? fun k => ?_
   rw [List.getElem?_take,List.getElem?_take]
   split
   ·rw [List.getElem?_drop,List.getElem?_drop]
    exact r3 _ (by omega) (by omega)
   ·rfl
  rw [key]
 unfold Can stepW at *
 refine ⟨hc.1,?_⟩
 have hc:=hc.2
 cases hg:o.guard with
 |none=>rw [hg] at hc;exact eff hc
 |some p=>
  obtain ⟨j,want⟩:=p
  rw [hg] at hc
  simp only at hc ⊢
  have:guardOf ops st j want=guardOf ops st' j want:=by
   unfold guardOf
   cases hd:(ops[j]?).bind (·.dst) with
   |none=>rfl
   |some t=>
    simp only
    rw [hs t (List.mem_append_right _ (by simp [hg,hd]))]
  rw [←this]
  split at hc
  ·rename_i b hb
   cases b with
   |true=>exact eff hc
   |false=>exact hc
  ·cases hc
theorem WG (hT :∀f sp,T f=some sp→Sound Pg f sp) (htt:fM Pg tt) {es:Nat→Eff} {fs:List qZ} (hfree:Ut ops fs=true)
  (hcan :∀i,i<ops.size→∃o,ops[i]?=some o∧Can T tt N ops (SD ops es st (fun _=>true) i) o (es i)∧fs[i]?=some { rd:=oZ T (SD ops es st (fun _=>true) i) o,wr:=(es i).upd.map (·.1),new:=(es i).new,ld:=Gs tt (SD ops es st (fun _=>true) i) o,kp:=Ry (SD ops es st (fun _=>true) i) (es i),pk:=rC o.op,kd:=Rz (SD ops es st (fun _=>true) i) (es i) })
  (hQ :∀a' w',Good E N aN nU (SD ops es st (fun _=>true) ops.size) a' w'→Q .normal a' w') :
  ∀(fuel:Nat) (listed:Array Bool) (a:Act) (w:World),listed.size=ops.size→Down ops (fun k=>listed.getD k false)→(List.range ops.size).countP (fun k=>!listed.getD k false)≤fuel→
   Good E N aN nU (SD ops es st (fun k=>listed.getD k false) ops.size) a w→wpAny Pg .any ops Q fuel listed a w:=by
 have hf :∀j,j<ops.size→(mZ ops.toList []).getD j 0<2 ^ j∧∀i,i<j→((mZ ops.toList []).getD j 0).testBit i=true∨∃x y fx fy,ops[i]?=some x∧ops[j]?=some y∧fs[i]?=some fx∧fs[j]?=some fy∧Apart ops x y fx fy:=by
  intro j hj
  have:=(List.all_eq_true.1 hfree) j (List.mem_range.2 hj)
  simp only [Bool.and_eq_true,decide_eq_true_eq,List.all_eq_true,List.mem_range,Bool.or_eq_true] at this
  refine ⟨this.1,fun i hi => ?_⟩
  rcases this.2 i hi with h | h
  ·exact .inl h
  ·right
   split at h
   ·rename_i x y fx fy h1 h2 h3 h4
    exact ⟨x,y,fx,fy,h1,h2,h3,h4,RD h⟩
   ·cases h
 have done :∀(listed:Array Bool),listed.size=ops.size→Down ops (fun k=>listed.getD k false)→Region.ready .any ops listed=[]→∀k,k<ops.size→listed.getD k false=true:=by
  intro listed hsz hD hr k
  induction k using Nat.strongRecOn with
  |_ k ih=>
   intro hk
   obtain ⟨o,ho,_,_⟩:=hcan k hk
   by_cases hl:listed.getD k false=true
   ·exact hl
   ·exfalso
    have:k∈Region.ready .any ops listed:=mem_ready.2 ⟨by
     have hl:listed.getD k false=false:=by simpa using hl
     rw [Array.getD_eq_getD_getElem?] at hl ⊢
     rw [Array.getElem?_eq_getElem (by omega)] at hl ⊢
     exact hl,o,ho,fun e he hb=>ih e.on (OI ho (hf k hk).1 he hb) (by have:=OI ho (hf k hk).1 he hb;omega)⟩
    rw [hr] at this;cases this
 have final :∀(listed:Array Bool) (a:Act) (w:World),listed.size=ops.size→Down ops (fun k=>listed.getD k false)→Region.ready .any ops listed=[]→Good E N aN nU (SD ops es st (fun k=>listed.getD k false) ops.size) a w→Q .normal a w:=by
  intro listed a w hsz hD hr hg
  have h:=done listed hsz hD hr
  rw [BN (D':=fun _=>true) fun k hk=>h k hk] at hg
  exact hQ a w hg
 intro fuel
 induction fuel with
 |zero=>
  intro listed a w hsz hD hcnt hg
  have hr:Region.ready .any ops listed=[]:=by
   cases hr:Region.ready .any ops listed with
   |nil=>rfl
   |cons k ks=>
    exfalso
    have hk:k∈Region.ready .any ops listed:=by rw [hr];simp
    obtain ⟨h1,o,ho,_⟩:=mem_ready.1 hk
    have hlt:=(Array.getElem?_eq_some_iff.1 ho).1
    have:0<(List.range ops.size).countP (fun k=>!listed.getD k false):=by
     rw [List.countP_pos_iff]
     refine ⟨k,List.mem_range.2 hlt,?_⟩
     rw [Array.getD_eq_getD_getElem?] at h1 ⊢
     rw [Array.getElem?_eq_getElem (by omega)] at h1 ⊢
     simpa using h1
    omega
  exact ⟨hr,final listed a w hsz hD hr hg⟩
 |succ fuel ih=>
  intro listed a w hsz hD hcnt hg
  refine ⟨fun hr=>final listed a w hsz hD hr hg,fun i hi => ?_⟩
  obtain ⟨hni,oi,hoi,hpre⟩:=mem_ready.1 hi
  have hlt:i<ops.size:=(Array.getElem?_eq_some_iff.1 hoi).1
  have hDi:listed.getD i false=false:=by
   rw [Array.getD_eq_getD_getElem?] at hni ⊢
   rw [Array.getElem?_eq_getElem (by omega)] at hni ⊢
   exact hni
  obtain ⟨o,ho,hc,hfi⟩:=hcan i hlt
  rw [hoi] at ho;cases ho
  have hset :∀k,(listed.setIfInBounds i true).getD k false=if k=i then true else listed.getD k false:=by
   intro k
   by_cases e:k=i
   ·subst e
    rw [if_pos rfl,Array.getD_eq_getD_getElem?,Array.getElem?_setIfInBounds_self]
    simp [show k<listed.size by omega]
   ·rw [if_neg e,Array.getD_eq_getD_getElem?,Array.getElem?_setIfInBounds_ne (Ne.symm e),←Array.getD_eq_getD_getElem?]
  have hD':Down ops (fun k=>(listed.setIfInBounds i true).getD k false):=by
   intro j o' ho' hj e he hb
   simp only [hset] at hj ⊢
   by_cases ej:j=i
   ·subst ej
    rw [hoi] at ho';cases ho'
    have:=hpre e he hb
    rw [this];simp
   ·rw [if_neg ej] at hj
    have:=hD j o' ho' hj e he hb
    simp only at this
    rw [this];simp
  have hap :∀k,k<ops.size→k≠i→((k<i∧listed.getD k false=false)∨(i<k∧listed.getD k false=true))→∃y fy,ops[k]?=some y∧fs[k]?=some fy∧
    (∀t,y.dst=some t→t∉oi.looksAt ops)∧(∀t,oi.dst=some t→y.dst≠some t)∧((∀g∈fy.wr,g∉oZ T (SD ops es st (fun _=>true) i) oi)∨∃fi,fs[i]?=some fi∧DN fy fi=true)∧(∀g∈fy.wr,g∉(es i).upd.map (·.1))∧(∀g∈fy.new,g∉(es i).new)∧fy.wr=(es k).upd.map (·.1)∧fy.new=(es k).new:=by
   intro k hk hne hcase
   obtain ⟨y0,hy0,_,hfk⟩:=hcan k hk
   rcases hcase with ⟨hlt',hfalse⟩ | ⟨hlt',ahS⟩
   ·rcases (hf i hlt).2 k hlt' with hb | ⟨x,y,fx,fy,h1,h2,h3,h4,ap⟩
    ·have:=wu hD' i hoi (by simp [hset]) k hb
     simp only [hset,if_neg hne] at this
     rw [hfalse] at this;cases this
    ·rw [hoi] at h2;cases h2
     rw [hfi] at h4;cases h4
     rw [hfk] at h3;cases h3
     exact ⟨x,_,h1,hfk,ap.dy,fun t e e'=>ap.dd t e' e,ap.wr.imp id (fun h=>⟨_,hfi,h⟩),ap.ww,ap.nn,rfl,rfl⟩
   ·rcases (hf k hk).2 i hlt' with hb | ⟨x,y,fx,fy,h1,h2,h3,h4,ap⟩
    ·have:=wu hD k hy0 ahS i hb
     rw [hDi] at this;cases this
    ·rw [hoi] at h1;cases h1
     rw [hfi] at h3;cases h3
     rw [hfk] at h4;cases h4
     exact ⟨y,_,h2,hfk,ap.dx,ap.dd,ap.rw.imp id (fun h=>⟨_,hfi,h⟩),fun g hg hg'=>ap.ww g hg' hg,fun g hg hg'=>ap.nn g hg' hg,rfl,rfl⟩
  have L6:SD ops es st (fun _=>true) i=SD ops es st (fun k=>decide (k<i)) ops.size:=by
   have :∀m,i+m≤ops.size→SD ops es st (fun k=>decide (k<i)) (i+m)=SD ops es st (fun _=>true) i:=by
    intro m
    induction m with
    |zero=>intro _;exact BN fun k hk=>by simp [show k<i by omega]
    |succ m ih=>
     intro hm
     rw [←Nat.add_assoc]
     simp only [SD,show ¬ (i+m<i) by omega,decide_false,Bool.false_eq_true,if_false]
     exact ih (by omega)
   have:=this (ops.size-i) (by omega)
   rw [show i+(ops.size-i)=ops.size by omega] at this
   exact this.symm
  have hdiff :∀k,k<ops.size→decide (k<i)≠listed.getD k false→k≠i∧((k<i∧listed.getD k false=false)∨(i<k∧listed.getD k false=true)):=by
   intro k hk hne
   by_cases e:k=i
   ·subst e;rw [hDi] at hne;simp at hne
   ·refine ⟨e,?_⟩
    by_cases hki:k<i
    ·exact .inl ⟨hki,by simpa [hki] using hne⟩
    ·refine .inr ⟨by omega,?_⟩
     cases hl:listed.getD k false with
     |true=>rfl
     |false=>rw [hl] at hne;simp [hki] at hne
  have hdst :∀(k:Nat) (y:Oper),ops[k]?=some y→(ops[k]?).bind (·.dst)=y.dst:=fun k y h=>by rw [h];rfl
  have hc':Can T tt N ops (SD ops es st (fun k=>listed.getD k false) ops.size) oi (es i):=by
   have qW :∀t∈oi.looksAt ops,(SD ops es st (fun _=>true) i).s t=(SD ops es st (fun k=>listed.getD k false) ops.size).s t:=fun t ht=>by
    rw [L6]
    refine afv fun k hk hne => ?_
    obtain ⟨h1,h2⟩:=hdiff k hk hne
    obtain ⟨y,fy,h3,_,h4,_⟩:=hap k hk h1 h2
    rw [hdst k y h3]
    exact fun e=>h4 t e ht
   have NR :∀g∈(es i).new,(SD ops es st (fun _=>true) i).used g=(SD ops es st (fun k=>listed.getD k false) ops.size).used g:=fun g hg=>by
    rw [L6]
    refine LY fun k hk hne => ?_
    obtain ⟨h1,h2⟩:=hdiff k hk hne
    obtain ⟨y,fy,h3,_,_,_,_,_,h4,_,h5⟩:=hap k hk h1 h2
    rw [←h5]
    exact fun e=>h4 g e hg
   have travel :∀(g:Nat) (Pr:O→Prop),g∉(es i).upd.map (·.1)→(∀k,k<ops.size→k≠i→((k<i∧listed.getD k false=false)∨(i<k∧listed.getD k false=true))→g∈(es k).upd.map (·.1)→
     (Pr ((SD ops es st (fun _=>true) k).o g)↔Pr ((SD ops es st (fun _=>true) (k+1)).o g)))→Pr ((SD ops es st (fun _=>true) i).o g)→Pr ((SD ops es st (fun k=>listed.getD k false) ops.size).o g):=by
    intro g Pr hgi hkeep hP0
    have hstep :∀k,k<ops.size→(g∈(es k).upd.map (·.1)→(Pr ((SD ops es st (fun _=>true) k).o g)↔Pr ((SD ops es st (fun _=>true) (k+1)).o g)))→
      (Pr ((SD ops es st (fun _=>true) k).o g)↔Pr ((SD ops es st (fun _=>true) (k+1)).o g)):=by
     intro k hk hw
     by_cases hg:g∈(es k).upd.map (·.1)
     ·exact hw hg
     ·have:(SD ops es st (fun _=>true) (k+1)).o g=(SD ops es st (fun _=>true) k).o g:=by
       simp only [SD,if_true,vZ,iY hg]
      rw [this]
    obtain ⟨m',hm',hlast,hafter⟩:=OM (ops:=ops) (es:=es) (st:=st) (D:=fun k=>listed.getD k false) (g:=g) ops.size
    rw [hlast]
    rcases Nat.lt_or_ge i m' with him | him
    ·-- forward
     have :∀d,i+d≤m'→Pr ((SD ops es st (fun _=>true) (i+d)).o g):=by
      intro d
      induction d with
      |zero=>intro _;exact hP0
      |succ d ihd=>
       intro hd
       have hk:i+d<ops.size:=by
        rcases hafter with e | ⟨k1,e,h2,_⟩<;>omega
       rw [←Nat.add_assoc]
       refine (hstep (i+d) hk (fun hg => ?_)).1 (ihd (by omega))
       by_cases e0:d=0
       ·exfalso
        subst e0
        exact hgi hg
       ·have hin:listed.getD (i+d) false=true:=by
         rcases hafter with e | ⟨k1,rfl,ahT,hk1,hg1⟩
         ·omega
         ·by_cases e1:i+d=k1
          ·rw [e1];exact hk1
          ·obtain ⟨y1,hy1,_,hf1⟩:=hcan k1 ahT
           rcases (hf k1 ahT).2 (i+d) (by omega) with hb | ⟨x2,y2,fx,fy,h1,h2,h3,h4,ap⟩
           ·exact wu hD k1 hy1 hk1 _ hb
           ·exfalso
            obtain ⟨y0,_,_,hfk⟩:=hcan (i+d) hk
            rw [hfk] at h3;cases h3
            rw [hf1] at h4;cases h4
            exact ap.ww g hg hg1
        exact hkeep (i+d) hk (by omega) (.inr ⟨by omega,hin⟩) hg
     have:=this (m'-i) (by omega)
     rwa [show i+(m'-i)=m' by omega] at this
    ·-- backward
     have :∀d,d≤i-m'→Pr ((SD ops es st (fun _=>true) (i-d)).o g):=by
      intro d
      induction d with
      |zero=>intro _;exact hP0
      |succ d ihd=>
       intro hd
       have hk:i-(d+1)<ops.size:=by omega
       have e1:i-(d+1)+1=i-d:=by omega
       refine (hstep (i-(d+1)) hk (fun hg => ?_)).2 (by rw [e1];exact ihd (by omega))
       have hout:listed.getD (i-(d+1)) false=false:=by
        cases hl:listed.getD (i-(d+1)) false with
        |false=>rfl
        |true=>exact absurd hg (hm' (i-(d+1)) (by omega) hk hl)
       exact hkeep (i-(d+1)) hk (by omega) (.inl ⟨by omega,hout⟩) hg
     have:=this (i-m') (Nat.le_refl _)
     rwa [show i-(i-m')=m' by omega] at this
   cases hld:Gs tt (SD ops es st (fun _=>true) i) oi with
   |none=>
    by_cases hpk:rC oi.op=true
    ·refine YA hc hpk qW (fun g hg => ?_) NR
     refine (travel g (fun x=>kindOf ((SD ops es st (fun _=>true) i).o g)=kindOf x) (by rw [Yz hc hpk];simp) (fun k hk hne hcase hgk => ?_) rfl)
     obtain ⟨y,fy,h3,hfk,_,_,h4,_,_,h5,_⟩:=hap k hk hne hcase
     rcases h4 with h4 | ⟨fi,OQ,hs⟩
     ·exfalso
      rw [←h5] at hgk
      exact h4 g hgk hg
     ·rw [hfi] at OQ;cases OQ
      simp only [DN,hld,hpk,Bool.true_and,List.all_eq_true,Bool.or_eq_true,Bool.not_eq_true',List.contains_eq_mem,decide_eq_true_eq,decide_eq_false_iff_not] at hs
      rw [h5] at hs
      rcases hs g hg with hs | hs
      ·exact absurd hgk hs
      ·obtain ⟨o',ho',_,YC⟩:=hcan k hk
       rw [hfk] at YC;cases YC
       obtain ⟨x,q1,q2⟩:=WB hs
       have:(SD ops es st (fun _=>true) (k+1)).o g=x:=by simp only [SD,if_true,vZ,q1]
       rw [this,q2]
    ·refine Wx hc qW (fun g hg => ?_) NR
     rw [L6] at hg ⊢
     refine afw fun k hk hne => ?_
     obtain ⟨h1,h2⟩:=hdiff k hk hne
     obtain ⟨y,fy,h3,_,_,_,h4,_,_,h5,_⟩:=hap k hk h1 h2
     rw [←h5]
     rcases h4 with h4 | ⟨fi,OQ,hs⟩
     ·rw [L6] at h4
      exact fun e=>h4 g e hg
     ·rw [hfi] at OQ;cases OQ
      simp only [DN,hld,hpk,Bool.false_and] at hs
      cases hs
   |some q=>
    obtain ⟨g,off,n⟩:=q
    refine YB hc qW hld (fun hn ws hws => ?_) NR
    refine travel g (Rng ws off n) (by rw [Yy hc hld];simp) (fun k hk hne hcase hg => ?_) ⟨ws,hws,rfl,fun _ _ _=>rfl⟩
    obtain ⟨y,fy,h3,hfk,_,_,h4,_,_,h5,_⟩:=hap k hk hne hcase
    rcases h4 with h4 | ⟨fi,OQ,hs⟩
    ·exfalso
     rw [←h5] at hg
     exact h4 g hg (WA hld)
    ·rw [hfi] at OQ;cases OQ
     simp only [DN,hld,List.all_eq_true,List.mem_range] at hs
     obtain ⟨o',ho',_,YC⟩:=hcan k hk
     rw [hfk] at YC;cases YC
     have one :∀off',off≤off'→off'<off+n→∃wa wb,(SD ops es st (fun _=>true) k).o g=.box wa∧(SD ops es st (fun _=>true) (k+1)).o g=.box wb∧wa.length=wb.length∧wa[off']?=wb[off']?:=by
      intro off' h1' h2'
      have:=hs (off'-off) (by omega)
      obtain ⟨p,hp,he⟩:=List.any_eq_true.1 this
      simp only [Bool.and_eq_true] at he
      have e1:=Nat.eq_of_beq_eq_true he.1
      have e2:=Nat.eq_of_beq_eq_true he.2
      obtain ⟨wa,wb,q1,q2,q3,q4⟩:=Wy hp
      rw [e1] at q1 q2
      refine ⟨wa,wb,q1,?_,q3,by rw [show off'=p.2 by omega];exact q4⟩
      simp only [SD,if_true,vZ,q2]
     obtain ⟨wa,wb,q1,q2,q3,_⟩:=one off (Nat.le_refl _) (by omega)
     rw [q1,q2]
     have hall :∀off',off≤off'→off'<off+n→wa[off']?=wb[off']?:=fun off' a1 a2=>by
      obtain ⟨wa',wb',r1,r2,_,r4⟩:=one off' a1 a2
      rw [q1] at r1;rw [q2] at r2;cases r1;cases r2;exact r4
     constructor
     ·rintro ⟨wc,hc,hl,hr⟩
      cases hc
      exact ⟨wb,rfl,by omega,fun off' a1 a2=>by rw [←hall off' a1 a2];exact hr off' a1 a2⟩
     ·rintro ⟨wc,hc,hl,hr⟩
      cases hc
      exact ⟨wa,rfl,by omega,fun off' a1 a2=>by rw [hall off' a1 a2];exact hr off' a1 a2⟩
  have hins:SD ops es st (fun k=>(listed.setIfInBounds i true).getD k false) ops.size=(SD ops es st (fun k=>listed.getD k false) ops.size).eff oi.dst (es i):=by
   have hDs :∀k,(fun k=>(listed.setIfInBounds i true).getD k false) k=if k=i then true else listed.getD k false:=hset
   have hne :∀k,(fun k=>(listed.setIfInBounds i true).getD k false) k≠(fun k=>listed.getD k false) k→k=i:=by
    intro k h
    simp only [hset] at h
    by_cases e:k=i
    ·exact e
    ·rw [if_neg e] at h;exact absurd rfl h
   have YD :∀k,i<k→k<ops.size→(fun k=>(listed.setIfInBounds i true).getD k false) k=true→listed.getD k false=true:=by
    intro k h1 h2 h3
    simp only [hset,if_neg (show k≠i by omega)] at h3
    exact h3
   refine St.ext' (fun t => ?_) (fun g => ?_) (fun g => ?_)
   ·rw [JM]
    by_cases hd:oi.dst=some t
    ·rw [if_pos hd]
     refine JO (by simp [hset]) ((hdst i oi hoi).trans hd) hlt fun k h1 h2 h3 => ?_
     obtain ⟨y,fy,q1,_,_,q2,_⟩:=hap k h2 (by omega) (.inr ⟨h1,YD k h1 h2 h3⟩)
     rw [hdst k y q1]
     exact q2 t hd
    ·rw [if_neg hd]
     refine afv fun k hk hk' => ?_
     rw [hne k hk',hdst i oi hoi];exact hd
   ·rw [vZ]
    cases hu:(es i).upd.lookup g with
    |some x=>
     refine JQ (by simp [hset]) hu hlt fun k h1 h2 h3 => ?_
     obtain ⟨y,fy,q1,_,_,_,_,q2,_,q3,_⟩:=hap k h2 (by omega) (.inr ⟨h1,YD k h1 h2 h3⟩)
     rw [←q3]
     exact fun e=>q2 g e (List.mem_map.2 ⟨(g,x),jA hu,rfl⟩)
    |none=>
     refine afw fun k hk hk' => ?_
     rw [hne k hk']
     intro hm
     obtain ⟨p,hp,rfl⟩:=List.mem_map.1 hm
     have :∀{l:List (Nat×O)},p∈l→l.lookup p.1≠none:=by
      intro l
      induction l with
      |nil=>intro h;cases h
      |cons q l ih=>
       intro h hn
       simp only [List.lookup] at hn
       split at hn
       ·cases hn
       ·rename_i hb
        rcases List.mem_cons.1 h with h | h
        ·subst h;simp at hb
        ·exact ih h hn
     exact this hp hu
   ·rw [rX]
    by_cases hn:g∈(es i).new
    ·rw [DR (by simp [hset]) hn hlt];simp [hn]
    ·have:(es i).new.contains g=false:=by simpa using hn
     rw [this,Bool.false_or]
     refine LY fun k hk hk' => ?_
     rw [hne k hk'];exact hn
  refine Gm hT htt hoi hg hc' fun a' w' hg'=>ih _ a' w' (by simp [hsz]) hD' ?_ (by rw [hins];exact hg')
  have hlt2:(List.range ops.size).countP (fun k=>!(listed.setIfInBounds i true).getD k false)<(List.range ops.size).countP (fun k=>!listed.getD k false):=by
   have gen :∀l:List Nat,i∈l→l.countP (fun k=>!(listed.setIfInBounds i true).getD k false)<l.countP (fun k=>!listed.getD k false):=by
    intro l
    have hle :∀l:List Nat,l.countP (fun k=>!(listed.setIfInBounds i true).getD k false)≤l.countP (fun k=>!listed.getD k false):=fun l=>List.countP_mono_left fun k _ h=>by
     simp only [hset] at h
     by_cases e:k=i
     ·simp [e] at h
     ·simpa [e] using h
    induction l with
    |nil=>intro h;cases h
    |cons k l ihl=>
     intro h
     simp only [List.countP_cons]
     by_cases e:k=i
     ·subst e
      have h1:(!(listed.setIfInBounds k true).getD k false)=false:=by simp [hset]
      have h2:(!listed.getD k false)=true:=by simp [hDi]
      rw [h1,h2]
      exact Nat.lt_succ_of_le (hle l)
     ·have:=ihl (by rcases List.mem_cons.1 h with h | h;exact absurd h.symm e;exact h)
      have e1:(!(listed.setIfInBounds i true).getD k false)=(!listed.getD k false):=by rw [hset,if_neg e]
      rw [e1];omega
   exact gen _ (List.mem_range.2 hlt)
  omega
theorem Gz (hT :∀f sp,T f=some sp→Sound Pg f sp) (htt:fM Pg tt) {draw:Bool} {K:St→Prop} (h:oh T tt N ops draw st K) (hg:Good E N aN nU st a w)
  (hK :∀st' a' w',K st'→Good E N aN nU st' a' w'→Q .normal a' w'):(draw=false∧wpOps Pg ops Q (List.range ops.size) a w)∨(draw=true∧wpAny Pg .any ops Q ops.size (Array.replicate ops.size false) a { w with drawn:=w.drawn+1 }):=by
 cases draw with
 |false=>exact .inl ⟨rfl,Aj hT htt hK _ h hg⟩
 |true=>
  have h:nG T tt N ops (List.range ops.size) st [] (fun st' fs=>Ut ops fs=true∧K st'):=h
  rw [List.range_eq_range'] at h
  obtain ⟨es,fs,_,_,⟨h1,h2⟩,h3⟩:=DT (st:=st) ops.size 0 (fun _=>Eff.skip) [] rfl h
  rw [Nat.zero_add] at h2
  refine .inr ⟨rfl,?_⟩
  refine WG hT htt h1 (fun i hi=>h3 i (by omega) (by omega)) (fun a' w' hg'=>hK _ a' w' h2 hg') ops.size _ a _ (by simp) ?_ ?_ ?_
  ·intro j o _ hj
   simp only [Array.getD_eq_getD_getElem?] at hj
   rw [Array.getElem?_replicate] at hj
   split at hj<;>cases hj
  ·refine Nat.le_trans List.countP_le_length ?_
   simp
  ·obtain ⟨⟨gh,hR,DF⟩,hsz,hdf⟩:=hg
   have e:SD ops es st (fun k=>(Array.replicate ops.size false).getD k false) ops.size=st:=by
    have :∀n,SD ops es st (fun k=>(Array.replicate ops.size false).getD k false) n=st:=by
     intro n
     induction n with
     |zero=>rfl
     |succ n ih=>
      have:(Array.replicate ops.size false).getD n false=false:=by
       rw [Array.getD_eq_getD_getElem?,Array.getElem?_replicate];split<;>rfl
      simp only [SD,this,Bool.false_eq_true,if_false];exact ih
    exact this _
   rw [e]
   exact ⟨⟨gh,hR.drew _,DF⟩,hsz,hdf⟩
theorem L8 (hT :∀f sp,T f=some sp→Sound Pg f sp) (htt:fM Pg tt) (hm:Pg.follows .mixedOrders=true) {id:Nat} {draw:Bool} {K:St→Prop} (h:oh T tt N ops draw st K) (hg:Good E N aN nU st a w)
  (hK :∀st' a' w',K st'→Good E N aN nU st' a' w'→Q .normal a' w'):(Code.region id ops draw).wp Pg Q a w:=by
 rcases Gz hT htt h hg hK with ⟨e,h2⟩ | ⟨e,h2⟩
 ·rw [e];exact wp_region h2
 ·rw [e];exact wp_region_any hm h2
end
end Go.Fw

namespace Go.Fw
set_option linter.unusedSectionVars false
variable [dw]
set_option linter.unusedVariables false
def Uu (gs:List Nat) (o:Nat→O):W→W
 |.own g=>if gs.contains g=true then match plainO o g with
  |some (a,i,sz,l)=>.p a i (P.dY sz l)
  |none=>.own g
  else .own g
 |.vw g lo hi=>if gs.contains g=true then match plainO o g with
  |some (a,i,sz,l)=>.p a i (P.dY sz ((l.take hi.nat).drop lo.nat))
  |none=>.vw g lo hi
  else .vw g lo hi
 |x=>x
def YE (gs:List Nat) (o:Nat→O):V→V
 |.one x=>.one (Uu gs o x)
 |.agg xs=>.agg (xs.map (Uu gs o))
def YF (gs:List Nat) (o:Nat→O):S→S
 |.v x=>.v (YE gs o x)
 |.kC xs=>.kC (xs.map (YE gs o))
 |.no=>.no
def XU (gs:List Nat) (o:Nat→O) (g:Nat):O:=match o g with
 |.box ws=>.box (ws.map (Uu gs o))
 |x=>if gs.contains g=true then (Fw.freeze o g).2 else x
def dF (gs:List Nat) (st:St):St:={ s:=fun t=>YF gs st.o (st.s t),o:=fun g=>XU gs st.o g,used:=st.used }
def abO (o:Nat→O) (gs:List Nat):Bool:=gs.all fun g=>(plainO o g).isSome&&(o g).names.all fun d=>gs.contains d
theorem WH {o:Nat→O} {gs:List Nat} (h:abO o gs=true):vC o gs:=fun g hg=>by
 have:=(List.all_eq_true.1 h) g hg
 simp only [Bool.and_eq_true,List.all_eq_true,List.contains_eq_mem,decide_eq_true_eq] at this
 exact this
section
variable {E:Env} {st:St} {gh:Nat→Gh} {w:World} {val:Nat→Value}
theorem BO {gs:List Nat} {o:Nat→O} {x:W} {g:Nat} (h:g∈(Uu gs o x).names):g∈x.names:=by
 unfold Uu at h
 split at h
 ·split at h
  ·split at h
   ·simp [W.names] at h
   ·exact h
  ·exact h
 ·split at h
  ·split at h
   ·simp [W.names] at h
   ·exact h
  ·exact h
 ·exact h
theorem JV {gs:List Nat} {o:Nat→O} {x:V} {g:Nat} (h:g∈(YE gs o x).names):g∈x.names:=by
 cases x with
 |one x=>exact BO h
 |agg xs=>
  simp only [YE,V.names,List.mem_flatMap,List.mem_map] at h ⊢
  obtain ⟨_,⟨x,hx,rfl⟩,hg⟩:=h
  exact ⟨x,hx,BO hg⟩
theorem WI {gs:List Nat} {o:Nat→O} {x:S} {g:Nat} (h:g∈(YF gs o x).names):g∈x.names:=by
 cases x with
 |v x=>exact JV h
 |kC xs=>
  simp only [YF,S.names,List.mem_flatMap,List.mem_map] at h ⊢
  obtain ⟨_,⟨x,hx,rfl⟩,hg⟩:=h
  exact ⟨x,hx,JV hg⟩
 |no=>exact h
theorem GH (gs:List Nat) (st:St) (g:Nat):((dF gs st).o g=(st.upd (gs.map (Fw.freeze st.o)) []).o g∧∀ws,st.o g≠.box ws)∨
  ∃ws,st.o g=.box ws∧(st.upd (gs.map (Fw.freeze st.o)) []).o g=.box ws∧(dF gs st).o g=.box (ws.map (Uu gs st.o)):=by
 rw [eF]
 cases ho:st.o g with
 |box ws=>
  refine .inr ⟨ws,rfl,?_,by simp only [dF,XU,ho]⟩
  split
  ·simp [Fw.freeze,plainO,ho]
  ·rfl
 |_=>
  refine .inl ⟨?_,fun ws e=>by cases e⟩
  simp only [dF,XU,ho]
  simp only [List.contains_eq_mem,decide_eq_true_eq]
theorem yA {gs:List Nat} {st:St} {g:Nat} (h:st.o g=.none):(dF gs st).o g=.none:=by
 simp only [dF,XU,h]
 split
 ·simp [Fw.freeze,plainO,h]
 ·rfl
theorem Rel.plain (h:Rel E st gh val w) (gs:List Nat) (hgs:vC st.o gs):Rel E (dF gs st) gh val w:=by
 have h1:=(h.freezes gs hgs).1
 have hss:(st.upd (gs.map (Fw.freeze st.o)) []).s=st.s:=rfl
 have hun :∀g,(st.upd (gs.map (Fw.freeze st.o)) []).used g=st.used g:=fun g=>by simp [St.upd]
 have key:=GH gs st
 have hfr:=fun g=>eF (st:=st) gs g
 generalize hst1:st.upd (gs.map (Fw.freeze st.o)) []=st1 at h1 hss hun key hfr
 have own :∀g,((dF gs st).o g).owned=(st1.o g).owned:=fun g=>by
  rcases key g with ⟨e,_⟩ | ⟨ws,_,e1,e2⟩
  ·rw [e]
  ·rw [e1,e2];rfl
 have dim :∀g,((dF gs st).o g).dim=(st1.o g).dim:=fun g=>by
  rcases key g with ⟨e,_⟩ | ⟨ws,_,e1,e2⟩
  ·rw [e]
  ·rw [e1,e2];rfl
 have inner :∀g,((dF gs st).o g).inner=(st1.o g).inner:=fun g=>by
  rcases key g with ⟨e,_⟩ | ⟨ws,_,e1,e2⟩
  ·rw [e]
  ·rw [e1,e2];rfl
 have isd :∀g,((dF gs st).o g).mO=(st1.o g).mO:=fun g=>by
  rcases key g with ⟨e,_⟩ | ⟨ws,_,e1,e2⟩
  ·rw [e]
  ·rw [e1,e2];rfl
 have akZ :∀g ws,(dF gs st).o g=.box ws→∃ws',st1.o g=.box ws':=fun g ws hg=>by
  rcases key g with ⟨e,_⟩ | ⟨ws',_,e1,e2⟩
  ·rw [e] at hg;exact ⟨ws,hg⟩
  ·exact ⟨ws',e1⟩
 have oit :∀g s n,(dF gs st).o g=.it s n→st1.o g=.it s n:=fun g s n hg=>by
  rcases key g with ⟨e,_⟩ | ⟨ws',_,e1,e2⟩
  ·rw [e] at hg;exact hg
  ·rw [e2] at hg;cases hg
 have hok:E.ok (dF gs st) gh w=E.ok st1 gh w:=by funext a i b;simp only [Env.ok,own]
 have hp :∀{g a i sz l},gs.contains g=true→plainO st.o g=some (a,i,sz,l)→st1.o g=.arr true a i sz l:=fun {g a i sz l} hc hpl=>by
  rw [hfr,if_pos (by simpa using hc),kZ hpl]
 have same :∀{x:W} {v:Value},dH E st1 gh w x v→dH E (dF gs st) gh w x v:=by
  intro x v r
  induction r with
  |p a i x v hx=>exact .p a i x v (by rw [hok];exact hx)
  |bD=>exact .bD
  |own g v hv hx=>exact .own g v hv fun sz len hg=>hx sz len (by rw [←dim];exact hg)
  |vw g lo hi v hv hx=>exact .vw g lo hi v hv fun sz len hg=>hx sz len (by rw [←dim];exact hg)
  |box g off v hv hx=>exact .box g off v hv fun ws hg=>by obtain ⟨ws',e⟩:=akZ g ws hg;exact hx ws' e
  |ep g n off v hv hx=>exact .ep g n off v hv fun sz len hg=>hx sz len (by rw [←dim];exact hg)
  |sp a i row off b o hb hx=>exact .sp a i row off b o (by rw [hok];exact hb) (by rw [hok];exact hx)
  |gl g=>exact .gl g
  |lH g v hv hx=>exact .lH g v hv fun s n hg=>hx s n (oit g s n hg)
  |gd b x v hx ih=>exact .gd b x v ih
  |clo f caps vs hl hx ih=>exact .clo f caps vs hl ih
  |no v=>exact .no v
 have aeD :∀{a i:Bool} {sz:Nat} {l:List (List P)} {G:Gh},fV E st1 gh w a i sz l G→fV E (dF gs st) gh w a i sz l G:=by
  intro a i sz l G r
  simpa only [fV,hok] using r
 have wd :∀{x:W} {v:Value},dH E st1 gh w x v→dH E (dF gs st) gh w (Uu gs st.o x) v:=by
  intro x v r
  unfold Uu
  split
  ·rename_i g
   split
   ·rename_i hc
    split
    ·rename_i a i sz l hpl
     have ho1:=hp hc hpl
     cases r with
     |own _ _ hv hx=>
      have hv:=hx _ _ (O.iT ho1)
      have hO:=h1.objs g
      rw [ho1] at hO
      rw [hv]
      exact .p a i _ _ (by rw [hok];exact bn.dY hO)
    ·exact same r
   ·exact same r
  ·rename_i g lo hi
   split
   ·rename_i hc
    split
    ·rename_i a i sz l hpl
     have ho1:=hp hc hpl
     cases r with
     |vw _ _ _ _ hv hx=>
      obtain ⟨n,m,c,rfl,rfl,q1,q2,qc,he⟩:=hx _ _ (O.iT ho1)
      have hO:=h1.objs g
      rw [ho1] at hO
      rw [he]
      have e1:(P.int .i64 (n:Int)).nat=n:=by simp [P.nat,P.num]
      have e2:(P.int .i64 (m:Int)).nat=m:=by simp [P.nat,P.num]
      rw [e1,e2]
      exact .p a i _ _ (by rw [hok];exact bn.dY ((bn.sub hO q1 q2).aer (by simp;omega)))
    ·exact same r
   ·exact same r
  ·exact same r
 have wV :∀{x:V} {v:Value},pY E st1 gh w x v→pY E (dF gs st) gh w (YE gs st.o x) v:=by
  intro x v r
  cases r with
  |one x v r=>exact .one _ _ (wd r)
  |agg xs cs hl hv hr=>
   refine .agg _ cs (by simpa using hl) hv fun j x v hx hv => ?_
   simp only [List.getElem?_map,Option.map_eq_some_iff] at hx
   obtain ⟨y,hy,rfl⟩:=hx
   exact wd (hr j y v hy hv)
 refine ⟨fun t => ?_,fun g => ?_,?_,?_,?_,?_,h1.wb,h1.frame,h1.size,h1.os,h1.tape,h1.output,?_,?_,?_⟩
 ·have hs:=h1.slots t
  rw [hss] at hs
  show bI E _ gh w (YF gs st.o (st.s t)) (val t)
  cases hs':st.s t with
  |v x=>rw [hs'] at hs;cases hs with | v _ _ r=>exact .v _ _ (wV r)
  |kC xs=>
   rw [hs'] at hs
   generalize hval:val t=vt at hs
   cases hs with
   |kC _ vs hl hr=>
    refine .kC _ vs (by simpa using hl) fun j x v hx hv => ?_
    simp only [List.getElem?_map,Option.map_eq_some_iff] at hx
    obtain ⟨y,hy,rfl⟩:=hx
    exact wV (hr j y v hy hv)
  |no=>exact .no _
 ·have hO:=h1.objs g
  rcases key g with ⟨e,_⟩ | ⟨ws',_,e1,e2⟩
  ·rw [e]
   generalize st1.o g=x at hO
   cases x with
   |none=>trivial
   |box ws=>
    obtain ⟨ad,c,ty,a1,a2,a3,a4,a5⟩:=hO
    exact ⟨ad,c,ty,a1,a2,a3,a4,fun j x hx=>let ⟨v,b1,b2,b3⟩:=a5 j x hx;⟨v,b1,b2,same b3⟩⟩
   |arr fz a i sz l=>
    cases fz with
    |false=>exact aeD hO
    |true=>simpa only [kD,hok] using hO
   |deep a i sz cols l hole=>
    rcases hO with hO | ⟨ad,c,ty,a1,a2,a3,a4,a5,a6,a7,a8⟩
    ·exact .inl hO
    ·refine .inr ⟨ad,c,ty,a1,a2,a3,a4,a5,a6,a7,fun n x hx j y hy => ?_⟩
     obtain ⟨v,hv,hr⟩:=a8 n x hx j y hy
     refine ⟨v,hv,?_⟩
     unfold gq at *
     cases hcj:cols.lookup j with
     |none=>rw [hcj] at hr;exact (by rw [hok];exact hr:bn w (E.ok (dF gs st) gh w a i) y v)
     |some sz'=>
      rw [hcj] at hr
      simp only at *
      cases hh:fE hole n j with
      |some d=>rw [hh] at hr;exact ⟨hr.1,same hr.2⟩
      |none=>
       rw [hh] at hr
       obtain ⟨l',ao,k,q1,q2,q3,q4⟩:=hr
       exact ⟨l',ao,k,q1,q2,aeD q3,q4⟩
   |it s n=>exact hO
  ·rw [e2]
   rw [e1] at hO
   obtain ⟨ad,c,ty,a1,a2,a3,a4,a5⟩:=hO
   refine ⟨ad,c,ty,a1,a2,a3,by simpa using a4,fun j x hx => ?_⟩
   simp only [List.getElem?_map,Option.map_eq_some_iff] at hx
   obtain ⟨y,hy,rfl⟩:=hx
   obtain ⟨v,b1,b2,b3⟩:=a5 j y hy
   exact ⟨v,b1,b2,wd b3⟩
 ·intro g g' b ha ha'
  rw [own] at ha ha'
  exact h1.inj g g' b ha ha'
 ·intro g b ha
  rw [own] at ha
  exact h1.wr g b ha
 ·intro g i b hg
  rw [inner] at hg
  exact h1.wi g i b hg
 ·intro g ho hd
  rw [own] at ho
  rw [isd] at hd
  exact h1.ns g ho hd
 ·intro t g hg
  exact h.us t g (WI hg)
 ·intro g g' hg
  rcases key g with ⟨e,_⟩ | ⟨ws',e0,e1,e2⟩
  ·rw [e] at hg
   have:=h1.uo g g' hg
   rw [hun] at this;exact this
  ·rw [e2] at hg
   simp only [O.names,List.mem_flatMap,List.mem_map] at hg
   obtain ⟨_,⟨x,hx,rfl⟩,hg⟩:=hg
   exact h.uo g g' (by rw [e0];simp only [O.names,List.mem_flatMap];exact ⟨x,hx,BO hg⟩)
 ·intro g hg
  exact h.ul g fun e=>hg (yA e)
theorem YG {gs:List Nat} {w:World} {gh:Nat→Gh} {st:St} {E:Env} {a i:Bool} {b:Nat} (h:E.ok st gh w a i b):E.ok (dF gs st) gh w a i b:=by
 refine ⟨h.1,h.2.1,fun g ho had=>h.2.2 g ?_ had⟩
 rcases GH gs st g with ⟨e,_⟩ | ⟨ws,e,_⟩
 ·rw [e,eF] at ho
  split at ho
  ·cases hp:plainO st.o g with
   |none=>simpa [Fw.freeze,hp] using ho
   |some x=>obtain ⟨a,i,sz,l⟩:=x;rw [kZ hp] at ho;cases ho
  ·exact ho
 ·rw [e];rfl
theorem Rel.norm (h:Rel E st gh val w) (hs gs:List Nat) (hgs:abO (Fw.shuts hs st).o gs=true) :
  ∃aT,Rel E (dF gs (Fw.shuts hs st)) aT val w∧(∀x,(aT x).ad=(gh x).ad∧(aT x).cap=(gh x).cap)∧(∀a i b,E.ok st gh w a i b→E.ok (dF gs (Fw.shuts hs st)) aT w a i b)∧
   ∀g,st.o g=.none→(dF gs (Fw.shuts hs st)).o g=.none:=by
 obtain ⟨aT,h1,l1,e1⟩:=h.shuts hs
 exact ⟨aT,h1.plain gs (WH hgs),e1,fun a i b hb=>YG (l1.ok a i b hb).1,fun g hg=>yA (FX hs hg)⟩
end
end Go.Fw

namespace Go.Fw
open Go.RowKit
set_option linter.unusedSectionVars false
set_option linter.unusedVariables false
set_option linter.unusedSimpArgs false
variable [dw]
def FR (ro:Option Nat):Fence:={ Fence.wide with round:=ro }
section
variable {Pg:Program} {ro:Option Nat} {n:Nat} {ops:Array Oper} {Q:Exit→Act→World→Prop}
theorem RF {f:FuncId} {args:Array Value} {w:World} {R:Ending→World→Prop} (h:Calls Pg f args w R):CallsIn (FR ro) n Pg f args w R:=callsIn_wide.2 h
theorem WJ {row:String} {args:Array Value} {w:World} {R:Value→World→Prop} (h:Rows Pg row args w R):RowsIn (FR ro) n Pg row args w R:=by
 intro c cs _
 obtain ⟨v,w',h1,h2⟩:=h c cs
 exact ⟨v,w',h1,stepsIn_wide.2 h2⟩
theorem ak0 {o:Oper} (ho :∀c,o.op≠.defer c) {a:Act} {w:World} {K K':Act→World→Prop} (hK :∀a w,K a w→K' a w) (h:o.wp Pg a w K Q):o.wpIn (FR ro) n Pg a w K' Q:=by
 refine ⟨fun _ _=>trivial,?_⟩
 rw [Oper.semAt_eq _ _ _ ho]
 unfold Oper.wp at h
 have hd:(FR ro).depth.isSome=true→1≤n:=fun e=>absurd e (by simp [FR,Fence.wide])
 generalize (execOp a.eval o).run Pg w=r at *
 cases r with
 |ok x w'=>
  cases x<;>simp only [Oper.upon] at h<;>simp only [Oper.uponIn]
  all_goals first
   |exact hK _ _ h
   |exact ⟨hd,RF (Calls.mono h fun e w'' he=>by cases e<;>first | exact hK _ _ he | exact he)⟩
   |exact ⟨hd,WJ (Rows.mono h fun v w'' he=>hK _ _ he)⟩
 |halt x w'=>cases x<;>simp only [Oper.upon] at h<;>simp only [Oper.uponIn]<;>exact h
theorem YH (ho :∀o∈ops.toList,∀c,o.op≠.defer c) (hlo:¬ LetsOut Q) {i:Nat} {a:Act} {w:World} {K K':Act→World→Prop} (hK :∀a w,K a w→K' a w) (h:wpOp Pg ops Q i K a w):wpOpIn (FR ro) n Pg ops Q i K' a w:=by
 unfold wpOp at h
 unfold wpOpIn
 cases hi:ops[i]? with
 |none=>rw [hi] at h;exact hK _ _ h
 |some o=>
  rw [hi] at h
  simp only at h ⊢
  split
  ·rename_i hw
   rw [if_pos hw] at h
   rcases h with h | h
   ·exact ak0 (ho o (by have:=(Array.getElem?_eq_some_iff.1 hi).2;rw [←this];simp)) hK h
   ·exact absurd h.2 hlo
  ·rename_i hw
   rw [if_neg hw] at h
   exact ⟨fun _ _=>trivial,hK _ _ h⟩
theorem aeE (ho :∀o∈ops.toList,∀c,o.op≠.defer c) (hlo:¬ LetsOut Q) :∀(is:List Nat) (a:Act) (w:World),wpOps Pg ops Q is a w→wpOpsIn (FR ro) n Pg ops Q is a w
 | [],a,w,h=>h
 |i::is,a,w,h=>by
  rw [wpOps_cons] at h
  rw [wpOpsIn_cons]
  exact YH ho hlo (fun a w=>aeE ho hlo is a w) h
theorem aeF {md:Region.Mode} (ho :∀o∈ops.toList,∀c,o.op≠.defer c) (hlo:¬ LetsOut Q) :∀(fuel:Nat) (listed:Array Bool) (a:Act) (w:World),wpAny Pg md ops Q fuel listed a w→wpAnyIn (FR ro) n Pg md ops Q fuel listed a w
 |0,listed,a,w,h=>h
 |fuel+1,listed,a,w,h=>⟨h.1,fun i hi=>YH ho hlo (fun a w=>aeF ho hlo fuel _ a w) (h.2 i hi)⟩
end
omit [dw] in
def P.lv:P→Value
 |.int k n=>.int k n
 |.bool b=>.bool b
 |.str s=>.string s
 |_=>undef
def P.lit:P→Bool
 |.int _ _=>true
 |.bool _=>true
 |.str _=>true
 |_=>false
theorem P.abP {w:World} {ok:Nat→Prop} {x:P} (h:x.lit=true):bn w ok x x.lv:=by
 cases x<;>first | exact .int _ _ | exact .bool _ | exact .str _ | cases h
omit [dw] in
def GI (Pg:Program) (w:World) (S:List Nat) (rows:List (List P)) (v:Value):Prop:=
 ∃gf lb,v=.func (.func gf) #[] lb∧(∀(args:Array Value) (w:World),(callFunc gf args).run Pg w=.ok (.enter gf args) w)∧
  ∀(l:Nat) (J:Nat→List Nat→World→Prop) (W:World),(∀k D A,J k D A→∀b∈S,A.heap[b]?=w.heap[b]?)→(∀k D A B D',J k D A→oW A B→(∀b∈D',b∈D∨(A.heap.size≤b∧b<B.heap.size))→J k D' B)→
   (∀k row D A,rows[k]?=some row→J k D A→YieldAt Fence.wide 0 Pg l (row.map P.lv).toArray A fun e B=>e=.returned (.bool true)∧J (k+1) D B∧∀b∈D,B.heap[b]?=A.heap[b]?)→
   J 0 [] W→Calls Pg gf (#[.func (.yield l) #[] #[]]++lb) W fun e B=>(∃v,e=.returned v)∧∃D,J rows.length D B
omit [dw] in
theorem GI.mono {Pg:Program} {w w':World} {S:List Nat} {rows:List (List P)} {v:Value} (h :∀b∈S,w'.heap[b]?=w.heap[b]?) (hi:GI Pg w S rows v):GI Pg w' S rows v:=by
 obtain ⟨gf,lb,h1,h2,h3⟩:=hi
 exact ⟨gf,lb,h1,h2,fun l J W hJ=>h3 l J W fun k D A hA b hb=>(hJ k D A hA b hb).trans (h b hb)⟩
section
variable {Pg:Program}
theorem YI {g:Operand} {ps:Array Tmp} {x y:Code} {Q:Exit→Act→World→Prop} {a:Act} {w:World} {S:List Nat} {rows:List (List P)} (hit:GI Pg w S rows (a.eval g)) (hlen :∀row∈rows,row.length=ps.size)
  (J:Nat→List Nat→World→Prop) (hS :∀k D A,J k D A→∀b∈S,A.heap[b]?=w.heap[b]?) (hgrow :∀k D A B D',J k D A→oW A B→(∀b∈D',b∈D∨(A.heap.size≤b∧b<B.heap.size))→J k D' B)
  (hturn :∀k D A b o o',w.heap.size≤b→b∉D→J k D A→A.heap[b]?=some o→quiet o=true→J k D (A.putObj b o')) (h0:J 0 [] w)
  (afx :∀k row D A,rows[k]?=some row→J k D A→∀l,∃a₁,(∀(K:Act→World→Prop) W,K a₁ W→x.wpIn (FR (some l)) 0 Pg (Exit.then K (fun _ _ _=>False)) { tmps:=(ps.zip (row.map P.lv).toArray).foldl (fun t (p,v)=>t.setIfInBounds p v) a.tmps,defers:=[] } W)∧
   y.wpIn (FR (some l)) 0 Pg (fun e _ B=>e=.normal∧J (k+1) D B∧(∀b∈D,B.heap[b]?=A.heap[b]?)∧∀b o,A.heap[b]?=some o→quiet o=true→w.heap.size≤b→B.heap[b]?=some o) a₁ A)
  (hdone :∀D B D',w.heap.size≤D→J rows.length D' B→B.heap[D]?=some (.deferred (some []))→Q .normal { a with defers:={ target:=.collected D,args:=#[] }::a.defers } B) :
  (Code.rangeFunc g ps x y).wp Pg Q a w:=by
 obtain ⟨gf,lb,hg,eg,hseq⟩:=hit
 rw [←wpIn_wide (n:=1)]
 refine wpIn_rangeFunc ?_
 intro fn hfn
 obtain ⟨rec,hrec⟩ :∃rec:LoopState→Option Code→Loop,rec=fun st pe=>{ state:=st,pending:=pe,fn,tmps:=a.tmps,params:=ps,assign:=x,body:=y,defers:=w.heap.size }:=⟨_,rfl⟩
 obtain ⟨W1,hW1⟩ :∃W1,(w.alloc (.deferred (some []))).alloc (.loop (rec .ready none))=W1:=⟨_,rfl⟩
 have hL1:W1.heap[w.heap.size+1]?=some (.loop (rec .ready none)):=by
  rw [←hW1];have:=World.alloc_heap_new (w.alloc (.deferred (some []))) (.loop (rec .ready none));rwa [World.size_alloc] at this
 have hK1:W1.heap[w.heap.size]?=some (.deferred (some [])):=by
  rw [←hW1];exact (Below.heap_alloc _ _ _ (by simp)).trans (World.alloc_heap_new w _)
 have hJ1:J 0 [] W1:=by rw [←hW1];exact hgrow _ _ _ _ [] (hgrow _ _ _ _ [] h0 (oW.alloc _ _) (fun b hb=>by cases hb)) (oW.alloc _ _) (fun b hb=>by cases hb)
 refine ⟨w.heap.size+1,[{ target:=.collected w.heap.size,args:=#[] }],W1,{ target:=.fn (.func gf) lb,args:=#[.func (.yield (w.heap.size+1)) #[] #[]] },W1,gf,
  #[.func (.yield (w.heap.size+1)) #[] #[]]++lb,W1,?_,?_,fun _ _=>trivial,?_,fun _=>Nat.le_refl _,?_⟩
 ·rw [←hW1,hrec];exact run_enterLoop_outer _ _ _ _ _
 ·simp only [resolve,hg]
  simp [go_sem]
 ·simp [invoke,go_sem,eg]
 refine callsIn_wide.2 (Calls.mono (hseq (w.heap.size+1)
   (fun k D A=>J k D A∧A.heap[w.heap.size+1]?=some (.loop (rec .ready none))∧A.heap[w.heap.size]?=some (.deferred (some []))∧∀b∈D,w.heap.size+1<b)
   W1 (fun k D A h=>hS k D A h.1) (fun k D A B D' h hg hD => ?_) ?_ ⟨hJ1,hL1,hK1,fun b hb=>by cases hb⟩) ?_)
 ·have lt :∀{i o},A.heap[i]?=some o→i<A.heap.size:=fun h=>(Array.getElem?_eq_some_iff.1 h).1
  refine ⟨hgrow k D A B D' h.1 hg hD,(hg.same _ (lt h.2.1)).trans h.2.1,(hg.same _ (lt h.2.2.1)).trans h.2.2.1,fun b hb => ?_⟩
  rcases hD b hb with hb | hb
  ·exact h.2.2.2 b hb
  ·exact Nat.lt_of_lt_of_le (lt h.2.1) hb.1
 ·rintro k row D A hrow ⟨hj,hl,hk,hD⟩
  have hy:=run_yield (P:=Pg) (args:=(row.map P.lv).toArray) hl (by rw [hrec];simpa using hlen row (List.mem_of_getElem? hrow))
  rw [hrec] at hy
  have hlt:w.heap.size+1<A.heap.size:=(Array.getElem?_eq_some_iff.1 hl).1
  have hnD:w.heap.size+1∉D:=fun hm=>Nat.lt_irrefl _ (hD _ hm)
  have ahU :∀b∈D,b≠w.heap.size+1:=fun b hb e=>hnD (e▸hb)
  have hj2:J k D (A.putObj (w.heap.size+1) (.loop { rec .ready none with state:=.busy })):=hturn _ _ _ _ _ _ (by omega) hnD hj hl rfl
  obtain ⟨a₁,hx,hbody⟩:=afx k row D _ hrow hj2 (w.heap.size+1)
  refine ⟨fn,_,x,y,hy,roundIn_of_wpIn hfn (hx _ _ ⟨_,run_beginRound hl (by rw [hrec]),wpIn_mono hbody ?_⟩)⟩
  rintro e a3 B ⟨rfl,hj3,hkD,hkeep⟩
  have hl2:(A.putObj (w.heap.size+1) (.loop { rec .ready none with state:=.busy })).heap[w.heap.size+1]?=some (.loop { rec .ready none with state:=.busy }):=World.putObj_heap_same hlt
  have hk2:(A.putObj (w.heap.size+1) (.loop { rec .ready none with state:=.busy })).heap[w.heap.size]?=some (.deferred (some [])):=(World.putObj_heap_other (by omega)).trans hk
  have hl3:=hkeep _ _ hl2 rfl (by omega)
  have hk3:=hkeep _ _ hk2 rfl (by omega)
  have hr:=run_endRound (P:=Pg) none hl3
  refine ⟨_,_,hr,rfl,⟨hturn _ _ _ _ _ _ (by omega) hnD hj3 hl3 rfl,?_,(World.putObj_heap_other (by omega)).trans hk3,hD⟩,fun b hb => ?_⟩
  ·rw [World.putObj_heap_same (Array.getElem?_eq_some_iff.1 hl3).1,hrec];rfl
  ·rw [World.putObj_heap_other (ahU b hb),hkD b hb,World.putObj_heap_other (ahU b hb)]
 ·rintro e B ⟨⟨v,rfl⟩,D,hj,hl,hk,hD⟩
  have hnD:w.heap.size+1∉D:=fun hm=>Nat.lt_irrefl _ (hD _ hm)
  refine ⟨none,_,by have:=run_endLoop (P:=Pg) hl (by rw [hrec];simp);rw [hrec] at this;exact this,hdone _ _ D (Nat.le_refl _) (hturn _ _ _ _ _ _ (by omega) hnD hj hl rfl) ((World.putObj_heap_other (by omega)).trans hk)⟩
end
end Go.Fw

namespace Go.Fw
set_option linter.unusedSectionVars false
open Go.RowKit
variable [dw]
set_option linter.unusedVariables false
set_option linter.unusedSimpArgs false
structure uf where
 n:St→Prop
 x:Nat→St→Prop
 r:St→Prop
def keeps (aN:List Nat) (j:Shape) (m:Ren):Bool:=aN.all fun g=>j.nms.contains g&&(match m.lookup g with
 |some (some g')=>Nat.beq g' g
 |_=>false)
inductive Back (aN:List Nat) (j:Shape) (st:St) (G:List P→Prop):Prop where
 |mk (hs gs:List Nat) (m:Ren) (vs:List P) (hgs:abO (Fw.shuts hs st).o gs=true) (hm:keeps aN j m=true) (h:coerce j m (dF gs (Fw.shuts hs st))=some vs) (hG:G vs)
inductive YJ (aN:List Nat) (body:St→uf→Prop) (st:St) (K:uf):Prop where
 |mk (j:Shape) (I:List P→Prop) (μ:List P→Nat) (h0:Back aN j st I) (round :∀us,I us→body (Fw.mk j us) { n:=fun st'=>Back aN j st' fun vs=>I vs∧μ vs<μ us,x:=K.x,r:=K.r })
inductive Wk (aN:List Nat) (K:St→Prop) (st:St):Prop where
 |now (h:K st)
 |back (j:Shape) (h:Back aN j st fun vs=>K (Fw.mk j vs))
def GK:Op→Option Tmp
 |.assign (.tmp t)=>some t
 |.move (.tmp t)=>some t
 |_=>none
def uN (N:Nat):Code→St→Option St
 |.skip,st=>some st
 |.region _ ops false,st=>match ops.toList with
  | [o]=>match o.guard,o.dst,GK o.op with
   |none,some d,some t=>if d<N then some (st.put (some d) (st.s t)) else none
   |_,_,_=>none
  |_=>none
 |.seq x y,st=>match uN N x st with
  |some st'=>uN N y st'
  |none=>none
 |_,_=>none
def rD:Code→Act→Act
 |.region _ ops _,a=>match ops.toList with
  | [o]=>match o.dst,GK o.op with
   |some d,some t=>a.put (some d) (a.tmps.getD t undef)
   |_,_=>a
  |_=>a
 |.seq x y,a=>rD y (rD x a)
 |_,a=>a
def wz:List Tmp→List P→St→St
 |p::ps,x::xs,st=>wz ps xs (st.put (some p) (.v (.one (.p false false x))))
 |_,_,st=>st
def abQ:Op→Bool
 |.defer _=>true
 |_=>false
def calm:Code→Bool
 |.skip=>true
 |.region _ ops _=>ops.toList.all fun o=>!abQ o.op
 |.seq x y=>calm x&&calm y
 |.cond _ x y=>calm x&&calm y
 |.block _ c=>calm c
 |.loop c=>calm c
 |.exit _=>true
 |.ret=>true
 |.label _=>true
 |_=>false
def GL (st:St):St:={ s:=fun _=>.no,o:=st.o,used:=st.used }
def YK (N:Nat) (body:List Nat→St→uf→Prop) (ps:List Tmp) (x:Code) (row:List P) (st:St) (K:St→Prop):Prop:=
 ∃(sg:xH) (st1:St) (c:Jf) (outs:List P) (d:Nat),sg.ok=true∧((sg.aN.all fun g=>sg.pin.nms.contains g)&&sg.Ym)=true∧sg.bM=0∧uN N x (wz ps row st)=some st1∧
  fF sg st.o ((List.range N).map st1.s)=some c∧c.fine sg=true∧
  body sg.aN (Fw.mk sg.pin c.ins) { n:=fun st2=>Back sg.aN sg.aG (GL st2) fun vs=>vs=outs,x:=fun _ _=>False,r:=fun _=>False }∧
  (∀g∈(fZ sg d st.o c outs).new,st.used g=false)∧K (st.upd (fZ sg d st.o c outs).upd (fZ sg d st.o c outs).new)
inductive afy (aN:List Nat) (rows:List (List P)) (round:List P→St→(St→Prop)→Prop) (st:St) (K:St→Prop):Prop where
 |mk (j:Shape) (I:Nat→List P→Prop) (h0:Back aN j st (I 0)) (hr :∀k row us,rows[k]?=some row→I k us→round row (Fw.mk j us) fun st'=>Back aN j st' (I (k+1))) (hd :∀us,I rows.length us→K (Fw.mk j us))
def exec (T:Tab) (tt:TT) (N:Nat) (aN:List Nat):Code→St→uf→Prop
 |.skip,st,K=>K.n st
 |.region _ ops draw,st,K=>oh T tt N ops draw st (Wk aN K.n)
 |.seq x y,st,K=>exec T tt N aN x st { n:=fun st'=>exec T tt N aN y st' K,x:=K.x,r:=K.r }
 |.cond c x y,st,K=>match st.bZ c with
  |.v (.one (.p _ _ (.bool b)))=>bif b then exec T tt N aN x st { n:=Wk aN K.n,x:=K.x,r:=K.r } else exec T tt N aN y st { n:=Wk aN K.n,x:=K.x,r:=K.r }
  |_=>False
 |.block id c,st,K=>exec T tt N aN c st { n:=Wk aN K.n,x:=fun id' st'=>bif Nat.beq id' id then Wk aN K.n st' else K.x id' st',r:=K.r }
 |.loop c,st,K=>YJ aN (exec T tt N aN c) st K
 |.exit id,st,K=>K.x id st
 |.ret,st,K=>K.r st
 |.label _,st,K=>K.n st
 |.rangeFunc g ps x y,st,K=>calm y=true∧match st.bZ g with
  |.v (.one (.p _ _ (.seq rows)))=>(rows.all fun r=>Nat.beq r.length ps.size&&r.all P.lit)=true∧(ps.toList.all fun p=>Nat.blt p N)=true∧
    afy aN rows (YK N (fun ak1 st' K'=>exec T tt N ak1 y st' K') ps.toList x) st (Wk aN K.n)
  |_=>False
 |_,_,_=>False
structure Fit (Pg:Program):Prop where
 mixed:Pg.follows .mixedOrders=true
 sq :∀w S l v,dw.sq w S l v→GI Pg w S l v
section
variable {E:Env} {N:Nat} {aN:List Nat} {nU:Nat→Gh} {Pg:Program} {T:Tab} {tt:TT}
structure Knt (E:Env) (N:Nat) (aN:List Nat) (nU:Nat→Gh) (K:uf) (Q:Exit→Act→World→Prop):Prop where
 n :∀st a w,K.n st→Good E N aN nU st a w→Q .normal a w
 x :∀id st a w,K.x id st→Good E N aN nU st a w→Q (.exit id) a w
 r :∀st a w,K.r st→Good E N aN nU st a w→Q .ret a w
theorem Back.good {j:Shape} {st:St} {G:List P→Prop} (h:Back aN j st G) {a:Act} {w:World} (hg:Good E N aN nU st a w) :∃vs,G vs∧Good E N aN nU (Fw.mk j vs) a w:=by
 obtain ⟨hs,gs,m,vs,hgs,hm,h,hG⟩:=h
 obtain ⟨⟨gh,hR,DF⟩,hsz,hdf⟩:=hg
 obtain ⟨aT,hR,e1,_,e3⟩:=hR.norm hs gs hgs
 have hr:=qV h
 refine ⟨vs,hG,⟨iH aT (Ac j m),hR.Q_ hr,fun g hg => ?_⟩,hsz,hdf⟩
 have:=(List.all_eq_true.1 hm) g hg
 simp only [Bool.and_eq_true] at this
 obtain ⟨h1,h2⟩:=this
 refine ⟨h1,?_⟩
 have hF:Ac j m g=some g:=by
  unfold Ac
  rw [if_pos h1]
  split at h2
  ·rename_i g' hl
   rw [hl,Nat.eq_of_beq_eq_true h2];rfl
  ·cases h2
 have ho:=hr.objs g g hF
 rcases (DF g hg).2 with e | e
 ·have e:=e3 g e
  rw [e] at ho
  generalize (Fw.mk j vs).o g=z at ho
  cases ho;exact .inl rfl
 ·exact .inr (by simp only [iH,hF];exact ⟨(e1 g).1.trans e.1,(e1 g).2.trans e.2⟩)
theorem Wk.good {K:St→Prop} {st:St} (h:Wk aN K st) {a:Act} {w:World} (hg:Good E N aN nU st a w) :∃st',K st'∧Good E N aN nU st' a w:=by
 cases h with
 |now h=>exact ⟨st,h,hg⟩
 |back j h=>
  obtain ⟨vs,h1,h2⟩:=h.good hg
  exact ⟨_,h1,h2⟩
theorem Knt.wk {K:uf} {Q:Exit→Act→World→Prop} (h:Knt E N aN nU K Q):Knt E N aN nU { n:=Wk aN K.n,x:=K.x,r:=K.r } Q:=
 ⟨fun st a w hk hg=>let ⟨st',h1,h2⟩:=hk.good hg;h.n st' a w h1 h2,h.x,h.r⟩
theorem GN {ro:Option Nat} {n:Nat} {Q:Exit→Act→World→Prop} {st:St} {a:Act} {w:World} {ops:Array Oper} (hT :∀f sp,T f=some sp→Sound Pg f sp) (htt:fM Pg tt) (hm:Pg.follows .mixedOrders=true) {id:Nat} {draw:Bool} {K:St→Prop} (hcm:calm (.region id ops draw)=true) (h:oh T tt N ops draw st K) (hg:Good E N aN nU st a w)
  (hK :∀st' a' w',K st'→Good E N aN nU st' a' w'→Q .normal a' w'):(Code.region id ops draw).wpIn (FR ro) n Pg Q a w:=by
 have hnd :∀o∈ops.toList,∀c,o.op≠.defer c:=fun o ho c e=>by
  have:=List.all_eq_true.1 hcm o ho
  rw [e] at this;cases this
 have hlo:¬ LetsOut (fun e a w=>e=.normal∧Q .normal a w):=fun ⟨_,_,e,_⟩=>by cases e
 refine wpIn_mono (Q:=fun e a w=>e=.normal∧Q .normal a w) ?_ fun e a w h=>by obtain ⟨rfl,h⟩:=h;exact h
 rcases Gz (Q:=fun e a w=>e=.normal∧Q .normal a w) hT htt h hg fun st' a' w' q hg'=>⟨rfl,hK st' a' w' q hg'⟩ with ⟨e,h2⟩ | ⟨e,h2⟩
 ·rw [e];exact wpIn_region (aeE hnd hlo _ _ _ h2)
 ·rw [e];exact wpIn_region_any hm (aeF hnd hlo _ _ _ _ h2)
theorem L9 (hT :∀f sp,T f=some sp→Sound Pg f sp) (htt:fM Pg tt) (hm:Pg.follows .mixedOrders=true) (ro:Option Nat) (n:Nat) :∀(c:Code) {st:St} {K:uf} {Q:Exit→Act→World→Prop} {a:Act} {w:World},
  calm c=true→exec T tt N aN c st K→Good E N aN nU st a w→Knt E N aN nU K Q→c.wpIn (FR ro) n Pg Q a w:=by
 intro c
 induction c with
 |skip=>intro st K Q a w hcm h hg hK;exact wpIn_skip (hK.n _ _ _ h hg)
 |region id ops draw=>intro st K Q a w hcm h hg hK;exact GN hT htt hm hcm h hg fun st' a' w' q hg'=>hK.wk.n _ _ _ q hg'
 |seq x y EX ihy=>
  intro st K Q a w hcm h hg hK
  simp only [calm,Bool.and_eq_true] at hcm
  refine wpIn_seq (EX hcm.1 h hg ⟨fun st' a' w' q hg'=>ihy hcm.2 q hg' hK,fun id st' a' w' q hg'=>hK.x _ _ _ _ q hg',fun st' a' w' q hg'=>hK.r _ _ _ q hg'⟩)
 |cond c x y EX ihy=>
  intro st K Q a w hcm h hg hK
  simp only [calm,Bool.and_eq_true] at hcm
  simp only [exec] at h
  split at h
  ·rename_i a1 i1 b hc
   obtain ⟨gh,hR,_⟩:=hg.ex
   have hv:=lW hR c
   rw [hc] at hv
   have hv:=hv.dL.kL
   refine wpIn_cond_split hv (fun hb => ?_) (fun hb => ?_)
   ·subst hb;exact EX hcm.1 h hg hK.wk
   ·subst hb;exact ihy hcm.2 h hg hK.wk
  ·cases h
 |block id c ih=>
  intro st K Q a w hcm h hg hK
  refine wpIn_block (ih hcm h hg ⟨fun st' a' w' q hg'=>hK.wk.n _ _ _ q hg',fun id' st' a' w' q hg' => ?_,fun st' a' w' q hg'=>hK.r _ _ _ q hg'⟩)
  simp only [Exit.inBlock]
  by_cases e:id'=id
  ·subst e
   rw [if_pos rfl]
   have:Nat.beq id' id'=true:=by simp
   simp only [this] at q
   exact hK.wk.n _ _ _ q hg'
  ·rw [if_neg e]
   have:Nat.beq id' id=false:=by cases hb:Nat.beq id' id with | false=>rfl | true=>exact absurd (Nat.eq_of_beq_eq_true hb) e
   simp only [this] at q
   exact hK.x _ _ _ _ q hg'
 |loop c ih=>
  intro st K Q a w hcm h hg hK
  obtain ⟨j,I,μ,h0,round⟩:=(show YJ aN (exec T tt N aN c) st K from h)
  obtain ⟨us,hI,hg0⟩:=h0.good hg
  refine wpIn_loop_rounds (μ us+1) ?_
  have key :∀k us,I us→μ us<k→∀a w,Good E N aN nU (Fw.mk j us) a w→Code.roundsIn (FR ro) n Pg c Q k a w:=by
   intro k
   induction k with
   |zero=>intro us _ h;omega
   |succ k ihn=>
    intro us hI hlt a w hg
    refine ih hcm (round us hI) hg ⟨fun st' a' w' q hg' => ?_,fun id st' a' w' q hg'=>hK.x _ _ _ _ q hg',fun st' a' w' q hg'=>hK.r _ _ _ q hg'⟩
    obtain ⟨vs,⟨h1,h2⟩,h3⟩:=Back.good q hg'
    exact ihn vs h1 (by omega) _ _ h3
  exact key _ us hI (by omega) a w hg0
 |exit id=>intro st K Q a w hcm h hg hK;exact wpIn_exit (hK.x _ _ _ _ h hg)
 |ret=>intro st K Q a w hcm h hg hK;exact wpIn_ret (hK.r _ _ _ h hg)
 |label l=>intro st K Q a w hcm h hg hK;exact wpIn_label (hK.n _ _ _ h hg)
 |_=>intro st K Q a w hcm;cases hcm
theorem OT {sp:xH} {st:St} {outs:List P} {jX:Nat→Gh} {rs:Nat→Value} {w':World} (hfin:Rel E st jX rs w') (GR :∀g∈sp.aN,st.used g=true∧(st.o g=.none∨((jX g).ad=(nU g).ad∧(jX g).cap=(nU g).cap)))
  (hBk:Back sp.aN sp.aG st fun vs=>vs=outs) :∃aT,Rel E (Fw.mk sp.aG outs) aT rs w'∧∀g∈sp.aN,(aT g).ad=(nU g).ad∧(aT g).cap=(nU g).cap:=by
 obtain ⟨hs,gs,m,vs,hgs,hkm,hco,rfl⟩:=hBk
 obtain ⟨vJ,hfin,e1,_,e3⟩:=hfin.norm hs gs hgs
 have hr:=qV hco
 refine ⟨iH vJ (Ac sp.aG m),hfin.Q_ hr,fun g hg => ?_⟩
 have:=(List.all_eq_true.1 hkm) g hg
 simp only [Bool.and_eq_true] at this
 obtain ⟨h1,h2⟩:=this
 have hF:Ac sp.aG m g=some g:=by
  unfold Ac
  rw [if_pos h1]
  split at h2
  ·rename_i g' hl
   rw [hl,Nat.eq_of_beq_eq_true h2];rfl
  ·cases h2
 have ho:=hr.objs g g hF
 have hbox:(Fw.mk sp.aG vs).o g≠.none:=by
  have hm:g∈sp.aG.objs.map (·.1):=by simpa [Shape.nms] using h1
  obtain ⟨x,hxx⟩:=tY (vs:=vs) (n:=(bF vs 0 sp.aG.slots).2) hm
  have e:(Fw.mk sp.aG vs).o g=x:=by
   show (match (eU vs (bF vs 0 sp.aG.slots).2 sp.aG.objs).1.lookup g with | some x=>x | none=>O.none)=x
   rw [hxx]
  obtain ⟨k,n',_,h2⟩:=jQ hxx
  rw [e,h2]
  cases k<;>simp [rO]
 rcases (GR g hg).2 with e | e
 ·exfalso
  have e:=e3 g e
  rw [e] at ho
  generalize (Fw.mk sp.aG vs).o g=z at ho hbox
  cases ho;exact hbox rfl
 ·simp only [iH,hF];exact ⟨(e1 g).1.trans e.1,(e1 g).2.trans e.2⟩
structure Head (E:Env) (aN:List Nat) (nU:Nat→Gh) (a:Act) (S D:List Nat) (w0:World) (st:St) (A:World):Prop where
 ex :∃gh,Rel E st gh (fun t=>a.tmps.getD t undef) A∧(∀g∈aN,st.used g=true∧(st.o g=.none∨((gh g).ad=(nU g).ad∧(gh g).cap=(nU g).cap)))∧∀b∈S++D,∃p q,E.ok st gh A p q b
 marks:Marks E a A
 keep :∀b∈S,A.heap[b]?=w0.heap[b]?
theorem Head.back {a:Act} {S D:List Nat} {w0 A:World} {j:Shape} {st:St} {G:List P→Prop} (h:Head E aN nU a S D w0 st A) (hb:Back aN j st G) :∃vs,G vs∧Head E aN nU a S D w0 (Fw.mk j vs) A:=by
 obtain ⟨hs,gs,m,vs,hgs,hm,hc,hG⟩:=hb
 obtain ⟨⟨gh,hR,DF,hok⟩,hmk,hkp⟩:=h
 obtain ⟨aT,hR,e1,e2,e3⟩:=hR.norm hs gs hgs
 have hr:=qV hc
 refine ⟨vs,hG,⟨iH aT (Ac j m),hR.Q_ hr,fun g hg => ?_,fun b hb => ?_⟩,hmk,hkp⟩
 ·have:=(List.all_eq_true.1 hm) g hg
  simp only [Bool.and_eq_true] at this
  obtain ⟨h1,h2⟩:=this
  refine ⟨h1,?_⟩
  have hF:Ac j m g=some g:=by
   unfold Ac
   rw [if_pos h1]
   split at h2
   ·rename_i g' hl
    rw [hl,Nat.eq_of_beq_eq_true h2];rfl
   ·cases h2
  have ho:=hr.objs g g hF
  rcases (DF g hg).2 with e | e
  ·have e:=e3 g e
   rw [e] at ho
   generalize (Fw.mk j vs).o g=z at ho
   cases ho;exact .inl rfl
  ·exact .inr (by simp only [iH,hF];exact ⟨(e1 g).1.trans e.1,(e1 g).2.trans e.2⟩)
 ·obtain ⟨p,q,h⟩:=hok b hb
  exact ⟨p,q,hr.ok _ _ _ _ b ⟨id,id⟩ (e2 _ _ _ h)⟩
def jG:List Tmp→List P→Array Value→Array Value
 |p::ps,x::xs,t=>jG ps xs (t.setIfInBounds p x.lv)
 |_,_,t=>t
theorem GU :∀(ps:List Tmp) (row:List P) (t:Array Value),row.length=ps.length→(ps.zip (row.map P.lv)).foldl (fun t (p:Tmp×Value)=>t.setIfInBounds p.1 p.2) t=jG ps row t
 | [],[],t,_=>rfl
 |p::ps,x::row,t,h=>by
  simp only [List.map_cons,List.zip_cons_cons,List.foldl_cons,jG]
  exact GU ps row _ (by simpa using h)
 | [],x::row,t,h=>by simp at h
 |p::ps,[],t,h=>by simp at h
theorem Ak :∀(ps:List Tmp) (row:List P) (t:Array Value),(jG ps row t).size=t.size
 |p::ps,x::row,t=>by simp only [jG,Ak];simp
 | [],row,t=>by simp only [jG]
 |p::ps,[],t=>by simp only [jG]
theorem Uw {gh:Nat→Gh} {w:World} :∀(ps:List Tmp) (row:List P) {st:St} {t:Array Value},(row.all P.lit)=true→(∀p∈ps,p<t.size)→Rel E st gh (fun k=>t.getD k undef) w→
  Rel E (wz ps row st) gh (fun k=>(jG ps row t).getD k undef) w∧(wz ps row st).o=st.o∧(wz ps row st).used=st.used
 |p::ps,x::row,st,t,hl,hp,h=>by
  simp only [List.all_cons,Bool.and_eq_true] at hl
  have h1:=h.put (some p) (x:=.v (.one (.p false false x))) (v:=x.lv) (.v _ _ (.one _ _ (.p _ _ _ _ (P.abP hl.1)))) (by simp [S.names,V.names,W.names])
  have e:vF (fun k=>t.getD k undef) (some p) x.lv=fun k=>(t.setIfInBounds p x.lv).getD k undef:=by
   funext k
   have hlt:=hp p (by simp)
   simp only [vF,Array.getD_eq_getD_getElem?]
   by_cases e:k=p
   ·subst e;simp [hlt]
   ·rw [if_neg e,Array.getElem?_setIfInBounds_ne (Ne.symm e)]
  rw [e] at h1
  obtain ⟨q1,q2,q3⟩:=Uw ps row hl.2 (fun p hp'=>by simpa using hp p (by simp [hp'])) h1
  exact ⟨q1,q2,q3⟩
 | [],row,st,t,hl,hp,h=>by simp only [wz,jG];exact ⟨h,trivial,trivial⟩
 |p::ps,[],st,t,hl,hp,h=>by simp only [wz,jG];exact ⟨h,trivial,trivial⟩
theorem YL {op:Op} {t:Tmp} (h:GK op=some t):op=.assign (.tmp t)∨op=.move (.tmp t):=by
 unfold GK at h
 split at h
 ·simp only [Option.some.injEq] at h;subst h;exact .inl rfl
 ·simp only [Option.some.injEq] at h;subst h;exact .inr rfl
 ·cases h
theorem WL {gh:Nat→Gh} {w:World} :∀(x:Code) {st st':St} {a:Act},uN N x st=some st'→a.tmps.size=N→Rel E st gh (fun k=>a.tmps.getD k undef) w→
  Rel E st' gh (fun k=>(rD x a).tmps.getD k undef) w∧(rD x a).tmps.size=N∧(rD x a).defers=a.defers∧st'.o=st.o∧st'.used=st.used∧
  ∀(ro:Option Nat) (n:Nat) (K:Act→World→Prop) (W:World),K (rD x a) W→x.wpIn (FR ro) n Pg (Exit.then K (fun _ _ _=>False)) a W:=by
 intro x
 induction x with
 |skip=>
  intro st st' a h hsz hR
  simp only [uN,Option.some.injEq] at h;subst h
  exact ⟨hR,hsz,rfl,rfl,rfl,fun ro n K W hK=>wpIn_skip hK⟩
 |region id ops draw=>
  intro st st' a h hsz hR
  cases draw with
  |true=>simp [uN] at h
  |false=>
   simp only [uN] at h
   split at h
   ·rename_i o hops
    split at h
    ·rename_i d t hg hd ht
     split at h
     ·rename_i hlt
      simp only [Option.some.injEq] at h;subst h
      have hact:rD (.region id ops false) a=a.put (some d) (a.tmps.getD t undef):=by simp only [rD,hops,hd,ht]
      rw [hact]
      have hv:(fun k=>(a.put (some d) (a.tmps.getD t undef)).tmps.getD k undef)=vF (fun k=>a.tmps.getD k undef) (some d) (a.tmps.getD t undef):=vV _ _ fun d' e=>by cases e;rw [hsz];exact hlt
      refine ⟨by rw [hv];exact hR.put _ (hR.slots t) (hR.us t),by rw [vW];exact hsz,put_defers _ _,rfl,rfl,fun ro n K W hK => ?_⟩
      have hsize:ops.size=1:=by rw [←Array.length_toList,hops];rfl
      have hi:ops[0]?=some o:=by rw [←Array.getElem?_toList,hops];rfl
      refine wpIn_region ?_
      rw [hsize]
      show wpOpsIn _ _ _ _ _ [0] _ _
      simp only [wpOpsIn,hi]
      have hw:Region.wanted o (yielded ops a.tmps)=true:=by simp [Region.wanted,hg]
      rw [if_pos hw]
      refine ⟨fun _ _=>trivial,?_⟩
      have hnd :∀c,o.op≠.defer c:=fun c e=>by rw [e] at ht;cases ht
      rw [Oper.semAt_eq _ _ _ hnd]
      have hx:(execOp a.eval o).run Pg W=.ok (.value (a.tmps.getD t undef)) W:=by
       rcases YL ht with e | e
       ·simp only [execOp,e];rfl
       ·simp only [execOp,e];rfl
      rw [hx,Oper.uponIn_value,hd]
      exact hK
     ·cases h
    ·cases h
   ·cases h
 |seq x y EX ihy=>
  intro st st' a h hsz hR
  simp only [uN] at h
  split at h
  ·rename_i st1 h1
   obtain ⟨a1,a2,a3,a4,a5,a6⟩:=EX h1 hsz hR
   obtain ⟨b1,b2,b3,b4,b5,b6⟩:=ihy h a2 a1
   refine ⟨b1,b2,b3.trans a3,b4.trans a4,b5.trans a5,fun ro n K W hK=>wpIn_seq ?_⟩
   refine wpIn_mono (a6 ro n (fun a w=>y.wpIn (FR ro) n Pg (Exit.then K fun _ _ _=>False) a w) W (b6 ro n K W hK)) fun e a w h => ?_
   cases e<;>exact h
  ·cases h
 |_=>intro st st' a h;simp [uN] at h
theorem OU (hT :∀f sp,T f=some sp→Sound Pg f sp) (htt:fM Pg tt) (hm:Fit Pg) {g:Operand} {ps:Array Tmp} {x y:Code} {st:St} {K:uf} {Q:Exit→Act→World→Prop} {a:Act} {w:World}
  (h:exec T tt N aN (.rangeFunc g ps x y) st K) (hg:Good E N aN nU st a w) (hK:Knt E N aN nU K Q):(Code.rangeFunc g ps x y).wp Pg Q a w:=by
 obtain ⟨hcm,h⟩:calm y=true∧_:=h
 split at h
 rotate_left
 ·exact h.elim
 rename_i p q rows hop
 obtain ⟨hrows,hps,j,I,h0,hr,hd⟩:=h
 obtain ⟨⟨gh,hR,DF⟩,hsz,hmk⟩:=hg
 have hv:=lW hR g
 rw [hop] at hv
 have hv:=hv.dL
 obtain ⟨S,hS,hq⟩ :∃S,(∀b∈S,E.ok st gh w p q b∧∃c e f,w.heap[b]?=some (.cells c e f))∧dw.sq w S rows (a.eval g):=by
  generalize a.eval g=v at hv
  cases hv with
  |seq l v S _ hS hq=>exact ⟨S,hS,hq⟩
 have hB0:E.B0≤w.heap.size:=hR.size
 have hrow :∀row∈rows,row.length=ps.toList.length∧row.all P.lit=true:=fun row hm'=>by
  have:=List.all_eq_true.1 hrows row hm'
  simp only [Bool.and_eq_true] at this
  exact ⟨by simpa using Nat.eq_of_beq_eq_true this.1,this.2⟩
 have hpN :∀p∈ps.toList,p<N:=fun p hp=>by simpa using List.all_eq_true.1 hps p hp
 have ahV :∀b∈S,b<w.heap.size:=fun b hb=>(hS b hb).1.2.1
 obtain ⟨us0,hI0,hH0⟩:=Head.back (S:=S) (D:=[]) (w0:=w) ⟨⟨gh,hR,DF,fun b hb=>⟨p,q,(hS b (by simpa using hb)).1⟩⟩,hmk,fun _ _=>rfl⟩ h0
 refine YI (hm.sq _ _ _ _ hq) (fun row hm'=>by simpa using (hrow row hm').1) (fun k D A=>w.heap.size≤A.heap.size∧∃us,I k us∧Head E aN nU a S D w (Fw.mk j us) A) (fun k D A hJ=>hJ.2.choose_spec.2.keep) ?_ ?_ ⟨Nat.le_refl _,us0,hI0,hH0⟩ ?_ ?_
 ·rintro k D A B D' ⟨hz,us,hI,⟨jX,hR1,GR,hok1⟩,RG,WM⟩ hg hDD
  refine ⟨Nat.le_trans hz hg.size,us,hI,⟨jX,hR1.grows hg,GR,fun b hb => ?_⟩,?_,fun b hb=>(hg.same b (Nat.lt_of_lt_of_le (ahV b hb) hz)).trans (WM b hb)⟩
  ·have old:b∈S++D→∃p q,E.ok (Fw.mk j us) jX B p q b:=fun hb=>by
    obtain ⟨p,q,h⟩:=hok1 b hb
    exact ⟨p,q,(hg.lets.ok p q b h).1⟩
   rcases List.mem_append.1 hb with hb | hb
   ·exact old (List.mem_append_left _ hb)
   ·rcases hDD b hb with hb | hb
    ·exact old (List.mem_append_right _ hb)
    ·refine ⟨false,false,.inr (.inr (.inl (by omega))),hb.2,fun g ho had => ?_⟩
     have:=(hR1.wr g b ho had).2
     omega
  ·obtain ⟨Ds,d1,d2,d3⟩:=RG
   exact ⟨Ds,d1,d2,fun D hD=>⟨(d3 D hD).1,(hg.same D (Array.getElem?_eq_some_iff.1 (d3 D hD).2).1).trans (d3 D hD).2⟩⟩
 ·rintro k D A b o o' hb hbD ⟨hz,us,hI,⟨jX,hR1,GR,hok1⟩,RG,WM⟩ ho hqo
  have hzz:(A.putObj b o').heap.size=A.heap.size:=World.putObj_size
  refine ⟨by rw [hzz];exact hz,us,hI,⟨jX,hR1.turn ho hqo (by omega) o',GR,fun b' hb' => ?_⟩,?_,fun b' hb'=>(World.putObj_heap_other (by have:=ahV b' hb';omega)).trans (WM b' hb')⟩
  ·obtain ⟨p,q,h⟩:=hok1 b' hb'
   exact ⟨p,q,by rw [←tZ hzz];exact h⟩
  ·obtain ⟨Ds,d1,d2,d3⟩:=RG
   obtain ⟨Ds0,e1,e2,e3⟩:=hmk
   have:Ds=Ds0:=by
    have:=d1.symm.trans e1
    have hinj :∀(l l':List Nat),l.map mark=l'.map mark→l=l':=by
     intro l
     induction l with
     |nil=>intro l' h;cases l' with | nil=>rfl | cons=>simp at h
     |cons D l ih=>intro l' h;cases l' with | nil=>simp at h | cons D' l'=>simp [mark] at h;rw [h.1,ih l' (by simpa [mark] using h.2)]
    exact hinj _ _ this
   subst this
   exact ⟨Ds,d1,d2,fun D hD=>⟨(d3 D hD).1,(World.putObj_heap_other (by have:=(Array.getElem?_eq_some_iff.1 (e3 D hD).2).1;omega)).trans (d3 D hD).2⟩⟩
 ·rintro k row D A hrw ⟨hz,us,hI,⟨jX,hR1,GR,hok1⟩,RG,WM⟩ l
  obtain ⟨hlen,hlit⟩:=hrow row (List.mem_of_getElem? hrw)
  obtain ⟨sg,st1,c,outs,d,r1,r2,r3,r4,r5,r6,r7,r8,r9⟩:=hr k row us hrw hI
  obtain ⟨r2,rb⟩:=Bool.and_eq_true_iff.1 r2
  obtain ⟨u1,u2,u3⟩:=Uw (t:=a.tmps) ps.toList row hlit (fun p hp=>by rw [hsz];exact hpN p hp) hR1
  obtain ⟨v1,v2,v3,v4,v5,v6⟩:=WL (Pg:=Pg) x (a:={ tmps:=jG ps.toList row a.tmps,defers:=[] }) r4 (by rw [Ak];exact hsz) u1
  have etm:(ps.zip (row.map P.lv).toArray).foldl (fun t (p,v)=>t.setIfInBounds p v) a.tmps=jG ps.toList row a.tmps:=by
   rw [←GU ps.toList row a.tmps hlen,←Array.foldl_toList,Array.toList_zip]
  refine ⟨rD x { tmps:=jG ps.toList row a.tmps,defers:=[] },fun K W hKW => ?_,?_⟩
  ·rw [etm];exact v6 _ _ K W hKW
  generalize hA1:rD x { tmps:=jG ps.toList row a.tmps,defers:=[] }=a1 at *
  obtain ⟨E',vJ,q1,q2,q3,q4,q5⟩:=JH (sp:=⟨sg,fun _ _=>True⟩) r1 hR1 (args:=(List.range N).map st1.s) (vals:=a1.tmps.toList) (fun t=>by
   rw [List.getD_eq_getElem?_getD,List.getElem?_map]
   by_cases ht:t<N
   ·rw [List.getElem?_range ht]
    have:=v1.slots t
    rw [List.getD_eq_getElem?_getD,Array.getElem?_toList,←Array.getD_eq_getD_getElem?]
    exact bI.congr (v4.trans u2).symm this
   ·rw [List.getElem?_eq_none (by simpa using ht)];exact .no _) r5 r6
  have hval:(fun k=>a1.tmps.toList.getD k undef)=fun t=>a1.tmps.getD t undef:=by
   funext t;rw [List.getD_eq_getElem?_getD,Array.getElem?_toList,←Array.getD_eq_getD_getElem?]
  rw [hval] at q3
  have hgood:Good E' N sg.aN vJ (Fw.mk sg.pin c.ins) a1 A:=⟨⟨vJ,q3,fun g hg=>⟨(List.all_eq_true.1 r2) g hg,.inr ⟨rfl,rfl⟩⟩⟩,v2,Marks.nil v3⟩
  refine L9 hT htt hm.mixed (some l) 0 y (Q:=fun e _ B=>e=.normal∧(w.heap.size≤B.heap.size∧∃us,I (k+1) us∧Head E aN nU a S D w (Fw.mk j us) B)∧(∀b∈D,B.heap[b]?=A.heap[b]?)∧∀b o,A.heap[b]?=some o→quiet o=true→w.heap.size≤b→B.heap[b]?=some o) hcm r7 hgood ⟨fun st2 a2 B hk hg2 => ?_,fun id st2 a2 B hk=>hk.elim,fun st2 a2 B hk=>hk.elim⟩
  obtain ⟨⟨gh3,RH,ak2⟩,_,_⟩:=hg2
  have hend:Rel E' (GL st2) gh3 (fun k=>([]:List Value).getD k undef) B:=
   ⟨fun k=>.no _,fun g=>kD.congr (st:=st2) (st':=GL st2) rfl (RH.objs g),RH.inj,RH.wr,RH.wi,RH.ns,RH.wb,RH.frame,RH.size,RH.os,RH.tape,RH.output,fun k g hg=>by simp [GL,Fw.S.names] at hg,RH.uo,RH.ul⟩
  obtain ⟨gh4,hR4,ak3⟩:=OT (sp:=sg) hend (fun g hg=>ak2 g hg) hk
  obtain ⟨gh5,s1,s2,_,_⟩:=q5 d outs _ rfl r8 B [] gh4 r3.symm hR4 fun g hg=>⟨ak3 g hg,xH.JE rb g hg⟩
  have hfr :∀b o,A.heap[b]?=some o→quiet o=true→B.heap[b]?=some o:=fun b o ho hqo=>by
   have hlt:=(Array.getElem?_eq_some_iff.1 ho).1
   rw [RH.frame b (by rw [q1];exact hlt) (fun hw=>by obtain ⟨c,e,f,hc⟩:=q4 b hw;rw [ho] at hc;exact iw hqo _ _ _ (Option.some.inj hc)),q2]
   exact ho
  have hBz:A.heap.size≤B.heap.size:=by rw [←q1];exact RH.size
  have hpre:Head E aN nU a S D w ((Fw.mk j us).upd (fZ sg d (Fw.mk j us).o c outs).upd (fZ sg d (Fw.mk j us).o c outs).new) B:=by
   refine ⟨⟨gh5,s1,fun g hg => ?_,fun b hb => ?_⟩,?_,fun b hb => ?_⟩
   ·obtain ⟨p1,p2⟩:=GR g hg
    refine ⟨by simp [St.upd,p1],?_⟩
    rcases s2.names g p1 with q | ⟨q,qk⟩
    ·exact .inl q
    ·rcases p2 with p2 | p2
     ·rw [p2] at qk;exact .inl (O.BJ qk)
     ·exact .inr ⟨q.1.trans p2.1,q.2.trans p2.2⟩
   ·obtain ⟨p,q,h⟩:=hok1 b hb
    exact ⟨p,q,(s2.ok p q b h).1⟩
   ·obtain ⟨Ds,d1,d2,d3⟩:=RG
    exact ⟨Ds,d1,d2,fun D hD=>⟨(d3 D hD).1,hfr D _ (d3 D hD).2 rfl⟩⟩
   ·obtain ⟨p,q,h⟩:=hok1 b (List.mem_append_left _ hb)
    exact ((s2.ok p q b h).2).trans (WM b hb)
  obtain ⟨us',hI',hH'⟩:=hpre.back r9
  exact ⟨rfl,⟨Nat.le_trans hz hBz,us',hI',hH'⟩,fun b hb=>(let ⟨p,q,h⟩:=hok1 b (List.mem_append_right _ hb);(s2.ok p q b h).2),fun b o ho hqo _=>hfr b o ho hqo⟩
 ·rintro D B D' hD ⟨hz,us,hI,⟨jX,hR1,GR,hok1⟩,RG,WM⟩ hDB
  have hw:=hd us hI
  refine hK.wk.n _ _ _ hw ⟨⟨jX,hR1,GR⟩,hsz,?_⟩
  obtain ⟨Ds,d1,d2,d3⟩:=RG
  obtain ⟨Ds0,e1,e2,e3⟩:=hmk
  have hmem :∀D'∈Ds,D'<w.heap.size:=by
   intro D' hD'
   have:mark D'∈a.defers:=by rw [d1];exact List.mem_map.2 ⟨D',hD',rfl⟩
   rw [e1] at this
   obtain ⟨D2,h1,h2⟩:=List.mem_map.1 this
   simp [mark] at h2
   subst h2
   exact (Array.getElem?_eq_some_iff.1 (e3 D2 h1).2).1
  refine ⟨D::Ds,by simp [d1,mark],List.nodup_cons.2 ⟨fun hm'=>by have:=hmem D hm';omega,d2⟩,fun D' hD' => ?_⟩
  rcases List.mem_cons.1 hD' with rfl | hD'
  ·exact ⟨by omega,hDB⟩
  ·exact d3 D' hD'
theorem RI (hT :∀f sp,T f=some sp→Sound Pg f sp) (htt:fM Pg tt) (hm:Fit Pg) :∀(c:Code) {st:St} {K:uf} {Q:Exit→Act→World→Prop} {a:Act} {w:World},
  exec T tt N aN c st K→Good E N aN nU st a w→Knt E N aN nU K Q→c.wp Pg Q a w:=by
 intro c
 induction c with
 |skip=>intro st K Q a w h hg hK;exact wp_skip (hK.n _ _ _ h hg)
 |region id ops draw=>intro st K Q a w h hg hK;exact L8 hT htt hm.mixed h hg fun st' a' w' q hg'=>hK.wk.n _ _ _ q hg'
 |seq x y EX ihy=>
  intro st K Q a w h hg hK
  refine wp_seq (EX h hg ⟨fun st' a' w' q hg'=>ihy q hg' hK,fun id st' a' w' q hg'=>hK.x _ _ _ _ q hg',fun st' a' w' q hg'=>hK.r _ _ _ q hg'⟩)
 |cond c x y EX ihy=>
  intro st K Q a w h hg hK
  simp only [exec] at h
  split at h
  ·rename_i a1 i1 b hc
   obtain ⟨gh,hR,_⟩:=hg.ex
   have hv:=lW hR c
   rw [hc] at hv
   have hv:=hv.dL.kL
   refine wp_cond_split hv (fun hb => ?_) (fun hb => ?_)
   ·subst hb;exact EX h hg hK.wk
   ·subst hb;exact ihy h hg hK.wk
  ·cases h
 |block id c ih=>
  intro st K Q a w h hg hK
  refine wp_block (ih h hg ⟨fun st' a' w' q hg'=>hK.wk.n _ _ _ q hg',fun id' st' a' w' q hg' => ?_,fun st' a' w' q hg'=>hK.r _ _ _ q hg'⟩)
  simp only [Exit.inBlock]
  by_cases e:id'=id
  ·subst e
   rw [if_pos rfl]
   have:Nat.beq id' id'=true:=by simp
   simp only [this] at q
   exact hK.wk.n _ _ _ q hg'
  ·rw [if_neg e]
   have:Nat.beq id' id=false:=by cases hb:Nat.beq id' id with | false=>rfl | true=>exact absurd (Nat.eq_of_beq_eq_true hb) e
   simp only [this] at q
   exact hK.x _ _ _ _ q hg'
 |loop c ih=>
  intro st K Q a w h hg hK
  obtain ⟨j,I,μ,h0,round⟩:=(show YJ aN (exec T tt N aN c) st K from h)
  obtain ⟨us,hI,hg0⟩:=h0.good hg
  refine wp_loop_rounds (μ us+1) ?_
  have key :∀n us,I us→μ us<n→∀a w,Good E N aN nU (Fw.mk j us) a w→Code.rounds Pg c Q n a w:=by
   intro n
   induction n with
   |zero=>intro us _ h;omega
   |succ n ihn=>
    intro us hI hlt a w hg
    refine ih (round us hI) hg ⟨fun st' a' w' q hg' => ?_,fun id st' a' w' q hg'=>hK.x _ _ _ _ q hg',fun st' a' w' q hg'=>hK.r _ _ _ q hg'⟩
    obtain ⟨vs,⟨h1,h2⟩,h3⟩:=Back.good q hg'
    exact ihn vs h1 (by omega) _ _ h3
  exact key _ us hI (by omega) a w hg0
 |exit id=>intro st K Q a w h hg hK;exact wp_exit (hK.x _ _ _ _ h hg)
 |ret=>intro st K Q a w h hg hK;exact wp_ret (hK.r _ _ _ h hg)
 |label l=>intro st K Q a w h hg hK;exact wp_label (hK.n _ _ _ h hg)
 |rangeFunc g ps x y EX ihy=>intro st K Q a w h hg hK;exact OU hT htt hm h hg hK
 |_=>intro st K Q a w h;exact absurd h (by simp [exec])
def WO (tt:TT) (st:St):ResultVar→Option S
 |.tmp t=>some (st.s t)
 |.cell a t=>match tt t,st.s a with
  |some i,.v (.one (.box g off))=>match st.o g with
   |.box ws=>if off+i.size≤ws.length∧0<i.size then some (V.d_ i.agg ((ws.drop off).take i.size)) else none
   |_=>none
  |_,_=>none
def DU (tt:TT) (st:St):List ResultVar→Option (List S)
 | []=>some []
 |r::rs=>match WO tt st r,DU tt st rs with
  |some x,some xs=>some (x::xs)
  |_,_=>none
def OV (xs:List S) (st:St):St:={ s:=fun k=>xs.getD k .no,o:=st.o,used:=st.used }
def Fin (tt:TT) (sp:xH) (ts:List ResultVar) (outs:List P) (st:St):Prop:=match DU tt st ts with
 |some xs=>Back sp.aN sp.aG (OV xs st) fun vs=>vs=outs
 |none=>False
def afz (tt:TT) (sp:xH) (ts:List ResultVar) (outs:List P):uf:={ n:=Fin tt sp ts outs,x:=fun _ _=>False,r:=Fin tt sp ts outs }
def BP (tmps:Array Value) (r:ResultVar):Sem Value:=match r with
 |.tmp t=>pure (tmps.getD t undef)
 |.cell a t=>do loadVar t (←asAddr (tmps.getD a undef))
theorem RJ {fn:Func} {ts:List ResultVar} (hr:fn.results=ts.toArray) (tmps:Array Value):results fn tmps=(do
  let vs ←List.toArray <$> ts.mapM (BP tmps)
  pure (if h:vs.size=1 then vs[0] else .tuple vs)):=by
 unfold results
 rw [hr,List.mapM_toArray]
 have :∀F:ResultVar→Sem Value,(∀r,F r=BP tmps r)→ts.mapM F=ts.mapM (BP tmps):=fun F hF=>by rw [funext hF]
 rw [this _ fun r=>by cases r<;>rfl]
theorem RN (htt:fM Pg tt) {st:St} {gh:Nat→Gh} {a:Act} {w:World} (h:Rel E st gh (fun t=>a.tmps.getD t undef) w) {r:ResultVar} {x:S} (hx:WO tt st r=some x) :
  ∃v,(BP a.tmps r).run Pg w=.ok v w∧bI E st gh w x v∧∀g∈x.names,st.used g=true:=by
 cases r with
 |tmp t=>
  simp only [WO,Option.some.injEq] at hx
  subst hx
  exact ⟨_,rfl,h.slots t,h.us t⟩
 |cell ad t=>
  simp only [WO] at hx
  split at hx
  ·rename_i i g off ht hs
   have rx:=h.slots ad;rw [hs] at rx
   split at hx
   ·rename_i ws hog
    split at hx
    ·rename_i hlt
     simp only [Option.some.injEq] at hx;subst hx
     have hO:=h.objs g;rw [hog] at hO
     obtain ⟨ad',had,cs,hl,hone,hcell,hrep⟩:=x9.cells hO
     obtain ⟨aoL,KZ,hv⟩:=(by cases rx.bH with | box _ _ _ _ hb=>exact hb ws hog :∃ad',(gh g).ad=some ad'∧a.tmps.getD ad undef=.pointer (some ⟨ad'.block,ad'.off+off,none⟩))
     rw [had] at KZ;cases KZ
     have hl':((cs.drop off).take i.size).length=i.size:=by simp;omega
     obtain ⟨v,hrun,hval⟩:=ji (Pg:=Pg) (w:=w) (htt _ _ ht) ad'.block (ad'.off+off) ((cs.drop off).take i.size) hl' (fun j u hu=>by
      have hj:j<i.size:=by have:=(List.getElem?_eq_some_iff.1 hu).1;omega
      rw [List.getElem?_take,if_pos hj,List.getElem?_drop] at hu
      rw [Nat.add_assoc];exact hcell _ _ hu) (fun _=>hlt.2)
     refine ⟨v,by simp only [BP];rw [hv];simpa [asAddr] using hrun,jO (cs:=(cs.drop off).take i.size) (by simp;omega) (fun c hc=>hone c (List.mem_of_mem_drop (List.mem_of_mem_take hc)))
      (fun j y u hy hu => ?_) v hval,fun g' hg' => ?_⟩
     ·have hj:j<i.size:=by have:=(List.getElem?_eq_some_iff.1 hu).1;omega
      rw [List.getElem?_take,if_pos hj,List.getElem?_drop] at hy hu
      exact hrep _ _ _ hy hu
     ·obtain ⟨x,hx,hg'⟩:=iG hg'
      exact h.uo g g' (by rw [hog];simp only [O.names,List.mem_flatMap];exact ⟨x,List.mem_of_mem_drop (List.mem_of_mem_take hx),hg'⟩)
    ·cases hx
   ·cases hx
  ·cases hx
theorem DV (htt:fM Pg tt) {st:St} {gh:Nat→Gh} {a:Act} {w:World} (h:Rel E st gh (fun t=>a.tmps.getD t undef) w) :∀{rs:List ResultVar} {xs:List S},DU tt st rs=some xs→
  ∃vs:List Value,(rs.mapM (BP a.tmps)).run Pg w=.ok vs w∧vs.length=rs.length∧
   ∀k,bI E st gh w (xs.getD k .no) (vs.getD k undef)∧∀g∈(xs.getD k .no).names,st.used g=true
 | [],xs,hx=>by
  simp only [DU,Option.some.injEq] at hx
  subst hx
  exact ⟨[],rfl,rfl,fun k=>⟨.no _,by simp [S.names]⟩⟩
 |r::rs,xs,hx=>by
  simp only [DU] at hx
  split at hx
  ·rename_i x xs h1 h2
   simp only [Option.some.injEq] at hx
   subst hx
   obtain ⟨v,q1,q2,q3⟩:=RN htt h h1
   obtain ⟨vs,p1,p2,p3⟩:=DV htt h h2
   refine ⟨v::vs,?_,by simp [p2],fun k => ?_⟩
   ·rw [List.mapM_cons,Sem.run_bind,q1]
    show Sem.run Pg _ w=_
    rw [Sem.run_bind,p1];rfl
   ·cases k with
    |zero=>exact ⟨q2,q3⟩
    |succ k=>simpa using p3 k
  ·cases hx
theorem Jk (htt:fM Pg tt) {st:St} {gh:Nat→Gh} {a:Act} {w:World} (h:Rel E st gh (fun t=>a.tmps.getD t undef) w) {fn:Func} {ts:List ResultVar} (hr:fn.results=ts.toArray) {xs:List S} (hx:DU tt st ts=some xs) :
  ∃vs:List Value,(results fn a.tmps).run Pg w=.ok (Wh vs) w∧vs.length=ts.length∧∀k,bI E st gh w (xs.getD k .no) (vs.getD k undef)∧∀g∈(xs.getD k .no).names,st.used g=true:=by
 obtain ⟨vs,q1,q2,q3⟩:=DV htt h hx
 refine ⟨vs,?_,q2,q3⟩
 rw [RJ hr,Sem.run_bind,Sem.run_map,q1]
 match vs with
 | []=>rfl
 | [v]=>rfl
 |v::u::vs=>simp [Wh]
theorem YM {f:FuncId} {fn:Func} {c:Code} {sp:Spec} (ts:List ResultVar) (hf:Pg.funcs[f]?=some fn) (hb:fn.body=some c) (hname:(fn.name == "runtime.NumGoroutine")=false) (hres:fn.results=ts.toArray)
  (hok:sp.sig.ok=true) (DF:(sp.sig.aN.all fun g=>sp.sig.pin.nms.contains g)=true) (hlk :∀ins outs,sp.R ins outs→∀g∈sp.sig.aN,((Fw.mk sp.sig.pin ins).o g).like ((Fw.mk sp.sig.aG outs).o g)) (hn:sp.sig.nargs≤fn.ntmps) (hnr:ts.length=sp.sig.bM)
  (hT :∀f sp,T f=some sp→Sound Pg f sp) (htt:fM Pg tt) (hm:Fit Pg)
  (h :∀ins outs,sp.R ins outs→exec T tt fn.ntmps sp.sig.aN c (Fw.mk sp.sig.pin ins) (afz tt sp.sig ts outs)):Sound Pg f sp:=by
 refine ⟨hok,fun args w => ?_,fun E w vals gh ins outs hR hB hw0 Jh hlen => ?_⟩
 ·have hname':¬ fn.name = "runtime.NumGoroutine" := by simpa using hname
  simp [callFunc,hf,hname',hb]
 ·have hsz:vals.toArray.size≤fn.ntmps:=by simp;omega
  refine callsIn_wide.1 (callsIn_of_wp_marks (n:=0) hf hb trivial (wpIn_wide.2 (RI (E:=E) (N:=fn.ntmps) (aN:=sp.sig.aN) (nU:=gh) hT htt hm c (h ins outs hR) ⟨⟨gh,?_,fun g hg=>⟨?_,.inr ⟨rfl,rfl⟩⟩⟩,by simp;omega,Marks.nil rfl⟩ ?_)) rfl)
  ·have e:(fun t=>(vals.toArray++Array.replicate (fn.ntmps-vals.toArray.size) undef).getD t undef)=fun k=>vals.getD k undef:=by
    funext t
    rw [Array.getD_eq_getD_getElem?,List.getD_eq_getElem?_getD,Array.getElem?_append]
    split
    ·simp
    ·rename_i ht
     have ht:vals.length≤t:=by simpa using ht
     rw [List.getElem?_eq_none ht,Array.getElem?_replicate]
     split<;>rfl
   rw [e];exact Jh
  ·exact (List.all_eq_true.1 DF) g hg
  ·have fin :∀st a w',Fin tt sp.sig ts outs st→Good E fn.ntmps sp.sig.aN gh st a w'→LeavesInM Fence.wide 0 Pg fn a.tmps (fun e w' =>∃(rs:List Value) (aT:Nat→Gh),rs.length=sp.sig.bM∧e=.returned (Wh rs)∧Rel E (Fw.mk sp.sig.aG outs) aT (fun k=>rs.getD k undef) w'∧∀g∈sp.sig.aN,((aT g).ad=(gh g).ad∧(aT g).cap=(gh g).cap)∧((Fw.mk sp.sig.pin ins).o g).like ((Fw.mk sp.sig.aG outs).o g)) a.defers .returning w':=by
    intro st a w' hBk hg
    unfold Fin at hBk
    split at hBk
    rotate_left
    ·cases hBk
    rename_i xs hxs
    obtain ⟨⟨jX,hR1,GR⟩,_,Ds,hd1,hd2,hd3⟩:=hg
    rw [hd1]
    clear hd1
    induction Ds generalizing w' with
    |nil=>
     obtain ⟨rs,hrun,hrl,hrs⟩:=Jk htt hR1 hres hxs
     refine ⟨_,hrun,rs,?_⟩
     have hfin:Rel E (OV xs st) jX (fun k=>rs.getD k undef) w':=by
      refine ⟨fun k => ?_,fun g=>kD.congr (st:=st) (st':=OV xs st) rfl (hR1.objs g),hR1.inj,hR1.wr,hR1.wi,hR1.ns,hR1.wb,hR1.frame,hR1.size,hR1.os,hR1.tape,hR1.output,fun k g hg=>(hrs k).2 g hg,hR1.uo,hR1.ul⟩
      exact bI.congr (st:=st) (st':=OV xs st) rfl (hrs k).1
     obtain ⟨aT,r1,r2⟩:=OT hfin GR hBk
     exact ⟨aT,by omega,rfl,r1,fun g hg=>⟨r2 g hg,hlk ins outs hR g hg⟩⟩
    |cons D Ds ih=>
     obtain ⟨h1,h2⟩:=hd3 D (by simp)
     have hnd:=List.nodup_cons.1 hd2
     refine ⟨by simp,.inl ⟨D,_,rfl,run_takeDeferred h2,ih _ (hR1.turn h2 rfl h1 _) hnd.2 fun D' hD' => ?_⟩⟩
     obtain ⟨q1,q2⟩:=hd3 D' (by simp [hD'])
     exact ⟨q1,(World.putObj_heap_other (fun e:D'=D=>hnd.1 (by rw [←e];exact hD'))).trans q2⟩
   exact ⟨fun st a w' hk hg=>fin st a w' hk hg,fun id st a w' hk=>hk.elim,fun st a w' hk hg=>fin st a w' hk hg⟩
end
end Go.Fw

namespace Go.Fg
open Go.Fw
set_option linter.unusedVariables false
set_option linter.unusedSectionVars false
inductive Ty where
 |int (k:IntKind)
 |bool
 |str
 |sl (e:Ty)
 |prod (a b:Ty)
 |st (n:Nat)
 |opq
 |sq (e:Ty)
def YN:(a b:IntKind)→Option (PLift (a=b))
 |.i8,.i8=>some ⟨rfl⟩
 |.i16,.i16=>some ⟨rfl⟩
 |.i32,.i32=>some ⟨rfl⟩
 |.i64,.i64=>some ⟨rfl⟩
 |.u8,.u8=>some ⟨rfl⟩
 |.u16,.u16=>some ⟨rfl⟩
 |.u32,.u32=>some ⟨rfl⟩
 |.u64,.u64=>some ⟨rfl⟩
 |_,_=>none
def YO (a b:Nat):Option (PLift (a=b)):=match h:Nat.beq a b with
 |true=>some ⟨Nat.eq_of_beq_eq_true h⟩
 |false=>none
def Ty.eq:(a b:Ty)→Option (PLift (a=b))
 |.int k,.int k'=>match YN k k' with
  |some ⟨h⟩=>some ⟨h▸rfl⟩
  |none=>none
 |.bool,.bool=>some ⟨rfl⟩
 |.str,.str=>some ⟨rfl⟩
 |.opq,.opq=>some ⟨rfl⟩
 |.sl a,.sl b=>match Ty.eq a b with
  |some ⟨h⟩=>some ⟨h▸rfl⟩
  |none=>none
 |.sq a,.sq b=>match Ty.eq a b with
  |some ⟨h⟩=>some ⟨h▸rfl⟩
  |none=>none
 |.prod a b,.prod a' b'=>match Ty.eq a a',Ty.eq b b' with
  |some ⟨h⟩,some ⟨h'⟩=>some ⟨h▸h'▸rfl⟩
  |_,_=>none
 |.st n,.st m=>match YO n m with
  |some ⟨h⟩=>some ⟨h▸rfl⟩
  |none=>none
 |_,_=>none
def Ty.word:Ty→Bool
 |.prod _ _=>false
 |.st _=>false
 |_=>true
def Ty.flat:Ty→Bool
 |.int _=>true
 |.bool=>true
 |.str=>true
 |.opq=>true
 |_=>false
def D (C:Nat→Type):Ty→Type
 |.int _=>Int
 |.bool=>Bool
 |.str=>List UInt8
 |.sl e=>List (D C e)
 |.prod a b=>D C a×D C b
 |.st n=>C n
 |.opq=>Value
 |.sq e=>List (D C e)
structure TP (C:Nat→Type) where
 t:Ty
 x:D C t
def TP.get {C:Nat→Type} (t:Ty) (d:D C t) (ws:List (TP C)) (n:Nat):D C t:=match ws[n]? with
 |some w=>match Ty.eq w.t t with
  |some ⟨h⟩=>h▸w.x
  |none=>d
 |none=>d
theorem aP {C:Nat→Type} {ws:List (TP C)} {t:Ty} {ts:List Ty} (h:ws.map (·.t)=t::ts) :∃x ws',ws=⟨t,x⟩::ws'∧ws'.map (·.t)=ts:=by
 cases ws with
 |nil=>cases h
 |cons w ws=>
  obtain ⟨t',x⟩:=w
  simp only [List.map_cons,List.cons.injEq] at h
  obtain ⟨rfl,h⟩:=h
  exact ⟨x,ws,rfl,h⟩
theorem dB {C:Nat→Type} {ws:List (TP C)} (h:ws.map (·.t)=[]):ws=[]:=by simpa using h
def GV {C:Nat→Type} (size:Ty→Nat) (iZ:(t:Ty)→D C t→List P):(t:Ty)→D C t→P
 |.int k,x=>.int k x
 |.bool,b=>.bool b
 |.str,s=>.str ⟨s.toArray⟩
 |.sl e,l=>P.dY (size e) (List.map (iZ e) l)
 |.opq,v=>.opq v
 |.sq e,l=>.seq (List.map (iZ e) l)
 |.prod _ _,_=>default
 |.st _,_=>default
def nJ {C:Nat→Type} (F:Nat→List Ty) (er:(n:Nat)→C n→List P) (size:Ty→Nat):(t:Ty)→D C t→List P
 |.int k,x=>[.int k x]
 |.bool,b=>[.bool b]
 |.str,s=>[.str ⟨s.toArray⟩]
 |.sl e,l=>[P.dY (size e) (List.map (nJ F er size e) l)]
 |.opq,v=>[.opq v]
 |.sq e,l=>[.seq (List.map (nJ F er size e) l)]
 |.prod a b,x=>nJ F er size a x.1++nJ F er size b x.2
 |.st n,x=>er n x
def iy (F:Nat→List Ty):Ty→Nat
 |.prod a b=>iy F a+iy F b
 |.st n=>(F n).length
 |_=>1
class RE where
 C:Nat→Type
 F:Nat→List Ty
 dflt:(n:Nat)→C n
 un:(n:Nat)→C n→List (TP C)
 ro:(n:Nat)→List (TP C)→C n
 er:(n:Nat)→C n→List P
 Fwd :∀n,(F n).all Ty.word=true
 aeG :∀n x,(un n x).map (·.t)=F n
 aeH :∀n ws,ws.map (·.t)=F n→un n (ro n ws)=ws
 aeI :∀n x,er n x=(un n x).map fun w=>GV (iy F) (nJ F er (iy F)) w.t w.x
 hd:Nat:=999999
 hdF:F hd=[]:=by rfl
 G:Nat→Option ((e:Ty)×List (D C e)):=fun _=>none
 Q:World→List Nat→List (List P)→Value→Prop:=fun _ _ _ _=>False
 afA :∀{w w':World} {S:List Nat} {l:List (List P)} {v:Value},(∀b∈S,w'.heap[b]?=w.heap[b]?)→Q w S l v→Q w' S l v:=by intro _ _ _ _ _ _ h;exact h
section
variable [RE]
abbrev Dt (t:Ty):Type:=D RE.C t
abbrev Wd:=TP RE.C
def size:Ty→Nat:=iy RE.F
def iZ:(t:Ty)→Dt t→List P:=nJ RE.F RE.er (iy RE.F)
instance:dw:=⟨fun g=>(RE.G g).map fun x=>(size x.1,List.map (iZ x.1) x.2),RE.Q,RE.afA⟩
theorem aeJ (g:Nat):dw.gt g=(RE.G g).map fun x=>(size x.1,List.map (iZ x.1) x.2):=rfl
def enc1 (w:Wd):P:=GV (iy RE.F) (nJ RE.F RE.er (iy RE.F)) w.t w.x
def dflt:(t:Ty)→Dt t
 |.int _=>(0:Int)
 |.bool=>false
 |.str=>([]:List UInt8)
 |.sl e=>([]:List (Dt e))
 |.prod a b=>(dflt a,dflt b)
 |.st n=>RE.dflt n
 |.opq=>Value.nilFunc
 |.sq e=>([]:List (Dt e))
def TP.zL (t:Ty) (w:Wd):Option (Dt t):=match Ty.eq w.t t with
 |some ⟨h⟩=>some (h▸w.x)
 |none=>none
def TP.as (t:Ty) (w:Wd):Dt t:=match Ty.eq w.t t with
 |some ⟨h⟩=>h▸w.x
 |none=>dflt t
def dN:(t:Ty)→Dt t→List Wd
 |.prod a b,x=>dN a x.1++dN b x.2
 |.st n,x=>RE.un n x
 |.int k,x=>[⟨.int k,x⟩]
 |.bool,x=>[⟨.bool,x⟩]
 |.str,x=>[⟨.str,x⟩]
 |.sl e,x=>[⟨.sl e,x⟩]
 |.opq,x=>[⟨.opq,x⟩]
 |.sq e,x=>[⟨.sq e,x⟩]
def gU:Ty→List Ty
 |.prod a b=>gU a++gU b
 |.st n=>RE.F n
 |t=>[t]
def jv:(t:Ty)→List Wd→Dt t
 |.prod a b,ws=>(jv a (ws.take (size a)),jv b (ws.drop (size a)))
 |.st n,ws=>RE.ro n ws
 |.int k,ws=>match ws with
  |w::_=>w.as (.int k)
  | []=>dflt (.int k)
 |.bool,ws=>match ws with
  |w::_=>w.as .bool
  | []=>dflt .bool
 |.str,ws=>match ws with
  |w::_=>w.as .str
  | []=>dflt .str
 |.sl e,ws=>match ws with
  |w::_=>w.as (.sl e)
  | []=>dflt (.sl e)
 |.opq,ws=>match ws with
  |w::_=>w.as .opq
  | []=>dflt .opq
 |.sq e,ws=>match ws with
  |w::_=>w.as (.sq e)
  | []=>dflt (.sq e)
theorem Ty.eq_self :∀(t:Ty),∃h,Ty.eq t t=some ⟨h⟩:=by
 intro t
 induction t with
 |int k=>cases k<;>exact ⟨rfl,rfl⟩
 |bool=>exact ⟨rfl,rfl⟩
 |str=>exact ⟨rfl,rfl⟩
 |opq=>exact ⟨rfl,rfl⟩
 |sl e ih=>obtain ⟨h,ih⟩:=ih;exact ⟨rfl,by simp [Ty.eq,ih]⟩
 |sq e ih=>obtain ⟨h,ih⟩:=ih;exact ⟨rfl,by simp [Ty.eq,ih]⟩
 |prod a b iha ihb=>obtain ⟨h,iha⟩:=iha;obtain ⟨h',ihb⟩:=ihb;exact ⟨rfl,by simp [Ty.eq,iha,ihb]⟩
 |st n=>
  refine ⟨rfl,?_⟩
  have:YO n n=some ⟨rfl⟩:=by
   unfold YO
   split
   ·rfl
   ·rename_i h;simp at h
  simp [Ty.eq,this]
theorem qA (t:Ty) (x:Dt t):TP.as t ⟨t,x⟩=x:=by
 obtain ⟨h,e⟩:=Ty.eq_self t
 simp [TP.as,e]
theorem uO {t:Ty} {w:Wd} (h:w.t=t):(⟨t,w.as t⟩:Wd)=w:=by
 obtain ⟨t',x⟩:=w
 simp only at h;subst h
 rw [qA]
theorem fC {t:Ty} {w:Wd} {x:Dt t} (h:w.zL t=some x):w=⟨t,x⟩:=by
 obtain ⟨t',y⟩:=w
 unfold TP.zL at h
 split at h
 ·rename_i e he
  simp only at e
  subst e
  simp only [Option.some.injEq] at h
  subst h;rfl
 ·cases h
theorem afB {t:Ty} {w:Wd} {x:Dt t} (h:w.zL t=some x):w.t=t:=by rw [fC h]
theorem iC :∀(t:Ty),(gU t).length=size t
 |.prod a b=>by
  have h1:=iC a
  have h2:=iC b
  simp only [size] at h1 h2
  simp [gU,size,iy,h1,h2]
 |.st n=>by simp [gU,size,iy]
 |.int k=>rfl
 |.bool=>rfl
 |.str=>rfl
 |.sl e=>rfl
 |.opq=>rfl
 |.sq e=>rfl
theorem o7 :∀(t:Ty) (x:Dt t),(dN t x).map (·.t)=gU t
 |.prod a b,x=>by simp [dN,gU,o7 a,o7 b]
 |.st n,x=>by simp [dN,gU];exact RE.aeG n x
 |.int k,x=>rfl
 |.bool,x=>rfl
 |.str,x=>rfl
 |.sl e,x=>rfl
 |.opq,x=>rfl
 |.sq e,x=>rfl
theorem oH (t:Ty) (x:Dt t):(dN t x).length=size t:=by
 rw [←iC,←o7 t x,List.length_map]
theorem eX :∀(t:Ty) (x:Dt t),iZ t x=(dN t x).map enc1
 |.prod a b,x=>by
  show iZ a x.1++iZ b x.2=_
  rw [eX a x.1,eX b x.2];simp [dN]
 |.st n,x=>RE.aeI n x
 |.int k,x=>rfl
 |.bool,x=>rfl
 |.str,x=>rfl
 |.sl e,x=>rfl
 |.opq,x=>rfl
 |.sq e,x=>rfl
theorem GX (t:Ty) (x:Dt t):(iZ t x).length=size t:=by rw [eX,List.length_map,oH]
theorem BQ {ws:List Wd} {t:Ty} (h:ws.map (·.t)=[t]) :∃w,ws=[w]∧w.t=t:=by
 match ws with
 | []=>cases h
 | [w]=>exact ⟨w,rfl,by simpa using h⟩
 |w::u::ws=>simp at h
theorem GY :∀(t:Ty) (ws:List Wd),ws.map (·.t)=gU t→dN t (jv t ws)=ws
 |.prod a b,ws,h=>by
  have h1:(ws.take (size a)).map (·.t)=gU a:=by rw [List.map_take,h];simp [gU,←iC]
  have h2:(ws.drop (size a)).map (·.t)=gU b:=by rw [List.map_drop,h];simp [gU,←iC]
  show dN a (jv a (ws.take (size a)))++dN b (jv b (ws.drop (size a)))=ws
  rw [GY a _ h1,GY b _ h2,List.take_append_drop]
 |.st n,ws,h=>RE.aeH n ws h
 |.int k,ws,h=>by
  obtain ⟨w,rfl,hw⟩:=BQ (t:=(.int k)) h
  show [(⟨.int k,w.as (.int k)⟩:Wd)]=[w]
  rw [uO hw]
 |.bool,ws,h=>by
  obtain ⟨w,rfl,hw⟩:=BQ (t:=.bool) h
  show [(⟨.bool,w.as .bool⟩:Wd)]=[w]
  rw [uO hw]
 |.str,ws,h=>by
  obtain ⟨w,rfl,hw⟩:=BQ (t:=.str) h
  show [(⟨.str,w.as .str⟩:Wd)]=[w]
  rw [uO hw]
 |.sl e,ws,h=>by
  obtain ⟨w,rfl,hw⟩:=BQ (t:=(.sl e)) h
  show [(⟨.sl e,w.as (.sl e)⟩:Wd)]=[w]
  rw [uO hw]
 |.opq,ws,h=>by
  obtain ⟨w,rfl,hw⟩:=BQ (t:=.opq) h
  show [(⟨.opq,w.as .opq⟩:Wd)]=[w]
  rw [uO hw]
 |.sq e,ws,h=>by
  obtain ⟨w,rfl,hw⟩:=BQ (t:=(.sq e)) h
  show [(⟨.sq e,w.as (.sq e)⟩:Wd)]=[w]
  rw [uO hw]
theorem qB {t:Ty} {ws:List Wd} (h:ws.map (·.t)=gU t):iZ t (jv t ws)=ws.map enc1:=by rw [eX,GY t ws h]
def aB (e:Ty) (l:List (Dt e)):List (List P):=List.map (iZ e) l
theorem EY (e:Ty) (l:List (Dt e)):enc1 ⟨.sl e,l⟩=P.dY (size e) (aB e l):=rfl
theorem h_ (e:Ty) (l:List (Dt e)):(enc1 ⟨.sl e,l⟩).list=aB e l:=by rw [EY,P.mP]
theorem WQ {w:Wd} (h:w.t.flat=true):(enc1 w).flat=true:=by
 obtain ⟨t,x⟩:=w
 cases t<;>simp [Ty.flat] at h<;>rfl
end
end Go.Fg

namespace Go.Fg
open Go.Fw
set_option linter.unusedVariables false
set_option linter.unusedSectionVars false
section
variable [RE]
inductive TW where
 |p (a i:Bool) (w:Wd)
 |bD
 |own (g:Nat)
 |vw (g:Nat) (lo hi:Int)
 |box (g off:Nat)
 |ep (g:Nat) (n:Int) (off:Nat)
 |sp (a i:Bool) (t:Ty) (x:Dt t) (off:Nat)
 |clo (f:FuncId) (caps:List TW)
 |gl (g:Nat)
 |lH (g:Nat)
 |no
inductive TV where
 |one (x:TW)
 |agg (xs:List TW)
inductive TS where
 |v (x:TV)
 |kC (xs:List TV)
 |no
inductive TO where
 |none
 |box (ws:List TW)
 |arr (fz a i:Bool) (e:Ty) (l:List (Dt e))
 |it (s:List UInt8) (n:Int)
 |deep (a i:Bool) (e:Ty) (cols:List (Nat×Ty)) (l:List (Dt e)) (hole:Option (Nat×Nat×Nat))
mutual
def bf:TW→W
 |.p a i w=>.p a i (enc1 w)
 |.bD=>.bD
 |.own g=>.own g
 |.vw g lo hi=>.vw g (.int .i64 lo) (.int .i64 hi)
 |.box g off=>.box g off
 |.ep g n off=>.ep g (.int .i64 n) off
 |.sp a i t x off=>.sp a i (iZ t x) off
 |.clo f caps=>.clo f (lX caps)
 |.gl g=>.gl g
 |.lH g=>.lH g
 |.no=>.no
def lX:List TW→List W
 | []=>[]
 |x::xs=>bf x::lX xs
end
theorem xK :∀(l:List TW),lX l=l.map bf
 | []=>rfl
 |x::xs=>by simp [lX,xK xs]
def iQ:TV→V
 |.one x=>.one (bf x)
 |.agg xs=>.agg (xs.map bf)
def encS:TS→S
 |.v x=>.v (iQ x)
 |.kC xs=>.kC (xs.map iQ)
 |.no=>.no
def gB (cols:List (Nat×Ty)):List (Nat×Nat):=cols.map fun c=>(c.1,size c.2)
def cZ:TO→O
 |.none=>.none
 |.box ws=>.box (ws.map bf)
 |.arr fz a i e l=>.arr fz a i (size e) (aB e l)
 |.it s n=>.it (.str ⟨s.toArray⟩) (.int .i64 n)
 |.deep a i e cols l hole=>.deep a i (size e) (gB cols) (aB e l) hole
def iJ {α:Type} (d:α):List (Nat×α)→Nat→α
 | [],_=>d
 |(k,v)::r,t=>bif Nat.beq t k then v else iJ d r t
def y9 {α:Type} (k:Nat) (v:α):List (Nat×α)→List (Nat×α)
 | []=>[(k,v)]
 |(k',v')::r=>bif Nat.beq k k' then (k,v)::r else (k',v')::y9 k v r
def dS (g:Nat):List Nat→Bool
 | []=>false
 |x::xs=>Nat.beq g x||dS g xs
structure jf where
 s:List (Nat×TS)
 o:List (Nat×TO)
 u:List Nat
def jf.gs (st:jf) (t:Nat):TS:=iJ .no st.s t
def jf.go (st:jf) (g:Nat):TO:=iJ .none st.o g
def aI (st:jf):St:={ s:=fun t=>encS (st.gs t),o:=fun g=>cZ (st.go g),used:=fun g=>dS g st.u }
def bg (o:Nat→TO):Nat→O:=fun g=>cZ (o g)
def jk (k:IntKind) (x:Int):Wd:=⟨.int k,x⟩
def gI (x:Bool):Wd:=⟨.bool,x⟩
def OW (x:List UInt8):Wd:=⟨.str,x⟩
def rY (e:Ty) (x:List (Dt e)):Wd:=⟨.sl e,x⟩
def ak4 (x:Value):Wd:=⟨.opq,x⟩
def WR:Value→TW
 |.int k n=>.p false false (jk k n)
 |.bool b=>.p false false (gI b)
 |.string s=>.p false false (OW s.data.toList)
 |.slice none 0 0=>.bD
 |v=>.p false false (ak4 v)
def RP:Value→TS
 |.agg cs=>bif cs.toList.all Value.oneCell' then .v (.agg (cs.toList.map WR)) else .no
 |.tuple _=>.no
 |.func (.func f) ⟨[]⟩ ⟨[]⟩=>.v (.one (.clo f []))
 |v=>bif v.oneCell' then .v (.one (WR v)) else .no
def jf.bZ (st:jf):Operand→TS
 |.tmp t=>st.gs t
 |.const v=>RP v
 |.func f=>.v (.one (.clo f []))
 |.global g=>match RE.G g with
  |some _=>.v (.one (.gl g))
  |none=>.no
structure qg where
 pre:Bool
 t:Ty
 val:Dt t
 dst:Dt t→TS
 upd:Dt t→List (Nat×TO)
 new:List Nat
def qg.pure (x:TS):qg:={ pre:=true,t:=.bool,val:=false,dst:=fun _=>x,upd:=fun _=>[],new:=[] }
def Ux (w:Wd):TS:=.v (.one (.p false false w))
def qg.calc (pre:Bool) (t:Ty) (x:Dt t):qg:={ pre,t,val:=x,dst:=fun z=>Ux ⟨t,z⟩,upd:=fun _=>[],new:=[] }
structure TA where
 a:Bool
 i:Bool
 e:Ty
 l:List (Dt e)
structure TH where
 a:Bool
 i:Bool
 e:Ty
 cols:List (Nat×Ty)
 l:List (Dt e)
def tyB (a b:Ty):Bool:=match Ty.eq a b with
 |some _=>true
 |none=>false
def rZ (c:Nat):List (Nat×Ty)→Option Ty
 | []=>none
 |(k,t)::r=>bif Nat.beq c k then some t else rZ c r
def WT (e:Ty) (cols:List (Nat×Ty)) (c:Nat) (e':Ty):Bool:=(match rZ c cols with
 |some t=>tyB t e'
 |none=>false)&&(match (gU e)[c]? with
 |some (.sl t)=>tyB t e'
 |_=>false)
def Jl (e:Ty) (whole:Bool) (x:Dt e) (off:Nat) (ps:List Wd):Dt e:=match whole with
 |true=>jv e ps
 |false=>jv e (aF (dN e x) off ps)
def putRow (e:Ty) (l:List (Dt e)) (n c:Nat) (w:Wd):List (Dt e):=List.set l n (Jl e (Nat.beq 1 (size e)) (l.getD n (dflt e)) c [w])
def lY (o:Nat→TO) (g:Nat):Option TA:=match o g with
 |.arr _ a i e l=>some ⟨a,i,e,l⟩
 |.deep a i e cols l hole=>match hole with
  |none=>some ⟨a,i,e,l⟩
  |some (n,c,d)=>match o d with
   |.arr _ a' i' e' l'=>match WT e cols c e' with
    |true=>some ⟨a||a',i||i',e,putRow e l n c (rY e' l')⟩
    |false=>none
   |_=>none
 |_=>none
def kF:TO→List Nat
 |.deep _ _ _ _ _ hole=>match hole with
  |some (_,_,d)=>[d]
  |none=>[]
 |_=>[]
def Jm (o:Nat→TO) (g:Nat):Option (Ty×Nat):=match o g with
 |.arr _ _ _ e l=>some (e,l.length)
 |.deep _ _ e _ l _=>some (e,l.length)
 |_=>none
def TW.toP (o:Nat→TO) (t:Ty):TW→Option (Dt t×Bool×Bool×List Nat)
 |.p a i w=>match w.zL t with
  |some x=>some (x,a,i,[])
  |none=>none
 |.bD=>match t with
  |.sl e=>some (([]:List (Dt e)),false,false,[])
  |_=>none
 |.own g=>match lY o g with
  |some ⟨a,i,e,l⟩=>match (rY e l).zL t with
   |some x=>some (x,a,i,kF (o g)++[g])
   |none=>none
  |none=>none
 |.vw g lo hi=>match lY o g with
  |some ⟨a,i,e,l⟩=>match (rY e ((l.take hi.toNat).drop lo.toNat)).zL t with
   |some x=>some (x,a,i,kF (o g)++[g])
   |none=>none
  |none=>none
 |_=>none
def o8 (o:Nat→TO):List Ty→List TW→Option (List Wd×Bool×Bool×List Nat)
 | [],[]=>some ([],false,false,[])
 |t::ts,x::xs=>match x.toP o t,o8 o ts xs with
  |some (y,a,i,gs),some (ys,a',i',gs')=>some (⟨t,y⟩::ys,a||a',i||i',gs++gs')
  |_,_=>none
 |_,_=>none
def TV.words:TV→List TW
 |.one x=>[x]
 |.agg xs=>xs
def j_ (o:Nat→TO) (g:Nat):Nat×TO:=
 (g,match lY o g with
  |some ⟨a,i,e,l⟩=>.arr true a i e l
  |none=>o g)
def TV.d_ (agg:Bool) (ws:List TW):TS:=match agg with
 |true=>.v (.agg ws)
 |false=>match ws with
  | [x]=>.v (.one x)
  |_=>.no
def TW.solid:TW→Bool
 |.no=>false
 |_=>true
def TV.solid:TV→Bool
 |.one x=>x.solid
 |.agg _=>true
def Am (place:Nat→Option (Nat×Nat)) (ws:List TW):List (Nat×TS)→Option (List TW)
 | []=>some ws
 |(n,.v x)::rest=>match place n with
  |some (off,size)=>bif Nat.beq x.words.length size&&Nat.ble (off+size) ws.length&&x.solid then Am place (aF ws off x.words) rest else none
  |none=>none
 |_=>none
def TW.rows (o:Nat→TO) (e:Ty):TW→Option (List (Dt e)×Bool×Bool)
 |.p a i w=>match w.zL (.sl e) with
  |some l=>some (l,a,i)
  |none=>none
 |.bD=>some ([],false,false)
 |.own g=>match o g with
  |.arr _ a i e' l=>match (rY e' l).zL (.sl e) with
   |some l=>some (l,a,i)
   |none=>none
  |_=>none
 |.vw g lo hi=>match o g with
  |.arr _ a i e' l=>match (rY e' ((l.take hi.toNat).drop lo.toNat)).zL (.sl e) with
   |some l=>some (l,a,i)
   |none=>none
  |_=>none
 |_=>none
def OX (o:Nat→TO):TW→Option Int
 |.p _ _ ⟨.sl e,l⟩=>some (List.length (α:=Dt e) l)
 |.bD=>some 0
 |.own g=>match Jm o g with
  |some (_,n)=>some n
  |none=>none
 |.vw g lo hi=>match Jm o g with
  |some _=>some (hi.toNat-lo.toNat:Nat)
  |none=>none
 |_=>none
def TW.live (o:Nat→TO):TW→Bool
 |.box g _=>match o g with
  |.box _=>true
  |_=>false
 |.ep g _ _=>match Jm o g with
  |some _=>true
  |none=>false
 |.sp _ _ _ _ _=>true
 |_=>false
def TW.shift (n:Nat):TW→TW
 |.box g off=>.box g (off+n)
 |.ep g k off=>.ep g k (off+n)
 |.sp a i t x off=>.sp a i t x (off+n)
 |x=>x
def lu (dflt:Int):Option TS→Option Int
 |none=>some dflt
 |some (.v (.one (.p _ _ ⟨.int .i64,x⟩)))=>some x
 |_=>none
def ak5 (n:Int):Int:=0-n
def eqI (a b:Int):Bool:=decide (a=b)
def inB (n:Int) (len:Nat):Bool:=decide (0≤n)&&decide (n<len)
def BR (lo hi:Int) (len:Nat):Bool:=decide (0≤lo)&&decide (lo≤hi)&&decide (hi≤(len:Int))
def zf (bytes:Nat) (n c:Int):Bool:=decide (0≤n)&&decide (n≤c)&&decide (bytes*c≤281474976710656)&&decide (c≤9223372036854775807)
def strOf (l:List Int):List UInt8:=l.map fun n=>UInt8.ofNat n.toNat
def ahW {α:Type} (lo hi:Int) (z:α) (l:List α):List α:=List.take lo.toNat l++List.replicate (hi.toNat-lo.toNat) z++List.drop (lo.toNat+(List.replicate (hi.toNat-lo.toNat) z).length) l
def afD (s:List UInt8):List Int:=s.map fun b=>(b.toNat:Int)
def WU (a b:Int):Int:=if b<a then b else a
def OY (a b:Int):Int:=if b>a then b else a
def ib (b:Bool):Bool:=b
def RQ (op:BinOp) (k k':IntKind) (a b:Int):Option (Bool×Wd):=
 match op with
 |.shl=>some (decide (0≤b),jk k (k.wrap (a*2 ^ min b.toNat k.bits)))
 |.shr=>some (decide (0≤b),jk k (a.fdiv (2 ^ min b.toNat k.bits)))
 |_=>match YN k k' with
  |none=>none
  |some _=>match op with
   |.add=>some (true,jk k (k.wrap (a+b)))
   |.sub=>some (true,jk k (k.wrap (a-b)))
   |.mul=>some (true,jk k (k.wrap (a*b)))
   |.quo=>some (!(decide (b=0)),jk k (k.wrap (a.tdiv b)))
   |.rem=>some (!(decide (b=0)),jk k (a.tmod b))
   |.and=>some (true,jk k (bits .and k a b))
   |.or=>some (true,jk k (bits .or k a b))
   |.xor=>some (true,jk k (bits .xor k a b))
   |.andNot=>some (true,jk k (bits .andNot k a b))
   |.eql=>some (true,gI (decide (a=b)))
   |.neq=>some (true,gI (!(decide (a=b))))
   |.lss=>some (true,gI (decide (a<b)))
   |.leq=>some (true,gI (decide (a≤b)))
   |.gtr=>some (true,gI (decide (b<a)))
   |.geq=>some (true,gI (decide (b≤a)))
   |_=>none
def Ap (n m:Nat):Bool:=Nat.ble n (9223372036854775807-m)&&Nat.ble m 9223372036854775807
theorem m_ {n m:Nat}:Ap n m=true↔n+m≤9223372036854775807:=by
 unfold Ap
 rw [Bool.and_eq_true,Nat.ble_eq,Nat.ble_eq]
 omega
def RS (op:BinOp) (a b:List UInt8):Option (Bool×Wd):=
 match op with
 |.add=>some (Ap a.length b.length,OW (a++b))
 |.eql=>some (true,gI (a==b))
 |.neq=>some (true,gI (!(a==b)))
 |.lss=>some (true,gI (Op.bytesLess a b))
 |.leq=>some (true,gI (Op.bytesLess a b||a==b))
 |.gtr=>some (true,gI (!(Op.bytesLess a b||a==b)))
 |.geq=>some (true,gI (!Op.bytesLess a b))
 |_=>none
def L_ (op:BinOp) (a b:Bool):Option (Bool×Wd):=
 match op with
 |.eql=>some (true,gI (a==b))
 |.neq=>some (true,gI (a != b))
 |_=>none
def ahX (k:TK) (op:BinOp) (x y:Wd):Option (Bool×Wd):=
 match k,x,y with
 |.int _,⟨.int k,a⟩,⟨.int k',b⟩=>RQ op k k' a b
 |.str,⟨.str,a⟩,⟨.str,b⟩=>RS op a b
 |.bool,⟨.bool,a⟩,⟨.bool,b⟩=>L_ op a b
 |_,_,_=>none
def unT (op:UnOp) (x:Wd):Option Wd:=
 match op,x with
 |.neg,⟨.int k,n⟩=>some (jk k (k.wrap (ak5 n)))
 |.not,⟨.bool,b⟩=>some (gI (!b))
 |_,_=>none
def aeK (k k':IntKind) (m n:Int):Option Bool:=
 match YN k k' with
 |some _=>some (decide (m=n))
 |none=>none
def eqStr (a b:List UInt8):Option Bool:=some (a==b)
def ahY (a b:Bool):Option Bool:=some (a==b)
def afE (k:TK) (x y:Wd):Option Bool:=
 match k,x,y with
 |.int _,⟨.int a,m⟩,⟨.int b,n⟩=>aeK a b m n
 |.str,⟨.str,a⟩,⟨.str,b⟩=>eqStr a b
 |.bool,⟨.bool,a⟩,⟨.bool,b⟩=>ahY a b
 |_,_,_=>none
def EO (tt:TT):Nat→List (Nat×TypeId)→List TW→List TW→Option Bool
 |_,[],[],[]=>some true
 |n,(off,t)::fs,.p _ _ x::xs,.p _ _ y::ys=>match tt t with
  |some i=>bif Nat.beq off n&&i.k.flat&&Nat.beq i.size 1 then match afE i.k x y,EO tt (n+1) fs xs ys with
   |some b,some c=>some (b&&c)
   |_,_=>none
   else none
  |none=>none
 |_,_,_,_=>none
def qg.ng (c:Bool×Wd):qg:=.calc c.1 c.2.t c.2.x
def YP:Wd→Value→Bool
 |⟨.int k,n⟩,.int k' n'=>(match YN k k' with | some _=>true | none=>false)&&eqI n n'
 |⟨.bool,b⟩,.bool b'=>BEq.beq (α:=Bool) b b'
 |⟨.str,s⟩,.string s'=>List.isEmpty (α:=UInt8) s&&s'.data.toList.isEmpty
 |⟨.sl e,l⟩,.slice none 0 0=>List.isEmpty (α:=Dt e) l
 |_,_=>false
def rE:List Wd→List Value→Bool
 | [],[]=>true
 |w::ws,v::vs=>YP w v&&rE ws vs
 |_,_=>false
def tpw (a i:Bool) (ws:List Wd):List TW:=ws.map (TW.p a i)
def Mc (tt:TT) (ety:TypeId→Option Ty) (d:Nat) (o:Nat→TO) (sT:TypeId) (s x:TW):Option qg:=
 match tt sT with
 |some { k:=.slice e,.. }=>match tt e,ety e with
  |some ie,some et=>bif Nat.beq ie.bytes 0||!Nat.beq (size et) ie.size then none else match x.rows o et with
   |none=>none
   |some (new,a',i')=>
    let res (pre:Bool) (old:List (Dt et)) (a i:Bool) (kill:List (Nat×TO)):qg:=
     { pre:=pre&&decide ((old.length+new.length)*ie.bytes≤140737488355328),t:=.sl et,val:=List.append old new,dst:=fun _=>.v (.one (.own d)),upd:=fun y=>kill++[(d,.arr false (a||a') (i||i') et y)],new:=[d] }
    match s with
    |.bD=>some (res true [] false false [])
    |.own g=>match o g with
     |.arr false a i e' l=>match (rY e' l).zL (.sl et) with
      |some l=>bif Nat.beq g d then none else some (res true l a i [(g,.none)])
      |none=>none
     |_=>none
    |.vw g lo hi=>match o g with
     |.arr false a i e' l=>match (rY e' (l.take hi.toNat)).zL (.sl et) with
      |some l=>bif Nat.beq g d then none else some (res (decide (lo=0)) l a i [(g,.none)])
      |none=>none
     |_=>none
    |_=>none
  |_,_=>none
 |_=>none
def Aq (e:Ty):Nat→List Wd→List (Dt e)
 |0,_=>[]
 |n+1,l=>jv e (l.take (size e))::Aq e n (l.drop (size e))
def GZ {α:Type} (l:List α):Nat→List α
 |0=>[]
 |n+1=>l++GZ l n
def Uy (tt:TT) (o:Nat→TO) (t:TypeId) (x h m:TS):Option qg:=
 match tt t,x,h,m with
 |some { k:=.slice e,.. },.v (.one (.own g)),.v (.one (.p _ _ ⟨.int .i64,h⟩)),.v (.one (.p _ _ ⟨.int .i64,m⟩))=>match tt e,o g with
  |some ie,.arr false _ _ e' l=>bif Nat.beq (size e') ie.size then some { pre:=BR h m l.length,t:=.bool,val:=false,dst:=fun _=>.v (.one (.vw g 0 h)),upd:=fun _=>[],new:=[] } else none
  |_,_=>none
 |some { k:=.slice e,.. },.v (.one .bD),.v (.one (.p _ _ ⟨.int .i64,h⟩)),.v (.one (.p _ _ ⟨.int .i64,m⟩))=>match tt e with
  |some _=>some { pre:=BR h m 0,t:=.bool,val:=false,dst:=fun _=>.v (.one .bD),upd:=fun _=>[],new:=[] }
  |none=>none
 |_,_,_,_=>none
def YQ (tt:TT) (o:Nat→TO) (t:TypeId) (x:TS):Option qg:=
 match tt t,x with
 |some { k:=.slice e,.. },.v (.one (.vw g lo hi))=>match tt e,o g with
  |some ie,.arr false a i et l=>bif Nat.beq (size et) ie.size&&Nat.blt 0 ie.size then match o8 o (gU et) (ie.zero.map WR) with
   |some (ps,false,false,[])=>some { pre:=Nat.blt lo.toNat hi.toNat,t:=.sl et,val:=ahW lo hi (jv et ps) l,dst:=fun _=>.no,upd:=fun y=>[(g,.arr false a i et y)],new:=[] }
   |_=>none
   else none
  |_,_=>none
 |_,_=>none
def bV (tt:TT) (ety:TypeId→Option Ty) (d:Nat) (o:Nat→TO) (f:Operand→TS) (op:Op) (ty:TypeId):Option qg:=
 match op with
 |.move x | .assign x=>match f x with
  |.no=>none
  |s=>some (.pure s)
 |.pick c x y=>match f c with
  |.v (.one (.p _ _ ⟨.bool,b⟩))=>match f x,f y with
   |.v (.one (.p a i w)),.v (.one (.p a' i' w'))=>match w'.zL w.t with
    |some z=>some { pre:=true,t:=w.t,val:=bif b then w.x else z,dst:=fun z=>.v (.one (.p (a||a') (i||i') ⟨w.t,z⟩)),upd:=fun _=>[],new:=[] }
    |none=>none
   |x,y=>match (bif b then x else y) with
    |.no=>none
    |s=>some (.pure s)
  |_=>none
 |.alloc t=>match tt t with
  |some i=>some { pre:=true,t:=.bool,val:=false,dst:=fun _=>.v (.one (.box d 0)),upd:=fun _=>[(d,.box (i.zero.map WR))],new:=[d] }
  |none=>none
 |.box t x=>match tt t,f x with
  |some i,.v x=>bif Nat.beq x.words.length i.size&&x.solid then some { pre:=true,t:=.bool,val:=false,dst:=fun _=>.v (.one (.box d 0)),upd:=fun _=>[(d,.box x.words)],new:=[d] } else none
  |_,_=>none
 |.build t parts=>match tt t with
  |some i=>bif i.known tt then match Am (placeOf tt t) (i.zero.map WR) (parts.toList.map fun p=>(p.1,f p.2)) with
   |some ws=>some (.pure (.v (.agg ws)))
   |none=>none
   else none
  |none=>none
 |.buildSlice t n parts=>match tt t with
  |some { k:=.slice e,.. }=>match tt e,ety e with
   |some ie,some et=>match Am (fun m=>if m<n then some (m*ie.size,ie.size) else none) (GZ (ie.zero.map WR) n) (parts.toList.map fun p=>(p.1,f p.2)) with
    |some ws=>match o8 o (GZ (gU et) n) ws with
     |some (ps,a,i,gs)=>bif Nat.ble (n+n*ie.size) 16777216&&Nat.beq (size et) ie.size then
       some { pre:=true,t:=.sl et,val:=Aq et n ps,dst:=fun _=>.v (.one (.own d)),upd:=fun y=>gs.map (j_ o)++[(d,.arr false a i et y)],new:=[d] } else none
     |none=>none
    |none=>none
   |_,_=>none
  |_=>none
 |.load t x=>match tt t,f x with
  |some i,.v (.one (.box g off))=>match o g with
   |.box ws=>bif Nat.ble (off+i.size) ws.length&&Nat.blt 0 i.size then some (.pure (TV.d_ i.agg ((ws.drop off).take i.size))) else none
   |_=>none
  |some i,.v (.one (.ep g n off))=>match o g with
   |.arr _ a i' e l=>bif Nat.ble (off+i.size) (size e)&&Nat.blt 0 i.size&&rE (((dN e (dflt e)).drop off).take i.size) i.zero then
     some { pre:=true,t:=e,val:=l.getD n.toNat (dflt e),dst:=fun z=>TV.d_ i.agg (tpw a i' (((dN e z).drop off).take i.size)),upd:=fun _=>[],new:=[] } else none
   |_=>none
  |some i,.v (.one (.sp a i' e x off))=>bif Nat.blt 0 i.size&&Nat.ble (off+i.size) (size e) then
    some (.pure (TV.d_ i.agg (tpw a i' (((dN e x).drop off).take i.size)))) else none
  |_,_=>none
 |.store t x y=>match tt t,f x,f y with
  |some i,.v (.one (.box g off)),.v y=>match o g with
   |.box ws=>bif Nat.ble (off+i.size) ws.length&&Nat.beq y.words.length i.size&&y.solid then
     some { pre:=true,t:=.bool,val:=false,dst:=fun _=>.no,upd:=fun _=>[(g,.box (aF ws off y.words))],new:=[] } else none
   |_=>none
  |some i,.v (.one (.ep g n off)),.v y=>match o g with
   |.arr false a i' e l=>match o8 o (((gU e).drop off).take i.size) y.words with
    |some (ps,a',i'',gs)=>bif Nat.ble (off+i.size) (size e)&&Nat.beq y.words.length i.size&&y.solid&&!dS g gs then
     some { pre:=true,t:=.sl e,val:=List.set l n.toNat (Jl e (Nat.beq i.size (size e)) (l.getD n.toNat (dflt e)) off ps),dst:=fun _=>.no,upd:=fun z=>gs.map (j_ o)++[(g,.arr false (a||a') (i'||i'') e z)],new:=[] } else none
    |none=>none
   |_=>none
  |_,_,_=>none
 |.nilCheck x=>match f x with
  |.v (.one x)=>bif x.live o then some (.pure (.v (.one x))) else none
  |_=>none
 |.binOp op t x y _=>match f x,f y with
  |.v (.one (.p _ _ x)),.v (.one (.p _ _ y))=>match tt t with
   |some i=>match ahX i.k op x y with
    |some c=>some (.ng c)
    |none=>none
   |none=>none
  |.v (.agg xs),.v (.agg ys)=>match tt t with
   |some i=>match EO tt 0 i.k.parts xs ys,abA op with
    |some b,some true=>bif i.eq then some (.ng (true,gI b)) else none
    |some b,some false=>bif i.eq then some (.ng (true,gI (!b))) else none
    |_,_=>none
   |none=>none
  |_,_=>none
 |.unOp op _ x=>match f x with
  |.v (.one (.p _ _ x))=>match unT op x with
   |some c=>some (.ng (true,c))
   |none=>none
  |_=>none
 |.convert s t x=>match tt s,tt t,f x with
  |some { k:=.int _,.. },some { k:=.int k,.. },.v (.one (.p _ _ ⟨.int _,x⟩))=>some (.calc true (.int k) (k.wrap x))
  |some { k:=.slice e,.. },some { k:=.str,.. },.v (.one x)=>match tt e with
   |some { k:=.int .u8,.. }=>match x.rows o (.int .u8) with
    |some (l,_,_)=>some (.calc true .str (strOf l))
    |none=>none
   |_=>none
  |some { k:=.str,.. },some { k:=.slice e,.. },.v (.one (.p _ _ ⟨.str,x⟩))=>match tt e with
   |some { k:=.int .u8,.. }=>some (.calc true (.sl (.int .u8)) (afD x))
   |_=>none
  |_,_,_=>none
 |.makeSlice t n c=>match tt t,f n,f c with
  |some { k:=.slice e,.. },.v (.one (.p _ _ ⟨.int .i64,n⟩)),.v (.one (.p _ _ ⟨.int .i64,c⟩))=>match tt e,ety e with
   |some ie,some et=>match o8 o (gU et) (ie.zero.map WR) with
    |some (ps,false,false,[])=>bif Nat.blt 0 ie.size&&Nat.beq (size et) ie.size then
     some { pre:=zf ie.bytes n c,t:=.sl et,val:=List.replicate (Int.toNat n) (jv et ps),dst:=fun _=>.v (.one (.own d)),upd:=fun y=>[(d,.arr false false false et y)],new:=[d] } else none
    |_=>none
   |_,_=>none
  |_,_,_=>none
 |.slice t x lo hi none=>match tt t,f x with
  |some { k:=.slice e,.. },.v (.one x)=>match tt e,ety e,OX o x with
   |some ie,some et,some len=>match lu 0 (lo.map f),lu len (hi.map f) with
    |some lo,some hi=>match x with
     |.own g=>match Jm o g with
      |some (e',l)=>bif Nat.beq (size e') ie.size then
        some { pre:=BR lo hi l,t:=.bool,val:=false,dst:=fun _=>.v (.one (.vw g lo hi)),upd:=fun _=>[],new:=[] } else none
      |none=>none
     |.p a i w=>match w.zL (.sl et) with
      |some l=>bif Nat.beq (size et) ie.size then some { pre:=BR lo hi (List.length (α:=Dt et) l),t:=.sl et,val:=List.drop lo.toNat (List.take (α:=Dt et) hi.toNat l),dst:=fun z=>.v (.one (.p a i ⟨.sl et,z⟩)),upd:=fun _=>[],new:=[] } else none
      |none=>none
     |.bD=>some { pre:=decide (lo=0)&&decide (hi=0),t:=.bool,val:=false,dst:=fun _=>.v (.one .bD),upd:=fun _=>[],new:=[] }
     |_=>none
    |_,_=>none
   |_,_,_=>none
  |some { k:=.str,.. },.v (.one (.p _ _ ⟨.str,y⟩))=>match lu 0 (lo.map f),lu (List.length (α:=UInt8) y) (hi.map f) with
   |some lo,some hi=>some (.calc (BR lo hi (List.length (α:=UInt8) y)) .str (List.drop lo.toNat (List.take (α:=UInt8) hi.toNat y)))
   |_,_=>none
  |_,_=>none
 |.slice t x none (some hi) (some mx)=>Uy tt o t (f x) (f hi) (f mx)
 |.fieldAddr t x n=>match tt t,placeOf tt t n,f x with
  |some { k:=.struct _,.. },some (off',sz'),.v (.one x)=>bif Nat.blt 0 sz'&&x.live o then some (.pure (.v (.one (x.shift off')))) else none
  |_,_,_=>none
 |.field t x n=>match tt t,f x with
  |some { k:=.struct fs,.. },.v (.agg ws)=>match fs[n]? with
   |some (off,u)=>match tt u with
    |some iu=>bif Nat.ble (off+iu.size) ws.length&&Nat.blt 0 iu.size then some (.pure (TV.d_ iu.agg ((ws.drop off).take iu.size))) else none
    |none=>none
   |none=>none
  |_,_=>none
 |.indexAddr t x ix=>match tt t,f x,f ix with
  |some { k:=.slice e,.. },.v (.one x),.v (.one (.p _ _ ⟨.int _,n⟩))=>match tt e,ety e,x with
   |some ie,some et,.own g=>match Jm o g with
    |some (e',l)=>bif Nat.beq (size e') ie.size then
      some { pre:=inB n l,t:=.bool,val:=false,dst:=fun _=>.v (.one (.ep g (Int.toNat n:Nat) 0)),upd:=fun _=>[],new:=[] } else none
    |none=>none
   |some ie,some et,.vw g lo hi=>match Jm o g with
    |some (e',_)=>bif Nat.beq (size e') ie.size then
      some { pre:=inB n (hi.toNat-lo.toNat),t:=.bool,val:=false,dst:=fun _=>.v (.one (.ep g (lo.toNat+Int.toNat n:Nat) 0)),upd:=fun _=>[],new:=[] } else none
    |none=>none
   |some ie,some et,.p a i w=>match w.zL (.sl et) with
    |some l=>bif Nat.beq (size et) ie.size then some { pre:=inB n (List.length (α:=Dt et) l),t:=et,val:=List.getD (α:=Dt et) l (Int.toNat n) (dflt et),dst:=fun z=>.v (.one (.sp a i et z 0)),upd:=fun _=>[],new:=[] } else none
    |none=>none
   |_,_,_=>none
  |some { k:=.arr m e,.. },.v (.one (.gl g)),.v (.one (.p _ _ ⟨.int _,n⟩))=>match tt e,RE.G g with
   |some ie,some ⟨et,l⟩=>bif Nat.beq (size et) ie.size&&Nat.beq (List.length (α:=Dt et) l) m then some { pre:=inB n m,t:=et,val:=List.getD (α:=Dt et) l (Int.toNat n) (dflt et),dst:=fun z=>.v (.one (.sp false false et z 0)),upd:=fun _=>[],new:=[] } else none
   |_,_=>none
  |some { k:=.arr m e,.. },.v (.one x),.v (.one (.p _ _ ⟨.int _,n⟩))=>match tt e with
   |some ie=>bif inB n m&&x.live o then some (.pure (.v (.one (x.shift (Int.toNat n*ie.size))))) else none
   |none=>none
  |_,_,_=>none
 |.index t x ix=>match tt t,f x,f ix with
  |some { k:=.str,.. },.v (.one (.p _ _ ⟨.str,s⟩)),.v (.one (.p _ _ ⟨.int _,n⟩))=>
    some (.calc (inB n (List.length (α:=UInt8) s)) (.int .u8) ((List.getD (α:=UInt8) s (Int.toNat n) 0).toNat:Int))
  |_,_,_=>none
 |.range t x=>match tt t,f x with
  |some { k:=.str,.. },.v (.one (.p _ _ ⟨.str,s⟩))=>some { pre:=true,t:=.str,val:=s,dst:=fun _=>.v (.one (.lH d)),upd:=fun z=>[(d,.it z 0)],new:=[d] }
  |_,_=>none
 |.extract t n=>match f t with
  |.kC xs=>match xs[n]? with
   |some x=>some (.pure (.v x))
   |none=>none
  |_=>none
 |.makeFunc (.func g) first caps=>bif Nat.beq first.size 0 then
   match caps.toList.mapM (fun x=>match f x with | .v (.one w)=>some w | _=>none) with
   |some ws=>some (.pure (.v (.one (.clo g ws))))
   |none=>none
   else none
 |.call { callee:=.builtin .len,args,argTypes }=>match args.toList,argTypes.toList with
  | [x],[t]=>match tt t,f x with
   |some { k:=.slice _,.. },.v (.one x)=>match OX o x with
    |some n=>some (.calc true (.int .i64) n)
    |none=>none
   |some { k:=.str,.. },.v (.one (.p _ _ ⟨.str,s⟩))=>some (.calc true (.int .i64) (List.length (α:=UInt8) s:Int))
   |_,_=>none
  |_,_=>none
 |.call { callee:=.builtin .append,args,argTypes }=>match args.toList,argTypes.toList with
  | [s,x],sT::xT::_=>match tt xT,f s,f x with
   |some { k:=.slice _,.. },.v (.one s),.v (.one x)=>Mc tt ety d o sT s x
   |_,_,_=>none
  |_,_=>none
 |.call { callee:=.builtin .clear,args,argTypes }=>match args.toList,argTypes.toList with
  | [x],t::_=>YQ tt o t (f x)
  |_,_=>none
 |.call { callee:=.builtin .min,args,.. }=>match args.toList with
  | [x,y]=>match f x,f y with
   |.v (.one (.p _ _ ⟨.int k,x⟩)),.v (.one (.p _ _ ⟨.int _,y⟩))=>some (.calc true (.int k) (WU x y))
   |_,_=>none
  | [x,y,z]=>match f x,f y,f z with
   |.v (.one (.p _ _ ⟨.int k,x⟩)),.v (.one (.p _ _ ⟨.int _,y⟩)),.v (.one (.p _ _ ⟨.int _,z⟩))=>some (.calc true (.int k) (WU (WU x y) z))
   |_,_,_=>none
  |_=>none
 |.call { callee:=.builtin .max,args,.. }=>match args.toList with
  | [x,y]=>match f x,f y with
   |.v (.one (.p _ _ ⟨.int k,x⟩)),.v (.one (.p _ _ ⟨.int _,y⟩))=>some (.calc true (.int k) (OY x y))
   |_,_=>none
  | [x,y,z]=>match f x,f y,f z with
   |.v (.one (.p _ _ ⟨.int k,x⟩)),.v (.one (.p _ _ ⟨.int _,y⟩)),.v (.one (.p _ _ ⟨.int _,z⟩))=>some (.calc true (.int k) (OY (OY x y) z))
   |_,_,_=>none
  |_=>none
 |_=>none
end
end Go.Fg

namespace Go.Fg
open Go.Fw
set_option linter.unusedVariables false
set_option linter.unusedSectionVars false
set_option linter.unusedSimpArgs false
section
variable [RE] {o:Nat→TO} {tt:TT} {ety:TypeId→Option Ty}
theorem dM (e:Ty) (l:List (Dt e)):(aB e l).length=l.length:=by simp [aB]
theorem qC (e:Ty) (l:List (Dt e)) (lo hi:Int):((aB e l).take (P.nat (.int .i64 hi))).drop (P.nat (.int .i64 lo))=aB e ((l.take hi.toNat).drop lo.toNat):=by
 simp [aB,P.nat,P.num,List.map_take,List.map_drop]
theorem ug (e:Ty) (l:List (Dt e)) (hi:Int):(aB e l).take (P.nat (.int .i64 hi))=aB e (l.take hi.toNat):=by
 simp [aB,P.nat,P.num,List.map_take]
theorem fG {g:Nat} {fz a i:Bool} {e:Ty} {l:List (Dt e)} (h:o g=.arr fz a i e l):bg o g=.arr fz a i (size e) (aB e l):=by simp [bg,h,cZ]
theorem ni {g:Nat} {ws:List TW} (h:o g=.box ws):bg o g=.box (ws.map bf):=by simp [bg,h,cZ]
theorem nK {g n:Nat} {e:Ty} (h:Jm o g=some (e,n)):(bg o g).dim=some (size e,n):=by
 unfold Jm at h
 unfold bg
 cases ho:o g with
 |arr fz a i e l=>rw [ho] at h;cases h;simp [cZ,O.dim,aB]
 |deep a i e cols l hole=>rw [ho] at h;cases h;simp [cZ,O.dim,aB]
 |_=>rw [ho] at h;cases h
theorem wB {a b:Ty} (h:tyB a b=true):a=b:=by
 unfold tyB at h
 split at h
 ·rename_i p _;exact p.down
 ·cases h
theorem BU {c:Nat} :∀{cols:List (Nat×Ty)} {t:Ty},rZ c cols=some t→(gB cols).lookup c=some (size t)
 | [],t,h=>by cases h
 |(k,u)::r,t,h=>by
  simp only [rZ] at h
  simp only [gB,List.map_cons,List.lookup]
  by_cases e:c=k
  ·subst e
   have:Nat.beq c c=true:=by simp
   rw [this] at h
   simp only [cond_true,Option.some.injEq] at h;subst h
   simp
  ·have e1:Nat.beq c k=false:=by cases hb:Nat.beq c k with | false=>rfl | true=>exact absurd (Nat.eq_of_beq_eq_true hb) e
   have e2:(c==k)=false:=by simpa using e
   rw [e1] at h
   rw [e2]
   exact BU h
theorem G5 {c:Nat} :∀{cols:List (Nat×Ty)},rZ c cols=none→(gB cols).lookup c=none
 | [],h=>rfl
 |(k,u)::r,h=>by
  simp only [rZ] at h
  simp only [gB,List.map_cons,List.lookup]
  by_cases e:c=k
  ·subst e
   have:Nat.beq c c=true:=by simp
   rw [this] at h;cases h
  ·have e1:Nat.beq c k=false:=by cases hb:Nat.beq c k with | false=>rfl | true=>exact absurd (Nat.eq_of_beq_eq_true hb) e
   have e2:(c==k)=false:=by simpa using e
   rw [e1] at h
   rw [e2]
   exact G5 h
theorem r_ {e e':Ty} {cols:List (Nat×Ty)} {c:Nat} (h:WT e cols c e'=true):(gB cols).lookup c=some (size e')∧(gU e)[c]?=some (.sl e')∧c<size e:=by
 simp only [WT,Bool.and_eq_true] at h
 obtain ⟨h1,h2⟩:=h
 have k1:rZ c cols=some e':=by
  split at h1
  ·rename_i t ht;rw [ht,wB h1]
  ·cases h1
 have k2:(gU e)[c]?=some (.sl e'):=by
  split at h2
  ·rename_i t ht;rw [ht,wB h2]
  ·cases h2
 exact ⟨BU k1,k2,by have:=(List.getElem?_eq_some_iff.1 k2).1;rwa [iC] at this⟩
theorem yB {α β:Type} (f:α→β) (l:List α) (off:Nat) (new:List α):(aF l off new).map f=aF (l.map f) off (new.map f):=by
 simp [aF,List.map_take,List.map_drop]
theorem YR {e:Ty} {x:Dt e} {off:Nat} {ps:List Wd} (hty:ps.map (·.t)=((gU e).drop off).take ps.length) (hlt:off+ps.length≤size e):iZ e (Jl e (Nat.beq ps.length (size e)) x off ps)=aF (iZ e x) off (ps.map enc1):=by
 have hty':(aF (dN e x) off ps).map (·.t)=gU e:=by
  have e0:gU e=(gU e).take off++(((gU e).drop off).take ps.length++(gU e).drop (off+ps.length)):=by
   rw [←List.drop_drop,List.take_append_drop,List.take_append_drop]
  simp only [aF,List.map_append,List.map_take,List.map_drop,o7,hty,List.append_assoc]
  exact e0.symm
 unfold Jl
 cases hc:Nat.beq ps.length (size e) with
 |true=>
  have hc:=Nat.eq_of_beq_eq_true hc
  have h0:off=0:=by omega
  subst h0
  have e2:aF (dN e x) 0 ps=ps:=by
   simp only [aF,List.take_zero,List.nil_append,Nat.zero_add]
   rw [List.drop_of_length_le (by rw [oH];omega),List.append_nil]
  have e3:aF (iZ e x) 0 (ps.map enc1)=ps.map enc1:=by rw [eX,←yB,e2]
  rw [e2] at hty'
  rw [e3]
  exact qB hty'
 |false=>
  simp only
  rw [qB hty',yB,←eX]
theorem DW {e:Ty} {l:List (Dt e)} {n off:Nat} {ps:List Wd} (hty:ps.map (·.t)=((gU e).drop off).take ps.length) (hlt:off+ps.length≤size e) :
  aB e (List.set l n (Jl e (Nat.beq ps.length (size e)) (l.getD n (dflt e)) off ps))=(aB e l).set n (aF ((aB e l).getD n []) off (ps.map enc1)):=by
 have e0 :∀x,aB e (List.set l n x)=(aB e l).set n (iZ e x):=fun x=>by simp [aB,List.map_set]
 rw [e0]
 by_cases hn:n<l.length
 ·have e1:(aB e l).getD n []=iZ e (l.getD n (dflt e)):=by simp [aB,List.getD_eq_getElem?_getD,hn]
  rw [e1,YR hty hlt]
 ·have e1 :∀z,(aB e l).set n z=aB e l:=fun z=>List.set_eq_of_length_le (by rw [dM];omega)
  rw [e1,e1]
theorem zh {e e':Ty} {l:List (Dt e)} {n c:Nat} {l':List (Dt e')} (hc:(gU e)[c]?=some (.sl e')):aB e (putRow e l n c (rY e' l'))=gX (aB e l) n c (P.dY (size e') (aB e' l')):=by
 have hlt:c<size e:=by have:=(List.getElem?_eq_some_iff.1 hc).1;rwa [iC] at this
 have:=DW (e:=e) (l:=l) (n:=n) (off:=c) (ps:=[rY e' l']) (by
  show [Ty.sl e']=((gU e).drop c).take 1
  have hlt':c<(gU e).length:=by rw [iC];exact hlt
  rw [List.drop_eq_getElem_cons hlt']
  rw [List.getElem?_eq_getElem hlt'] at hc
  simp only [Option.some.injEq] at hc
  rw [hc];rfl) (by simp only [List.length_singleton];omega)
 exact this
theorem ny {g:Nat} {a i:Bool} {e:Ty} {l:List (Dt e)} (h:lY o g=some ⟨a,i,e,l⟩):plainO (bg o) g=some (a,i,size e,aB e l)∧(bg o g).names=kF (o g):=by
 unfold lY at h
 cases ho:o g with
 |arr fz a' i' e' l'=>
  rw [ho] at h;cases h
  have:=fG ho
  exact ⟨by simp [plainO,this],by rw [this];rfl⟩
 |deep a0 i0 e0 cols l0 hole=>
  rw [ho] at h
  have hg:bg o g=.deep a0 i0 (size e0) (gB cols) (aB e0 l0) hole:=by simp [bg,ho,cZ]
  rcases hole with _ | ⟨n,c,d⟩
  ·cases h
   exact ⟨by simp [plainO,hg],by rw [hg];rfl⟩
  ·simp only at h
   cases hd:o d with
   |arr fz a' i' e' l'=>
    rw [hd] at h
    simp only at h
    split at h
    ·rename_i hc
     cases h
     obtain ⟨k1,k2,k3⟩:=r_ hc
     refine ⟨?_,by rw [hg];rfl⟩
     simp only [plainO,hg,fG hd]
     rw [if_pos ⟨k1,k3⟩,zh k2]
    ·cases h
   |_=>rw [hd] at h;cases h
 |_=>rw [ho] at h;cases h
theorem nC {e:Ty} {l:List (Dt e)} {t:Ty} {x:Dt t} (h:(rY e l).zL t=some x) :∃h:Ty.sl e=t,x=h▸l:=by
 have:=fC h
 unfold rY at this
 cases this
 exact ⟨rfl,rfl⟩
theorem Me {t:Ty} {x:TW} {y:Dt t} {a i:Bool} {gs:List Nat} (h:x.toP o t=some (y,a,i,gs)):(bf x).toP (bg o)=some (enc1 ⟨t,y⟩,a,i,gs):=by
 cases x with
 |p a' i' w=>
  simp only [TW.toP] at h
  split at h
  ·rename_i x hx
   simp only [Option.some.injEq,Prod.mk.injEq] at h
   obtain ⟨rfl,rfl,rfl,rfl⟩:=h
   rw [fC hx];rfl
  ·cases h
 |bD=>
  simp only [TW.toP] at h
  split at h
  ·simp only [Option.some.injEq,Prod.mk.injEq] at h
   obtain ⟨rfl,rfl,rfl,rfl⟩:=h
   rfl
  ·cases h
 |own g=>
  simp only [TW.toP] at h
  split at h
  ·rename_i a' i' e l hg
   split at h
   ·rename_i z hz
    simp only [Option.some.injEq,Prod.mk.injEq] at h
    obtain ⟨rfl,rfl,rfl,rfl⟩:=h
    rw [←fC hz]
    obtain ⟨k1,k2⟩:=ny hg
    simp only [bf,W.toP,k1,k2];rfl
   ·cases h
  ·cases h
 |vw g lo hi=>
  simp only [TW.toP] at h
  split at h
  ·rename_i a' i' e l hg
   split at h
   ·rename_i z hz
    simp only [Option.some.injEq,Prod.mk.injEq] at h
    obtain ⟨rfl,rfl,rfl,rfl⟩:=h
    rw [←fC hz]
    obtain ⟨k1,k2⟩:=ny hg
    simp only [bf,W.toP,k1,k2,qC];rfl
   ·cases h
  ·cases h
 |_=>simp [TW.toP] at h
theorem wC :∀{ts:List Ty} {xs:List TW} {ys:List Wd} {a i:Bool} {gs:List Nat},o8 o ts xs=some (ys,a,i,gs)→qL (bg o) (xs.map bf)=some (ys.map enc1,a,i,gs)∧ys.map (·.t)=ts
 | [],[],ys,a,i,gs,h=>by
  simp only [o8,Option.some.injEq,Prod.mk.injEq] at h
  obtain ⟨rfl,rfl,rfl,rfl⟩:=h
  exact ⟨rfl,rfl⟩
 | [],x::xs,ys,a,i,gs,h=>by simp [o8] at h
 |t::ts,[],ys,a,i,gs,h=>by simp [o8] at h
 |t::ts,x::xs,ys,a,i,gs,h=>by
  simp only [o8] at h
  split at h
  ·rename_i h1 h2
   simp only [Option.some.injEq,Prod.mk.injEq] at h
   obtain ⟨rfl,rfl,rfl,rfl⟩:=h
   obtain ⟨k1,k2⟩:=wC h2
   refine ⟨?_,by simp only [List.map_cons,k2]⟩
   simp only [List.map_cons,qL,Me h1,k1]
  ·cases h
def gu (l:List (Nat×TO)):List (Nat×O):=l.map fun p=>(p.1,cZ p.2)
def Pl (o:Nat→TO) (gs:List Nat):Prop :=∀g∈gs,∃p,lY o g=some p
theorem Pl.append {a b:List Nat} (h:Pl o a) (h':Pl o b):Pl o (a++b):=fun g hg=>by
 rcases List.mem_append.1 hg with x | x
 ·exact h g x
 ·exact h' g x
theorem Pl.nil:Pl o []:=fun g hg=>by cases hg
theorem JW {g:Nat} {p:TA} (h:lY o g=some p):Pl o (kF (o g)++[g]):=by
 refine Pl.append (fun d hd => ?_) (fun g' hg'=>by rw [List.mem_singleton] at hg';subst hg';exact ⟨p,h⟩)
 unfold lY at h
 cases ho:o g with
 |deep a i e cols l hole=>
  rw [ho] at h hd
  rcases hole with _ | ⟨n,c,d'⟩
  ·cases hd
  ·simp only [kF,List.mem_singleton] at hd
   subst hd
   simp only at h
   cases hod:o d with
   |arr fz a' i' e' l'=>exact ⟨⟨a',i',e',l'⟩,by simp only [lY,hod]⟩
   |_=>rw [hod] at h;cases h
 |_=>rw [ho] at hd;cases hd
theorem RU {t:Ty} {x:TW} {y:Dt t} {a i:Bool} {gs:List Nat} (h:x.toP o t=some (y,a,i,gs)):Pl o gs:=by
 cases x with
 |p a' i' w=>
  simp only [TW.toP] at h
  split at h
  ·simp only [Option.some.injEq,Prod.mk.injEq] at h;obtain ⟨_,_,_,rfl⟩:=h;exact Pl.nil
  ·cases h
 |bD=>
  simp only [TW.toP] at h
  split at h
  ·simp only [Option.some.injEq,Prod.mk.injEq] at h;obtain ⟨_,_,_,rfl⟩:=h;exact Pl.nil
  ·cases h
 |own g=>
  simp only [TW.toP] at h
  split at h
  ·rename_i hg
   split at h
   ·simp only [Option.some.injEq,Prod.mk.injEq] at h;obtain ⟨_,_,_,rfl⟩:=h;exact JW hg
   ·cases h
  ·cases h
 |vw g lo hi=>
  simp only [TW.toP] at h
  split at h
  ·rename_i hg
   split at h
   ·simp only [Option.some.injEq,Prod.mk.injEq] at h;obtain ⟨_,_,_,rfl⟩:=h;exact JW hg
   ·cases h
  ·cases h
 |_=>simp [TW.toP] at h
theorem MB :∀{ts:List Ty} {xs:List TW} {ys:List Wd} {a i:Bool} {gs:List Nat},o8 o ts xs=some (ys,a,i,gs)→Pl o gs
 | [],[],ys,a,i,gs,h=>by simp only [o8,Option.some.injEq,Prod.mk.injEq] at h;obtain ⟨_,_,_,rfl⟩:=h;exact Pl.nil
 | [],x::xs,ys,a,i,gs,h=>by simp [o8] at h
 |t::ts,[],ys,a,i,gs,h=>by simp [o8] at h
 |t::ts,x::xs,ys,a,i,gs,h=>by
  simp only [o8] at h
  split at h
  ·rename_i h1 h2
   simp only [Option.some.injEq,Prod.mk.injEq] at h
   obtain ⟨_,_,_,rfl⟩:=h
   exact (RU h1).append (MB h2)
  ·cases h
theorem G6 {g:Nat} (h :∃p,lY o g=some p):Fw.freeze (bg o) g=((j_ o g).1,cZ (j_ o g).2):=by
 obtain ⟨⟨a,i,e,l⟩,hp⟩:=h
 simp only [Fw.freeze,j_,hp,(ny hp).1];rfl
theorem nM {gs:List Nat} (h:Pl o gs):gs.map (Fw.freeze (bg o))=gu (gs.map (j_ o)):=by
 simp only [gu,List.map_map]
 exact List.map_congr_left fun g hg=>G6 (h g hg)
theorem su (x:TV):(iQ x).words=x.words.map bf:=by cases x<;>rfl
theorem sD (x:TV) (h:x.solid=true):(iQ x).solid=true:=by
 cases x with
 |one x=>cases x<;>first | rfl | (simp [TV.solid,TW.solid] at h)
 |agg xs=>rfl
theorem jS (agg:Bool) (ws:List TW):encS (TV.d_ agg ws)=V.d_ agg (ws.map bf):=by
 cases agg with
 |true=>rfl
 |false=>
  match ws with
  | []=>rfl
  | [x]=>rfl
  |x::y::ws=>rfl
theorem oq {α β:Type} (f:α→β) (l:List α) (off:Nat) (new:List α):(aF l off new).map f=aF (l.map f) off (new.map f):=by
 simp [aF,List.map_take,List.map_drop]
theorem Ar {place:Nat→Option (Nat×Nat)} :∀{ps:List (Nat×TS)} {ws r:List TW},Am place ws ps=some r→kK place (ws.map bf) (ps.map fun p=>(p.1,encS p.2))=some (r.map bf)
 | [],ws,r,h=>by simp only [Am,Option.some.injEq] at h;subst h;rfl
 |(n,.v x)::ps,ws,r,h=>by
  simp only [Am] at h
  split at h
  ·rename_i off size hp
   cases hb:(Nat.beq x.words.length size&&Nat.ble (off+size) ws.length&&x.solid) with
   |false=>rw [hb] at h;cases h
   |true=>
    rw [hb,cond_true] at h
    simp only [Bool.and_eq_true] at hb
    have h1:=Nat.eq_of_beq_eq_true hb.1.1
    have h2:=Nat.le_of_ble_eq_true hb.1.2
    have ih:=Ar h
    rw [oq] at ih
    simp only [List.map_cons,encS,kK,hp,su,List.length_map]
    rw [if_pos ⟨h1,h2,sD x hb.2⟩]
    exact ih
  ·cases h
 |(n,.kC xs)::ps,ws,r,h=>by simp [Am] at h
 |(n,.no)::ps,ws,r,h=>by simp [Am] at h
theorem abR (sz:Nat) (l:List (List P)):(P.dY sz l).QO sz:=by cases l<;>simp [P.dY,P.QO]
theorem G7 (e:Ty) (l:List (Dt e)):(enc1 ⟨.sl e,l⟩).QO (size e):=abR _ _
theorem OZ {e:Ty} {x:TW} {l:List (Dt e)} {a i:Bool} (h:x.rows o e=some (l,a,i)) :∃ask,(bf x).rows (bg o) (size e)=some (ask,aB e l,a,i)∧ask:=by
 cases x with
 |p a' i' w=>
  simp only [TW.rows] at h
  split at h
  ·rename_i y hy
   simp only [Option.some.injEq,Prod.mk.injEq] at h
   obtain ⟨rfl,rfl,rfl⟩:=h
   rw [fC hy]
   exact ⟨(enc1 ⟨.sl e,l⟩).QO (size e),by simp only [bf,W.rows,h_],G7 _ _⟩
  ·cases h
 |bD=>
  simp only [TW.rows,Option.some.injEq,Prod.mk.injEq] at h
  obtain ⟨rfl,rfl,rfl⟩:=h
  exact ⟨_,rfl,trivial⟩
 |own g=>
  simp only [TW.rows] at h
  split at h
  ·rename_i fz a' i' e' l' hg
   split at h
   ·rename_i z hz
    simp only [Option.some.injEq,Prod.mk.injEq] at h
    obtain ⟨rfl,rfl,rfl⟩:=h
    obtain ⟨he,hz⟩:=nC hz
    cases he
    subst hz
    exact ⟨True,by simp only [bf,W.rows,fG hg,if_true],trivial⟩
   ·cases h
  ·cases h
 |vw g lo hi=>
  simp only [TW.rows] at h
  split at h
  ·rename_i fz a' i' e' l' hg
   split at h
   ·rename_i z hz
    simp only [Option.some.injEq,Prod.mk.injEq] at h
    obtain ⟨rfl,rfl,rfl⟩:=h
    obtain ⟨he,hz⟩:=nC hz
    cases he
    subst hz
    exact ⟨True,by simp only [bf,W.rows,fG hg,if_true,qC],trivial⟩
   ·cases h
  ·cases h
 |_=>simp [TW.rows] at h
theorem RV (sz:Nat) (l:List (List P)):(P.dY sz l).isSlice:=by cases l<;>simp [P.dY,P.isSlice]
theorem afF (sz:Nat) (l:List (List P)):(P.dY sz l).len=.int .i64 l.length:=by cases l<;>rfl
theorem abS (e:Ty) (l:List (Dt e)):(enc1 ⟨.sl e,l⟩).len=.int .i64 l.length:=by rw [EY,afF,dM]
theorem Uz {x:TW} {n:Int} (h:OX o x=some n) :∃ask,lenOf (bg o) (bf x)=some (ask,.int .i64 n)∧ask:=by
 cases x with
 |p a i w=>
  obtain ⟨t,x⟩:=w
  cases t<;>simp only [OX] at h<;>try (cases h;done)
  rename_i e
  simp only [Option.some.injEq] at h;subst h
  refine ⟨(enc1 ⟨.sl e,x⟩).isSlice,?_,RV _ _⟩
  have e1:(enc1 ⟨.sl e,x⟩).len=.int .i64 (List.length (α:=Dt e) x):=abS e x
  simp only [bf,lenOf]
  rw [e1]
 |bD=>simp only [OX,Option.some.injEq] at h;subst h;exact ⟨_,rfl,trivial⟩
 |own g=>
  simp only [OX] at h
  split at h
  ·rename_i hg
   simp only [Option.some.injEq] at h;subst h
   exact ⟨True,by simp only [bf,lenOf,nK hg],trivial⟩
  ·cases h
 |vw g lo hi=>
  simp only [OX] at h
  split at h
  ·rename_i hg
   simp only [Option.some.injEq] at h;subst h
   rename_i x
   obtain ⟨e,n⟩:=x
   exact ⟨True,by simp only [bf,lenOf,nK hg,P.nat,P.num],trivial⟩
  ·cases h
 |_=>simp [OX] at h
theorem G8 {x:TW} (h:x.live o=true):(bf x).live (bg o)=true:=by
 cases x with
 |box g off=>
  simp only [TW.live] at h
  split at h
  ·rename_i hg;simp only [bf,W.live,ni hg]
  ·cases h
 |ep g n off=>
  simp only [TW.live] at h
  split at h
  ·rename_i x hg
   obtain ⟨e,n⟩:=x
   simp only [bf,W.live,nK hg];rfl
  ·cases h
 |sp=>rfl
 |_=>simp [TW.live] at h
theorem JX (n:Nat) (x:TW):bf (x.shift n)=(bf x).shift n:=by cases x<;>simp [TW.shift,bf,W.shift]
theorem YS (v:Value):bf (WR v)=cv v:=by
 unfold WR
 split
 ·rfl
 ·rfl
 ·rfl
 ·rfl
 ·rename_i x h1 h2 h3 h4
  show W.p false false (P.opq v)=cv v
  unfold cv
  split
  ·exact (h1 _ _ rfl).elim
  ·exact (h2 _ rfl).elim
  ·exact (h3 _ rfl).elim
  ·exact (h4 rfl).elim
  ·rfl
theorem qE (l:List Value):(l.map WR).map bf=l.map cv:=by
 rw [List.map_map];exact List.map_congr_left fun v _=>YS v
theorem WV (v:Value):encS (RP v)=sU v:=by
 unfold RP
 split
 ·rename_i cs
  unfold sU
  have e:(cs.toList.map WR).map bf=cs.toList.map cv:=qE _
  cases h:cs.toList.all Value.oneCell'
  ·simp only [h,cond_false,Bool.false_eq_true,if_false];rfl
  ·simp only [h,cond_true,if_true,encS,iQ,e]
 ·rfl
 ·simp only [encS,iQ,bf,lX];rfl
 ·rename_i x h1 h2 h3
  have e:sU v=if v.oneCell'=true then .v (.one (cv v)) else .no:=by
   unfold sU
   split
   ·exact (h1 _ rfl).elim
   ·exact (h2 _ rfl).elim
   ·exact (h3 _ rfl).elim
   ·rfl
  rw [e]
  cases h:v.oneCell'
  ·simp only [cond_false,Bool.false_eq_true,if_false];rfl
  ·simp only [cond_true,if_true,encS,iQ,YS]
theorem lZ (st:jf) (x:Operand):(aI st).bZ x=encS (st.bZ x):=by
 cases x with
 |tmp t=>rfl
 |const v=>exact (WV v).symm
 |func f=>simp [St.bZ,jf.bZ,encS,iQ,bf,lX]
 |global g=>
  simp only [Fw.St.bZ,jf.bZ,aeJ]
  cases RE.G g<;>rfl
end
end Go.Fg

namespace Go.Fg
open Go.Fw
set_option linter.unusedVariables false
set_option linter.unusedSectionVars false
set_option linter.unusedSimpArgs false
section
variable [RE] {o:Nat→TO} {tt:TT} {ety:TypeId→Option Ty} {d:Nat} {f:Operand→TS} {ty:TypeId}
structure dU (r:qg) (r':EK):Prop where
 pre:r.pre=true→r'.pre
 dst:r'.dst r'.val=encS (r.dst r.val)
 upd:r'.upd r'.val=gu (r.upd r.val)
 new:r'.new=r.new
def fD (tt:TT) (ety:TypeId→Option Ty) (d:Nat) (o:Nat→TO) (f:Operand→TS) (op:Op) (ty:TypeId):Prop:=
 ∀r,bV tt ety d o f op ty=some r→∃r',kernel tt d (bg o) (fun x=>encS (f x)) op ty=some r'∧dU r r'
def ahZ (r:qg) (r':EK):Prop:=(r.pre=true→dU r r')∧r'.new=r.new
theorem dU.toC {r:qg} {r':EK} (h:dU r r'):ahZ r r':=⟨fun _=>h,h.new⟩
def YT (tt:TT) (ety:TypeId→Option Ty) (d:Nat) (o:Nat→TO) (f:Operand→TS) (op:Op) (ty:TypeId):Prop:=
 ∀r,bV tt ety d o f op ty=some r→∃r',kernel tt d (bg o) (fun x=>encS (f x)) op ty=some r'∧ahZ r r'
theorem fD.toC {tt:TT} {ety:TypeId→Option Ty} {d:Nat} {o:Nat→TO} {f:Operand→TS} {op:Op} {ty:TypeId} (h:fD tt ety d o f op ty):YT tt ety d o f op ty:=fun r hr=>
 let ⟨r',h1,h2⟩:=h r hr
 ⟨r',h1,h2.toC⟩
theorem dU.pure (x:TS):dU (.pure x) (.pure (encS x)):=⟨fun _=>trivial,rfl,rfl,rfl⟩
theorem MC {x:TS} (h:encS x=.no):x=.no:=by cases x<;>first | rfl | cases h
theorem abT (x:Operand):fD tt ety d o f (.move x) ty:=by
 intro r h
 simp only [bV] at h
 split at h
 ·cases h
 ·rename_i s hs
  simp only [Option.some.injEq] at h;subst h
  refine ⟨.pure (encS (f x)),?_,dU.pure _⟩
  simp only [kernel]
  split
  ·rename_i e;exact (hs (MC e)).elim
  ·rfl
theorem WW (x:Operand):fD tt ety d o f (.assign x) ty:=by
 intro r h
 simp only [bV] at h
 split at h
 ·cases h
 ·rename_i s hs
  simp only [Option.some.injEq] at h;subst h
  refine ⟨.pure (encS (f x)),?_,dU.pure _⟩
  simp only [kernel]
  split
  ·rename_i e;exact (hs (MC e)).elim
  ·rfl
theorem YU {x:TS} {a i:Bool} {y:P} (h:encS x=.v (.one (.p a i y))) :∃w,x=.v (.one (.p a i w))∧enc1 w=y:=by
 cases x with
 |v x=>cases x with
  |one x=>cases x<;>simp [encS,iQ,bf] at h<;>exact ⟨_,by rw [h.1,h.2.1],h.2.2⟩
  |agg xs=>cases h
 |_=>cases h
theorem YV (b:Bool):enc1 ⟨.bool,b⟩=.bool b:=rfl
theorem abU (c x y:Operand):fD tt ety d o f (.pick c x y) ty:=by
 intro r h
 simp only [bV] at h
 split at h
 ·rename_i a0 i0 b hc
  change Bool at b
  have hc':encS (f c)=.v (.one (.p a0 i0 (.bool b))):=by rw [hc];rfl
  split at h
  ·rename_i a i w a' i' w' hx hy
   split at h
   ·rename_i z hz
    simp only [Option.some.injEq] at h;subst h
    have hx':encS (f x)=.v (.one (.p a i (enc1 w))):=by rw [hx];rfl
    have hy':encS (f y)=.v (.one (.p a' i' (enc1 w'))):=by rw [hy];rfl
    simp only [kernel,hc',hx',hy']
    refine ⟨_,rfl,⟨fun _=>trivial,?_,rfl,rfl⟩⟩
    have e:=fC hz
    rw [e]
    cases b<;>rfl
   ·cases h
  ·rename_i hno
   have eb:(bif b then encS (f x) else encS (f y))=encS (bif b then f x else f y):=by cases b<;>rfl
   split at h
   ·cases h
   ·rename_i s hs
    simp only [Option.some.injEq] at h;subst h
    refine ⟨.pure (encS (bif b then f x else f y)),?_,dU.pure _⟩
    simp only [kernel,hc']
    split
    ·rename_i a1 i1 x1 a2 i2 y1 h1 h2
     obtain ⟨w1,e1,_⟩:=YU h1
     obtain ⟨w2,e2,_⟩:=YU h2
     exact (hno _ _ _ _ _ _ e1 e2).elim
    ·rw [eb]
     split
     ·rename_i e;exact (hs (MC e)).elim
     ·rfl
 ·cases h
theorem aW {α:Type} {b:Bool} {x:Option α} {y:α} (h:(bif b then x else none)=some y):b=true∧x=some y:=by
 cases b
 ·cases h
 ·exact ⟨rfl,h⟩
theorem YW (t:TypeId):fD tt ety d o f (.alloc t) ty:=by
 intro r h
 simp only [bV] at h
 split at h
 ·rename_i i hi
  simp only [Option.some.injEq] at h;subst h
  simp only [kernel,hi]
  refine ⟨_,rfl,⟨fun _=>trivial,rfl,?_,rfl⟩⟩
  simp only [gu,List.map_cons,List.map_nil,cZ,qE]
 ·cases h
theorem afG (t:TypeId) (x:Operand):fD tt ety d o f (.box t x) ty:=by
 intro r h
 simp only [bV] at h
 split at h
 ·rename_i i x' hi hx
  obtain ⟨hb,h⟩:=aW h
  simp only [Option.some.injEq] at h;subst h
  simp only [Bool.and_eq_true] at hb
  simp only [kernel,hi,hx,encS,su,List.length_map]
  rw [if_pos ⟨Nat.eq_of_beq_eq_true hb.1,sD _ hb.2⟩]
  exact ⟨_,rfl,⟨fun _=>trivial,rfl,rfl,rfl⟩⟩
 ·cases h
theorem BX (ps:List (Nat×Operand)):(ps.map fun p=>(p.1,encS (f p.2)))=(ps.map fun p=>(p.1,f p.2)).map fun p=>(p.1,encS p.2):=by
 rw [List.map_map];rfl
theorem YX (t:TypeId) (ps:Array (Nat×Operand)):fD tt ety d o f (.build t ps) ty:=by
 intro r h
 simp only [bV] at h
 split at h
 ·rename_i i hi
  obtain ⟨hb,h⟩:=aW h
  split at h
  ·rename_i ws hw
   simp only [Option.some.injEq] at h;subst h
   have:=Ar hw
   rw [qE] at this
   simp only [kernel,hi,hb,if_true,BX,this]
   exact ⟨_,rfl,dU.pure _⟩
  ·cases h
 ·cases h
theorem G9 {α β:Type} (g:α→β) (l:List α) :∀n,(GZ l n).map g=dV (l.map g) n
 |0=>rfl
 |n+1=>by simp [GZ,dV,G9 g l n]
theorem zi (e:Ty) :∀(n:Nat) (ws:List Wd),ws.map (·.t)=GZ (gU e) n→aB e (Aq e n ws)=chunks (size e) n (ws.map enc1)
 |0,ws,h=>rfl
 |n+1,ws,h=>by
  have h1:(ws.take (size e)).map (·.t)=gU e:=by
   rw [List.map_take,h,GZ,←iC,List.take_left]
  have h2:(ws.drop (size e)).map (·.t)=GZ (gU e) n:=by
   rw [List.map_drop,h,GZ,←iC,List.drop_left]
  simp only [Aq,aB,List.map_cons,chunks]
  rw [qB h1,List.map_take]
  congr 1
  rw [←List.map_drop]
  exact zi e n _ h2
theorem jT (a b:List (Nat×TO)):gu (a++b)=gu a++gu b:=by simp [gu]
theorem Jo (t:TypeId) (n:Nat) (ps:Array (Nat×Operand)):fD tt ety d o f (.buildSlice t n ps) ty:=by
 intro r h
 simp only [bV] at h
 split at h
 ·rename_i e i1 i2 i3 ht
  split at h
  ·rename_i ie et he het
   split at h
   ·rename_i ws hw
    split at h
    ·rename_i qs a i gs hp
     obtain ⟨hb,h⟩:=aW h
     simp only [Option.some.injEq] at h;subst h
     simp only [Bool.and_eq_true] at hb
     have hsz:=Nat.eq_of_beq_eq_true hb.2
     have:=Ar hw
     rw [G9,qE] at this
     obtain ⟨k1,k2⟩:=wC hp
     simp only [kernel,ht,he,BX,this,k1]
     rw [if_pos (Nat.le_of_ble_eq_true hb.1)]
     refine ⟨_,rfl,⟨fun _=>trivial,rfl,?_,rfl⟩⟩
     simp only [jT,←nM (MB hp)]
     congr 1
     simp only [P.list,gu,List.map_cons,List.map_nil,cZ,zi et n qs k2,hsz]
    ·cases h
   ·cases h
  ·cases h
 ·cases h
end
end Go.Fg

namespace Go.Fg
open Go.Fw
set_option linter.unusedVariables false
set_option linter.unusedSectionVars false
set_option linter.unusedSimpArgs false
section
variable [RE] {o:Nat→TO} {tt:TT} {ety:TypeId→Option Ty} {d:Nat} {f:Operand→TS} {ty:TypeId}
theorem fA {a b:Bool} (h:(a&&b)=true):a=true∧b=true:=by simpa using h
theorem abV (a i:Bool) (ws:List Wd):(tpw a i ws).map bf=ws.map fun w=>W.p a i (enc1 w):=by
 simp only [tpw,List.map_map];rfl
theorem wE (e:Ty) (x:Dt e) (a i:Bool) (off n:Nat) (h:off+n≤size e) (df:Nat→P) :
  ((List.range n).map fun j=>W.p a i ((iZ e x).getD (off+j) (df j)))=(tpw a i (((dN e x).drop off).take n)).map bf:=by
 rw [abV,eX]
 apply List.ext_getElem?
 intro j
 simp only [List.getElem?_map,List.getElem?_take,List.getElem?_drop]
 by_cases hj:j<n
 ·have hlt:off+j<(dN e x).length:=by rw [oH];omega
  rw [List.getElem?_range hj,if_pos hj]
  simp [List.getD_eq_getElem?_getD,List.getElem?_eq_getElem hlt]
 ·rw [List.getElem?_eq_none (by simp;omega),if_neg hj];rfl
theorem G_ {n:Nat} (h:Nat.blt 0 n=true):0<n:=Nat.le_of_ble_eq_true h
theorem YZ {w:Wd} {v:Value} (h:YP w v=true):enc1 w=QS [v] 0:=by
 unfold YP at h
 split at h
 ·rename_i k n k' n'
  change Int at n
  simp only [Bool.and_eq_true,eqI,decide_eq_true_eq] at h
  obtain ⟨h1,h2⟩:=h
  cases hk:YN k k' with
  |none=>rw [hk] at h1;cases h1
  |some p=>have e:=p.down;subst e;subst h2;rfl
 ·rename_i b b'
  change Bool at b
  have h:b=b':=LawfulBEq.eq_of_beq h
  subst h;rfl
 ·rename_i s s'
  change List UInt8 at s
  simp only [Bool.and_eq_true,List.isEmpty_iff] at h
  obtain ⟨h1,h2⟩:=h
  subst h1
  obtain ⟨⟨l⟩⟩:=s'
  simp only at h2
  subst h2
  rfl
 ·rename_i e l
  change List (Dt e) at l
  have hl:l=[]:=by simpa using h
  subst hl;rfl
 ·cases h
theorem BZ :∀{ws:List Wd} {vs:List Value},rE ws vs=true→∀j,(ws.map enc1)[j]?=if j<vs.length then some (QS vs j) else none
 | [],[],h,j=>by simp
 |w::ws,[],h,j=>by simp [rE] at h
 | [],v::vs,h,j=>by simp [rE] at h
 |w::ws,v::vs,h,j=>by
  obtain ⟨h1,h2⟩:=fA h
  cases j with
  |zero=>simp only [List.map_cons,List.getElem?_cons_zero,List.length_cons,Nat.zero_lt_succ,if_true,YZ h1];rfl
  |succ j=>
   have:=BZ h2 j
   simp only [List.map_cons,List.getElem?_cons_succ,List.length_cons,this,Nat.succ_lt_succ_iff]
   rfl
theorem MF (e:Ty) (l:List (Dt e)) (n off size':Nat) (z:List Value) (h:off+size'≤size e) (hz:rE (((dN e (dflt e)).drop off).take size') z=true) (a i:Bool) :
  ((List.range size').map fun j=>W.p a i (((aB e l).getD n []).getD (off+j) (QS z j)))=(tpw a i (((dN e (l.getD n (dflt e))).drop off).take size')).map bf:=by
 by_cases hn:n<l.length
 ·have e1:(aB e l).getD n []=iZ e (l.getD n (dflt e)):=by simp [aB,List.getD_eq_getElem?_getD,hn]
  rw [e1]
  exact wE e _ a i off size' h _
 ·have e1:(aB e l).getD n []=[]:=by simp [aB,List.getD_eq_getElem?_getD,List.getElem?_eq_none (Nat.le_of_not_lt hn)]
  have e2:l.getD n (dflt e)=dflt e:=by simp [List.getD_eq_getElem?_getD,List.getElem?_eq_none (Nat.le_of_not_lt hn)]
  rw [e1,e2,←wE e _ a i off size' h (QS z)]
  refine List.map_congr_left fun j hj => ?_
  have hj:j<size':=List.mem_range.1 hj
  have:=BZ hz j
  rw [List.map_take,List.map_drop,List.getElem?_take,if_pos hj,List.getElem?_drop,←eX] at this
  have hlen:off+j<(iZ e (dflt e)).length:=by rw [GX];omega
  rw [List.getD_eq_getElem?_getD,List.getD_eq_getElem?_getD,this]
  split
  ·rfl
  ·rfl
theorem abW (t:TypeId) (x:Operand):fD tt ety d o f (.load t x) ty:=by
 intro r h
 simp only [bV] at h
 split at h
 ·rename_i i g off ht hx
  have hx':encS (f x)=.v (.one (.box g off)):=by rw [hx];rfl
  split at h
  ·rename_i ws hg
   obtain ⟨hb,h⟩:=aW h
   simp only [Option.some.injEq] at h;subst h
   obtain ⟨h1,h2⟩:=fA hb
   simp only [kernel,ht,hx',ni hg,List.length_map]
   rw [if_pos ⟨Nat.le_of_ble_eq_true h1,G_ h2⟩]
   refine ⟨_,rfl,?_⟩
   have:=dU.pure (TV.d_ i.agg ((ws.drop off).take i.size))
   rw [jS,List.map_take,List.map_drop] at this
   exact this
  ·cases h
 ·rename_i i g n off ht hx
  have hx':encS (f x)=.v (.one (.ep g (.int .i64 n) off)):=by rw [hx];rfl
  split at h
  ·rename_i fz a i' e l hg
   obtain ⟨hb,h⟩:=aW h
   simp only [Option.some.injEq] at h;subst h
   obtain ⟨hb,h3⟩:=fA hb
   obtain ⟨h1,h2⟩:=fA hb
   have h1:=Nat.le_of_ble_eq_true h1
   simp only [kernel,ht,hx',fG hg]
   rw [if_pos ⟨h1,G_ h2⟩]
   refine ⟨_,rfl,⟨fun _=>trivial,?_,rfl,rfl⟩⟩
   simp only [EK.pure,jS]
   congr 1
   have en:(P.int .i64 n).nat=n.toNat:=rfl
   rw [en]
   exact MF e l n.toNat off i.size i.zero h1 h3 a i'
  ·cases h
 ·rename_i i a i' e x' off ht hx
  have hx':encS (f x)=.v (.one (.sp a i' (iZ e x') off)):=by rw [hx];rfl
  obtain ⟨hb,h⟩:=aW h
  simp only [Option.some.injEq] at h;subst h
  obtain ⟨h1,h2⟩:=fA hb
  have h2:=Nat.le_of_ble_eq_true h2
  simp only [kernel,ht,hx']
  rw [if_pos (G_ h1)]
  refine ⟨_,rfl,⟨fun _=>by rw [GX];exact h2,?_,rfl,rfl⟩⟩
  simp only [qg.pure,jS]
  congr 1
  exact wE e x' a i' off i.size h2 fun _=>default
 ·cases h
theorem aX (g:Nat) :∀(l:List Nat),dS g l=l.contains g
 | []=>rfl
 |x::xs=>by
  simp only [dS,List.contains_cons,aX g xs]
  congr 1
  rw [Bool.eq_iff_iff];simp
theorem abX (e:Ty) (l:List (Dt e)) (n:Nat) (x:Dt e):aB e (l.set n x)=(aB e l).set n (iZ e x):=by simp [aB,List.map_set]
theorem Y0 (t:TypeId) (x y:Operand):fD tt ety d o f (.store t x y) ty:=by
 intro r h
 simp only [bV] at h
 split at h
 ·rename_i i g off y' ht hx hy
  have hx':encS (f x)=.v (.one (.box g off)):=by rw [hx];rfl
  have hy':encS (f y)=.v (iQ y'):=by rw [hy];rfl
  split at h
  ·rename_i ws hg
   obtain ⟨hb,h⟩:=aW h
   simp only [Option.some.injEq] at h;subst h
   obtain ⟨hb,h3⟩:=fA hb
   obtain ⟨h1,h2⟩:=fA hb
   simp only [kernel,ht,hx',hy',ni hg,List.length_map,su]
   rw [if_pos ⟨Nat.le_of_ble_eq_true h1,Nat.eq_of_beq_eq_true h2,sD _ h3⟩]
   refine ⟨_,rfl,⟨fun _=>trivial,rfl,?_,rfl⟩⟩
   simp only [gu,List.map_cons,List.map_nil,cZ,oq]
  ·cases h
 ·rename_i i g n off y' ht hx hy
  have hx':encS (f x)=.v (.one (.ep g (.int .i64 n) off)):=by rw [hx];rfl
  have hy':encS (f y)=.v (iQ y'):=by rw [hy];rfl
  split at h
  ·rename_i a i' e l hg
   split at h
   ·rename_i ps a' i'' gs hp
    obtain ⟨hb,h⟩:=aW h
    simp only [Option.some.injEq] at h;subst h
    obtain ⟨hb,h4⟩:=fA hb
    obtain ⟨hb,h3⟩:=fA hb
    obtain ⟨h1,h2⟩:=fA hb
    have h1:=Nat.le_of_ble_eq_true h1
    have h2:=Nat.eq_of_beq_eq_true h2
    obtain ⟨k1,k2⟩:=wC hp
    have hl:ps.length=i.size:=by
     have:=congrArg List.length k2
     simp [iC] at this
     omega
    simp only [kernel,ht,hx',hy',fG hg,su,k1,List.length_map]
    rw [if_pos ⟨h1,hl,h2,sD _ h3,by simpa [aX] using h4⟩]
    refine ⟨_,rfl,⟨fun _=>trivial,rfl,?_,rfl⟩⟩
    simp only [jT,←nM (MB hp)]
    congr 1
    simp only [P.list,gu,List.map_cons,List.map_nil,cZ,abX]
    have en:(P.int .i64 n).nat=n.toNat:=rfl
    rw [en]
    by_cases hn:n.toNat<l.length
    ·have e1:(aB e l).getD n.toNat []=iZ e (l.getD n.toNat (dflt e)):=by simp [aB,List.getD_eq_getElem?_getD,hn]
     have hty:(aF (dN e (l.getD n.toNat (dflt e))) off ps).map (·.t)=gU e:=by
      have e0:gU e=(gU e).take off++(((gU e).drop off).take i.size++(gU e).drop (off+i.size)):=by
       rw [←List.drop_drop,List.take_append_drop,List.take_append_drop]
      simp only [aF,List.map_append,List.map_take,List.map_drop,o7,k2,hl,List.append_assoc]
      exact e0.symm
     have key:iZ e (Jl e (Nat.beq i.size (size e)) (l.getD n.toNat (dflt e)) off ps)=aF ((aB e l).getD n.toNat []) off (ps.map enc1):=by
      rw [e1]
      unfold Jl
      cases hc:Nat.beq i.size (size e) with
      |true=>
       have hc:=Nat.eq_of_beq_eq_true hc
       have h0:off=0:=by omega
       subst h0
       have e2:aF (dN e (l.getD n.toNat (dflt e))) 0 ps=ps:=by
        simp only [aF,List.take_zero,List.nil_append,Nat.zero_add]
        rw [List.drop_of_length_le (by rw [oH];omega),List.append_nil]
       have e3:aF (iZ e (l.getD n.toNat (dflt e))) 0 (ps.map enc1)=ps.map enc1:=by
        rw [eX,←oq,e2]
       rw [e2] at hty
       rw [e3]
       exact qB hty
      |false=>
       simp only
       rw [qB hty,oq,←eX]
     rw [key]
    ·have e1 :∀z,(aB e l).set n.toNat z=aB e l:=fun z=>List.set_eq_of_length_le (by rw [dM];omega)
     rw [e1,e1]
   ·cases h
  ·cases h
 ·cases h
theorem O1 (x:Operand):fD tt ety d o f (.nilCheck x) ty:=by
 intro r h
 simp only [bV] at h
 split at h
 ·rename_i x' hx
  obtain ⟨hb,h⟩:=aW h
  simp only [Option.some.injEq] at h;subst h
  have hx':encS (f x)=.v (.one (bf x')):=by rw [hx];rfl
  simp only [kernel,hx']
  rw [if_pos (G8 hb)]
  exact ⟨_,rfl,dU.pure _⟩
 ·cases h
theorem RX {op:BinOp} {k k':IntKind} {a b:Int} {c:Bool×Wd} (h:RQ op k k' a b=some c):(c.1=true→P.NQ op (.int k a) (.int k' b))∧P.bin op (.int k a) (.int k' b)=enc1 c.2:=by
 unfold RQ at h
 cases op<;>simp only at h
 case shl=>simp only [Option.some.injEq] at h;subst h;exact ⟨fun h=>(by simpa using h:0≤b),rfl⟩
 case shr=>simp only [Option.some.injEq] at h;subst h;exact ⟨fun h=>(by simpa using h:0≤b),rfl⟩
 all_goals
  split at h
  ·cases h
  ·rename_i p hp
   obtain ⟨e⟩:=p
   subst e
   simp only [Option.some.injEq] at h
   first
    |(cases h;done)
    |(
      
      subst h
      refine ⟨fun h => ?_,?_⟩
      ·first
       |exact rfl
       |(simp at h;exact ⟨rfl,h⟩)
      ·first
       |rfl
       |(simp only [P.bin,gI,YV];congr 1))
theorem WX (a b:List UInt8):(⟨a.toArray⟩++⟨b.toArray⟩:ByteArray)=⟨(a++b).toArray⟩:=by
 apply ByteArray.ext;simp [ByteArray.data_append]
theorem B_ (a:List UInt8):(⟨a.toArray⟩:ByteArray).toList=a:=by rw [ByteArray.toList_eq]
theorem RY {op:BinOp} {a b:List UInt8} {c:Bool×Wd} (h:RS op a b=some c):(c.1=true→P.NQ op (.str ⟨a.toArray⟩) (.str ⟨b.toArray⟩))∧P.bin op (.str ⟨a.toArray⟩) (.str ⟨b.toArray⟩)=enc1 c.2:=by
 unfold RS at h
 cases op<;>simp only [Option.some.injEq] at h<;>try (cases h;done)
 all_goals subst h
 case add=>
  refine ⟨fun h => ?_,?_⟩
  ·simp only [m_] at h
   show a.toArray.size+b.toArray.size≤_
   simp only [List.size_toArray];omega
  ·simp only [P.bin,WX];rfl
 all_goals exact ⟨fun _=>trivial,by simp only [P.bin,B_];rfl⟩
theorem O4 {op:BinOp} {a b:Bool} {c:Bool×Wd} (h:L_ op a b=some c):(c.1=true→P.KT op (.bool a) (.bool b))∧P.bin op (.bool a) (.bool b)=enc1 c.2:=by
 unfold L_ at h
 cases op<;>simp only [Option.some.injEq] at h<;>try (cases h;done)
 all_goals subst h
 ·exact ⟨fun _=>.inl rfl,rfl⟩
 ·exact ⟨fun _=>.inr rfl,rfl⟩
theorem dU.ng {c:Bool×Wd} {pre:Prop} {x:P} (h:c.1=true→pre) (hx:x=enc1 c.2):dU (.ng c) (.calc pre x):=by
 subst hx
 obtain ⟨c1,t,y⟩:=c
 exact ⟨h,rfl,rfl,rfl⟩
theorem abY (a b:List UInt8):P.eqB (.str ⟨a.toArray⟩) (.str ⟨b.toArray⟩)=(a==b):=by
 show ((⟨a.toArray⟩:ByteArray)==⟨b.toArray⟩)=_
 rw [beq_toListBytes,B_,B_]
theorem Y1 {k:TK} {x y:Wd} {b:Bool} (h:afE k x y=some b):Ud k (enc1 x) (enc1 y)∧P.eqB (enc1 x) (enc1 y)=b:=by
 unfold afE at h
 split at h
 ·unfold aeK at h
  split at h
  ·rename_i p hp
   obtain ⟨e⟩:=p
   subst e
   simp only [Option.some.injEq] at h;subst h
   exact ⟨rfl,rfl⟩
  ·cases h
 ·rename_i a b'
  simp only [eqStr,Option.some.injEq] at h;subst h
  exact ⟨trivial,abY a b'⟩
 ·simp only [ahY,Option.some.injEq] at h;subst h
  exact ⟨trivial,rfl⟩
 ·cases h
theorem O5 {tt:TT} :∀(fs:List (Nat×TypeId)) (n:Nat) (xs ys:List TW) (b:Bool),EO tt n fs xs ys=some b→∃c,lJ tt n fs (xs.map bf) (ys.map bf)=some c∧c.1∧c.2=b
 | [],n,[],[],b,h=>by
  simp only [EO,Option.some.injEq] at h;subst h
  exact ⟨(True,true),rfl,trivial,rfl⟩
 |(off,t)::fs,n,x::xs,y::ys,b,h=>by
  cases x with
  |p a1 i1 x=>cases y with
   |p a2 i2 y=>
    simp only [EO] at h
    split at h
    ·rename_i i hi
     cases hb:(Nat.beq off n&&i.k.flat&&Nat.beq i.size 1) with
     |false=>rw [hb] at h;cases h
     |true=>
      rw [hb] at h
      simp only [cond_true] at h
      split at h
      ·rename_i b1 b2 h1 h2
       simp only [Option.some.injEq] at h;subst h
       obtain ⟨c,e1,e2,e3⟩:=O5 fs (n+1) xs ys b2 h2
       obtain ⟨q1,q2⟩:=Y1 h1
       simp only [Bool.and_eq_true] at hb
       have hoff:off=n∧i.k.flat=true∧i.size=1:=⟨Nat.eq_of_beq_eq_true hb.1.1,hb.1.2,Nat.eq_of_beq_eq_true hb.2⟩
       refine ⟨(Ud i.k (enc1 x) (enc1 y)∧c.1,P.eqB (enc1 x) (enc1 y)&&c.2),?_,⟨q1,e2⟩,by rw [q2,e3]⟩
       simp only [List.map_cons,bf,lJ,hi]
       rw [if_pos hoff,e1]
      ·cases h
    ·cases h
   |_=>simp [EO] at h
  |_=>simp [EO] at h
 | [],n,_::_,_,b,h=>by simp [EO] at h
 | [],n,[],_::_,b,h=>by simp [EO] at h
 |_::_,n,[],_,b,h=>by simp [EO] at h
 |_::_,n,x::xs,[],b,h=>by cases x<;>simp [EO] at h
theorem Y2 (op:BinOp) (t:TypeId) (x y:Operand) (u:TypeId):fD tt ety d o f (.binOp op t x y u) ty:=by
 intro r h
 simp only [bV] at h
 split at h
 ·rename_i a1 i1 x' a2 i2 y' hx hy
  have hx':encS (f x)=.v (.one (.p a1 i1 (enc1 x'))):=by rw [hx];rfl
  have hy':encS (f y)=.v (.one (.p a2 i2 (enc1 y'))):=by rw [hy];rfl
  split at h
  ·rename_i i ht
   split at h
   ·rename_i c hc
    simp only [Option.some.injEq] at h;subst h
    obtain ⟨ik,isz,ib,iz⟩:=i
    simp only at hc
    unfold ahX at hc
    split at hc
    ·obtain ⟨k1,k2⟩:=RX hc
     simp only [kernel,hx',hy',ht]
     exact ⟨_,rfl,dU.ng k1 k2⟩
    ·obtain ⟨k1,k2⟩:=RY hc
     simp only [kernel,hx',hy',ht]
     exact ⟨_,rfl,dU.ng k1 k2⟩
    ·obtain ⟨k1,k2⟩:=O4 hc
     simp only [kernel,hx',hy',ht]
     exact ⟨_,rfl,dU.ng k1 k2⟩
    ·cases hc
   ·cases h
  ·cases h
 ·rename_i xs ys hx hy
  have hx':encS (f x)=.v (.agg (xs.map bf)):=by rw [hx];rfl
  have hy':encS (f y)=.v (.agg (ys.map bf)):=by rw [hy];rfl
  split at h
  ·rename_i i ht
   have key :∀{b q:Bool} {v:Bool},EO tt 0 i.k.parts xs ys=some b→abA op=some q→i.eq=true→v=(b==q)→∃r',kernel tt d (bg o) (fun a=>encS (f a)) (.binOp op t x y u) ty=some r'∧dU (.ng (true,gI v)) r':=by
    intro b q v h1 h2 h3 h4
    obtain ⟨c,e1,e2,e3⟩:=O5 _ _ _ _ _ h1
    simp only [kernel,hx',hy',ht,e1,h2]
    rw [if_pos h3]
    exact ⟨_,rfl,dU.ng (fun _=>e2) (by rw [e3,h4];rfl)⟩
   split at h
   ·rename_i b h1 h2
    cases h3:i.eq with
    |false=>rw [h3] at h;cases h
    |true=>
     rw [h3] at h
     simp only [cond_true,Option.some.injEq] at h;subst h
     exact key (v:=b) h1 h2 h3 (by cases b<;>rfl)
   ·rename_i b h1 h2
    cases h3:i.eq with
    |false=>rw [h3] at h;cases h
    |true=>
     rw [h3] at h
     simp only [cond_true,Option.some.injEq] at h;subst h
     exact key (v:=!b) h1 h2 h3 (by cases b<;>rfl)
   ·cases h
  ·cases h
 ·cases h
theorem abZ (op:UnOp) (t:TypeId) (x:Operand):fD tt ety d o f (.unOp op t x) ty:=by
 intro r h
 simp only [bV] at h
 split at h
 ·rename_i a1 i1 x' hx
  have hx':encS (f x)=.v (.one (.p a1 i1 (enc1 x'))):=by rw [hx];rfl
  split at h
  ·rename_i c hc
   simp only [Option.some.injEq] at h;subst h
   simp only [kernel,hx']
   unfold unT at hc
   split at hc
   ·simp only [Option.some.injEq] at hc;subst hc
    exact ⟨_,rfl,dU.ng (fun _=>trivial) rfl⟩
   ·simp only [Option.some.injEq] at hc;subst hc
    exact ⟨_,rfl,dU.ng (fun _=>trivial) rfl⟩
   ·cases hc
  ·cases h
 ·cases h
theorem RZ (s t:TypeId) (x:Operand):fD tt ety d o f (.convert s t x) ty:=by
 intro r h
 simp only [bV] at h
 split at h
 ·rename_i k0 s0 b0 z0 k s1 b1 z1 a1 i1 k2 x' hs ht hx
  have hx':encS (f x)=.v (.one (.p a1 i1 (.int k2 x'))):=by rw [hx];rfl
  simp only [Option.some.injEq] at h;subst h
  simp only [kernel,hs,ht,hx']
  exact ⟨_,rfl,⟨fun _=>trivial,rfl,rfl,rfl⟩⟩
 ·rename_i e s0 b0 z0 s1 b1 z1 x' hs ht hx
  have hx':encS (f x)=.v (.one (bf x')):=by rw [hx];rfl
  split at h
  ·rename_i s2 b2 z2 he
   split at h
   ·rename_i l a1 i1 hr
    simp only [Option.some.injEq] at h;subst h
    obtain ⟨ask,hr',hask⟩:=OZ hr
    have hr':(bf x').rows (bg o) 1=some (ask,aB (.int .u8) l,a1,i1):=hr'
    simp only [kernel,hs,ht,hx',he,hr']
    refine ⟨_,rfl,⟨fun _=>⟨hask,fun r hr => ?_⟩,?_,rfl,rfl⟩⟩
    ·simp only [aB,List.mem_map] at hr
     obtain ⟨n,_,rfl⟩:=hr
     exact ⟨n,rfl⟩
    ·have e:FC (aB (.int .u8) l)=enc1 ⟨.str,strOf l⟩:=by
      show P.str _=P.str _
      congr 2
      simp only [aB,List.map_map,strOf]
      congr 1
     show S.v (V.one (W.p false false (FC (aB (.int .u8) l))))=_
     rw [e];rfl
   ·cases h
  ·cases h
 ·rename_i s0 b0 z0 e s1 b1 z1 a1 i1 x' hs ht hx
  change List UInt8 at x'
  have hx':encS (f x)=.v (.one (.p a1 i1 (.str ⟨x'.toArray⟩))):=by rw [hx];rfl
  split at h
  ·rename_i s2 b2 z2 he
   simp only [Option.some.injEq] at h;subst h
   simp only [kernel,hs,ht,hx',he]
   refine ⟨_,rfl,⟨fun _=>trivial,?_,rfl,rfl⟩⟩
   have e:KU (.str ⟨x'.toArray⟩)=enc1 ⟨.sl (.int .u8),afD x'⟩:=by
    show P.dY 1 _=P.dY 1 _
    have key :∀l:List UInt8,(l.map fun b=>[P.int .u8 (b.toNat:Int)])=aB (.int .u8) (afD l):=by
     intro l
     induction l with
     |nil=>rfl
     |cons a l ih=>exact congrArg (List.cons _) ih
    exact congrArg (P.dY 1) (key x')
   show S.v (V.one (W.p false false (KU (.str ⟨x'.toArray⟩))))=_
   rw [e];rfl
  ·cases h
 ·cases h
end
end Go.Fg

namespace Go.Fg
open Go.Fw
set_option linter.unusedVariables false
set_option linter.unusedSectionVars false
set_option linter.unusedSimpArgs false
section
variable [RE] {o:Nat→TO} {tt:TT} {ety:TypeId→Option Ty} {d:Nat} {f:Operand→TS} {ty:TypeId}
theorem wF {k:IntKind} {n:Int} {m:Nat} (h:inB n m=true):inRange (.int k n) m:=by
 simp only [inB,Bool.and_eq_true,decide_eq_true_eq] at h;exact h
theorem MG (t:TypeId) (n c:Operand):fD tt ety d o f (.makeSlice t n c) ty:=by
 intro r h
 simp only [bV] at h
 split at h
 ·rename_i e i1 i2 i3 a1 j1 n' a2 j2 c' ht hn hc
  change Int at n';change Int at c'
  have hn':encS (f n)=.v (.one (.p a1 j1 (.int .i64 n'))):=by rw [hn];rfl
  have hc':encS (f c)=.v (.one (.p a2 j2 (.int .i64 c'))):=by rw [hc];rfl
  split at h
  ·rename_i ie et he het
   split at h
   ·rename_i ps hp
    obtain ⟨hb,h⟩:=aW h
    simp only [Option.some.injEq] at h;subst h
    obtain ⟨h1,h2⟩:=fA hb
    obtain ⟨k1,k2⟩:=wC hp
    have hsz:=Nat.eq_of_beq_eq_true h2
    rw [qE] at k1
    simp only [kernel,ht,hn',hc',he,k1]
    rw [if_pos (G_ h1)]
    refine ⟨_,rfl,⟨fun hp => ?_,rfl,?_,rfl⟩⟩
    ·simp only [zf,Bool.and_eq_true,decide_eq_true_eq] at hp
     obtain ⟨⟨⟨p1,p2⟩,p3⟩,p4⟩:=hp
     refine ⟨n'.toNat,c'.toNat,by rw [Int.toNat_of_nonneg p1],by rw [Int.toNat_of_nonneg (by omega)],by omega,?_,by omega⟩
     have e:((ie.bytes*c'.toNat:Nat):Int)=ie.bytes*c':=by rw [Int.natCast_mul,Int.toNat_of_nonneg (by omega)]
     omega
    ·simp only [P.list,gu,List.map_cons,List.map_nil,cZ,hsz]
     have en:(P.int .i64 n').nat=n'.toNat:=rfl
     rw [en]
     simp only [aB,List.map_replicate]
     rw [qB k2]
   ·cases h
  ·cases h
 ·cases h
theorem mg {df:Int} {lo:Option Operand} {m:Int} (h:lu df (lo.map f)=some m):lK (.int .i64 df) (lo.map fun x=>encS (f x))=some (.int .i64 m):=by
 cases lo with
 |none=>simp only [Option.map_none,lu,Option.some.injEq] at h;subst h;rfl
 |some x=>
  simp only [Option.map_some] at h ⊢
  unfold lu at h
  split at h
  ·rename_i hh;cases hh
  ·rename_i hh
   simp only [Option.some.injEq] at hh
   cases h
   rw [hh];rfl
  ·cases h
theorem sF {lo hi:Int} {len:Nat} (h:BR lo hi len=true) :∃m k:Nat,P.int .i64 lo=.int .i64 m∧P.int .i64 hi=.int .i64 k∧m≤k∧k≤len:=by
 simp only [BR,Bool.and_eq_true,decide_eq_true_eq] at h
 exact ⟨lo.toNat,hi.toNat,by rw [Int.toNat_of_nonneg (by omega)],by rw [Int.toNat_of_nonneg (by omega)],by omega,by omega⟩
theorem R_ (y:List UInt8) (a b:Nat):(⟨y.toArray⟩:ByteArray).extract a b=⟨((y.take b).drop a).toArray⟩:=by
 apply ByteArray.ext
 simp [ByteArray.data_extract,List.drop_take]
theorem WY (t:TypeId) (x hi mx:Operand):fD tt ety d o f (.slice t x none (some hi) (some mx)) ty:=by
 intro r h
 simp only [bV] at h
 unfold Uy at h
 split at h
 ·rename_i e i1 i2 i3 g a1 j1 h' a2 j2 m' ht hx hh hm
  change Int at h';change Int at m'
  have hx':encS (f x)=.v (.one (.own g)):=by rw [hx];rfl
  have hh':encS (f hi)=.v (.one (.p a1 j1 (.int .i64 h'))):=by rw [hh];rfl
  have hm':encS (f mx)=.v (.one (.p a2 j2 (.int .i64 m'))):=by rw [hm];rfl
  split at h
  ·rename_i ie a i e' l he hg
   obtain ⟨hb,h⟩:=aW h
   simp only [Option.some.injEq] at h;subst h
   have hg':bg o g=.arr false a i (size e') (aB e' l):=by unfold bg;rw [hg];rfl
   simp only [kernel,zS,ht,hx',hh',hm',he,hg']
   rw [if_pos (Nat.eq_of_beq_eq_true hb)]
   refine ⟨_,rfl,⟨fun hp => ?_,rfl,rfl,rfl⟩⟩
   obtain ⟨k,j,q1,q2,q3,q4⟩:=sF hp
   exact ⟨k,j,q1,q2,q3,by rw [dM];exact q4⟩
  ·cases h
 ·rename_i e i1 i2 i3 a1 j1 h' a2 j2 m' ht hx hh hm
  change Int at h';change Int at m'
  have hx':encS (f x)=.v (.one .bD):=by rw [hx];rfl
  have hh':encS (f hi)=.v (.one (.p a1 j1 (.int .i64 h'))):=by rw [hh];rfl
  have hm':encS (f mx)=.v (.one (.p a2 j2 (.int .i64 m'))):=by rw [hm];rfl
  split at h
  ·rename_i ie he
   simp only [Option.some.injEq] at h;subst h
   simp only [kernel,zS,ht,hx',hh',hm',he]
   refine ⟨_,rfl,⟨fun hp => ?_,rfl,rfl,rfl⟩⟩
   obtain ⟨k,j,q1,q2,q3,q4⟩:=sF hp
   have hj:j=0:=by omega
   have hk:k=0:=by omega
   subst hj;subst hk
   exact ⟨q1,q2⟩
  ·cases h
 ·cases h
theorem Y3 (args:Array Operand) (ts:Array TypeId):fD tt ety d o f (.call { callee:=.builtin .clear,args:=args,argTypes:=ts }) ty:=by
 intro r h
 simp only [bV] at h
 split at h
 ·rename_i x t tl ha hts
  unfold YQ at h
  split at h
  ·rename_i e i1 i2 i3 g lo hi ht hx
   change Int at lo;change Int at hi
   have hx':encS (f x)=.v (.one (.vw g (.int .i64 lo) (.int .i64 hi))):=by rw [hx];rfl
   split at h
   ·rename_i ie a i et l he hg
    obtain ⟨hb,h⟩:=aW h
    split at h
    ·rename_i ps hp
     simp only [Option.some.injEq] at h;subst h
     obtain ⟨h1,h2⟩:=fA hb
     obtain ⟨k1,k2⟩:=wC hp
     have hsz:=Nat.eq_of_beq_eq_true h1
     rw [qE] at k1
     have hg':bg o g=.arr false a i (size et) (aB et l):=by unfold bg;rw [hg];rfl
     simp only [kernel,ha,hts,KW,ht,hx',he,hg',k1]
     rw [if_pos ⟨hsz,by rw [hsz];exact G_ h2⟩]
     refine ⟨_,rfl,⟨fun hp=>Nat.le_of_ble_eq_true hp,rfl,?_,rfl⟩⟩
     simp only [P.list,gu,List.map_cons,List.map_nil,cZ]
     have e1:(P.int .i64 lo).nat=lo.toNat:=rfl
     have e2:(P.int .i64 hi).nat=hi.toNat:=rfl
     rw [e1,e2]
     simp only [aB,ahW,aF,List.map_append,List.map_take,List.map_drop,List.map_replicate,List.length_replicate]
     rw [qB k2]
    ·cases h
   ·cases h
  ·cases h
 ·cases h
theorem Y4 (t:TypeId) (x:Operand) (lo hi:Option Operand):fD tt ety d o f (.slice t x lo hi none) ty:=by
 intro r h
 simp only [bV] at h
 split at h
 ·rename_i e i1 i2 i3 x' ht hx
  have hx':encS (f x)=.v (.one (bf x')):=by rw [hx];rfl
  split at h
  ·rename_i ie et len he het hlen
   split at h
   ·rename_i lo' hi' hlo hhi
    obtain ⟨ask,hl,hask⟩:=Uz hlen
    have FQ:=mg hlo
    have yN:=mg hhi
    have en0:kJ 0=P.int .i64 0:=rfl
    simp only [kernel,ht,hx',he,hl,en0,FQ,yN]
    split at h
    ·rename_i g
     split at h
     ·rename_i e' l hg
      obtain ⟨hb,h⟩:=aW h
      simp only [Option.some.injEq] at h;subst h
      simp only [bf,nK hg]
      rw [if_pos (Nat.eq_of_beq_eq_true hb)]
      refine ⟨_,rfl,⟨fun hp => ?_,rfl,rfl,rfl⟩⟩
      exact sF hp
     ·cases h
    ·rename_i a i w
     split at h
     ·rename_i l hl'
      change List (Dt et) at l
      obtain ⟨hb,h⟩:=aW h
      simp only [Option.some.injEq] at h;subst h
      have hsz:=Nat.eq_of_beq_eq_true hb
      simp only [bf]
      refine ⟨_,rfl,⟨fun hp=>⟨hask,?_,?_⟩,?_,rfl,rfl⟩⟩
      ·rw [fC hl',←hsz];exact G7 _ _
      ·rw [fC hl',h_,dM];exact sF hp
      ·rw [fC hl']
       show S.v (V.one (W.p a i (P.sub ie.size (P.int .i64 lo').nat (P.int .i64 hi').nat (enc1 ⟨.sl et,l⟩))))=S.v (V.one (W.p a i (enc1 ⟨.sl et,List.drop lo'.toNat (List.take hi'.toNat l)⟩)))
       rw [P.sub,h_,qC,←hsz];rfl
     ·cases h
    ·simp only [Option.some.injEq] at h;subst h
     simp only [bf]
     refine ⟨_,rfl,⟨fun hp => ?_,rfl,rfl,rfl⟩⟩
     obtain ⟨h1,h2⟩:=fA hp
     have h1:lo'=0:=by simpa using h1
     have h2:hi'=0:=by simpa using h2
     subst h1;subst h2;exact ⟨rfl,rfl⟩
    ·cases h
   ·cases h
  ·cases h
 ·rename_i s0 b0 z0 a1 i1 y ht hx
  have hx':encS (f x)=.v (.one (.p a1 i1 (.str ⟨y.toArray⟩))):=by rw [hx];rfl
  change List UInt8 at y
  split at h
  ·rename_i lo' hi' hlo hhi
   simp only [Option.some.injEq] at h;subst h
   have FQ:=mg hlo
   have yN:=mg hhi
   have en0:kJ 0=P.int .i64 0:=rfl
   have el:(P.str ⟨y.toArray⟩).len=P.int .i64 (y.length:Nat):=by show P.int .i64 (y.toArray.size:Nat)=_;simp
   simp only [kernel,ht,hx',en0,el,FQ,yN]
   refine ⟨_,rfl,⟨fun hp=>⟨trivial,?_⟩,?_,rfl,rfl⟩⟩
   ·have:=sF hp
    simpa [P.bytes,ByteArray.size] using this
   ·show S.v (V.one (W.p false false (P.str ((⟨y.toArray⟩:ByteArray).extract lo'.toNat hi'.toNat))))=S.v (V.one (W.p false false (P.str ⟨(List.drop lo'.toNat (List.take hi'.toNat y)).toArray⟩)))
    rw [R_]
  ·cases h
 ·cases h
theorem MH (t:TypeId) (x:Operand) (n:Nat):fD tt ety d o f (.fieldAddr t x n) ty:=by
 intro r h
 simp only [bV] at h
 split at h
 ·rename_i fs i1 i2 i3 off' sz' x' ht hp hx
  have hx':encS (f x)=.v (.one (bf x')):=by rw [hx];rfl
  obtain ⟨hb,h⟩:=aW h
  simp only [Option.some.injEq] at h;subst h
  obtain ⟨h1,h2⟩:=fA hb
  simp only [kernel,ht,hp,hx']
  rw [if_pos ⟨G_ h1,G8 h2⟩]
  refine ⟨_,rfl,?_⟩
  have:=dU.pure (.v (.one (x'.shift off')))
  simpa only [encS,iQ,JX] using this
 ·cases h
theorem Y5 (t:TypeId) (x:Operand) (n:Nat):fD tt ety d o f (.field t x n) ty:=by
 intro r h
 simp only [bV] at h
 split at h
 ·rename_i fs i1 i2 i3 ws ht hx
  have hx':encS (f x)=.v (.agg (ws.map bf)):=by rw [hx];rfl
  split at h
  ·rename_i off u hf
   split at h
   ·rename_i iu hu
    obtain ⟨hb,h⟩:=aW h
    simp only [Option.some.injEq] at h;subst h
    obtain ⟨h1,h2⟩:=fA hb
    simp only [kernel,ht,hx',hf,hu,List.length_map]
    rw [if_pos ⟨Nat.le_of_ble_eq_true h1,G_ h2⟩]
    refine ⟨_,rfl,?_⟩
    have:=dU.pure (TV.d_ iu.agg ((ws.drop off).take iu.size))
    rw [jS,List.map_take,List.map_drop] at this
    exact this
   ·cases h
  ·cases h
 ·cases h
theorem MI (t:TypeId) (x ix:Operand):YT tt ety d o f (.indexAddr t x ix) ty:=by
 intro r h
 simp only [bV] at h
 split at h
 ·rename_i e i1 i2 i3 x' a1 j1 k n ht hx hn
  change Int at n
  have hx':encS (f x)=.v (.one (bf x')):=by rw [hx];rfl
  have hn':encS (f ix)=.v (.one (.p a1 j1 (.int k n))):=by rw [hn];rfl
  have en:(P.int k n).nat=n.toNat:=rfl
  split at h
  ·rename_i ie et g he het
   split at h
   ·rename_i e' l hg
    obtain ⟨hb,h⟩:=aW h
    simp only [Option.some.injEq] at h;subst h
    simp only [kernel,ht,hx',hn',he,bf,nK hg]
    rw [if_pos (Nat.eq_of_beq_eq_true hb)]
    refine ⟨_,rfl,dU.toC ⟨fun hp => ?_,rfl,rfl,rfl⟩⟩
    exact wF (k:=k) hp
   ·cases h
  ·rename_i ie et g lo hi he het
   split at h
   ·rename_i e' l hg
    obtain ⟨hb,h⟩:=aW h
    simp only [Option.some.injEq] at h;subst h
    simp only [kernel,ht,hx',hn',he,bf,nK hg]
    rw [if_pos (Nat.eq_of_beq_eq_true hb)]
    exact ⟨_,rfl,dU.toC ⟨fun hp=>wF (k:=k) hp,rfl,rfl,rfl⟩⟩
   ·cases h
  ·rename_i ie et a i w he het
   split at h
   ·rename_i l hl
    change List (Dt et) at l
    obtain ⟨hb,h⟩:=aW h
    simp only [Option.some.injEq] at h;subst h
    have hsz:=Nat.eq_of_beq_eq_true hb
    simp only [kernel,ht,hx',hn',he,bf]
    refine ⟨_,rfl,⟨fun hp=>⟨fun _=>⟨?_,?_⟩,?_,rfl,rfl⟩,rfl⟩⟩
    ·rw [fC hl,←hsz];exact G7 _ _
    ·rw [fC hl,h_,dM];exact wF (k:=k) hp
    ·have hlt:n.toNat<l.length:=by
      have hp:inB n l.length=true:=hp
      simp only [inB,Bool.and_eq_true,decide_eq_true_eq] at hp;omega
     rw [fC hl]
     show S.v (V.one (W.sp a i ((enc1 ⟨.sl et,l⟩).list.getD (P.int k n).nat []) 0))=S.v (V.one (W.sp a i (iZ et (List.getD l n.toNat (dflt et))) 0))
     rw [h_,en]
     simp [aB,List.getD_eq_getElem?_getD,hlt]
   ·cases h
  ·cases h
 ·rename_i m e i1 i2 i3 g a1 j1 k n ht hx hn
  change Int at n
  have hx':encS (f x)=.v (.one (.gl g)):=by rw [hx];rfl
  have hn':encS (f ix)=.v (.one (.p a1 j1 (.int k n))):=by rw [hn];rfl
  split at h
  ·rename_i ie et l he hg
   obtain ⟨hb,h⟩:=aW h
   simp only [Option.some.injEq] at h;subst h
   obtain ⟨h1,h2⟩:=fA hb
   have h1:=Nat.eq_of_beq_eq_true h1
   have h2:=Nat.eq_of_beq_eq_true h2
   simp only [kernel,ht,hx',hn',he,aeJ,hg,Option.map_some]
   rw [if_pos ⟨h1,by rw [List.length_map];exact h2⟩]
   refine ⟨_,rfl,⟨fun hp=>⟨fun _=>wF (k:=k) hp,?_,rfl,rfl⟩,rfl⟩⟩
   have hlt:n.toNat<l.length:=by
    have hp:inB n m=true:=hp
    simp only [inB,Bool.and_eq_true,decide_eq_true_eq] at hp;omega
   show S.v (V.one (W.sp false false ((List.map (iZ et) l).getD (P.int k n).nat []) 0))=S.v (V.one (W.sp false false (iZ et (List.getD l n.toNat (dflt et))) 0))
   have en:(P.int k n).nat=n.toNat:=rfl
   rw [en]
   simp [List.getD_eq_getElem?_getD,hlt]
  ·cases h
 ·rename_i m e i1 i2 i3 x' a1 j1 k n hng ht hx hn
  change Int at n
  have hx':encS (f x)=.v (.one (bf x')):=by rw [hx];rfl
  have hn':encS (f ix)=.v (.one (.p a1 j1 (.int k n))):=by rw [hn];rfl
  split at h
  ·rename_i ie he
   obtain ⟨hb,h⟩:=aW h
   simp only [Option.some.injEq] at h;subst h
   obtain ⟨h1,h2⟩:=fA hb
   simp only [inB,Bool.and_eq_true,decide_eq_true_eq] at h1
   have hl:=G8 h2
   have key :∃r',kernel tt d (bg o) (fun x=>encS (f x)) (.indexAddr t x ix) ty=some r'∧r'=.pure (.v (.one ((bf x').shift (n.toNat*ie.size)))):=by
    cases x'<;>first
     |(cases h2;done)
     |(
       simp only [bf] at hx' hl ⊢
       simp only [kernel,ht,hx',hn',he]
       rw [if_pos ⟨h1.1,h1.2,hl⟩]
       exact ⟨_,rfl,rfl⟩)
   obtain ⟨r',e1,rfl⟩:=key
   refine ⟨_,e1,dU.toC ?_⟩
   have:=dU.pure (.v (.one (x'.shift (n.toNat*ie.size))))
   simpa only [encS,iQ,JX] using this
  ·cases h
 ·cases h
theorem Y6 (t:TypeId) (x ix:Operand):fD tt ety d o f (.index t x ix) ty:=by
 intro r h
 simp only [bV] at h
 split at h
 ·rename_i i1 i2 i3 a1 j1 s a2 j2 k n ht hx hn
  change List UInt8 at s;change Int at n
  have hx':encS (f x)=.v (.one (.p a1 j1 (.str ⟨s.toArray⟩))):=by rw [hx];rfl
  have hn':encS (f ix)=.v (.one (.p a2 j2 (.int k n))):=by rw [hn];rfl
  simp only [Option.some.injEq] at h;subst h
  simp only [kernel,ht,hx',hn']
  refine ⟨_,rfl,⟨fun hp=>⟨trivial,?_⟩,?_,rfl,rfl⟩⟩
  ·have:(P.str ⟨s.toArray⟩).bytes.size=s.length:=by show s.toArray.size=_;simp
   rw [this];exact wF (k:=k) hp
  ·have:(s.toArray.getD n.toNat 0)=s.getD n.toNat 0:=by simp [Array.getD_eq_getD_getElem?,List.getD_eq_getElem?_getD]
   simp only [P.aeo,this];rfl
 ·cases h
theorem Y7 (t:TypeId) (x:Operand):fD tt ety d o f (.range t x) ty:=by
 intro r h
 simp only [bV] at h
 split at h
 ·rename_i i1 i2 i3 a1 j1 s ht hx
  change List UInt8 at s
  have hx':encS (f x)=.v (.one (.p a1 j1 (.str ⟨s.toArray⟩))):=by rw [hx];rfl
  simp only [Option.some.injEq] at h;subst h
  simp only [kernel,ht,hx']
  exact ⟨_,rfl,⟨fun _=>trivial,rfl,rfl,rfl⟩⟩
 ·cases h
theorem Si (t:Operand) (n:Nat):fD tt ety d o f (.extract t n) ty:=by
 intro r h
 simp only [bV] at h
 split at h
 ·rename_i xs hx
  have hx':encS (f t)=.kC (xs.map iQ):=by rw [hx];rfl
  split at h
  ·rename_i x hn
   simp only [Option.some.injEq] at h;subst h
   simp only [kernel,hx',List.getElem?_map,hn,Option.map_some]
   exact ⟨_,rfl,dU.pure _⟩
  ·cases h
 ·cases h
theorem O6 {F:Operand→Option TW} {G:Operand→Option W} (hFG :∀x w,F x=some w→G x=some (bf w)) :∀{xs:List Operand} {ws:List TW},xs.mapM F=some ws→xs.mapM G=some (ws.map bf)
 | [],ws,h=>by simp at h;subst h;rfl
 |x::xs,ws,h=>by
  simp only [List.mapM_cons,Option.bind_eq_bind,Option.bind_eq_some_iff] at h ⊢
  obtain ⟨w,hw,ws',hws,h⟩:=h
  cases h
  exact ⟨bf w,hFG x w hw,ws'.map bf,O6 hFG hws,rfl⟩
theorem O7 (g:FuncId) (first caps:Array Operand):fD tt ety d o f (.makeFunc (.func g) first caps) ty:=by
 intro r h
 simp only [bV] at h
 obtain ⟨hb,h⟩:=aW h
 split at h
 ·rename_i ws hw
  simp only [Option.some.injEq] at h;subst h
  simp only [kernel]
  rw [if_pos (Nat.eq_of_beq_eq_true hb)]
  have key :∀{G:Operand→Option W},(∀x,G x=match encS (f x) with | .v (.one w)=>some w | _=>none)→caps.toList.mapM G=some (ws.map bf):=by
   intro G hG
   refine O6 (fun x w hx => ?_) hw
   rw [hG]
   split at hx
   ·rename_i hf;cases hx;rw [hf];rfl
   ·cases hx
  split
  ·rename_i ws' hw'
   have e:=hw'.symm.trans (key fun x=>rfl)
   simp only [Option.some.injEq] at e;subst e
   refine ⟨_,rfl,?_⟩
   have:=dU.pure (.v (.one (.clo g ws)))
   simpa only [encS,iQ,bf,xK] using this
  ·rename_i hw'
   exact nomatch hw'.symm.trans (key fun x=>rfl)
 ·cases h
theorem afH (args:Array Operand) (ts:Array TypeId):fD tt ety d o f (.call { callee:=.builtin .len,args:=args,argTypes:=ts }) ty:=by
 intro r h
 simp only [bV] at h
 split at h
 ·rename_i x t ha hts
  split at h
  ·rename_i e i1 i2 i3 x' ht hx
   have hx':encS (f x)=.v (.one (bf x')):=by rw [hx];rfl
   split at h
   ·rename_i n hn
    simp only [Option.some.injEq] at h;subst h
    obtain ⟨ask,hl,hask⟩:=Uz hn
    simp only [kernel,ha,hts,ht,hx',hl]
    exact ⟨_,rfl,⟨fun _=>hask,rfl,rfl,rfl⟩⟩
   ·cases h
  ·rename_i i1 i2 i3 a1 j1 s ht hx
   change List UInt8 at s
   have hx':encS (f x)=.v (.one (.p a1 j1 (.str ⟨s.toArray⟩))):=by rw [hx];rfl
   simp only [Option.some.injEq] at h;subst h
   simp only [kernel,ha,hts,ht,hx']
   refine ⟨_,rfl,⟨fun _=>trivial,?_,rfl,rfl⟩⟩
   have:(P.str ⟨s.toArray⟩).len=.int .i64 s.length:=by show P.int .i64 (s.toArray.size:Nat)=_;simp
   simp only [this];rfl
  ·cases h
 ·cases h
theorem afI (args:Array Operand) (ts:Array TypeId):fD tt ety d o f (.call { callee:=.builtin .min,args:=args,argTypes:=ts }) ty:=by
 intro r h
 simp only [bV] at h
 split at h
 ·rename_i x y ha
  split at h
  ·rename_i a1 j1 k x' a2 j2 k2 y' hx hy
   have hx':encS (f x)=.v (.one (.p a1 j1 (.int k x'))):=by rw [hx];rfl
   have hy':encS (f y)=.v (.one (.p a2 j2 (.int k2 y'))):=by rw [hy];rfl
   simp only [Option.some.injEq] at h;subst h
   simp only [kernel,ha,hx',hy']
   exact ⟨_,rfl,⟨fun _=>⟨trivial,trivial⟩,rfl,rfl,rfl⟩⟩
  ·cases h
 ·rename_i x y z ha
  split at h
  ·rename_i a1 j1 k x' a2 j2 k2 y' a3 j3 k3 z' hx hy hz
   have hx':encS (f x)=.v (.one (.p a1 j1 (.int k x'))):=by rw [hx];rfl
   have hy':encS (f y)=.v (.one (.p a2 j2 (.int k2 y'))):=by rw [hy];rfl
   have hz':encS (f z)=.v (.one (.p a3 j3 (.int k3 z'))):=by rw [hz];rfl
   simp only [Option.some.injEq] at h;subst h
   simp only [kernel,ha,hx',hy',hz']
   exact ⟨_,rfl,⟨fun _=>⟨trivial,trivial,trivial⟩,rfl,rfl,rfl⟩⟩
  ·cases h
 ·cases h
theorem afJ (args:Array Operand) (ts:Array TypeId):fD tt ety d o f (.call { callee:=.builtin .max,args:=args,argTypes:=ts }) ty:=by
 intro r h
 simp only [bV] at h
 split at h
 ·rename_i x y ha
  split at h
  ·rename_i a1 j1 k x' a2 j2 k2 y' hx hy
   have hx':encS (f x)=.v (.one (.p a1 j1 (.int k x'))):=by rw [hx];rfl
   have hy':encS (f y)=.v (.one (.p a2 j2 (.int k2 y'))):=by rw [hy];rfl
   simp only [Option.some.injEq] at h;subst h
   simp only [kernel,ha,hx',hy']
   exact ⟨_,rfl,⟨fun _=>⟨trivial,trivial⟩,rfl,rfl,rfl⟩⟩
  ·cases h
 ·rename_i x y z ha
  split at h
  ·rename_i a1 j1 k x' a2 j2 k2 y' a3 j3 k3 z' hx hy hz
   have hx':encS (f x)=.v (.one (.p a1 j1 (.int k x'))):=by rw [hx];rfl
   have hy':encS (f y)=.v (.one (.p a2 j2 (.int k2 y'))):=by rw [hy];rfl
   have hz':encS (f z)=.v (.one (.p a3 j3 (.int k3 z'))):=by rw [hz];rfl
   simp only [Option.some.injEq] at h;subst h
   simp only [kernel,ha,hx',hy',hz']
   exact ⟨_,rfl,⟨fun _=>⟨trivial,trivial,trivial⟩,rfl,rfl,rfl⟩⟩
  ·cases h
 ·cases h
theorem wG (e:Ty) (a b:List (Dt e)):aB e (a++b)=aB e a++aB e b:=by simp [aB]
theorem Sj {sT:TypeId} {s x:TW} {r:qg} (h:Mc tt ety d o sT s x=some r) :∃r',sV tt d (bg o) sT (bf s) (bf x)=some r'∧dU r r':=by
 simp only [Mc] at h
 split at h
 ·rename_i e i1 i2 i3 ht
  split at h
  ·rename_i ie et he het
   cases hb:(Nat.beq ie.bytes 0||!Nat.beq (size et) ie.size) with
   |true=>rw [hb] at h;cases h
   |false=>
    rw [hb,cond_false] at h
    simp only [Bool.or_eq_false_iff,Bool.not_eq_false'] at hb
    have hsz:=Nat.eq_of_beq_eq_true hb.2
    have hb0:¬ ie.bytes=0:=fun e=>by rw [e] at hb;cases hb.1
    split at h
    ·cases h
    ·rename_i new a' i' hrow
     obtain ⟨ask,hr,hask⟩:=OZ hrow
     rw [hsz] at hr
     simp only [sV,ht,he,if_neg hb0,hr]
     have key :∀(pre:Bool) (pre':Prop) (old:List (Dt et)) (a i:Bool) (kill:List (Nat×TO)),(pre=true→pre')→
       dU { pre:=pre&&decide ((old.length+new.length)*ie.bytes≤140737488355328),t:=.sl et,val:=List.append old new,dst:=fun _=>.v (.one (.own d)),upd:=fun y=>kill++[(d,.arr false (a||a') (i||i') et y)],new:=[d] }
        (.mk (ask∧pre'∧((aB et old).length+(aB et new).length)*ie.bytes≤140737488355328) (.sl ie.size (aB et old++aB et new)) (fun _=>.v (.one (.own d)))
         (fun y=>gu kill++[(d,.arr false (a||a') (i||i') ie.size y.list)]) [d]):=by
      intro pre pre' old a i kill hpre
      refine ⟨fun hp => ?_,rfl,?_,rfl⟩
      ·obtain ⟨h1,h2⟩:=fA hp
       refine ⟨hask,hpre h1,?_⟩
       rw [dM,dM]
       simpa using h2
      ·simp only [jT]
       congr 1
       simp only [P.list,gu,List.map_cons,List.map_nil,cZ,hsz]
       rw [←wG];rfl
     split at h
     ·simp only [Option.some.injEq] at h;subst h
      exact ⟨_,rfl,key true True [] false false [] fun _=>trivial⟩
     ·rename_i g
      split at h
      ·rename_i a i e' l hg
       split at h
       ·rename_i l' hl
        cases hgd:Nat.beq g d with
        |true=>rw [hgd] at h;cases h
        |false=>
         rw [hgd,cond_false] at h
         simp only [Option.some.injEq] at h;subst h
         obtain ⟨ee,hl⟩:=nC hl
         cases ee
         subst hl
         simp only [bf,fG hg]
         rw [if_pos ⟨hsz,fun e=>by subst e;simp at hgd⟩]
         exact ⟨_,rfl,key true True _ a i [(g,.none)] fun _=>trivial⟩
       ·cases h
      ·cases h
     ·rename_i g lo hi
      split at h
      ·rename_i a i e' l hg
       split at h
       ·rename_i l' hl
        cases hgd:Nat.beq g d with
        |true=>rw [hgd] at h;cases h
        |false=>
         rw [hgd,cond_false] at h
         simp only [Option.some.injEq] at h;subst h
         obtain ⟨ee,hl⟩:=nC hl
         cases ee
         subst hl
         simp only [bf,fG hg,ug]
         rw [if_pos ⟨hsz,fun e=>by subst e;simp at hgd⟩]
         refine ⟨_,rfl,key (decide (lo=0)) (P.int .i64 lo=kJ 0) (l.take hi.toNat) a i [(g,.none)] fun h => ?_⟩
         have h:lo=0:=by simpa using h
         subst h;rfl
       ·cases h
      ·cases h
     ·cases h
  ·cases h
 ·cases h
theorem WZ (args:Array Operand) (ts:Array TypeId):fD tt ety d o f (.call { callee:=.builtin .append,args:=args,argTypes:=ts }) ty:=by
 intro r h
 simp only [bV] at h
 split at h
 ·rename_i s x sT xT rest ha hts
  split at h
  ·rename_i e i1 i2 i3 s' x' ht hs hx
   have hs':encS (f s)=.v (.one (bf s')):=by rw [hs];rfl
   have hx':encS (f x)=.v (.one (bf x')):=by rw [hx];rfl
   simp only [kernel,ha,hts,ht,hs',hx']
   exact Sj h
  ·cases h
 ·cases h
theorem Sl (op:Op):YT tt ety d o f op ty:=by
 cases op
 case move x=>exact fD.toC (abT x)
 case assign x=>exact fD.toC (WW x)
 case pick c x y=>exact fD.toC (abU c x y)
 case alloc t=>exact fD.toC (YW t)
 case box t x=>exact fD.toC (afG t x)
 case build t ps=>exact fD.toC (YX t ps)
 case buildSlice t n ps=>exact fD.toC (Jo t n ps)
 case load t x=>exact fD.toC (abW t x)
 case store t x y=>exact fD.toC (Y0 t x y)
 case nilCheck x=>exact fD.toC (O1 x)
 case binOp op t x y u=>exact fD.toC (Y2 op t x y u)
 case unOp op t x=>exact fD.toC (abZ op t x)
 case convert s t x=>exact fD.toC (RZ s t x)
 case makeSlice t n c=>exact fD.toC (MG t n c)
 case slice t x lo hi mx=>
  cases mx with
  |none=>exact fD.toC (Y4 t x lo hi)
  |some m=>cases lo with
   |some l=>intro r h;simp [bV] at h
   |none=>cases hi with
    |none=>intro r h;simp [bV] at h
    |some hi=>exact fD.toC (WY t x hi m)
 case fieldAddr t x n=>exact fD.toC (MH t x n)
 case field t x n=>exact fD.toC (Y5 t x n)
 case indexAddr t x ix=>exact MI t x ix
 case index t x ix=>exact fD.toC (Y6 t x ix)
 case range t x=>exact fD.toC (Y7 t x)
 case extract t n=>exact fD.toC (Si t n)
 case makeFunc fn first caps=>
  cases fn
  case func g=>exact fD.toC (O7 g first caps)
  all_goals (intro r h;simp [bV] at h)
 case call c=>
  obtain ⟨callee,args,ts⟩:=c
  cases callee
  case builtin b=>
   cases b
   case len=>exact fD.toC (afH args ts)
   case append=>exact fD.toC (WZ args ts)
   case clear=>exact fD.toC (Y3 args ts)
   case min=>exact fD.toC (afI args ts)
   case max=>exact fD.toC (afJ args ts)
   all_goals (intro r h;simp [bV] at h)
  all_goals (intro r h;simp [bV] at h)
 all_goals (intro r h;simp [bV] at h)
end
end Go.Fg

namespace Go.Fg
open Go.Fw
set_option linter.unusedVariables false
set_option linter.unusedSectionVars false
set_option linter.unusedSimpArgs false
section
variable [RE]
def wdF:Wd:=⟨.bool,false⟩
def placesOf:Ty→List Nat
 |.prod (.st c) r=>c::placesOf r
 |_=>[]
def Sm (et:Ty):List Nat→List (Nat×Ty)
 | []=>[]
 |c::cs=>match (gU et)[c]? with
  |some (.sl t)=>(c,t)::Sm et cs
  |_=>Sm et cs
def Y8 (ety:TypeId→Option Ty) (e:TypeId) (et:Ty):List (Nat×Ty):=match ety (1000000+e) with
 |some t=>Sm et (placesOf t)
 |none=>[]
def xM (cols:List (Nat×Ty)) (off n:Nat):List (Nat×Ty):=match cols with
 | []=>[]
 |(c,t)::r=>match Nat.ble off c&&Nat.blt c (off+n) with
  |true=>(c,t)::xM r off n
  |false=>xM r off n
def wH (o:Nat→TO) (g:Nat):Option TH:=match o g with
 |.deep a i e cols l hole=>match hole with
  |none=>some ⟨a,i,e,cols,l⟩
  |some (n,c,d)=>match o d with
   |.arr false a' i' e' l'=>match WT e cols c e' with
    |true=>some ⟨a||a',i||i',e,cols,putRow e l n c (rY e' l')⟩
    |false=>none
   |_=>none
 |_=>none
def ah0:TO→Bool
 |.arr fz _ _ _ _=>!fz
 |_=>false
def jU:List Nat→List (Nat×TO)
 | []=>[]
 |g::gs=>(g,.none)::jU gs
def cellT (e:Ty) (x:Dt e) (c:Nat) (e':Ty):List (Dt e'):=((dN e x).getD c wdF).as (.sl e')
def MJ (o:Nat→TO) (col:Nat→Option Ty):Nat→List Ty→List TW→Option (List Wd×Bool×Bool×List Nat×List (Nat×Nat))
 |_,[],[]=>some ([],false,false,[],[])
 |j,t::ts,x::xs=>match MJ o col (j+1) ts xs with
  |none=>none
  |some (ys,a',i',gs',es)=>match col j with
   |none=>match x.toP o t with
    |some (y,a,i,gs)=>some (⟨t,y⟩::ys,a||a',i||i',gs++gs',es)
    |none=>none
   |some s=>match tyB t (.sl s) with
    |true=>match x with
     |.bD=>some (rY s []::ys,a',i',gs',es)
     |.own e=>match o e with
      |.arr false a i s' l=>match (rY s' l).zL (.sl s) with
       |some l=>some (rY s l::ys,a||a',i||i',gs',(j,e)::es)
       |none=>none
      |_=>none
     |_=>none
    |false=>none
 |_,_,_=>none
def DX:List (Nat×Ty)→List (Nat×Ty)→Bool
 | [],[]=>true
 |(c,t)::r,(c',t')::r'=>Nat.beq c c'&&tyB t t'&&DX r r'
 |_,_=>false
def O8 (o:Nat→TO) (et:Ty) (cols:List (Nat×Ty)):TW→Option (Bool×Bool×Bool×List (Dt et)×List Nat)
 |.bD=>some (true,false,false,[],[])
 |.own g=>match wH o g with
  |some ⟨a,i,e,jr,l⟩=>match (rY e l).zL (.sl et),DX jr cols with
   |some l,true=>some (true,a,i,l,g::kF (o g))
   |_,_=>none
  |none=>none
 |.vw g lo hi=>match wH o g with
  |some ⟨a,i,e,jr,l⟩=>match (rY e (l.take hi.toNat)).zL (.sl et),DX jr cols with
   |some l,true=>some (decide (lo=0),a,i,l,g::kF (o g))
   |_,_=>none
  |none=>none
 |_=>none
def uh:Ty:=.st RE.hd
def W9 (n:Nat):List (Dt uh):=List.replicate n (dflt uh)
def MK (tt:TT) (o:Nat→TO) (f:Operand→TS) (t:TypeId) (x:Operand):Option qg:=match tt t,f x with
 |some i,.v (.one (.ep g n off))=>match wH o g with
  |some ⟨a,i',e,cols,l⟩=>match rZ off cols with
   |some e'=>bif WT e cols off e'&&(Nat.beq i.size 1&&!i.agg)&&rE (((dN e (dflt e)).drop off).take i.size) i.zero then
     some { pre:=true,t:=.sl uh,val:=W9 (List.length (α:=Dt e') (cellT e (l.getD n.toNat (dflt e)) off e')),dst:=fun z=>.v (.one (.p false false ⟨.sl uh,z⟩)),upd:=fun _=>[],new:=[] } else none
   |none=>none
  |none=>none
 |_,_=>none
def iD (tt:TT) (ety:TypeId→Option Ty) (d:Nat) (o:Nat→TO) (f:Operand→TS) (op:Op) (ty:TypeId):Option qg:=
 match op with
 |.load t x=>match ety (3000000+d) with
  |some _=>MK tt o f t x
  |none=>match tt t,f x with
  |some i,.v (.one (.ep g n off))=>match o g with
   |.deep a0 i0 e0 jE l0 _=>bif Nat.ble (off+i.size) (size e0)&&Nat.blt 0 i.size&&rE (((dN e0 (dflt e0)).drop off).take i.size) i.zero then
     match xM jE off i.size with
     | []=>some { pre:=true,t:=e0,val:=l0.getD n.toNat (dflt e0),dst:=fun z=>TV.d_ i.agg (tpw a0 i0 (((dN e0 z).drop off).take i.size)),upd:=fun _=>[],new:=[] }
     | [(c,e')]=>match wH o g with
      |some ⟨a,i',e,cols,l⟩=>match WT e cols c e'&&Nat.ble (off+i.size) (size e)&&rE (((dN e (dflt e)).drop off).take i.size) i.zero with
       |true=>some { pre:=true,t:=.sl e,val:=l,dst:=fun (y:List (Dt e))=>TV.d_ i.agg ((tpw a i' (((dN e (y.getD n.toNat (dflt e))).drop off).take i.size)).set (c-off) (.own d)),upd:=fun (y:List (Dt e))=>(g,.deep a i' e cols y (some (n.toNat,c,d)))::(d,.arr false a i' e' (cellT e (y.getD n.toNat (dflt e)) c e'))::jU (kF (o g)),new:=[d] }
       |false=>none
      |none=>none
     |_=>none
     else none
   |_=>none
  |_,_=>none
 |.store t x y=>match tt t,f x,f y with
  |some i,.v (.one (.ep g n off)),.v y=>match o g with
   |.deep a0 i0 e0 cols l0 hole=>match MJ o (fun j=>rZ j cols) off (((gU e0).drop off).take i.size) y.words with
    |some (ps,a',i',gs,es)=>bif Nat.ble (off+i.size) (size e0)&&Nat.beq y.words.length i.size&&y.solid&&!dS g gs&&qQ (es.map (·.2))&&BF (es.map (·.2)) gs then
      let res (pre:Bool) (a i1:Bool) (e:Ty) (l:List (Dt e)) (gW:Option (Nat×Nat×Nat)) (ks:List Nat):qg:=
       { pre,t:=.sl e,val:=List.set l n.toNat (Jl e (Nat.beq i.size (size e)) (l.getD n.toNat (dflt e)) off ps),dst:=fun _=>.no,upd:=fun z=>(g,.deep (a||a') (i1||i') e cols z gW)::jU (es.map (·.2))++jU ks++gs.map (j_ o),new:=[] }
      match xM cols off i.size with
      | []=>some (res true a0 i0 e0 l0 hole [])
      |_::_=>match hole with
       |none=>some (res true a0 i0 e0 l0 none [])
       |some (n0,c0,d0)=>match wH o g with
        |some ⟨a,i1,e,jr,l⟩=>match !dS d0 (es.map (·.2))&&!dS d0 gs with
         |true=>match tyB e e0 with
          |true=>some (res true a i1 e l none [d0])
          |false=>none
         |false=>bif Nat.ble off c0&&Nat.blt c0 (off+i.size) then some (res (Nat.beq n0 n.toNat) a0 i0 e0 l0 none []) else none
        |none=>match ah0 (o d0) with
         |true=>none
         |false=>bif Nat.ble off c0&&Nat.blt c0 (off+i.size) then some (res (Nat.beq n0 n.toNat) a0 i0 e0 l0 none []) else none
      else none
    |none=>none
   |_=>none
  |_,_,_=>none
 |.buildSlice t n parts=>match tt t with
  |some { k:=.slice e,.. }=>match tt e,ety e with
   |some ie,some et=>match Y8 ety e et with
    | []=>none
    |yu::BI=>match Am (fun m=>if m<n then some (m*ie.size,ie.size) else none) (GZ (ie.zero.map WR) n) (parts.toList.map fun p=>(p.1,f p.2)) with
     |some ws=>match MJ o (fun j=>rZ (j % ie.size) (yu::BI)) 0 (GZ (gU et) n) ws with
      |some (ps,a,i,gs,es)=>bif Nat.ble (n+n*ie.size) 16777216&&Nat.beq (size et) ie.size&&qQ (es.map (·.2))&&BF (es.map (·.2)) gs then
        some { pre:=true,t:=.sl et,val:=Aq et n ps,dst:=fun _=>.v (.one (.own d)),upd:=fun y=>(d,.deep a i et (yu::BI) y none)::jU (es.map (·.2))++gs.map (j_ o),new:=[d] } else none
      |none=>none
     |none=>none
   |_,_=>none
  |_=>none
 |.makeSlice t n c=>match tt t,f n,f c with
  |some { k:=.slice e,.. },.v (.one (.p _ _ ⟨.int .i64,n⟩)),.v (.one (.p _ _ ⟨.int .i64,c⟩))=>match tt e,ety e with
   |some ie,some et=>match Y8 ety e et with
    | []=>none
    |yu::BI=>match MJ o (fun j=>rZ j (yu::BI)) 0 (gU et) (ie.zero.map WR) with
     |some (ps,false,false,[],[])=>bif Nat.blt 0 ie.size&&Nat.beq (size et) ie.size then
      some { pre:=zf ie.bytes n c,t:=.sl et,val:=List.replicate (Int.toNat n) (jv et ps),dst:=fun _=>.v (.one (.own d)),upd:=fun y=>[(d,.deep false false et (yu::BI) y none)],new:=[d] } else none
     |_=>none
   |_,_=>none
  |_,_,_=>none
 |.call { callee:=.builtin .append,args,argTypes }=>match args.toList,argTypes.toList with
  | [s,x],sT::xT::_=>match tt sT,tt xT,f s,f x with
   |some { k:=.slice e,.. },some { k:=.slice _,.. },.v (.one s),.v (.one (.own g2))=>match tt e,wH o g2 with
    |some ie,some ⟨a2,i2,et,cols,new⟩=>match O8 o et cols s with
     |some (pre,a,i,old,ks)=>bif !Nat.beq ie.bytes 0&&Nat.beq (size et) ie.size&&qQ (ks++g2::kF (o g2)) then
       some { pre:=pre&&decide ((old.length+new.length)*ie.bytes≤140737488355328),t:=.sl et,val:=List.append old new,dst:=fun _=>.v (.one (.own d)),upd:=fun y=>(d,.deep (a||a2) (i||i2) et cols y none)::jU (ks++g2::kF (o g2)),new:=[d] } else none
     |none=>none
    |_,_=>none
   |_,_,_,_=>none
  |_,_=>none
 |.slice t x none hi none=>match ety 2000000 with
  |none=>none
  |some _=>match tt t,f x with
   |some { k:=.slice e,.. },.v (.one (.own g))=>match tt e,o g with
    |some ie,.arr false a i et l=>bif Nat.beq (size et) ie.size then match lu (List.length (α:=Dt et) l) (hi.map f) with
     |some hi=>some { pre:=decide (0≤hi)&&decide (hi≤(List.length (α:=Dt et) l:Int)),t:=.sl et,val:=List.take (α:=Dt et) hi.toNat l,dst:=fun _=>.v (.one (.own d)),upd:=fun y=>[(d,.arr false a i et y),(g,.none)],new:=[d] }
     |none=>none
     else none
    |_,_=>none
   |_,_=>none
 |_=>none
section
variable {o:Nat→TO} {tt:TT} {ety:TypeId→Option Ty} {d:Nat} {f:Operand→TS} {ty:TypeId}
theorem o9 (off n:Nat) :∀(cols:List (Nat×Ty)),lT (gB cols) off n=gB (xM cols off n)
 | []=>rfl
 |(c,t)::r=>by
  have ih:=o9 off n r
  simp only [lT,gB,List.map_cons,List.filter_cons,xM] at ih ⊢
  cases hb:(Nat.ble off c&&Nat.blt c (off+n)) with
  |true=>simp only [if_true,List.map_cons,ih]
  |false=>simp only [Bool.false_eq_true,if_false,ih]
theorem Cb (c:Nat) (cols:List (Nat×Ty)):(gB cols).lookup c=(rZ c cols).map size:=by
 cases h:rZ c cols with
 |none=>exact G5 h
 |some t=>exact BU h
theorem oI (g:Nat) (x:TO) (r:List (Nat×TO)):gu ((g,x)::r)=(g,cZ x)::gu r:=rfl
theorem oJ :∀(gs:List Nat),gu (jU gs)=kills gs
 | []=>rfl
 |g::gs=>by
  show (g,O.none)::gu (jU gs)=(g,O.none)::kills gs
  rw [oJ gs]
theorem oK {g:Nat} {a i:Bool} {e:Ty} {cols:List (Nat×Ty)} {l:List (Dt e)} (h:wH o g=some ⟨a,i,e,cols,l⟩):iM (bg o) g=some (a,i,size e,gB cols,aB e l)∧(bg o g).hn=kF (o g):=by
 unfold wH at h
 cases ho:o g with
 |deep a0 i0 e0 jE l0 hole=>
  rw [ho] at h
  have hg:bg o g=.deep a0 i0 (size e0) (gB jE) (aB e0 l0) hole:=by simp [bg,ho,cZ]
  rcases hole with _ | ⟨n,c,d⟩
  ·cases h
   exact ⟨by simp [iM,hg],by rw [hg];rfl⟩
  ·simp only at h
   cases hd:o d with
   |arr fz a' i' e' l'=>
    rw [hd] at h
    cases fz with
    |true=>cases h
    |false=>
     simp only at h
     split at h
     ·rename_i hc
      cases h
      obtain ⟨k1,k2,k3⟩:=r_ hc
      refine ⟨?_,by rw [hg];rfl⟩
      simp only [iM,hg,fG hd]
      rw [if_pos ⟨k1,k3⟩,zh k2]
     ·cases h
   |_=>rw [hd] at h;cases h
 |_=>rw [ho] at h;cases h
theorem Sr {g n c d0:Nat} {a0 i0:Bool} {e0:Ty} {cols:List (Nat×Ty)} {l0:List (Dt e0)} (hog:o g=.deep a0 i0 e0 cols l0 (some (n,c,d0))) (h:ah0 (o d0)=false):iM (bg o) g=none:=by
 have hg:bg o g=.deep a0 i0 (size e0) (gB cols) (aB e0 l0) (some (n,c,d0)):=by simp [bg,hog,cZ]
 simp only [iM,hg]
 cases hd:o d0 with
 |arr fz a i e l=>
  rw [hd] at h
  cases fz with
  |true=>simp [bg,hd,cZ]
  |false=>cases h
 |_=>simp [bg,hd,cZ]
theorem O9 {e e':Ty} {x:Dt e} {c:Nat} (hc:(gU e)[c]?=some (.sl e')):(iZ e x)[c]?=some (enc1 ⟨.sl e',cellT e x c e'⟩):=by
 rw [eX,List.getElem?_map]
 have hlt:c<(dN e x).length:=by rw [oH,←iC];exact (List.getElem?_eq_some_iff.1 hc).1
 rw [List.getElem?_eq_getElem hlt,Option.map_some]
 have ht:((dN e x)[c]).t=.sl e':=by
  have:=o7 e x
  have h2:=congrArg (fun l=>l[c]?) this
  simp only [List.getElem?_map,List.getElem?_eq_getElem hlt,Option.map_some,hc,Option.some.injEq] at h2
  exact h2
 have hg:(dN e x).getD c wdF=(dN e x)[c]:=by rw [List.getD_eq_getElem?_getD,List.getElem?_eq_getElem hlt];rfl
 unfold cellT
 rw [hg,uO ht]
theorem Au {col:Nat→Option Ty} {col':Nat→Option Nat} (abG :∀j,col' j=(col j).map size) :∀{ts:List Ty} {xs:List TW} {j:Nat} {ys:List Wd} {a i:Bool} {gs:List Nat} {es:List (Nat×Nat)},MJ o col j ts xs=some (ys,a,i,gs,es)→
  NH (bg o) col' j (xs.map bf)=some (ys.map enc1,a,i,gs,es)∧ys.map (·.t)=ts∧Pl o gs
 | [],[],j,ys,a,i,gs,es,h=>by
  simp only [MJ,Option.some.injEq,Prod.mk.injEq] at h
  obtain ⟨rfl,rfl,rfl,rfl,rfl⟩:=h
  exact ⟨rfl,rfl,Pl.nil⟩
 | [],x::xs,j,ys,a,i,gs,es,h=>by simp [MJ] at h
 |t::ts,[],j,ys,a,i,gs,es,h=>by simp [MJ] at h
 |t::ts,x::xs,j,ys,a,i,gs,es,h=>by
  simp only [MJ] at h
  split at h
  ·cases h
  ·rename_i ys' a' i' gs' es' h2
   obtain ⟨k1,k2,k3⟩:=Au abG h2
   simp only [List.map_cons,NH,k1,abG j]
   cases hc:col j with
   |none=>
    rw [hc] at h
    simp only at h
    split at h
    ·rename_i h1
     simp only [Option.some.injEq,Prod.mk.injEq] at h
     obtain ⟨rfl,rfl,rfl,rfl,rfl⟩:=h
     refine ⟨by simp only [Option.map_none,Me h1,List.map_cons],by simp only [List.map_cons,k2],(RU h1).append k3⟩
    ·cases h
   |some s=>
    rw [hc] at h
    simp only at h
    split at h
    ·rename_i hts
     have hts:=wB hts
     split at h
     ·simp only [Option.some.injEq,Prod.mk.injEq] at h
      obtain ⟨rfl,rfl,rfl,rfl,rfl⟩:=h
      exact ⟨by simp only [Option.map_some,bf,List.map_cons];rfl,by simp only [List.map_cons,k2,hts];rfl,k3⟩
     ·rename_i e
      split at h
      ·rename_i a1 i1 s' l hoe
       split at h
       ·rename_i l1 hl
        simp only [Option.some.injEq,Prod.mk.injEq] at h
        obtain ⟨rfl,rfl,rfl,rfl,rfl⟩:=h
        obtain ⟨he,hl⟩:=nC hl
        cases he
        subst hl
        refine ⟨?_,by simp only [List.map_cons,k2,hts];rfl,k3⟩
        simp only [Option.map_some,bf,fG hoe,if_true,List.map_cons]
        rfl
       ·cases h
      ·cases h
     ·cases h
    ·cases h
def He (tt:TT) (ety:TypeId→Option Ty) (d:Nat) (o:Nat→TO) (f:Operand→TS) (op:Op) (ty:TypeId):Prop:=
 ∀r,iD tt ety d o f op ty=some r→∃dc r',bY tt dc d (bg o) (fun x=>encS (f x)) op ty=some r'∧dU r r'
theorem JY {i:TI} {e e':Ty} {l:List (Dt e)} {n off c:Nat} (hz:rE (((dN e (dflt e)).drop off).take i.size) i.zero=true) (c2:(gU e)[c]?=some (.sl e')) (hc1:off≤c) (hc2:c<off+i.size) :
  (((aB e l).getD n []).getD c default).list=aB e' (cellT e (l.getD n (dflt e)) c e'):=by
 by_cases hn:n<l.length
 ·have e1:(aB e l).getD n []=iZ e (l.getD n (dflt e)):=by simp [aB,List.getD_eq_getElem?_getD,hn]
  rw [e1,List.getD_eq_getElem?_getD,O9 c2]
  exact h_ _ _
 ·have e1:(aB e l).getD n []=[]:=by simp [aB,List.getD_eq_getElem?_getD,List.getElem?_eq_none (Nat.le_of_not_lt hn)]
  have e2:l.getD n (dflt e)=dflt e:=by simp [List.getD_eq_getElem?_getD,List.getElem?_eq_none (Nat.le_of_not_lt hn)]
  rw [e1,e2]
  have hz':=BZ hz (c-off)
  rw [List.map_take,List.map_drop,List.getElem?_take,if_pos (by omega),List.getElem?_drop,←eX] at hz'
  have e3:off+(c-off)=c:=by omega
  rw [e3,O9 c2] at hz'
  split at hz'
  ·simp only [Option.some.injEq] at hz'
   have hl:=congrArg P.list hz'
   rw [h_] at hl
   rw [hl]
   have:(QS i.zero (c-off)).list=[]:=by
    have hsl :∃sz l,QS i.zero (c-off)=P.dY sz l:=⟨_,_,hz'.symm⟩
    unfold QS at hsl ⊢
    split<;>rfl
   rw [this];rfl
  ·cases hz'
theorem ab1 (n:Nat):enc1 ⟨.sl uh,W9 n⟩=hdr (List.replicate n ([]:List P)):=by
 have e0 :∀x,iZ uh x=[]:=fun x=>by
  have h1:=oH uh x
  have h2:size uh=0:=by simp [uh,size,iy,RE.hdF]
  rw [h2] at h1
  rw [eX,List.eq_nil_of_length_eq_zero h1];rfl
 rw [EY]
 have e1:aB uh (W9 n)=List.replicate n []:=by
  have :∀(n:Nat),List.map (iZ uh) (W9 n)=List.replicate n []:=fun n=>by
   induction n with
   |zero=>rfl
   |succ n ih=>
    have e1:iZ uh (dflt uh)=[]:=e0 _
    show iZ uh (dflt uh)::List.map (iZ uh) (W9 n)=[]::List.replicate n []
    rw [ih,e1]
  exact this n
 have e2:size uh=0:=by simp [uh,size,iy,RE.hdF]
 rw [e1,e2]
 unfold hdr
 rw [List.length_replicate]
 cases n<;>rfl
theorem Sv {t:TypeId} {x:Operand} {r:qg} (h:MK tt o f t x=some r) :∃r',yP tt (bg o) (fun x=>encS (f x)) t x=some r'∧dU r r':=by
 unfold MK at h
 split at h
 ·rename_i i g n off ht hx
  have hx':encS (f x)=.v (.one (.ep g (.int .i64 n) off)):=by rw [hx];rfl
  have en:(P.int .i64 n).nat=n.toNat:=rfl
  split at h
  ·rename_i a i' e cols l hh
   split at h
   ·rename_i e' hca
    obtain ⟨hb,h⟩:=aW h
    obtain ⟨hb,hz⟩:=fA hb
    obtain ⟨hcb,hb⟩:=fA hb
    obtain ⟨h1,h2⟩:=fA hb
    have h1:=Nat.eq_of_beq_eq_true h1
    have h2:i.agg=false:=by simpa using h2
    simp only [Option.some.injEq] at h;subst h
    obtain ⟨k1,k2⟩:=oK hh
    obtain ⟨c1,c2,c3⟩:=r_ hcb
    unfold yP
    simp only [ht,hx',k1,c1]
    rw [if_pos ⟨c3,h1,h2⟩]
    refine ⟨_,rfl,⟨fun _=>trivial,?_,rfl,rfl⟩⟩
    have key:(((aB e l).getD (P.int .i64 n).nat []).getD off default).list=aB e' (cellT e (l.getD n.toNat (dflt e)) off e'):=by
     rw [en];exact JY hz c2 (Nat.le_refl _) (by omega)
    show S.v (.one (.p false false (hdr (((aB e l).getD (P.int .i64 n).nat []).getD off default).list)))=S.v (.one (.p false false (enc1 ⟨.sl uh,W9 _⟩)))
    rw [ab1,key]
    unfold hdr
    rw [dM,List.length_replicate]
   ·cases h
  ·cases h
 ·cases h
theorem Y9 (t:TypeId) (x:Operand):He tt ety d o f (.load t x) ty:=by
 intro r h
 simp only [iD] at h
 split at h
 ·obtain ⟨r',h1,h2⟩:=Sv h
  exact ⟨[(0,0)],r',h1,h2⟩
 split at h
 ·rename_i i g n off ht hx
  have hx':encS (f x)=.v (.one (.ep g (.int .i64 n) off)):=by rw [hx];rfl
  have en:(P.int .i64 n).nat=n.toNat:=rfl
  split at h
  ·rename_i a0 i0 e0 jE l0 hole hog
   have hg:bg o g=.deep a0 i0 (size e0) (gB jE) (aB e0 l0) hole:=by simp [bg,hog,cZ]
   obtain ⟨hb,h⟩:=aW h
   obtain ⟨hb,h3⟩:=fA hb
   obtain ⟨h1,h2⟩:=fA hb
   have h1:=Nat.le_of_ble_eq_true h1
   split at h
   ·rename_i hci
    simp only [Option.some.injEq] at h;subst h
    refine ⟨[],?_⟩
    simp only [bY,Yf,cond_false,ht,hx',hg]
    rw [if_pos ⟨h1,G_ h2⟩]
    have eci:lT (gB jE) off i.size=[]:=by rw [o9,hci];rfl
    simp only [eci]
    refine ⟨_,rfl,⟨fun _=>trivial,?_,rfl,rfl⟩⟩
    simp only [EK.pure,jS]
    congr 1
    rw [en]
    exact MF e0 l0 n.toNat off i.size i.zero h1 h3 a0 i0
   ·rename_i c e' hci
    split at h
    ·rename_i a i' e cols l hh
     split at h
     ·rename_i hcc
      obtain ⟨hcc,hz⟩:=fA hcc
      obtain ⟨hcb,hle⟩:=fA hcc
      have hle:=Nat.le_of_ble_eq_true hle
      simp only [Option.some.injEq] at h;subst h
      obtain ⟨k1,k2⟩:=oK hh
      obtain ⟨c1,c2,c3⟩:=r_ hcb
      have hcin:off≤c∧c<off+i.size:=by
       have hm:(c,size e')∈lT (gB jE) off i.size:=by rw [o9,hci];simp [gB]
       have:=(List.mem_filter.1 hm).2
       simp only [Bool.and_eq_true,Nat.ble_eq,Nat.blt_eq] at this
       exact this
      refine ⟨[],?_⟩
      simp only [bY,Yf,cond_false,ht,hx',hg]
      rw [if_pos ⟨h1,G_ h2⟩]
      rw [hg] at k2
      have eci:lT (gB jE) off i.size=[(c,size e')]:=by rw [o9,hci];rfl
      simp only [eci,k1]
      refine ⟨_,rfl,⟨fun _=>trivial,?_,?_,rfl⟩⟩
      ·simp only [jS]
       congr 1
       rw [en]
       have key:=MF e l n.toNat off i.size i.zero hle hz a i'
       simp only [P.list]
       rw [List.map_set,←key]
       apply List.ext_getElem?
       intro j
       rw [List.getElem?_set]
       simp only [List.getElem?_map,List.length_map,List.length_range]
       by_cases hj:j<i.size
       ·rw [List.getElem?_range hj]
        by_cases hjc:c-off=j
        ·rw [if_pos hjc,if_pos (by omega)]
         have:Nat.beq (off+j) c=true:=by simp;omega
         simp only [Option.map_some,this,if_true];rfl
        ·rw [if_neg hjc]
         have:Nat.beq (off+j) c=false:=by
          cases hb:Nat.beq (off+j) c with
          |false=>rfl
          |true=>have:=Nat.eq_of_beq_eq_true hb;omega
         simp only [Option.map_some,this,Bool.false_eq_true,if_false]
       ·rw [List.getElem?_eq_none (by simp;omega),if_neg (by omega)]
        rfl
      ·have key:(((aB e l).getD n.toNat []).getD c default).list=aB e' (cellT e (l.getD n.toNat (dflt e)) c e'):=JY hz c2 hcin.1 hcin.2
       show (g,O.deep a i' (size e) (gB cols) (aB e l) (some ((P.int .i64 n).nat,c,d)))::(d,O.arr false a i' (size e') ((((aB e l).getD (P.int .i64 n).nat []).getD c default).list))::kills _=gu (_::_::jU _)
       rw [oI,oI,oJ,k2,en,key];rfl
     ·cases h
    ·cases h
   ·cases h
  ·cases h
 ·cases h
theorem Hf {g:Nat} {l:List Nat}:(!dS g l)=true→l.contains g=false:=by
 intro h;rw [aX] at h;simpa using h
theorem nD :∀{a b:List (Nat×Ty)},DX a b=true→a=b
 | [],[],_=>rfl
 | [],_::_,h=>by cases h
 |_::_,[],h=>by cases h
 |(c,t)::r,(c',t')::r',h=>by
  simp only [DX,Bool.and_eq_true] at h
  rw [Nat.eq_of_beq_eq_true h.1.1,wB h.1.2,nD h.2]
theorem W_ (t:TypeId) (x y:Operand):He tt ety d o f (.store t x y) ty:=by
 intro r h
 simp only [iD] at h
 split at h
 ·rename_i i g n off y' ht hx hy
  have hx':encS (f x)=.v (.one (.ep g (.int .i64 n) off)):=by rw [hx];rfl
  have hy':encS (f y)=.v (iQ y'):=by rw [hy];rfl
  have en:(P.int .i64 n).nat=n.toNat:=rfl
  split at h
  ·rename_i a0 i0 e0 cols l0 hole hog
   have hg:bg o g=.deep a0 i0 (size e0) (gB cols) (aB e0 l0) hole:=by simp [bg,hog,cZ]
   split at h
   ·rename_i ps a' i' gs es hD
    obtain ⟨hb,h⟩:=aW h
    obtain ⟨hb,h6⟩:=fA hb
    obtain ⟨hb,h5⟩:=fA hb
    obtain ⟨hb,h4⟩:=fA hb
    obtain ⟨hb,h3⟩:=fA hb
    obtain ⟨h1,h2⟩:=fA hb
    have h1:=Nat.le_of_ble_eq_true h1
    have h2:=Nat.eq_of_beq_eq_true h2
    obtain ⟨k1,k2,k3⟩:=Au (col':=fun j=>(gB cols).lookup j) (fun j=>Cb j cols) hD
    have hl:ps.length=i.size:=by
     have:=congrArg List.length k2
     simp [iC] at this
     omega
    have hgl:gs.contains g=false:=Hf h4
    have hcnd:off+i.size≤size e0∧(y'.words.map bf).length=i.size∧(iQ y').solid=true∧gs.contains g=false∧qQ (es.map (·.2))=true∧BF (es.map (·.2)) gs=true:=
     ⟨h1,by rw [List.length_map];exact h2,sD _ h3,hgl,h5,h6⟩
    have key :∀(pre:Bool) (pre':Prop) (a i1:Bool) (e:Ty) (l:List (Dt e)) (gW:Option (Nat×Nat×Nat)) (ks:List Nat),e=e0→(pre=true→pre')→
      dU { pre,t:=.sl e,val:=List.set l n.toNat (Jl e (Nat.beq i.size (size e)) (l.getD n.toNat (dflt e)) off ps),dst:=fun _=>.no,upd:=fun z=>(g,.deep (a||a') (i1||i') e cols z gW)::jU (es.map (·.2))++jU ks++gs.map (j_ o),new:=[] }
       (.mk pre' (.sl (size e0) ((aB e l).set (P.int .i64 n).nat (aF ((aB e l).getD (P.int .i64 n).nat []) off (ps.map enc1)))) (fun _=>.no)
        (fun z=>(g,.deep (a||a') (i1||i') (size e0) (gB cols) z.list gW)::kills (es.map (·.2))++kills ks++gs.map (Fw.freeze (bg o))) []):=by
     intro pre pre' a i1 e l gW ks he hpre
     subst he
     refine ⟨hpre,rfl,?_,rfl⟩
     show (g,O.deep (a||a') (i1||i') (size e) (gB cols) ((aB e l).set (P.int .i64 n).nat (aF ((aB e l).getD (P.int .i64 n).nat []) off (ps.map enc1))) gW)::kills (es.map (·.2))++kills ks++gs.map (Fw.freeze (bg o))=gu ((_::jU _)++jU _++_)
     rw [jT,jT,oI,oJ,oJ,nM k3,en]
     have hp:=DW (e:=e) (l:=l) (n:=n.toNat) (off:=off) (ps:=ps) (by rw [hl];exact k2) (by omega)
     rw [hl] at hp
     rw [←hp];rfl
    have eci:=o9 off i.size cols
    have hk:bY tt [] d (bg o) (fun x=>encS (f x)) (.store t x y) ty=bY tt [] d (bg o) (fun x=>encS (f x)) (.store t x y) ty:=rfl
    refine ⟨[],?_⟩
    simp only [bY,ht,hx',hy',hg,su,k1]
    rw [if_pos hcnd]
    split at h
    ·rename_i hci
     simp only [Option.some.injEq] at h;subst h
     have eci:lT (gB cols) off i.size=[]:=by rw [eci,hci];rfl
     simp only [eci]
     exact ⟨_,rfl,key true True a0 i0 e0 l0 hole [] rfl fun _=>trivial⟩
    ·rename_i c0 cs hci
     have eci:lT (gB cols) off i.size=(c0.1,size c0.2)::gB cs:=by rw [eci,hci];rfl
     simp only [eci]
     split at h
     ·simp only [Option.some.injEq] at h;subst h
      exact ⟨_,rfl,key true True a0 i0 e0 l0 none [] rfl fun _=>trivial⟩
     ·rename_i n0 c1 d0 _
      have over :∀(r:qg),(bif Nat.ble off c1&&Nat.blt c1 (off+i.size) then some
         ({ pre:=Nat.beq n0 n.toNat,t:=.sl e0,val:=List.set l0 n.toNat (Jl e0 (Nat.beq i.size (size e0)) (l0.getD n.toNat (dflt e0)) off ps),dst:=fun _=>.no,upd:=fun z=>(g,.deep (a0||a') (i0||i') e0 cols z none)::jU (es.map (·.2))++jU []++gs.map (j_ o),new:=[] }:qg) else none)=some r→
        (off≤c1∧c1<off+i.size)∧dU r (.mk (n0=(P.int .i64 n).nat) (.sl (size e0) ((aB e0 l0).set (P.int .i64 n).nat (aF ((aB e0 l0).getD (P.int .i64 n).nat []) off (ps.map enc1)))) (fun _=>.no)
         (fun z=>(g,.deep (a0||a') (i0||i') (size e0) (gB cols) z.list none)::kills (es.map (·.2))++kills []++gs.map (Fw.freeze (bg o))) []):=by
       intro r hr
       obtain ⟨hb,hr⟩:=aW hr
       simp only [Option.some.injEq] at hr;subst hr
       obtain ⟨q1,q2⟩:=fA hb
       exact ⟨⟨Nat.le_of_ble_eq_true q1,Nat.le_of_ble_eq_true q2⟩,key _ _ a0 i0 e0 l0 none [] rfl fun hp=>by rw [en];exact Nat.eq_of_beq_eq_true hp⟩
      split at h
      ·rename_i a i1 e jr l hh
       obtain ⟨j1,j2⟩:=oK hh
       simp only [j1]
       split at h
       ·rename_i hcc
        obtain ⟨q1,q2⟩:=fA hcc
        split at h
        ·rename_i hty
         simp only [Option.some.injEq] at h;subst h
         rw [if_pos ⟨Hf q1,Hf q2⟩]
         exact ⟨_,rfl,key true True a i1 e l none [d0] (wB hty) fun _=>trivial⟩
        ·cases h
       ·rename_i hcc
        obtain ⟨q1,q2⟩:=over r h
        rw [if_neg (by
         rintro ⟨z1,z2⟩
         rw [←aX] at z1 z2
         rw [z1,z2] at hcc;cases hcc),if_pos q1]
        exact ⟨_,rfl,q2⟩
      ·split at h
       ·cases h
       ·rename_i har
        obtain ⟨q1,q2⟩:=over r h
        simp only [Sr hog har]
        rw [if_pos q1]
        exact ⟨_,rfl,q2⟩
   ·cases h
  ·cases h
 ·cases h
theorem Jp (t:TypeId) (n c:Operand):He tt ety d o f (.makeSlice t n c) ty:=by
 intro r h
 simp only [iD] at h
 split at h
 ·rename_i e i1 i2 i3 a1 j1 n' a2 j2 c' ht hn hc
  change Int at n';change Int at c'
  have hn':encS (f n)=.v (.one (.p a1 j1 (.int .i64 n'))):=by rw [hn];rfl
  have hc':encS (f c)=.v (.one (.p a2 j2 (.int .i64 c'))):=by rw [hc];rfl
  split at h
  ·rename_i ie et he het
   split at h
   ·cases h
   ·rename_i yu BI hdc
    split at h
    ·rename_i ps hp
     obtain ⟨hb,h⟩:=aW h
     simp only [Option.some.injEq] at h;subst h
     obtain ⟨h1,h2⟩:=fA hb
     have hsz:=Nat.eq_of_beq_eq_true h2
     obtain ⟨k1,k2,_⟩:=Au (col':=fun j=>(gB (yu::BI)).lookup j) (fun j=>Cb j (yu::BI)) hp
     rw [qE] at k1
     refine ⟨gB (yu::BI),?_⟩
     have edc:gB (yu::BI)=(yu.1,size yu.2)::gB BI:=rfl
     simp only [bY,ht,hn',hc',edc,he]
     rw [edc] at k1
     simp only [k1]
     rw [if_pos (G_ h1)]
     refine ⟨_,rfl,⟨fun hp => ?_,rfl,?_,rfl⟩⟩
     ·have hp:zf ie.bytes n' c'=true:=hp
      simp only [zf,Bool.and_eq_true,decide_eq_true_eq] at hp
      obtain ⟨⟨⟨q1,q2⟩,q3⟩,q4⟩:=hp
      exact ⟨n'.toNat,c'.toNat,by congr 1;omega,by congr 1;omega,by omega,by
       have:((ie.bytes*c'.toNat:Nat):Int)≤281474976710656:=by
        rw [Int.natCast_mul,Int.toNat_of_nonneg (by omega)];exact q3
       omega,by omega⟩
     ·show [(d,O.deep false false ie.size ((yu.1,size yu.2)::gB BI) (List.replicate (P.int .i64 n').nat (ps.map enc1)) none)]=gu [(d,_)]
      have en:(P.int .i64 n').nat=n'.toNat:=rfl
      rw [oI,en]
      simp only [cZ,edc,hsz,aB,List.map_replicate,qB k2];rfl
    ·cases h
  ·cases h
 ·cases h
theorem Hg (t:TypeId) (n:Nat) (ps:Array (Nat×Operand)):He tt ety d o f (.buildSlice t n ps) ty:=by
 intro r h
 simp only [iD] at h
 split at h
 ·rename_i e i1 i2 i3 ht
  split at h
  ·rename_i ie et he het
   split at h
   ·cases h
   ·rename_i yu BI hdc
    split at h
    ·rename_i ws hw
     split at h
     ·rename_i qs a i gs es hp
      obtain ⟨hb,h⟩:=aW h
      simp only [Option.some.injEq] at h;subst h
      obtain ⟨hb,h4⟩:=fA hb
      obtain ⟨hb,h3⟩:=fA hb
      obtain ⟨h1,h2⟩:=fA hb
      have hsz:=Nat.eq_of_beq_eq_true h2
      have:=Ar hw
      rw [G9,qE] at this
      have edc:gB (yu::BI)=(yu.1,size yu.2)::gB BI:=rfl
      obtain ⟨k1,k2,k3⟩:=Au (col':=fun j=>((yu.1,size yu.2)::gB BI).lookup (j % ie.size)) (fun j=>by rw [←edc];exact Cb (j % ie.size) (yu::BI)) hp
      refine ⟨gB (yu::BI),?_⟩
      simp only [bY,ht,edc,he,BX,this,k1]
      rw [if_pos ⟨Nat.le_of_ble_eq_true h1,h3,h4⟩]
      refine ⟨_,rfl,⟨fun _=>trivial,rfl,?_,rfl⟩⟩
      show (d,O.deep a i ie.size ((yu.1,size yu.2)::gB BI) (chunks ie.size n (qs.map enc1)) none)::kills (es.map (·.2))++gs.map (Fw.freeze (bg o))=gu ((_::jU _)++_)
      rw [jT,oI,oJ,nM k3]
      have e1:=zi et n qs k2
      rw [hsz] at e1
      simp only [cZ,edc,hsz]
      rw [←e1]
     ·cases h
    ·cases h
  ·cases h
 ·cases h
theorem Sz (args:Array Operand) (ts:Array TypeId):He tt ety d o f (.call { callee:=.builtin .append,args:=args,argTypes:=ts }) ty:=by
 intro r h
 simp only [iD] at h
 split at h
 ·rename_i s x sT xT rest ha hts
  split at h
  ·rename_i e i1 i2 i3 e' j1 j2 j3 s' g2 hsT hxT hs hx
   have hs':encS (f s)=.v (.one (bf s')):=by rw [hs];rfl
   have hx':encS (f x)=.v (.one (.own g2)):=by rw [hx];rfl
   split at h
   ·rename_i ie a2 i2' et cols new he hh
    obtain ⟨j1',j2'⟩:=oK hh
    split at h
    ·rename_i pre a i old ks hbase
     obtain ⟨hb,h⟩:=aW h
     simp only [Option.some.injEq] at h;subst h
     obtain ⟨hb,h3⟩:=fA hb
     obtain ⟨h1,h2⟩:=fA hb
     have hsz:=Nat.eq_of_beq_eq_true h2
     have hb0:ie.bytes≠0:=fun e=>by rw [e] at h1;cases h1
     have hB :∃ask src,baseD (bg o) (bf s')=some (ask,a,i,aB et old,ks,src)∧(src=none∨src=some (size et,gB cols))∧(pre=true→ask):=by
      cases s' with
      |bD=>
       simp only [O8,Option.some.injEq,Prod.mk.injEq] at hbase
       obtain ⟨rfl,rfl,rfl,rfl,rfl⟩:=hbase
       exact ⟨True,none,rfl,.inl rfl,fun _=>trivial⟩
      |own g=>
       simp only [O8] at hbase
       split at hbase
       ·rename_i a1 i1 e1 jr l hg
        obtain ⟨q1,q2⟩:=oK hg
        split at hbase
        ·rename_i l1 hl hc
         simp only [Option.some.injEq,Prod.mk.injEq] at hbase
         obtain ⟨rfl,rfl,rfl,rfl,rfl⟩:=hbase
         obtain ⟨ee,hl⟩:=nC hl
         cases ee
         subst hl
         have:=nD hc
         subst this
         exact ⟨True,some (size et,gB jr),by simp only [bf,baseD,q1,q2],.inr rfl,fun _=>trivial⟩
        ·cases hbase
       ·cases hbase
      |vw g lo hi=>
       simp only [O8] at hbase
       split at hbase
       ·rename_i a1 i1 e1 jr l hg
        obtain ⟨q1,q2⟩:=oK hg
        split at hbase
        ·rename_i l1 hl hc
         simp only [Option.some.injEq,Prod.mk.injEq] at hbase
         obtain ⟨rfl,rfl,rfl,rfl,rfl⟩:=hbase
         obtain ⟨ee,hl⟩:=nC hl
         cases ee
         subst hl
         have:=nD hc
         subst this
         refine ⟨P.int .i64 lo=kJ 0,some (size et,gB jr),by simp only [bf,baseD,q1,q2,ug],.inr rfl,fun h => ?_⟩
         have h:lo=0:=by simpa using h
         subst h;rfl
        ·cases hbase
       ·cases hbase
      |_=>simp [O8] at hbase
     obtain ⟨ask,src,q1,q2,q3⟩:=hB
     refine ⟨[],?_⟩
     simp only [bY,ha,hts,hsT,hxT,hs',hx',he,q1,j1']
     rw [if_pos ⟨hb0,hsz,q2,by rw [j2'];exact h3⟩]
     refine ⟨_,rfl,⟨fun hp => ?_,rfl,?_,rfl⟩⟩
     ·obtain ⟨p1,p2⟩:=fA hp
      refine ⟨q3 p1,?_⟩
      rw [dM,dM]
      simpa using p2
     ·show (d,O.deep (a||a2) (i||i2') (size et) (gB cols) (aB et old++aB et new) none)::kills (ks++g2::(bg o g2).hn)=gu (_::jU _)
      rw [oI,oJ,j2',←wG];rfl
    ·cases h
   ·cases h
  ·cases h
 ·cases h
theorem Xa (t:TypeId) (x:Operand) (lo hi mx:Option Operand):He tt ety d o f (.slice t x lo hi mx) ty:=by
 intro r h
 cases lo with
 |some _=>simp [iD] at h
 |none=>
 cases mx with
 |some _=>simp [iD] at h
 |none=>
 simp only [iD] at h
 split at h
 ·cases h
 ·split at h
  ·rename_i e i1 i2 i3 g ht hx
   have hx':encS (f x)=.v (.one (.own g)):=by rw [hx];rfl
   split at h
   ·rename_i ie a i et l he hg
    change List (Dt et) at l
    obtain ⟨hb,h⟩:=aW h
    split at h
    ·rename_i hi' hhi
     simp only [Option.some.injEq] at h;subst h
     have yN:=mg hhi
     have hg':bg o g=.arr false a i (size et) (aB et l):=fG hg
     refine ⟨[],?_⟩
     have en:kJ (aB et l).length=P.int .i64 (List.length (α:=Dt et) l:Int):=by rw [dM];rfl
     simp only [bY,ht,hx',he,hg']
     rw [if_pos (Nat.eq_of_beq_eq_true hb)]
     simp only [en,yN]
     refine ⟨_,rfl,⟨fun hp => ?_,rfl,?_,rfl⟩⟩
     ·obtain ⟨h1,h2⟩:=fA hp
      have h1:=of_decide_eq_true h1
      have h2:=of_decide_eq_true h2
      exact ⟨hi'.toNat,by rw [Int.toNat_of_nonneg h1],by rw [dM];omega⟩
     ·show [(d,O.arr false a i (size et) ((aB et l).take (P.nat (.int .i64 hi')))),(g,O.none)]=[(d,O.arr false a i (size et) (aB et (List.take hi'.toNat l))),(g,O.none)]
      rw [ug]
    ·cases h
   ·cases h
  ·cases h
theorem O_ (op:Op):He tt ety d o f op ty:=by
 cases op
 case load t x=>exact Y9 t x
 case store t x y=>exact W_ t x y
 case buildSlice t n ps=>exact Hg t n ps
 case makeSlice t n c=>exact Jp t n c
 case slice t x lo hi mx=>exact Xa t x lo hi mx
 case call c=>
  obtain ⟨callee,args,ts⟩:=c
  cases callee
  case builtin b=>
   cases b
   case append=>exact Sz args ts
   all_goals (intro r h;simp [iD] at h)
  all_goals (intro r h;simp [iD] at h)
 all_goals (intro r h;simp [iD] at h)
end
end
end Go.Fg

namespace Go.Fg
open Go.Fw
set_option linter.unusedVariables false
set_option linter.unusedSectionVars false
inductive Prog:Type→Type 1 where
 |ret {R:Type} (r:R):Prog R
 |stuck {R:Type} (n:Nat):Prog R
 |cond {R:Type} (b:Bool) (x y:Prog R):Prog R
 |chk {R:Type} (b:Bool) (x:Prog R):Prog R
 |any {R:Type} (x y:Prog R):Prog R
 |let_ {A R:Type} (x:A) (k:A→Prog R):Prog R
 |join {A R:Type} (x:Prog A) (k:A→Prog R):Prog R
 |JZ {A R:Type} (x:Prog (A ⊕ R)) (k:A→Prog R):Prog R
 |loop {A R:Type} (a:A) (body:A→Prog (A ⊕ R)):Prog R
 |call {A B R:Type} (n:Nat) (f:A→Option B) (a:A) (k:B→Prog R):Prog R
def Prog.map:{R R':Type}→(R→R')→Prog R→Prog R'
 |_,_,f,.ret r=>.ret (f r)
 |_,_,_,.stuck n=>.stuck n
 |_,_,f,.cond b x y=>.cond b (x.map f) (y.map f)
 |_,_,f,.chk b x=>.chk b (x.map f)
 |_,_,f,.any x y=>.any (x.map f) (y.map f)
 |_,_,f,.let_ x k=>.let_ x fun z=>(k z).map f
 |_,_,f,.join x k=>.join x fun z=>(k z).map f
 |_,_,f,.JZ x k=>.JZ (x.map (Sum.map id f)) fun z=>(k z).map f
 |_,_,f,.loop a body=>.loop a fun z=>(body z).map (Sum.map id f)
 |_,_,f,.call n g a k=>.call n g a fun z=>(k z).map f
def gJ {A R:Type} (body:A→Option (A ⊕ R)):Nat→A→Option R
 |0,_=>none
 |n+1,a=>(body a).bind fun
  |.inl a'=>gJ body n a'
  |.inr r=>some r
open Classical in
noncomputable def aY {A R:Type} (body:A→Option (A ⊕ R)) (a:A):Option R:=
 if h :∃n r,gJ body n a=some r then gJ body (Classical.choose h) a else none
open Classical in
noncomputable def both {R:Type} (x y:Option R):Option R:=if x=y then x else none
def ck {R:Type} (b:Bool) (x:Option R):Option R:=bif b then x else none
def dn {A R:Type} (x:Option (A ⊕ R)) (k:A→Option R):Option R:=x.bind fun
 |.inl z=>k z
 |.inr r=>some r
def bW (x:Int):Int:=IntKind.i64.wrap x
noncomputable def Prog.run:{R:Type}→Prog R→Option R
 |_,.ret r=>some r
 |_,.stuck _=>none
 |_,.cond b x y=>bif b then x.run else y.run
 |_,.chk b x=>ck b x.run
 |_,.any x y=>both x.run y.run
 |_,.let_ x k=>(k x).run
 |_,.join x k=>x.run.bind fun z=>(k z).run
 |_,.JZ x k=>dn x.run fun z=>(k z).run
 |_,.loop a body=>aY (fun z=>(body z).run) a
 |_,.call _ g a k=>(g a).bind fun z=>(k z).run
section
variable [RE]
inductive jm where
 |p (a i:Bool) (t:Ty)
 |bD
 |own (g:Nat)
 |box (g off:Nat)
 |fn (f:FuncId) (gs:List Nat)
 |lH (g:Nat)
 |no
 |vw (g:Nat)
 |ep (g off:Nat)
inductive jK where
 |one (x:jm)
 |agg (xs:List jm)
inductive f_ where
 |box (ws:List jm)
 |arr (fz a i:Bool) (e:Ty)
 |it
 |deep (a i:Bool) (e:Ty) (cols:List (Nat×Ty))
structure J3 where
 slots:List (Nat×jK)
 objs:List (Nat×f_)
def jm.er:jm→WS
 |.p a i _=>.p a i
 |.bD=>.bD
 |.own g=>.own g
 |.box g off=>.box g off
 |.fn f gs=>.fn f gs
 |.lH g=>.lH g
 |.no=>.no
 |.vw g=>.vw g
 |.ep g off=>.ep g off
def jK.er:jK→SS
 |.one x=>.one x.er
 |.agg xs=>.agg (xs.map jm.er)
def f_.er:f_→OS
 |.box ws=>.box (ws.map jm.er)
 |.arr fz a i e=>.arr fz a i (size e)
 |.it=>.it
 |.deep a i e cols=>.deep a i (size e) (gB cols)
def J3.er (j:J3):Shape:=⟨j.slots.map fun p=>(p.1,p.2.er),j.objs.map fun p=>(p.1,p.2.er)⟩
def jm.tys:jm→List Ty
 |.p _ _ t=>[t]
 |.vw _=>[.int .i64,.int .i64]
 |.ep _ _=>[.int .i64]
 |_=>[]
def jK.tys:jK→List Ty
 |.one x=>x.tys
 |.agg xs=>xs.flatMap jm.tys
def f_.tys:f_→List Ty
 |.box ws=>ws.flatMap jm.tys
 |.arr _ _ _ e=>[.sl e]
 |.it=>[.str,.int .i64]
 |.deep _ _ e _=>[.sl e]
def J3.tys (j:J3):List Ty:=j.slots.flatMap (fun p=>p.2.tys)++j.objs.flatMap fun p=>p.2.tys
def Tup:List Ty→Type
 | []=>Unit
 | [t]=>Dt t
 |t::u::ts=>Dt t×Tup (u::ts)
def Tup.jo:(ts:List Ty)→Tup ts→List Wd
 | [],_=>[]
 | [t],x=>[⟨t,x⟩]
 |t::u::ts,x=>⟨t,x.1⟩::Tup.jo (u::ts) x.2
def Tup.ofL:(ts:List Ty)→List Wd→Option (Tup ts)
 | [],[]=>some ()
 | [t],[w]=>w.zL t
 |t::u::ts,w::ws=>match w.zL t,Tup.ofL (u::ts) ws with
  |some x,some xs=>some (x,xs)
  |_,_=>none
 |_,_=>none
def EZ (m:Ren):List Nat→List TW→Bool
 | [],[]=>true
 |g'::gs,.box g off::cs=>decide (m.lookup g'=some (some g))&&(Nat.beq off 0&&EZ m gs cs)
 |_,_=>false
def Cc:List Nat→List TW
 | []=>[]
 |g::gs=>.box g 0::Cc gs
def Ce (m:Ren):jm→TW→Option (List Wd)
 |.p a i t,.p a' i' w=>match w.zL t with
  |some _=>bif (imp a' a&&imp i' i)||w.t.flat then some [w] else none
  |none=>none
 |.p _ _ t,.bD=>match t with
  |.sl e=>some [rY e []]
  |_=>none
 |.bD,.bD=>some []
 |.own g',.own g=>if m.lookup g'=some (some g) then some [] else none
 |.own g',.bD=>if m.lookup g'=some none then some [] else none
 |.box g' off,.box g off'=>if m.lookup g'=some (some g)∧off=off' then some [] else none
 |.fn f gs,.clo f' caps=>bif Nat.beq f f'&&EZ m gs caps then some [] else none
 |.lH g',.lH g=>if m.lookup g'=some (some g) then some [] else none
 |.no,_=>some []
 |.vw g',.vw g lo hi=>if m.lookup g'=some (some g) then some [jk .i64 lo,jk .i64 hi] else none
 |.ep g' off,.ep g n off'=>if m.lookup g'=some (some g)∧off=off' then some [jk .i64 n] else none
 |_,_=>none
def wI (m:Ren):List jm→List TW→Option (List Wd)
 | [],[]=>some []
 |k::ks,x::xs=>match Ce m k x,wI m ks xs with
  |some u,some v=>some (u++v)
  |_,_=>none
 |_,_=>none
def ab2 (m:Ren):jK→TS→Option (List Wd)
 |.one k,.v (.one x)=>Ce m k x
 |.agg ks,.v (.agg xs)=>wI m ks xs
 |_,_=>none
def SA (m:Ren):f_→TO→Option (List Wd)
 |.box ks,.box xs=>wI m ks xs
 |.arr fz a i e,.arr fz' a' i' e' l=>match (rY e' l).zL (.sl e) with
  |some l=>if fz=fz'∧(imp a' a&&imp i' i)=true then some [rY e l] else none
  |none=>none
 |.it,.it s n=>some [OW s,jk .i64 n]
 |.deep a i e cols,.deep a' i' e' jr l hole=>match hole,(rY e' l).zL (.sl e),DX cols jr with
  |none,some l,true=>if (imp a' a&&imp i' i)=true then some [rY e l] else none
  |_,_,_=>none
 |_,_=>none
def mD (m:Ren) (s:Nat→TS):List (Nat×jK)→Option (List Wd)
 | []=>some []
 |(t,k)::rest=>match ab2 m k (s t),mD m s rest with
  |some u,some v=>some (u++v)
  |_,_=>none
def oz (m:Ren) (o:Nat→TO):List (Nat×f_)→Option (List Wd)
 | []=>some []
 |(g',k)::rest=>match (match m.lookup g' with
   |some (some g)=>SA m k (o g)
   |some none=>(match k with
    |.arr false _ _ e=>some [rY e []]
    |.deep _ _ e _=>some [rY e []]
    |_=>none)
   |none=>none),oz m o rest with
  |some u,some v=>some (u++v)
  |_,_=>none
def xO (j:J3) (m:Ren) (st:jf):Option (List Wd):=
 match j.er.ok&&aev j.er m with
 |true=>match mD m st.gs j.slots,oz m st.go j.objs with
  |some u,some v=>some (u++v)
  |_,_=>none
 |false=>none
def zl:Wd:=⟨.bool,false⟩
def zn (vs:List Wd) (n:Nat):jm→TW×Nat
 |.p a i _=>(.p a i (vs.getD n zl),n+1)
 |.bD=>(.bD,n)
 |.own g=>(.own g,n)
 |.box g off=>(.box g off,n)
 |.fn f gs=>(.clo f (Cc gs),n)
 |.lH g=>(.lH g,n)
 |.no=>(.no,n)
 |.vw g=>(.vw g ((vs.getD n zl).as (.int .i64)) ((vs.getD (n+1) zl).as (.int .i64)),n+2)
 |.ep g off=>(.ep g ((vs.getD n zl).as (.int .i64)) off,n+1)
def sG (vs:List Wd):Nat→List jm→List TW×Nat
 |n,[]=>([],n)
 |n,k::ks=>((zn vs n k).1::(sG vs (zn vs n k).2 ks).1,(sG vs (zn vs n k).2 ks).2)
def EP (vs:List Wd) (n:Nat):jK→TS×Nat
 |.one k=>(.v (.one (zn vs n k).1),(zn vs n k).2)
 |.agg ks=>(.v (.agg (sG vs n ks).1),(sG vs n ks).2)
def Ci (vs:List Wd) (n:Nat):f_→TO×Nat
 |.box ks=>(.box (sG vs n ks).1,(sG vs n ks).2)
 |.arr fz a i e=>(.arr fz a i e ((vs.getD n zl).as (.sl e)),n+1)
 |.it=>(.it ((vs.getD n zl).as .str) ((vs.getD (n+1) zl).as (.int .i64)),n+2)
 |.deep a i e cols=>(.deep a i e cols ((vs.getD n zl).as (.sl e)) none,n+1)
def eG (vs:List Wd):Nat→List (Nat×jK)→List (Nat×TS)×Nat
 |n,[]=>([],n)
 |n,(t,k)::rest=>((t,(EP vs n k).1)::(eG vs (EP vs n k).2 rest).1,(eG vs (EP vs n k).2 rest).2)
def iU (vs:List Wd):Nat→List (Nat×f_)→List (Nat×TO)×Nat
 |n,[]=>([],n)
 |n,(g,k)::rest=>((g,(Ci vs n k).1)::(iU vs (Ci vs n k).2 rest).1,(iU vs (Ci vs n k).2 rest).2)
def mkT (j:J3) (vs:List Wd):jf:=
 { s:=(eG vs 0 j.slots).1,o:=(iU vs (eG vs 0 j.slots).2 j.objs).1,u:=j.objs.map (·.1) }
def UA:List Nat→List TW→Ren
 |g'::gs,.box g _::cs=>(g',some g)::UA gs cs
 |_,_=>[]
def ah1:jm→TW→Ren
 |.own g',.own g=>[(g',some g)]
 |.own g',.bD=>[(g',none)]
 |.box g' _,.box g _=>[(g',some g)]
 |.lH g',.lH g=>[(g',some g)]
 |.fn _ gs,.clo _ caps=>UA gs caps
 |.vw g',.vw g _ _=>[(g',some g)]
 |.ep g' _,.ep g _ _=>[(g',some g)]
 |_,_=>[]
def Y_:List jm→List TW→Ren
 |k::ks,x::xs=>ah1 k x++Y_ ks xs
 |_,_=>[]
def ak6:jK→TS→Ren
 |.one k,.v (.one x)=>ah1 k x
 |.agg ks,.v (.agg xs)=>Y_ ks xs
 |_,_=>[]
def Ph (s:Nat→TS):List (Nat×jK)→Ren
 | []=>[]
 |(t,k)::r=>ak6 k (s t)++Ph s r
def E5 (m:Ren) (o:Nat→TO):List (Nat×f_)→Ren
 | []=>[]
 |(g',.box ks)::r=>(match m.lookup g' with
  |some (some g)=>match o g with
   |.box ws=>Y_ ks ws
   |_=>[]
  |_=>[])++E5 m o r
 |_::r=>E5 m o r
def derive (aN:List Nat) (j:J3) (st:jf):Ren:=
 let m0:=aN.map (fun g=>(g,some g))++Ph st.gs j.slots
 let m1:=m0++E5 m0 st.go j.objs
 m1++E5 m1 st.go j.objs
structure bT where
 nargs:Nat
 pin:J3
 aG:J3
 bM:Nat
 aN:List Nat
 news:List Nat
 kept:List Nat:=[]
def bT.er (s:bT):xH:={ nargs:=s.nargs,pin:=s.pin.er,aG:=s.aG.er,bM:=s.bM,aN:=s.aN,news:=s.news }
open Classical in
noncomputable def uY {A R:Type} (x y:A) (r:Option R):Option R:=if x=y then r else none
noncomputable def Hl {R:Type} (a b:Nat→TO) (r:R):List Nat→Option R
 | []=>some r
 |g::gs=>match a g,b g with
  |.arr false _ _ e l,.arr false _ _ e' l'=>match (rY e' l').zL (.sl e) with
   |some l''=>uY (A:=List (Dt e)) l'' l (Hl a b r gs)
   |none=>none
  |.deep _ _ e cols l none,.deep _ _ e' jr l' none=>match (rY e' l').zL (.sl e),DX cols jr with
   |some l'',true=>uY (A:=List (Dt e)) l'' l (Hl a b r gs)
   |_,_=>none
  |_,_=>none
structure aQ where
 sig:bT
 f:Tup sig.pin.tys→Option (Tup sig.aG.tys)
noncomputable def aQ.ff (s:aQ):Tup s.sig.pin.tys→Option (Tup s.sig.aG.tys):=match s.sig.kept with
 | []=>s.f
 |g::gs=>fun x=>(s.f x).bind fun y=>Hl (mkT s.sig.pin (Tup.jo s.sig.pin.tys x)).go (mkT s.sig.aG (Tup.jo s.sig.aG.tys y)).go y (g::gs)
abbrev mF:=FuncId→Option aQ
structure ER where
 ins:List Wd
 A:Bool×Bool
 I:Bool×Bool
 sS:List Nat
 ren:List (Nat×Nat)
def nN:List Nat→List TW→Option (List (Nat×Nat))
 | [],[]=>some []
 |g'::gs,.box g off::cs=>bif Nat.beq off 0 then match nN gs cs with
  |some r=>some ((g',g)::r)
  |none=>none
  else none
 |_,_=>none
def J4 (o:Nat→TO):jm→TW→Option (List Wd×(Bool×Bool)×List Nat×List (Nat×Nat))
 |.p _ _ t,x=>match x.toP o t with
  |some (y,a,i,gs)=>some ([⟨t,y⟩],(a,i),gs,[])
  |none=>none
 |.own g',.own g=>some ([],(false,false),[],[(g',g)])
 |.box g' off',.box g off=>bif Nat.beq off' 0&&Nat.beq off 0 then some ([],(false,false),[],[(g',g)]) else none
 |.fn f gs,.clo f' caps=>bif Nat.beq f f' then match nN gs caps with
  |some r=>some ([],(false,false),[],r)
  |none=>none
  else none
 |_,_=>none
def nV (o:Nat→TO):List jm→List TW→Option (List Wd×(Bool×Bool)×List Nat×List (Nat×Nat))
 | [],[]=>some ([],(false,false),[],[])
 |k::ks,x::xs=>match J4 o k x,nV o ks xs with
  |some (u,c,g,r),some (u',c',g',r')=>some (u++u',uV c c',g++g',r++r')
  |_,_=>none
 |_,_=>none
def UC (o:Nat→TO):jK→TS→Option (List Wd×(Bool×Bool)×List Nat×List (Nat×Nat))
 |.one k,.v (.one x)=>J4 o k x
 |.agg ks,.v (.agg xs)=>nV o ks xs
 |_,_=>none
def lC (o:Nat→TO) (args:List TS):List (Nat×jK)→Option (List Wd×(Bool×Bool)×List Nat×List (Nat×Nat))
 | []=>some ([],(false,false),[],[])
 |(t,k)::rest=>match UC o k (args.getD t .no),lC o args rest with
  |some (u,c,g,r),some (u',c',g',r')=>some (u++u',uV c c',g++g',r++r')
  |_,_=>none
def afL:jm→TW→Option (List Wd×(Bool×Bool)×List (Nat×Nat))
 |.p _ _ t,.p a i w=>match w.zL t with
  |some x=>some ([⟨t,x⟩],(a,i),[])
  |none=>none
 |.p _ _ t,.bD=>match t with
  |.sl e=>some ([rY e []],(false,false),[])
  |_=>none
 |.own g',.own g=>some ([],(false,false),[(g',g)])
 |.box g' off',.box g off=>bif Nat.beq off' 0&&Nat.beq off 0 then some ([],(false,false),[(g',g)]) else none
 |.fn f gs,.clo f' caps=>bif Nat.beq f f' then match nN gs caps with
  |some r=>some ([],(false,false),r)
  |none=>none
  else none
 |_,_=>none
def Ho:List jm→List TW→Option (List Wd×(Bool×Bool)×List (Nat×Nat))
 | [],[]=>some ([],(false,false),[])
 |k::ks,x::xs=>match afL k x,Ho ks xs with
  |some (u,c,r),some (u',c',r')=>some (u++u',uV c c',r++r')
  |_,_=>none
 |_,_=>none
def uj (o:Nat→TO):List (Nat×Nat)→List (Nat×f_)→Option (List Wd×(Bool×Bool)×List (Nat×Nat))
 |ren,[]=>some ([],(false,false),ren)
 |ren,(g',k)::rest=>match ren.lookup g' with
  |some g=>match k,o g with
   |.box ks,.box ws=>match Ho ks ws with
    |some (u,c,r)=>match uj o (ren++r) rest with
     |some (u',c',r')=>some (u++u',uV c c',r')
     |none=>none
    |none=>none
   |.arr _ _ _ e,.arr false a i e' l=>match (rY e' l).zL (.sl e) with
    |some l=>match uj o ren rest with
     |some (u',c',r')=>some (rY e l::u',uV (a,i) c',r')
     |none=>none
    |none=>none
   |.deep _ _ e cols,.deep a i e' jr l hole=>match hole,(rY e' l).zL (.sl e),DX cols jr with
    |none,some l,true=>match uj o ren rest with
     |some (u',c',r')=>some (rY e l::u',uV (a,i) c',r')
     |none=>none
    |_,_,_=>none
   |_,_=>none
  |none=>none
def um (s:bT) (o:Nat→TO) (args:List TS):Option ER:=
 match lC o args s.pin.slots with
 |some (u,A,gs,r)=>match uj o r s.pin.objs with
  |some (u',I,r')=>some { ins:=u++u',A,I,sS:=gs,ren:=iW r' }
  |none=>none
 |none=>none
def ER.er (c:ER):Jf:={ ins:=c.ins.map enc1,A:=c.A,I:=c.I,sS:=c.sS,ren:=c.ren }
def wJ (f:Nat→Nat):List TW→List TW
 | []=>[]
 |.box g off::r=>.box (f g) off::wJ f r
 |_::r=>.no::wJ f r
def Xb (A I:Bool×Bool) (f:Nat→Nat):TW→TW
 |.p a i x=>.p (oU A I a i).1 (oU A I a i).2 x
 |.bD=>.bD
 |.own g=>.own (f g)
 |.box g off=>.box (f g) off
 |.clo fn caps=>.clo fn (wJ f caps)
 |_=>.no
def afM (A I:Bool×Bool) (f:Nat→Nat):TV→TV
 |.one x=>.one (Xb A I f x)
 |.agg xs=>.agg (xs.map (Xb A I f))
def Za (A I:Bool×Bool) (f:Nat→Nat):TS→TV
 |.v x=>afM A I f x
 |_=>.one .no
def ML (A I:Bool×Bool) (f:Nat→Nat):TO→TO
 |.none=>.none
 |.box ws=>.box (ws.map (Xb A I f))
 |.arr fz a i e l=>.arr fz (oU A I a i).1 (oU A I a i).2 e l
 |.it s n=>.it s n
 |.deep a i e cols l _=>.deep (oU A I a i).1 (oU A I a i).2 e cols l none
structure jg where
 x:TS
 upd:List (Nat×TO)
 new:List Nat
def jg.er (e:jg):Eff:={ x:=encS e.x,upd:=gu e.upd,new:=e.new }
def Zb (vs:List TV):TS:=match vs with
 | [x]=>.v x
 |xs=>.kC xs
def jw (s:bT) (d:Nat) (o:Nat→TO) (c:ER) (outs:List Wd):jg:=
 let x:=mkT s.aG outs
 let f:=callName d s.er c.ren
 { x:=Zb ((List.range s.bM).map fun k=>Za c.A c.I f (x.gs k)),upd:=(bif s.er.kN then c.sS.map (j_ o) else [])++c.ren.map (fun p=>(p.2,bif s.aN.contains p.1 then ML c.A c.I f (x.go p.1) else .none))++s.news.map (fun g=>(f g,ML c.A c.I f (x.go g))),new:=s.news.map f }
def afN:Bool→Bool→Bool
 |true,true=>true
 |false,false=>true
 |_,_=>false
def SB:TO→Option (Bool×Bool)
 |.arr fz a i _ _=>match fz with
  |true=>none
  |false=>some (a,i)
 |.deep a i _ _ _ hole=>match hole with
  |none=>some (a,i)
  |some _=>none
 |_=>none
def Aw (s:bT) (o f:Nat→TO):List (Nat×Nat)→List Nat
 | []=>[]
 |(g',g)::r=>match dS g' s.kept&&s.aN.contains g',SB (o g),SB (f g') with
  |true,some (a,i),some (a',i')=>match afN a a'&&afN i i' with
   |true=>g::Aw s o f r
   |false=>Aw s o f r
  |_,_,_=>Aw s o f r
def J5 (same:List Nat):List (Nat×TO)→List (Nat×TO)
 | []=>[]
 |(g,x)::r=>match dS g same with
  |true=>J5 same r
  |false=>(g,x)::J5 same r
def xP (s:bT) (d:Nat) (o:Nat→TO) (c:ER) (outs:List Wd):jg:=match s.kept with
 | []=>jw s d o c outs
 |_::_=>
  let e:=jw s d o c outs
  { e with upd:=J5 (Aw s o (fun g'=>ML c.A c.I (callName d s.er c.ren) ((mkT s.aG outs).go g')) c.ren) e.upd }
def jg.skip:jg:={ x:=.kC [],upd:=[],new:=[] }
def Cj (l:List (Nat×TO)):List (Nat×TO)→List (Nat×TO)
 | []=>l
 |(g,x)::r=>y9 g x (Cj l r)
structure iK where
 st:jf
 ds:List Nat
 od:List Nat
def jf.put (st:jf) (dst:Option Tmp) (x:TS):jf:=match dst with
 |some t=>{ st with s:=y9 t x st.s }
 |none=>st
def iK.eff (q:iK) (dst:Option Tmp) (e:jg):iK:=
 { st:={ s:=(q.st.put dst e.x).s,o:=Cj q.st.o e.upd,u:=e.new++q.st.u },ds:=(match dst with | some t=>t::q.ds | none=>q.ds),od:=e.upd.map (·.1)++q.od }
def Zc {β:Type 1} (b:Bool) (k:Bool→β):β:=match b with
 |true=>k true
 |false=>k false
def MN {β:Type 1}:Ty→(Ty→β)→β
 |.int .i8,k=>k (.int .i8)
 |.int .i16,k=>k (.int .i16)
 |.int .i32,k=>k (.int .i32)
 |.int .i64,k=>k (.int .i64)
 |.int .u8,k=>k (.int .u8)
 |.int .u16,k=>k (.int .u16)
 |.int .u32,k=>k (.int .u32)
 |.int .u64,k=>k (.int .u64)
 |.bool,k=>k .bool
 |.str,k=>k .str
 |.sl e,k=>MN e fun e=>k (.sl e)
 |.prod a b,k=>MN a fun a=>MN b fun b=>k (.prod a b)
 |.st n,k=>k (.st n)
 |.opq,k=>k .opq
 |.sq e,k=>MN e fun e=>k (.sq e)
def frW {β:Type 1}:TW→(TW→β)→β
 |.p a i ⟨t,x⟩,k=>Zc a fun a=>Zc i fun i=>k (.p a i ⟨t,x⟩)
 |.bD,k=>k .bD
 |.own g,k=>k (.own g)
 |.vw g lo hi,k=>k (.vw g lo hi)
 |.box g off,k=>k (.box g off)
 |.ep g n off,k=>k (.ep g n off)
 |.sp a i t x off,k=>Zc a fun a=>Zc i fun i=>k (.sp a i t x off)
 |.clo f caps,k=>k (.clo f caps)
 |.gl g,k=>k (.gl g)
 |.lH g,k=>k (.lH g)
 |.no,k=>k .no
def Zd {β:Type 1}:List TW→(List TW→β)→β
 | [],k=>k []
 |x::xs,k=>frW x fun x=>Zd xs fun xs=>k (x::xs)
def frV {β:Type 1}:TV→(TV→β)→β
 |.one x,k=>frW x fun x=>k (.one x)
 |.agg xs,k=>Zd xs fun xs=>k (.agg xs)
def ab3 {β:Type 1}:List TV→(List TV→β)→β
 | [],k=>k []
 |x::xs,k=>frV x fun x=>ab3 xs fun xs=>k (x::xs)
def frS {β:Type 1}:TS→(TS→β)→β
 |.v x,k=>frV x fun x=>k (.v x)
 |.kC xs,k=>ab3 xs fun xs=>k (.kC xs)
 |.no,k=>k .no
def frC {β:Type 1}:List (Nat×Ty)→(List (Nat×Ty)→β)→β
 | [],k=>k []
 |(c,t)::r,k=>MN t fun t=>frC r fun r=>k ((c,t)::r)
def frH {β:Type 1}:Option (Nat×Nat×Nat)→(Option (Nat×Nat×Nat)→β)→β
 |none,k=>k none
 |some (n,c,d),k=>k (some (n,c,d))
def frO {β:Type 1}:TO→(TO→β)→β
 |.none,k=>k .none
 |.box ws,k=>Zd ws fun ws=>k (.box ws)
 |.arr fz a i e l,k=>Zc fz fun fz=>Zc a fun a=>Zc i fun i=>k (.arr fz a i e l)
 |.it s n,k=>k (.it s n)
 |.deep a i e cols l hole,k=>Zc a fun a=>Zc i fun i=>frC cols fun cols=>frH hole fun hole=>k (.deep a i e cols l hole)
def ab4 {β:Type 1}:List (Nat×TS)→(List (Nat×TS)→β)→β
 | [],k=>k []
 |(t,x)::r,k=>frS x fun x=>ab4 r fun r=>k ((t,x)::r)
def ab5 {β:Type 1}:List (Nat×TO)→(List (Nat×TO)→β)→β
 | [],k=>k []
 |(t,x)::r,k=>frO x fun x=>ab5 r fun r=>k ((t,x)::r)
def Jq {β:Type 1}:List Nat→(List Nat→β)→β
 | [],k=>k []
 |x::r,k=>Jq r fun r=>k (x::r)
def frX {β:Type 1} (q:iK) (k:iK→β):β:=
 ab4 q.st.s fun s=>ab5 q.st.o fun o=>Jq q.st.u fun u=>Jq q.ds fun ds=>Jq q.od fun od=>k ⟨⟨s,o,u⟩,ds,od⟩
noncomputable def Ze {R:Type} (T:mF) (tt:TT) (ety:TypeId→Option Ty) (d:Nat) (st:jf) (o:Oper) (K:jg→Prog R):Prog R:=
 match o.op with
 |.call { callee:=.value f,args,.. }=>match st.bZ f with
  |.v (.one (.clo fn caps))=>match T fn with
   |some sp=>match um sp.sig st.go ((args.toList.map st.bZ)++caps.map fun x=>TS.v (.one x)) with
    |some c=>match c.er.fine sp.sig.er&&Nat.beq (args.size+caps.length) sp.sig.nargs with
     |true=>match Tup.ofL sp.sig.pin.tys c.ins with
      |some x=>match sp.sig.er.ok with
       |true=>.call fn sp.ff x fun y=>K (xP sp.sig d st.go c (Tup.jo sp.sig.aG.tys y))
       |false=>.stuck 17
      |none=>.stuck 11
     |false=>.stuck 12
    |none=>.stuck 13
   |none=>.stuck 14
  |_=>.stuck 15
 |op=>match iD tt ety d st.go st.bZ op o.type with
  |some r=>.chk r.pre (.let_ r.val fun z=>K { x:=r.dst z,upd:=r.upd z,new:=r.new })
  |none=>match bV tt ety d st.go st.bZ op o.type with
   |some r=>.chk r.pre (.let_ r.val fun z=>K { x:=r.dst z,upd:=r.upd z,new:=r.new })
   |none=>.stuck 16
def zo (u:List Nat):List Nat→Bool
 | []=>true
 |g::gs=>!dS g u&&zo u gs
def SC (ops:Array Oper) (st:jf) (j:Nat):Option (Tmp×Option (Bool×Bool×Bool)):=
 match (ops[j]?).bind (·.dst) with
 |some t=>match st.gs t with
  |.v (.one (.p a i ⟨.bool,b⟩))=>some (t,some (a,i,b))
  |.kC []=>some (t,none)
  |_=>none
 |none=>none
def UD (N:Nat):Option Tmp→Bool
 |some d=>Nat.blt d N
 |none=>true
def iK.know (q:iK) (t:Tmp) (a i b:Bool):iK:={ q with st:={ q.st with s:=y9 t (.v (.one (.p a i (gI b)))) q.st.s } }
noncomputable def stepT {R:Type} (T:mF) (tt:TT) (ety:TypeId→Option Ty) (N:Nat) (ops:Array Oper) (o:Oper) (q:iK) (K:iK→jg→Prog R):Prog R:=
 match UD N o.dst with
 |false=>.stuck 20
 |true=>match o.guard with
  |none=>Ze T tt ety (o.dst.getD 0) q.st o fun e=>match zo q.st.u e.new with
   |true=>K q e
   |false=>.stuck 21
  |some (j,want)=>match SC ops q.st j with
   |none=>.stuck 22
   |some (t,none)=>K q jg.skip
   |some (t,some (a,i,b))=>
    let on (q:iK):Prog R:=Ze T tt ety (o.dst.getD 0) q.st o fun e=>match zo q.st.u e.new with
     |true=>K q e
     |false=>.stuck 21
    .cond b (frX (q.know t a i true) fun q=>bif want then on q else K q jg.skip) (frX (q.know t a i false) fun q=>bif want then K q jg.skip else on q)
inductive MO where
 |yes
 |no
 |may (empty:Bool)
def Hq (o:Nat→TO):TS→Option MO
 |.v (.one (.p _ _ ⟨.sl e,l⟩))=>some (.may (List.isEmpty (α:=Dt e) l))
 |.v (.one (.own g))=>match o g with
  |.arr _ _ _ _ l=>some (.may l.isEmpty)
  |.deep _ _ _ _ l _=>some (.may l.isEmpty)
  |_=>none
 |.v (.one .bD)=>some .yes
 |_=>none
def Hr (o:Nat→TO):TS→Option MO
 |.v (.one (.box g _))=>match o g with
  |.box _=>some .no
  |_=>none
 |.v (.one (.p _ _ ⟨.opq,.pointer none⟩))=>some .yes
 |_=>none
def MP (o:Nat→TO) (x:TS) (k:TK) (c:Value):Option MO:=
 match k,c with
 |.slice _,.slice none 0 0=>Hq o x
 |.ptr,.pointer none=>Hr o x
 |_,_=>none
def afO (tt:TT) (st:jf) (o:Oper):Option (Bool×MO):=
 match o.guard with
 |some _=>none
 |none=>match o.op with
  |.binOp op t x (.const c) _=>match tt t with
   |some i=>match op,MP st.go (st.bZ x) i.k c with
    |.eql,some p=>some (true,p)
    |.neq,some p=>some (false,p)
    |_,_=>none
   |none=>none
  |_=>none
def ab6 (s:List UInt8) (n:Int):Bool:=decide (n.toNat<s.length)
def afP (s:List UInt8) (n:Int):Int:=((Utf8.decode ⟨s.toArray⟩ n.toNat).1:Nat)
def Xc (s:List UInt8) (n:Int):Int:=((n.toNat+(Utf8.decode ⟨s.toArray⟩ n.toNat).2:Nat):Int)
def Pj (n:Int):Int:=((n.toNat:Nat):Int)
def Zf (st:jf) (o:Oper):Option (Nat×List UInt8×Int):=
 match o.guard with
 |some _=>none
 |none=>match o.op with
  |.next x true=>match st.bZ x with
   |.v (.one (.lH g))=>match st.go g with
    |.it s n=>some (g,s,n)
    |_=>none
   |_=>none
  |_=>none
def MQ (g:Nat) (s:List UInt8) (n:Int):jg:={ x:=.kC [.one (.p false false (gI true)),.one (.p false false (jk .i64 (Pj n))),.one (.p false false (jk .i32 (afP s n)))],upd:=[(g,.it s (Xc s n))],new:=[] }
def SE:jg:={ x:=.kC [.one (.p false false (gI false))],upd:=[],new:=[] }
def o_ (b:Bool):jg:={ x:=Ux (gI b),upd:=[],new:=[] }
noncomputable def SG {R:Type} (T:mF) (tt:TT) (ety:TypeId→Option Ty) (N:Nat) (ops:Array Oper) (o:Oper) (q:iK) (K:iK→jg→Prog R):Prog R:=
 match afO tt q.st o with
 |some (pos,c)=>match UD N o.dst with
  |false=>.stuck 23
  |true=>match c with
   |.yes=>K q (o_ pos)
   |.no=>K q (o_ (!pos))
   |.may e=>.cond e (.any (K q (o_ true)) (K q (o_ false))) (K q (o_ (!pos)))
 |none=>match Zf q.st o with
  |some (g,s,n)=>match UD N o.dst with
   |false=>.stuck 23
   |true=>.cond (ab6 s n) (K q (MQ g s n)) (K q SE)
  |none=>stepT T tt ety N ops o q K
noncomputable def runT {R:Type} (T:mF) (tt:TT) (ety:TypeId→Option Ty) (N:Nat) (ops:Array Oper):List Oper→iK→(iK→Prog R)→Prog R
 | [],q,K=>K q
 |o::os,q,K=>SG T tt ety N ops o q fun q e=>frX (q.eff o.dst e) fun q=>runT T tt ety N ops os q K
def wK:List TW→List Nat
 | []=>[]
 |.box g _::r=>g::wK r
 |x::r=>(bf x).names++wK r
def W.namesT:TW→List Nat
 |.own g | .vw g _ _ | .box g _ | .ep g _ _ | .lH g=>[g]
 |.clo _ caps=>wK caps
 |_=>[]
def V.namesT:TV→List Nat
 |.one x=>W.namesT x
 |.agg xs=>xs.flatMap W.namesT
def S.namesT:TS→List Nat
 |.v x=>V.namesT x
 |.kC xs=>xs.flatMap V.namesT
 |.no=>[]
def UE (args:List TS):List (Nat×jK)→Bool
 | []=>false
 |(t,_)::rest=>match args.getD t .no with
  |.no=>true
  |.kC _=>true
  |_=>UE args rest
def SH (T:mF) (st:jf) (o:Oper):Option (List Nat):=
 match o.op with
 |.call { callee:=.value f,args,.. }=>match st.bZ f with
  |.v (.one (.clo fn caps))=>match T fn with
   |some sp=>match um sp.sig st.go ((args.toList.map st.bZ)++caps.map fun x=>TS.v (.one x)) with
    |some c=>some (c.ren.map (·.2))
    |none=>bif UE ((args.toList.map st.bZ)++caps.map fun x=>TS.v (.one x)) sp.sig.pin.slots then some [] else none
   |none=>some []
  |_=>some []
 |_=>some []
def Zg (T:mF) (st:jf) (o:Oper):Option (List Nat):=match SH T st o with
 |some r=>some ((bif looks o.op then (o.op.operands.toList.flatMap fun x=>(S.namesT (st.bZ x)).flatMap fun g=>g::kF (st.go g)) else [])++r)
 |none=>none
def ab7 {β:Type 1}:List (Nat×Nat)→(List (Nat×Nat)→β)→β
 | [],k=>k []
 |(a,b)::r,k=>ab7 r fun r=>k ((a,b)::r)
def frF {β:Type 1} (f:qZ) (k:qZ→β):β:=Jq f.rd fun rd=>Jq f.wr fun wr=>Jq f.new fun new=>frH f.ld fun ld=>ab7 f.kp fun kp=>Zc f.pk fun pk=>Jq f.kd fun kd=>k ⟨rd,wr,new,ld,kp,pk,kd⟩
def Zh:TW→TW→Bool
 |.own g,.own g'=>Nat.beq g g'
 |.box g off,.box g' off'=>Nat.beq g g'&&Nat.beq off off'
 |_,_=>false
def Cm (g:Nat):Nat→List TW→List TW→Option (List (Nat×Nat))
 |_,[],[]=>some []
 |j,x::xs,y::ys=>match Cm g (j+1) xs ys with
  |some r=>some (match Zh x y with
   |true=>(g,j)::r
   |false=>r)
  |none=>none
 |_,_,_=>none
def SI (g:Nat):TO→Option TO→List (Nat×Nat)
 |.box ws,some (.box ws')=>match Cm g 0 ws ws' with
  |some r=>r
  |none=>[]
 |_,_=>[]
def kpT (st:jf) (upd:List (Nat×TO)):List (Nat×Nat):=(upd.map (·.1)).flatMap fun g=>SI g (st.go g) (upd.lookup g)
def Zi:TO→Nat
 |.box _=>1
 |.arr _ _ _ _ _=>2
 |.deep _ _ _ _ _ _=>2
 |.it _ _=>3
 |.none=>0
def kdT (st:jf) (upd:List (Nat×TO)):List Nat:=(upd.map (·.1)).filterMap fun g=>match upd.lookup g with
 |some x=>bif Nat.beq (Zi x) (Zi (st.go g)) then some g else none
 |none=>none
def ldT (tt:TT) (st:jf) (o:Oper):Option (Nat×Nat×Nat):=match o.op with
 |.load t x=>match tt t,st.bZ x with
  |some i,.v (.one (.box g off))=>some (g,off,i.size)
  |_,_=>none
 |_=>none
noncomputable def runNT {R:Type} (T:mF) (tt:TT) (ety:TypeId→Option Ty) (N:Nat) (ops:Array Oper):List Oper→iK→List qZ→(iK→List qZ→Prog R)→Prog R
 | [],q,fs,K=>K q fs
 |o::os,q,fs,K=>match Zg T q.st o with
  |none=>.stuck 25
  |some rd=>stepT T tt ety N ops o q fun q' e=>frF { rd,wr:=e.upd.map (·.1),new:=e.new,ld:=ldT tt q.st o,kp:=kpT q.st e.upd,pk:=rC o.op,kd:=kdT q.st e.upd } fun ft=>frX (q'.eff o.dst e) fun q=>runNT T tt ety N ops os q (fs++[ft]) K
noncomputable def uq {R:Type} (T:mF) (tt:TT) (ety:TypeId→Option Ty) (N:Nat) (ops:Array Oper) (draw:Bool) (q:iK) (K:iK→Prog R):Prog R:=
 match draw with
 |false=>runT T tt ety N ops ops.toList q K
 |true=>runNT T tt ety N ops ops.toList q [] fun q fs=>match Ut ops fs with
  |true=>K q
  |false=>.stuck 24
inductive Md where
 |keep
 |sl (k:jK)
inductive Mo where
 |keep
 |ob (k:f_)
structure JT where
 slots:List (Nat×Md)
 objs:List (Nat×Mo)
def Az:List TW→Option (List Nat)
 | []=>some []
 |.box g off::cs=>bif Nat.beq off 0 then match Az cs with
  |some gs=>some (g::gs)
  |none=>none
  else none
 |_=>none
def Pm:TW→Option (jm×List Wd)
 |.p a i w=>some (.p a i w.t,[w])
 |.bD=>some (.bD,[])
 |.own g=>some (.own g,[])
 |.box g off=>some (.box g off,[])
 |.clo f caps=>match Az caps with
  |some gs=>some (.fn f gs,[])
  |none=>none
 |.lH g=>some (.lH g,[])
 |.vw g lo hi=>some (.vw g,[jk .i64 lo,jk .i64 hi])
 |.ep g n off=>some (.ep g off,[jk .i64 n])
 |_=>none
def uP:List TW→Option (List jm×List Wd)
 | []=>some ([],[])
 |x::xs=>match Pm x,uP xs with
  |some (k,u),some (ks,us)=>some (k::ks,u++us)
  |_,_=>none
def MR:TS→Option (jK×List Wd)
 |.v (.one x)=>match Pm x with
  |some (k,u)=>some (.one k,u)
  |none=>none
 |.v (.agg xs)=>match uP xs with
  |some (ks,u)=>some (.agg ks,u)
  |none=>none
 |_=>none
def uZ:TO→Option (f_×List Wd)
 |.box ws=>match uP ws with
  |some (ks,u)=>some (.box ks,u)
  |none=>none
 |.arr fz a i e l=>some (.arr fz a i e,[rY e l])
 |.it s n=>some (.it,[OW s,jk .i64 n])
 |.deep a i e cols l hole=>match hole with
  |none=>some (.deep a i e cols,[rY e l])
  |some _=>none
 |.none=>none
def zq (s:Nat→TS):List (Nat×Md)→Option (List (Nat×jK×Option (List Wd)))
 | []=>some []
 |(t,.keep)::r=>match MR (s t),zq s r with
  |some (k,u),some l=>some ((t,k,some u)::l)
  |_,_=>none
 |(t,.sl k)::r=>match zq s r with
  |some l=>some ((t,k,none)::l)
  |none=>none
def Ht (o:Nat→TO):List (Nat×Mo)→Option (List (Nat×f_×Option (List Wd)))
 | []=>some []
 |(t,.keep)::r=>match uZ (o t),Ht o r with
  |some (k,u),some l=>some ((t,k,some u)::l)
  |_,_=>none
 |(t,.ob k)::r=>match Ht o r with
  |some l=>some ((t,k,none)::l)
  |none=>none
structure JF where
 slots:List (Nat×jK×Option (List Wd))
 objs:List (Nat×f_×Option (List Wd))
def JF.sh (j:JF):J3:=⟨j.slots.map fun p=>(p.1,p.2.1),j.objs.map fun p=>(p.1,p.2.1)⟩
def iP:List (Nat×jK×Option (List Wd))→List Ty
 | []=>[]
 |(_,k,none)::r=>k.tys++iP r
 |(_,_,some _)::r=>iP r
def nO:List (Nat×f_×Option (List Wd))→List Ty
 | []=>[]
 |(_,k,none)::r=>k.tys++nO r
 |(_,_,some _)::r=>nO r
def JF.tys (j:JF):List Ty:=iP j.slots++nO j.objs
def kQ:List (Nat×jK×Option (List Wd))→List Wd→List Wd×List Wd
 | [],ws=>([],ws)
 |(_,k,none)::r,ws=>(ws.take k.tys.length++(kQ r (ws.drop k.tys.length)).1,(kQ r (ws.drop k.tys.length)).2)
 |(_,_,some u)::r,ws=>(u++(kQ r ws).1,(kQ r ws).2)
def pq:List (Nat×f_×Option (List Wd))→List Wd→List Wd×List Wd
 | [],ws=>([],ws)
 |(_,k,none)::r,ws=>(ws.take k.tys.length++(pq r (ws.drop k.tys.length)).1,(pq r (ws.drop k.tys.length)).2)
 |(_,_,some u)::r,ws=>(u++(pq r ws).1,(pq r ws).2)
def JF.pay (j:JF) (ws:List Wd):List Wd:=(kQ j.slots ws).1++(pq j.objs (kQ j.slots ws).2).1
def MS:List (Nat×jK×Option (List Wd))→List Wd→List Wd×List Wd
 | [],ws=>([],ws)
 |(_,k,none)::r,ws=>(ws.take k.tys.length++(MS r (ws.drop k.tys.length)).1,(MS r (ws.drop k.tys.length)).2)
 |(_,k,some u)::r,ws=>((MS r (ws.drop u.length)).1,(MS r (ws.drop u.length)).2)
def Pn:List (Nat×f_×Option (List Wd))→List Wd→List Wd×List Wd
 | [],ws=>([],ws)
 |(_,k,none)::r,ws=>(ws.take k.tys.length++(Pn r (ws.drop k.tys.length)).1,(Pn r (ws.drop k.tys.length)).2)
 |(_,k,some u)::r,ws=>((Pn r (ws.drop u.length)).1,(Pn r (ws.drop u.length)).2)
def JF.ext (j:JF) (ws:List Wd):List Wd:=(MS j.slots ws).1++(Pn j.objs (MS j.slots ws).2).1
def hasK {α:Type} (t:Nat):List (Nat×α)→Bool
 | []=>false
 |(k,_)::r=>Nat.beq t k||hasK t r
def Po (s:List (Nat×TS)) (ds:List Nat):List (Nat×jK×Option (List Wd))→Bool
 | []=>true
 |(t,_,some _)::r=>hasK t s&&!dS t ds&&Po s ds r
 |(_,_,none)::r=>Po s ds r
def Pq (s:List (Nat×TO)) (ds:List Nat):List (Nat×f_×Option (List Wd))→Bool
 | []=>true
 |(t,_,some _)::r=>hasK t s&&!dS t ds&&Pq s ds r
 |(_,_,none)::r=>Pq s ds r
def keysB (aN:List Nat) (j:J3) (m:Ren):Bool:=keeps aN j.er m
def J6:List (Nat×f_×Option (List Wd))→Ren
 | []=>[]
 |(t,_,some _)::r=>(t,some t)::J6 r
 |(_,_,none)::r=>J6 r
def Zj (gs:List Nat) (o:Nat→TO):TW→TW
 |.own g=>bif dS g gs then match lY o g with
  |some ⟨a,i,e,l⟩=>.p a i (rY e l)
  |none=>.own g
  else .own g
 |.vw g lo hi=>bif dS g gs then match lY o g with
  |some ⟨a,i,e,l⟩=>.p a i (rY e ((l.take hi.toNat).drop lo.toNat))
  |none=>.vw g lo hi
  else .vw g lo hi
 |x=>x
def tpV (gs:List Nat) (o:Nat→TO):TV→TV
 |.one x=>.one (Zj gs o x)
 |.agg xs=>.agg (xs.map (Zj gs o))
def tpS (gs:List Nat) (o:Nat→TO):TS→TS
 |.v x=>.v (tpV gs o x)
 |.kC xs=>.kC (xs.map (tpV gs o))
 |.no=>.no
def tpO (gs:List Nat) (o:Nat→TO) (g:Nat):TO→TO
 |.none=>.none
 |.box ws=>.box (ws.map (Zj gs o))
 |.arr fz a i e l=>.arr (fz||dS g gs) a i e l
 |.it s n=>.it s n
 |.deep a i e cols l hole=>bif dS g gs then (j_ o g).2 else .deep a i e cols l hole
def Hu (gs:List Nat) (st:jf):jf:=match gs with
 | []=>st
 |g::r=>{ s:=st.s.map fun p=>(p.1,tpS (g::r) st.go p.2),o:=st.o.map fun p=>(p.1,tpO (g::r) st.go p.1 p.2),u:=st.u }
def plB (o:Nat→TO) (g:Nat):Bool:=match lY o g with
 |some _=>true
 |none=>false
def ab_ (o:Nat→TO) (gs:List Nat):Bool:=gs.all fun g=>plB o g&&(kF (o g)).all fun d=>dS d gs
def UF:TO→Option Nat
 |.deep _ _ _ _ _ hole=>match hole with
  |some (_,_,d)=>some d
  |none=>none
 |_=>none
def kX (keep:List Nat):List Nat→jf→List Nat×jf
 | [],st=>([],st)
 |g::gs,st=>match UF (st.go g),wH st.go g with
  |some d,some ⟨a,i,e,cols,l⟩=>match !dS g keep&&!dS d keep with
   |true=>let r:=kX keep gs { st with o:=Cj st.o [(g,.deep a i e cols l none),(d,.none)] }
    (g::r.1,r.2)
   |false=>kX keep gs st
  |_,_=>kX keep gs st
def Jr:List (Nat×TO)→List Nat
 | []=>[]
 |(g,x)::r=>match UF x with
  |some _=>g::Jr r
  |none=>Jr r
def yC:List (Nat×f_×Option (List Wd))→List Nat
 | []=>[]
 |(t,_,some _)::r=>t::yC r
 |(_,_,none)::r=>yC r
def fzW (o:Nat→TO):jm→TW→List Nat
 |.p _ _ _,.own g=>bif plB o g then kF (o g)++[g] else []
 |.p _ _ _,.vw g _ _=>bif plB o g then kF (o g)++[g] else []
 |_,_=>[]
def afQ (o:Nat→TO):List jm→List TW→List Nat
 |k::ks,x::xs=>fzW o k x++afQ o ks xs
 |_,_=>[]
def fzS (o:Nat→TO):jK→TS→List Nat
 |.one k,.v (.one x)=>fzW o k x
 |.agg ks,.v (.agg xs)=>afQ o ks xs
 |_,_=>[]
def UG (st:jf):List (Nat×jK)→List Nat
 | []=>[]
 |(t,k)::r=>fzS st.go k (st.gs t)++UG st r
def SK (m:Ren) (st:jf):List (Nat×f_)→List Nat
 | []=>[]
 |(g',.box ks)::r=>(match m.lookup g' with
  |some (some g)=>match st.go g with
   |.box ws=>afQ st.go ks ws
   |_=>[]
  |_=>[])++SK m st r
 |_::r=>SK m st r
def acd (aN:List Nat) (j:J3) (st:jf):List Nat:=UG st j.slots++SK (derive aN j st) st j.objs
def SL (gs:List Nat) (x:TS):Bool:=(S.namesT x).all fun g=>!dS g gs
def Hw (gs:List Nat) (g:Nat):TO→Bool
 |.none=>true
 |.box ws=>(ws.flatMap W.namesT).all fun g=>!dS g gs
 |.arr _ _ _ _ _=>!dS g gs
 |.it _ _=>true
 |.deep _ _ _ _ _ _=>!dS g gs
def Zk (gs:List Nat) (s:Nat→TS):List (Nat×jK×Option (List Wd))→Bool
 | []=>true
 |(t,_,some _)::r=>SL gs (s t)&&Zk gs s r
 |(_,_,none)::r=>Zk gs s r
def Zl (gs:List Nat) (o:Nat→TO):List (Nat×f_×Option (List Wd))→Bool
 | []=>true
 |(t,_,some _)::r=>Hw gs t (o t)&&Zl gs o r
 |(_,_,none)::r=>Zl gs o r
def pz {R:Type} (aN:List Nat) (j:JF) (q:iK) (K:Tup j.tys→Prog R):Prog R:=
 let st0:=(kX (yC j.objs) (Jr q.st.o) q.st).2
 let gs:=acd aN j.sh st0
 let st:=Hu gs st0
 let m:=J6 j.objs++derive aN j.sh st
 match Po q.st.s q.ds j.slots&&Pq q.st.o q.od j.objs&&keysB aN j.sh m&&ab_ st0.go gs&&Zk gs st0.gs j.slots&&Zl gs st0.go j.objs with
 |false=>.stuck 30
 |true=>match xO j.sh m st with
  |none=>.stuck 31
  |some vs=>match Tup.ofL j.tys (j.ext vs) with
   |none=>.stuck 32
   |some x=>K x
def pF (j:JF) (x:Tup j.tys):jf:=mkT j.sh (j.pay (Tup.jo j.tys x))
def newS:List (Nat×jK×Option (List Wd))→List Nat
 | []=>[]
 |(t,_,none)::r=>t::newS r
 |(_,_,some _)::r=>newS r
def qh:List (Nat×f_×Option (List Wd))→List Nat
 | []=>[]
 |(t,_,none)::r=>t::qh r
 |(_,_,some _)::r=>qh r
def iK.fresh (q:iK):iK:={ q with ds:=[],od:=[] }
def iK.since (q' q:iK):iK:={ q' with ds:=q'.ds++q.ds,od:=q'.od++q.od }
structure TK (R:Type) where
 n:iK→Prog R
 x:Nat→iK→Prog R
 r:iK→Prog R
inductive fQ where
 |nil
 |seq (a b:fQ)
 |meet (early:Bool) (j:JT) (a:fQ)
 |loop (j:JT) (a:fQ)
 |range (j:JT) (sg:bT) (a:fQ)
def fQ.fst:fQ→fQ
 |.seq a _=>a
 |_=>.nil
def fQ.snd:fQ→fQ
 |.seq _ b=>b
 |_=>.nil
def Zm (nw:List Nat):List (Nat×jK×Option (List Wd))→Bool
 | []=>true
 |(t,_,some _)::r=>!dS t nw&&Zm nw r
 |(_,_,none)::r=>Zm nw r
def Zn (nw:List Nat):List (Nat×f_×Option (List Wd))→Bool
 | []=>true
 |(t,_,some _)::r=>!dS t nw&&Zn nw r
 |(_,_,none)::r=>Zn nw r
def jOf (st:jf) (j:JT):Option JF:=match zq st.gs j.slots,Ht st.go j.objs with
 |some s,some o=>match Zm (newS s) s&&Zn (qh o) o with
  |true=>some ⟨s,o⟩
  |false=>none
 |_,_=>none
def knT (c:Operand) (a i b:Bool) (q:iK):iK:=match c with
 |.tmp t=>q.know t a i b
 |_=>q
def UH {R:Type} (c:Operand) (q:iK) (x y:iK→Prog R):Prog R:=match q.st.bZ c with
 |.v (.one (.p a i ⟨.bool,b⟩))=>.cond b (frX (knT c a i true q) x) (frX (knT c a i false q) y)
 |_=>.stuck 50
def J7 {R:Type} (aN:List Nat) (early:Bool) (jt:JT) (here:Nat→Bool) (q:iK) (inner:(R':Type)→iK→TK R'→Prog R') (K:TK R):Prog R:=
 match jOf q.st jt with
 |none=>.stuck 40
 |some j=>match early with
  |false=>.join (inner (Tup j.tys) q.fresh { n:=fun q'=>pz aN j q' .ret,x:=fun id q'=>bif here id then pz aN j q' .ret else .stuck 41,r:=fun _=>.stuck 42 })
    fun x=>frX ⟨pF j x,newS j.slots++q.ds,qh j.objs++q.od⟩ K.n
  |true=>.JZ (inner (Tup j.tys ⊕ R) q.fresh { n:=fun q'=>pz aN j q' fun x=>.ret (.inl x),x:=fun id q'=>bif here id then pz aN j q' (fun x=>.ret (.inl x)) else (K.x id (q'.since q)).map .inr,r:=fun q'=>(K.r (q'.since q)).map .inr })
    fun x=>frX ⟨pF j x,newS j.slots++q.ds,qh j.objs++q.od⟩ K.n
def Ty.lit:Ty→Bool
 |.int _=>true
 |.bool=>true
 |.str=>true
 |_=>false
def MV (N:Nat):Code→jf→Option jf
 |.skip,st=>some st
 |.region _ ops false,st=>match ops.toList with
  | [o]=>match o.guard,o.dst,GK o.op with
   |none,some d,some t=>match Nat.blt d N with
    |true=>some (st.put (some d) (st.gs t))
    |false=>none
   |_,_,_=>none
  |_=>none
 |.seq x y,st=>match MV N x st with
  |some st'=>MV N y st'
  |none=>none
 |_,_=>none
def rowT:List Tmp→List Wd→jf→jf
 |p::ps,x::xs,st=>rowT ps xs (st.put (some p) (.v (.one (.p false false x))))
 |_,_,st=>st
def outT (sg:bT) (q:iK):Prog (Tup sg.aG.tys):=
 let st0:jf:=(kX [] (Jr q.st.o) { s:=[],o:=q.st.o,u:=q.st.u }).2
 let gs:=acd sg.aN sg.aG st0
 let st:=Hu gs st0
 let m:=derive sg.aN sg.aG st
 match keysB sg.aN sg.aG m&&ab_ st0.go gs with
 |false=>.stuck 81
 |true=>match xO sg.aG m st with
  |none=>.stuck 82
  |some vs=>match Tup.ofL sg.aG.tys vs with
   |none=>.stuck 83
   |some x=>.ret x
def MW {R:Type} (N:Nat) (sg:bT) (body:iK→TK (Tup sg.aG.tys)→Prog (Tup sg.aG.tys)) (ps:Array Tmp) (x:Code) (ws:List Wd) (q:iK) (K:iK→Prog R):Prog R:=
 match MV N x (rowT ps.toList ws q.st) with
 |none=>.stuck 70
 |some st1=>match um sg q.st.go ((List.range N).map st1.gs) with
  |none=>.stuck 71
  |some c=>match sg.er.ok&&(sg.aN.all (fun g=>sg.pin.er.nms.contains g)&&sg.er.Ym)&&Nat.beq sg.bM 0&&c.er.fine sg.er with
   |false=>.stuck 72
   |true=>match Tup.ofL sg.pin.tys c.ins with
    |none=>.stuck 73
    |some z=>.join (frX ⟨mkT sg.pin (Tup.jo sg.pin.tys z),[],[]⟩ fun qb=>body qb { n:=outT sg,x:=fun _ _=>.stuck 74,r:=fun _=>.stuck 75 }) fun outs=>
      match zo q.st.u (jw sg (ps.getD 0 0) q.st.go c (Tup.jo sg.aG.tys outs)).new with
      |true=>frX (q.eff none (jw sg (ps.getD 0 0) q.st.go c (Tup.jo sg.aG.tys outs))) K
      |false=>.stuck 76
noncomputable def kR (T:mF) (tt:TT) (ety:TypeId→Option Ty) (N:Nat) (aN:List Nat):Code→(R:Type)→fQ→iK→TK R→Prog R
 |.skip,R,_,q,K=>K.n q
 |.region _ ops draw,R,a,q,K=>match a with
  |.meet e j _=>J7 aN e j (fun _=>false) q (fun _ q K=>uq T tt ety N ops draw q K.n) K
  |_=>uq T tt ety N ops draw q K.n
 |.seq x y,R,a,q,K=>kR T tt ety N aN x R a.fst q { n:=fun q'=>kR T tt ety N aN y R a.snd q' K,x:=K.x,r:=K.r }
 |.cond c x y,R,a,q,K=>match a with
  |.meet e j a=>J7 aN e j (fun _=>false) q (fun R q K=>UH c q (fun q=>kR T tt ety N aN x R a.fst q K) fun q=>kR T tt ety N aN y R a.snd q K) K
  |a=>UH c q (fun q=>kR T tt ety N aN x R a.fst q K) fun q=>kR T tt ety N aN y R a.snd q K
 |.block id c,R,a,q,K=>match a with
  |.meet e j a=>J7 aN e j (Nat.beq id) q (fun R q K=>kR T tt ety N aN c R a q K) K
  |a=>kR T tt ety N aN c R a.fst q { n:=K.n,x:=fun id' q'=>bif Nat.beq id' id then K.n q' else K.x id' q',r:=K.r }
 |.loop c,R,a,q,K=>match a with
  |.loop jt a=>match jOf q.st jt with
   |none=>.stuck 43
   |some j=>pz aN j q.fresh fun x=>.loop x fun x=>
     frX ⟨pF j x,[],[]⟩ fun q'=>kR T tt ety N aN c (Tup j.tys ⊕ R) a q'
      { n:=fun q'=>pz aN j q' fun x=>.ret (.inl x),x:=fun id q'=>(K.x id (q'.since ⟨q'.st,newS j.slots++q.ds,qh j.objs++q.od⟩)).map .inr,r:=fun q'=>(K.r (q'.since ⟨q'.st,newS j.slots++q.ds,qh j.objs++q.od⟩)).map .inr }
  |_=>.stuck 44
 |.exit id,R,_,q,K=>K.x id q
 |.ret,R,_,q,K=>K.r q
 |.label _,R,_,q,K=>K.n q
 |.rangeFunc g ps x y,R,a,q,K=>match a with
  |.range jt sg a=>match calm y,q.st.bZ g with
   |true,.v (.one (.p _ _ ⟨.sq e,rows⟩))=>match (gU e).all Ty.lit&&Nat.beq (gU e).length ps.size&&ps.toList.all (fun p=>Nat.blt p N) with
    |true=>match jOf q.st jt with
     |none=>.stuck 77
     |some j=>pz aN j q.fresh fun z0=>.loop (z0,(0:Nat)) fun (zk:Tup j.tys×Nat)=>
       .cond (Nat.blt zk.2 (List.length (α:=Dt e) rows))
        (frX ⟨pF j zk.1,[],[]⟩ fun q'=>MW N sg (fun q K=>kR T tt ety N sg.aN y (Tup sg.aG.tys) a q K) ps x (dN e (List.getD (α:=Dt e) rows zk.2 (dflt e))) q' fun q''=>pz aN j q'' fun z'=>.ret (.inl (z',zk.2+1)))
        (frX ⟨pF j zk.1,newS j.slots++q.ds,qh j.objs++q.od⟩ fun q'=>(K.n q').map .inr)
    |false=>.stuck 78
   |_,_=>.stuck 79
  |_=>.stuck 80
 |_,R,_,_,_=>.stuck 45
def UJ (tt:TT) (st:jf):ResultVar→Option TS
 |.tmp t=>some (st.gs t)
 |.cell a t=>match tt t,st.gs a with
  |some i,.v (.one (.box g off))=>match st.go g with
   |.box ws=>bif Nat.ble (off+i.size) ws.length&&Nat.blt 0 i.size then some (TV.d_ i.agg ((ws.drop off).take i.size)) else none
   |_=>none
  |_,_=>none
def Hy (tt:TT) (st:jf):List ResultVar→Option (List TS)
 | []=>some []
 |r::rs=>match UJ tt st r,Hy tt st rs with
  |some x,some xs=>some (x::xs)
  |_,_=>none
def SN (n:Nat):List TS→List (Nat×TS)
 | []=>[]
 |x::xs=>(n,x)::SN (n+1) xs
def ace (tt:TT) (sp:bT) (ts:List ResultVar) (q:iK):Prog (Tup sp.aG.tys):=
 match Hy tt q.st ts with
 |none=>.stuck 60
 |some xs=>
  let st0:jf:=(kX [] (Jr q.st.o) { s:=SN 0 xs,o:=q.st.o,u:=q.st.u }).2
  let gs:=acd sp.aN sp.aG st0
  let st:=Hu gs st0
  let m:=derive sp.aN sp.aG st
  match keysB sp.aN sp.aG m&&ab_ st0.go gs with
  |false=>.stuck 61
  |true=>match xO sp.aG m st with
   |none=>.stuck 62
   |some vs=>match Tup.ofL sp.aG.tys vs with
    |none=>.stuck 63
    |some x=>.ret x
inductive LkC where
 |yes
 |no
 |len (n m:Nat)
def Pv:TO→TO→LkC
 |.box _,.box _=>.yes
 |.arr _ _ _ e l,.arr _ _ _ e' l'=>bif Nat.beq (size e) (size e') then .len (List.length (α:=Dt e) l) (List.length (α:=Dt e') l') else .no
 |.deep _ _ e _ l _,.deep _ _ e' _ l' _=>bif Nat.beq (size e) (size e') then .len (List.length (α:=Dt e) l) (List.length (α:=Dt e') l') else .no
 |_,_=>.no
def zu {R:Type} (a b:Nat→TO) (K:Prog R):List Nat→Prog R
 | []=>K
 |g::gs=>match Pv (a g) (b g) with
  |.yes=>zu a b K gs
  |.no=>.stuck 90
  |.len n m=>.chk (decide (n=m)) (zu a b K gs)
noncomputable def tfun (T:mF) (tt:TT) (ety:TypeId→Option Ty) (N:Nat) (sp:bT) (ts:List ResultVar) (c:Code) (a:fQ) (x:Tup sp.pin.tys):Prog (Tup sp.aG.tys):=
 frX ⟨mkT sp.pin (Tup.jo sp.pin.tys x),[],[]⟩ fun q=>kR T tt ety N sp.aN c (Tup sp.aG.tys) a q { n:=ace tt sp ts,x:=fun _ _=>.stuck 64,r:=ace tt sp ts }
noncomputable def Zo (T:mF) (tt:TT) (ety:TypeId→Option Ty) (N:Nat) (sp:bT) (ts:List ResultVar) (c:Code) (a:fQ) (x:Tup sp.pin.tys):Prog (Tup sp.aG.tys):=
 match sp.er.Ym with
 |true=>tfun T tt ety N sp ts c a x
 |false=>.join (tfun T tt ety N sp ts c a x) fun y=>zu (mkT sp.pin (Tup.jo sp.pin.tys x)).go (mkT sp.aG (Tup.jo sp.aG.tys y)).go (.ret y) sp.aN
end
end Go.Fg

