/-
  The framework (a machine on plain data that answers as the program does), part 3.
-/
import Derived.RangeFuncLeaves
import Derived.RangeFuncCalls
import Derived.OrdersIn
import Derived.LoopNIn
import Derived.LoopN
import Derived.Tactics
import Derived.Laws.Strings
import Derived.Test.YtmgfidfcioiedaaZb
set_option linter.unusedSimpArgs false
set_option linter.unusedVariables false
namespace Go.Fw
set_option linter.unusedSectionVars false
variable [dn]
set_option linter.unusedVariables false
theorem JH (st:St) (dst:Option Tmp) (e:Eff) (t:Nat):(st.eff dst e).s t=if dst=some t then e.x else st.s t:=by
 cases dst with
 |none=>simp [St.eff,St.put,St.upd]
 |some d=>
  simp only [St.eff,St.put,St.upd,Option.some.injEq]
  by_cases h:t=d
  ·subst h;simp
  ·have h1:Nat.beq t d=false:=by cases hb:Nat.beq t d with | false=>rfl | true=>exact absurd (Nat.eq_of_beq_eq_true hb) h
   rw [h1,if_neg (fun e=>h e.symm)];rfl
theorem vW (st:St) (dst:Option Tmp) (e:Eff) (g:Nat):(st.eff dst e).o g=match e.upd.lookup g with | some x=>x | none=>st.o g:=by
 cases dst<;>rfl
theorem rU (st:St) (dst:Option Tmp) (e:Eff) (g:Nat):(st.eff dst e).used g=(e.new.contains g||st.used g):=by
 cases dst<;>rfl
theorem iW {α:Type} {g:Nat} :∀{l:List (Nat×α)},g∉l.map (·.1)→l.lookup g=none
 | [],_=>rfl
 |(k,v)::l,h=>by
  simp only [List.map_cons,List.mem_cons,not_or] at h
  have:(g==k)=false:=by simpa using h.1
  simp only [List.lookup,this]
  exact iW h.2
theorem St.ext' {a b:St} (h1 :∀t,a.s t=b.s t) (h2 :∀g,a.o g=b.o g) (h3 :∀g,a.used g=b.used g):a=b:=by
 obtain ⟨s,o,u⟩:=a
 obtain ⟨s',o',u'⟩:=b
 simp only at h1 h2 h3
 rw [funext h1,funext h2,funext h3]
section
variable {ops:Array Oper} {es es':Nat→Eff} {st:St} {D D':Nat→Bool}
def SD (ops:Array Oper) (es:Nat→Eff) (st:St) (D:Nat→Bool):Nat→St
 |0=>st
 |k+1=>if D k=true then (SD ops es st D k).eff ((ops[k]?).bind (·.dst)) (es k) else SD ops es st D k
theorem Gq :∀{n:Nat},(∀k<n,es k=es' k)→SD ops es st D n=SD ops es' st D n
 |0,_=>rfl
 |n+1,h=>by simp only [SD];rw [Gq fun k hk=>h k (by omega),h n (by omega)]
theorem BJ :∀{n:Nat},(∀k<n,D k=D' k)→SD ops es st D n=SD ops es st D' n
 |0,_=>rfl
 |n+1,h=>by simp only [SD];rw [BJ fun k hk=>h k (by omega),h n (by omega)]
theorem afo {t:Nat} :∀{n:Nat},(∀k<n,D k≠D' k→(ops[k]?).bind (·.dst)≠some t)→(SD ops es st D n).s t=(SD ops es st D' n).s t
 |0,_=>rfl
 |n+1,h=>by
  have ih:=afo (n:=n) fun k hk=>h k (by omega)
  have hn:=h n (by omega)
  simp only [SD]
  cases h1:D n<;>cases h2:D' n
  ·simpa using ih
  ·have:=hn (by rw [h1,h2];simp)
   simp only [if_true,JH,if_neg this];simpa using ih
  ·have:=hn (by rw [h1,h2];simp)
   simp only [if_true,JH,if_neg this];simpa using ih
  ·simp only [if_true,JH,ih]
theorem afp {g:Nat} :∀{n:Nat},(∀k<n,D k≠D' k→g∉(es k).upd.map (·.1))→(SD ops es st D n).o g=(SD ops es st D' n).o g
 |0,_=>rfl
 |n+1,h=>by
  have ih:=afp (n:=n) fun k hk=>h k (by omega)
  have hn:=h n (by omega)
  simp only [SD]
  cases h1:D n<;>cases h2:D' n
  ·simpa using ih
  ·have:=iW (hn (by rw [h1,h2];simp))
   simp only [if_true,vW,this];simpa using ih
  ·have:=iW (hn (by rw [h1,h2];simp))
   simp only [if_true,vW,this];simpa using ih
  ·simp only [if_true,vW,ih]
theorem LP {g:Nat} :∀{n:Nat},(∀k<n,D k≠D' k→g∉(es k).new)→(SD ops es st D n).used g=(SD ops es st D' n).used g
 |0,_=>rfl
 |n+1,h=>by
  have ih:=LP (n:=n) fun k hk=>h k (by omega)
  have hn:=h n (by omega)
  simp only [SD]
  cases h1:D n<;>cases h2:D' n
  ·simpa using ih
  ·have:=hn (by rw [h1,h2];simp)
   have:(es n).new.contains g=false:=by simpa using this
   simp only [if_true,rU,this,Bool.false_or];simpa using ih
  ·have:=hn (by rw [h1,h2];simp)
   have:(es n).new.contains g=false:=by simpa using this
   simp only [if_true,rU,this,Bool.false_or];simpa using ih
  ·simp only [if_true,rU,ih]
theorem JI {t i:Nat} (hi:D i=true) (hd:(ops[i]?).bind (·.dst)=some t) :∀{n:Nat},i<n→(∀k,i<k→k<n→D k=true→(ops[k]?).bind (·.dst)≠some t)→(SD ops es st D n).s t=(es i).x
 |0,h,_=>by omega
 |n+1,hin,h=>by
  simp only [SD]
  by_cases e:n=i
  ·subst e;simp [hi,JH,hd]
  ·have ih:=JI hi hd (n:=n) (by omega) fun k h1 h2=>h k h1 (by omega)
   cases hn:D n with
   |false=>simpa using ih
   |true=>
    have:=h n (by omega) (by omega) hn
    simp only [if_true,JH,if_neg this,ih]
theorem JJ {g i:Nat} {x:O} (hi:D i=true) (hd:(es i).upd.lookup g=some x) :∀{n:Nat},i<n→(∀k,i<k→k<n→D k=true→g∉(es k).upd.map (·.1))→(SD ops es st D n).o g=x
 |0,h,_=>by omega
 |n+1,hin,h=>by
  simp only [SD]
  by_cases e:n=i
  ·subst e;simp [hi,vW,hd]
  ·have ih:=JJ hi hd (n:=n) (by omega) fun k h1 h2=>h k h1 (by omega)
   cases hn:D n with
   |false=>simpa using ih
   |true=>
    have:=iW (h n (by omega) (by omega) hn)
    simp only [if_true,vW,this,ih]
theorem DI {g i:Nat} (hi:D i=true) (hd:g∈(es i).new) :∀{n:Nat},i<n→(SD ops es st D n).used g=true
 |0,h=>by omega
 |n+1,hin=>by
  simp only [SD]
  by_cases e:n=i
  ·subst e;simp [hi,rU,hd]
  ·have ih:=DI hi hd (n:=n) (by omega)
   cases hn:D n with
   |false=>simpa using ih
   |true=>simp only [if_true,rU,ih,Bool.or_true]
structure Apart (ops:Array Oper) (x y:Oper) (fx fy:qV):Prop where
 dy :∀t,x.dst=some t→t∉y.looksAt ops
 dx :∀t,y.dst=some t→t∉x.looksAt ops
 dd :∀t,x.dst=some t→y.dst≠some t
 wr:(∀g∈fx.wr,g∉fy.rd)∨DF fx fy=true
 rw:(∀g∈fy.wr,g∉fx.rd)∨DF fy fx=true
 ww :∀g∈fx.wr,g∉fy.wr
 nn :∀g∈fx.new,g∉fy.new
theorem vX {x:Option Tmp} {ts:List Tmp} (h:Gp x ts=true) :∀t,x=some t→t∉ts:=by
 intro t e
 subst e
 simpa [Gp] using h
theorem xC {xs ys:List Nat} (h:Lm xs ys=true) :∀x∈xs,x∉ys:=by
 intro x hx
 have:=(List.all_eq_true.1 h) x hx
 simpa using this
theorem Ro {x y:Oper} {fx fy:qV} (h:Yq ops x y fx fy=true):Apart ops x y fx fy:=by
 simp only [Yq,Bool.and_eq_true,Bool.or_eq_true] at h
 obtain ⟨⟨⟨⟨⟨⟨h1,h2⟩,h3⟩,h4⟩,h5⟩,h6⟩,h7⟩:=h
 exact ⟨vX h1,vX h2,fun t e e'=>vX h3 t e (by simp [e']),h4.imp xC id,h5.imp xC id,xC h6,xC h7⟩
theorem JK {acc:List Nat} {i:Nat} :∀{l:List Edge} {s:Nat},(l.foldl (fun s e=>if Region.binds .any e=true then s ||| (2 ^ e.on) ||| acc.getD e.on 0 else s) s).testBit i=true↔
  s.testBit i=true∨∃e∈l,Region.binds .any e=true∧(e.on=i∨(acc.getD e.on 0).testBit i=true)
 | [],s=>by simp
 |e::l,s=>by
  simp only [List.foldl_cons]
  rw [JK]
  by_cases hb:Region.binds .any e=true
  ·simp only [hb,if_true,Nat.testBit_or,Bool.or_eq_true,Nat.testBit_two_pow,decide_eq_true_eq,List.mem_cons]
   constructor
   ·rintro (((h | h) | h) | ⟨e',h1,h2⟩)
    ·exact .inl h
    ·exact .inr ⟨e,.inl rfl,hb,.inl h⟩
    ·exact .inr ⟨e,.inl rfl,hb,.inr h⟩
    ·exact .inr ⟨e',.inr h1,h2⟩
   ·rintro (h | ⟨e',h1 | h1,h2,h3 | h3⟩)
    ·exact .inl (.inl (.inl h))
    ·subst h1;exact .inl (.inl (.inr h3))
    ·subst h1;exact .inl (.inr h3)
    ·exact .inr ⟨e',h1,h2,.inl h3⟩
    ·exact .inr ⟨e',h1,h2,.inr h3⟩
  ·simp only [hb,List.mem_cons]
   constructor
   ·rintro (h | ⟨e',h1,h2⟩)
    ·exact .inl (by simpa using h)
    ·exact .inr ⟨e',.inr h1,h2⟩
   ·rintro (h | ⟨e',h1 | h1,h2,h3⟩)
    ·exact .inl (by simpa using h)
    ·subst h1;exact absurd h2 hb
    ·exact .inr ⟨e',h1,h2,h3⟩
theorem Gs :∀{os:List Oper} {acc:List Nat},∃t,mV os acc=acc++t
 | [],acc=>⟨[],by simp [mV]⟩
 |o::os,acc=>by
  obtain ⟨t,h⟩:=Gs (os:=os) (acc:=acc++[jX acc o])
  exact ⟨jX acc o::t,by simp [mV,h]⟩
theorem Gt :∀{os:List Oper} {acc:List Nat} {j:Nat} {o:Oper},os[j]?=some o→∃acc',(∃t,mV os acc=acc'++jX acc' o::t)∧acc'.length=acc.length+j
 | [],acc,j,o,h=>by simp at h
 |o'::os,acc,0,o,h=>by
  simp only [List.getElem?_cons_zero,Option.some.injEq] at h
  subst h
  obtain ⟨t,h⟩:=Gs (os:=os) (acc:=acc++[jX acc o'])
  exact ⟨acc,⟨t,by simp [mV,h]⟩,rfl⟩
 |o'::os,acc,j+1,o,h=>by
  simp only [List.getElem?_cons_succ] at h
  obtain ⟨acc',h1,h2⟩:=Gt (acc:=acc++[jX acc o']) h
  exact ⟨acc',h1,by simp at h2;omega⟩
def Down (ops:Array Oper) (D:Nat→Bool):Prop :=∀(j:Nat) o,ops[j]?=some o→D j=true→∀e∈o.after,Region.binds .any e=true→D e.on=true
theorem Gu {j:Nat} {o:Oper} (ho:ops[j]?=some o) {i:Nat}:((mV ops.toList []).getD j 0).testBit i=true↔
  ∃e∈o.after,Region.binds .any e=true∧(e.on=i∨(e.on<j∧((mV ops.toList []).getD e.on 0).testBit i=true)):=by
 have hl:ops.toList[j]?=some o:=by simpa using ho
 obtain ⟨acc,⟨t,h1⟩,h2⟩:=Gt (acc:=[]) hl
 simp only [List.length_nil,Nat.zero_add] at h2
 rw [h1]
 have e1:(acc++jX acc o::t).getD j 0=jX acc o:=by
  rw [List.getD_eq_getElem?_getD,List.getElem?_append_right (by omega),h2];simp
 have e2 :∀k,(acc++jX acc o::t).getD k 0=if k<j then acc.getD k 0 else (acc++jX acc o::t).getD k 0:=by
  intro k
  split
  ·rename_i hk
   rw [List.getD_eq_getElem?_getD,List.getElem?_append_left (by omega),←List.getD_eq_getElem?_getD]
  ·rfl
 rw [e1]
 unfold jX
 rw [JK]
 simp only [Nat.zero_testBit,Bool.false_eq_true,false_or,Array.mem_toList_iff]
 constructor
 ·rintro ⟨e,q1,q2,q3⟩
  refine ⟨e,q1,q2,q3.imp id fun q => ?_⟩
  by_cases hk:e.on<j
  ·refine ⟨hk,?_⟩
   have:=e2 e.on
   rw [if_pos hk] at this
   unfold jX at this
   rw [this];exact q
  ·have:acc.getD e.on 0=0:=by rw [List.getD_eq_getElem?_getD,List.getElem?_eq_none (by omega)];rfl
   rw [this] at q;simp at q
 ·rintro ⟨e,q1,q2,q3⟩
  refine ⟨e,q1,q2,q3.imp id fun ⟨hk,q⟩ => ?_⟩
  have:=e2 e.on
  rw [if_pos hk] at this
  unfold jX at this
  rw [this] at q;exact q
theorem vY (hD:Down ops D) :∀(j:Nat) {o:Oper},ops[j]?=some o→D j=true→∀i,((mV ops.toList []).getD j 0).testBit i=true→D i=true:=by
 intro j
 induction j using Nat.strongRecOn with
 |_ j ih=>
  intro o ho hj i hb
  obtain ⟨e,h1,h2,h3 | ⟨h3,h4⟩⟩:=(Gu ho).1 hb
  ·rw [←h3];exact hD j o ho hj e h1 h2
  ·have hlt:j<ops.size:=(Array.getElem?_eq_some_iff.1 ho).1
   have hlt':e.on<ops.size:=by omega
   exact ih e.on h3 (Array.getElem?_eq_getElem hlt') (hD j o ho hj e h1 h2) i h4
theorem Oy {j:Nat} {o:Oper} (ho:ops[j]?=some o) (h:(mV ops.toList []).getD j 0<2 ^ j) {e:Edge} (he:e∈o.after) (hb:Region.binds .any e=true):e.on<j:=by
 have:=(Gu ho (i:=e.on)).2 ⟨e,he,hb,.inl rfl⟩
 by_cases hk:e.on<j
 ·exact hk
 ·rw [Nat.testBit_lt_two_pow (Nat.lt_of_lt_of_le h (Nat.pow_le_pow_right (by omega) (by omega)))] at this;cases this
end
section
variable {E:Env} {N:Nat} {aK:List Nat} {nS:Nat→Gh} {st:St} {a:Act} {w:World} {Pg:Program} {T:Tab} {tt:TT} {ops:Array Oper} {Q:Exit→Act→World→Prop}
theorem Oz {gh:Nat→Gh} (h:Rel E st gh (fun t=>a.tmps.getD t undef) w) {x:S} {v:Value} (hx:bF E st gh w x v) {i:TI} {t:TypeId} (ht:nP Pg t i) {c:Value} {p:Bool→Prop} (hp:vV st.o x i.k c=some p) :
  ∃b,(Op.equal t v c).run Pg w=.ok b w∧p b:=by
 unfold vV at hp
 split at hp
 ·rename_i e hk
  have hu:=ht.kind
  rw [hk] at hu
  have hu:Pg.underlying t=some (.slice e):=hu
  have eqs :∀ao n cap,(Op.equal t (.slice ao n cap) (.slice none 0 0)).run Pg w=.ok ao.isNone w:=by
   intro ao n cap
   unfold Op.equal Op.maxDepth
   show (Op.equalIn (9999+1) t _ _).run Pg w=_
   unfold Op.equalIn
   cases ao<;>simp [cZ hu]
  unfold JE at hp
  split at hp
  ·simp only [Option.some.injEq] at hp;subst hp
   have r:=hx.dK
   generalize hl:(P.sl _ _)=y at r
   cases r with
   |nil sz ao cap=>cases hl;exact ⟨_,eqs _ _ _,fun h=>absurd rfl h⟩
   |sl sz l ad cap f _ _ _ _ _ _=>cases hl;exact ⟨_,eqs _ _ _,fun _=>rfl⟩
   |_=>cases hl
  ·rename_i g
   split at hp
   ·rename_i sz l ho
    simp only [Option.some.injEq] at hp;subst hp
    cases hx.bH with
    |own _ _ _ hb=>
     rw [hb _ _ ho]
     refine ⟨_,eqs _ _ _,fun hl => ?_⟩
     obtain ⟨ad,had,_⟩:=(sV (h.objs g) ho).2 (by omega)
     rw [had];rfl
   ·cases hp
  ·simp only [Option.some.injEq] at hp;subst hp
   cases hx.bH
   exact ⟨_,eqs _ _ _,rfl⟩
  ·cases hp
 ·rename_i hk
  have hu:=ht.kind
  rw [hk] at hu
  obtain ⟨e,hu⟩:=(hu :∃e,Pg.underlying t=some (.pointer e))
  have eqp :∀ao,(Op.equal t (.pointer ao) (.pointer none)).run Pg w=.ok ao.isNone w:=by
   intro ao
   unfold Op.equal Op.maxDepth
   show (Op.equalIn (9999+1) t _ _).run Pg w=_
   unfold Op.equalIn
   cases ao<;>simp [cZ hu]
  unfold DC at hp
  split at hp
  ·rename_i g off
   split at hp
   ·rename_i ws ho
    simp only [Option.some.injEq] at hp;subst hp
    cases hx.bH with
    |box _ _ _ _ hb=>
     obtain ⟨ad,_,rfl⟩:=hb ws ho
     exact ⟨_,eqp _,rfl⟩
   ·cases hp
  ·simp only [Option.some.injEq] at hp;subst hp
   cases hx.dK with
   |opq _ _=>exact ⟨_,eqp _,rfl⟩
  ·cases hp
 ·cases hp
theorem OA (hT :∀f sp,T f=some sp→Sound Pg f sp) (htt:fK Pg tt) {i:Nat} {o:Oper} (hi:ops[i]?=some o) (hg:Good E N aK nS st a w) {K':Eff→Prop} (h:Ad T tt N ops o st K')
  {K:Act→World→Prop} (hK :∀e a' w',K' e→Good E N aK nS (st.eff o.dst e) a' w'→K a' w'):wpOp Pg ops Q i K a w:=by
 unfold Ad at h
 split at h
 ·rename_i pos p hn
  obtain ⟨hd,h⟩:=h
  have hd :∀d,o.dst=some d→d<a.tmps.size:=by
   intro d e
   rw [e] at hd
   rw [hg.size];simpa using hd
  unfold LK at hn
  split at hn
  ·cases hn
  ·rename_i hgd
   split at hn
   ·rename_i op t x c u hop
    split at hn
    ·rename_i ti ht
     obtain ⟨gh,hR,Dw⟩:=hg.ex
     have hx:=lT hR x
     have key :∀p',vV st.o (st.bY x) ti.k c=some p'→∃b,(Op.equal t (a.eval x) c).run Pg w=.ok b w∧p' b:=fun p' hp=>Oz hR hx (htt _ _ ht) hp
     have fin :∀b,(execOp a.eval o).run Pg w=.ok (.value (.bool (bif pos then b else !b))) w→p b→wpOp Pg ops Q i K a w:=by
      intro b hrun hb
      unfold wpOp
      rw [hi]
      simp only
      have:Region.wanted o (yielded ops a.tmps)=true:=by simp [Region.wanted,hgd]
      rw [if_pos this]
      left
      show o.upon Pg a K Q ((execOp a.eval o).run Pg w)
      rw [hrun]
      refine hK _ _ _ (h b hb) ⟨⟨gh,?_,fun g hg' => ?_⟩,by rw [vT];exact hg.size,hg.defers.put _ _⟩
      ·rw [vS _ _ hd]
       unfold St.eff
       simp only [ER]
       exact hR.put o.dst (bF.ofP (.bool _)) (by simp [scalar,S.names,V.names,W.names])
      ·have ho:(st.eff o.dst { x:=scalar (.bool (bif pos then b else !b)),upd:=[],new:=[] }).o g=st.o g:=by unfold St.eff St.put;cases o.dst<;>simp [St.upd]
       have hu:(st.eff o.dst { x:=scalar (.bool (bif pos then b else !b)),upd:=[],new:=[] }).used g=st.used g:=by unfold St.eff St.put;cases o.dst<;>simp [St.upd]
       rw [ho,hu];exact Dw g hg'
     have hcv :∀b,(Op.equal t (a.eval x) c).run Pg w=.ok b w→(c=.slice none 0 0∨c=.pointer none)∧True→(eqGuard op t x (.const c) (a.eval x) c).run Pg w=.ok () w:=by
      intro b _ hc
      unfold eqGuard
      rcases hc.1 with rfl | rfl
      ·cases op<;>first | rfl | (simp only;split<;>first | rfl | simp_all)
      ·cases op<;>first | rfl | (simp only;split<;>first | rfl | simp_all)
     have hcc :∀p',vV st.o (st.bY x) ti.k c=some p'→c=.slice none 0 0∨c=.pointer none:=by
      intro p' hp
      unfold vV at hp
      split at hp
      ·exact .inl rfl
      ·exact .inr rfl
      ·cases hp
     split at hn
     ·rename_i p' hp
      simp only [Option.some.injEq,Prod.mk.injEq] at hn
      obtain ⟨rfl,rfl⟩:=hn
      obtain ⟨b,hb1,hb2⟩:=key _ hp
      refine fin b ?_ hb2
      have hge:=hcv b hb1 ⟨hcc _ hp,trivial⟩
      unfold execOp
      rw [hop]
      refine eX ?_
      show (eqGuard _ t x (.const c) (a.eval x) c >>= fun _=>binOp _ t (a.eval x) c).run Pg w=_
      rw [Sem.run_bind,hge]
      rcases hcc _ hp with rfl | rfl<;>simp [binOp,hb1]
     ·rename_i p' hp
      simp only [Option.some.injEq,Prod.mk.injEq] at hn
      obtain ⟨rfl,rfl⟩:=hn
      obtain ⟨b,hb1,hb2⟩:=key _ hp
      refine fin b ?_ hb2
      have hge:=hcv b hb1 ⟨hcc _ hp,trivial⟩
      unfold execOp
      rw [hop]
      refine eX ?_
      show (eqGuard _ t x (.const c) (a.eval x) c >>= fun _=>binOp _ t (a.eval x) c).run Pg w=_
      rw [Sem.run_bind,hge]
      rcases hcc _ hp with rfl | rfl<;>simp [binOp,hb1]
     ·cases hn
    ·cases hn
   ·cases hn
 ·split at h
  ·rename_i g s n hn
   obtain ⟨hd,h1,h2⟩:=h
   have hd :∀d,o.dst=some d→d<a.tmps.size:=by
    intro d e
    rw [e] at hd
    rw [hg.size];simpa using hd
   unfold LM at hn
   split at hn
   ·cases hn
   ·rename_i hgd
    split at hn
    ·rename_i x hop
     split at hn
     ·rename_i g' hx
      split at hn
      ·rename_i s' n' hog
       simp only [Option.some.injEq,Prod.mk.injEq] at hn
       obtain ⟨rfl,rfl,rfl⟩:=hn
       obtain ⟨gh,hR,Dw⟩:=hg.ex
       have hrx:=lT hR x
       rw [hx] at hrx
       obtain ⟨ad,had,hv⟩ :∃ad,(gh g').ad=some ad∧a.eval x=.pointer (some ⟨ad.block,0,none⟩):=by
        have:=hrx.bH
        generalize a.eval x=z at this
        cases this with | lF _ _ _ hb=>exact hb _ _ hog
       have hO:=hR.objs g'
       rw [hog] at hO
       obtain ⟨ad',bs,k,q1,rfl,rfl,q4⟩:=hO
       rw [had] at q1;cases q1
       have hlt:ad.block<w.heap.size:=(hR.wr g' ad.block (by rw [hog];rfl) (Gh.iU had)).2
       have hkn:(P.int .i64 (k:Int)).nat=k:=by simp [P.nat,P.num]
       have hget:(getObj ad.block).run Pg w=.ok (.stringIter bs k) w:=by simp [getObj,Sem.run,q4]
       have fin :∀(v:Value) (w':World) (e:Eff),(∀b,b≠ad.block→w'.heap[b]?=w.heap[b]?)→(Instr.next (a.eval x) true o.type).run Pg w=.ok v w'→K' e→Rel E (st.upd e.upd e.new) gh (fun t=>a.tmps.getD t undef) w'→bF E (st.upd e.upd e.new) gh w' e.x v→(∀g∈e.x.names,(st.upd e.upd e.new).used g=true)→
         (∀g,st.used g=true→(st.upd e.upd e.new).used g=true)→(∀g,((st.upd e.upd e.new).o g=.none∨True)∧(st.o g=.none→(st.upd e.upd e.new).o g=.none))→wpOp Pg ops Q i K a w:=by
        intro v w' e hmm hrun hke hR' hx' hn' hu' ho'
        unfold wpOp
        rw [hi]
        simp only
        have:Region.wanted o (yielded ops a.tmps)=true:=by simp [Region.wanted,hgd]
        rw [if_pos this]
        left
        show o.upon Pg a K Q ((execOp a.eval o).run Pg w)
        have:(execOp a.eval o).run Pg w=.ok (.value v) w':=by
         unfold execOp
         rw [hop]
         exact eX hrun
        rw [this]
        refine hK e _ _ hke ⟨⟨gh,?_,fun g hg' => ?_⟩,by rw [vT];exact hg.size,hg.defers.same (fun D _ h3=>hmm D fun e'=>by rw [e',q4] at h3;cases h3) _ _⟩
        ·rw [vS _ _ hd]
         exact hR'.put o.dst hx' hn'
        ·obtain ⟨p1,p2⟩:=Dw g hg'
         have ho2:(st.eff o.dst e).o g=(st.upd e.upd e.new).o g:=by unfold St.eff St.put;cases o.dst<;>rfl
         have hu2:(st.eff o.dst e).used g=(st.upd e.upd e.new).used g:=by unfold St.eff St.put;cases o.dst<;>rfl
         refine ⟨by rw [hu2];exact hu' g p1,?_⟩
         rw [ho2]
         rcases p2 with p2 | p2
         ·exact .inl ((ho' g).2 p2)
         ·exact .inr p2
       cases hb:Ov (.str bs) (.int .i64 k) with
       |true=>
        have hkb:k<bs.size:=by
         have:=of_decide_eq_true hb
         rw [hkn] at this;exact this
        have hrun:(Instr.next (a.eval x) true o.type).run Pg w=.ok (.tuple #[.bool true,.int .i64 k,.int .i32 (Utf8.decode bs k).1]) { w with heap:=w.heap.setIfInBounds ad.block (.stringIter bs (k+(Utf8.decode bs k).2)) }:=by
         rw [hv]
         simp only [Instr.next,Sem.run_bind,hget,Result.andThen_ok]
         rw [if_pos hkb]
         have hset:(setObj ad.block (.stringIter bs (k+(Utf8.decode bs k).2))).run Pg w=.ok () { w with heap:=w.heap.setIfInBounds ad.block (.stringIter bs (k+(Utf8.decode bs k).2)) }:=by
          simp [setObj,Sem.run,q4]
         simp only [Sem.run_bind,hset,Result.andThen_ok,Sem.run_pure]
         rfl
        obtain ⟨w1,w2⟩:=hR.write g' ad (by rw [hog];rfl) had (.it (.str bs) (Rj (.str bs) (.int .i64 k))) (by rw [hog];trivial) { w with heap:=w.heap.setIfInBounds ad.block (.stringIter bs (k+(Utf8.decode bs k).2)) }
         (fun b hb=>by simp [Array.getElem?_setIfInBounds,Ne.symm hb]) (by simp) rfl rfl rfl rfl (fun _ e=>by cases e) (fun _=>by rw [hog];rfl)
         (fun _=>⟨ad,bs,k+(Utf8.decode bs k).2,had,rfl,by simp only [Rj,kH,hkn];rfl,by simp [hlt]⟩) (fun g hg=>by simp [O.names] at hg)
        have hold :∀g,g≠g'→(st.upd (Gm g' (.str bs) (.int .i64 k)).upd (Gm g' (.str bs) (.int .i64 k)).new).o g=st.o g:=by
         intro g hne
         have:(g==g')=false:=by simpa using hne
         simp [Gm,St.upd,List.lookup,this]
        refine fin _ _ (Gm g' (.str bs) (.int .i64 k)) (fun b hb=>by simp [Array.getElem?_setIfInBounds,Ne.symm hb]) hrun (h1 hb) w1 ?_ ?_ ?_ ?_
        ·refine .ku _ _ rfl fun j x v hx hv => ?_
         match j,hx,hv with
         |0,hx,hv=>cases hx;cases hv;exact .one _ _ (.p _ _ _ _ (.bool _))
         |1,hx,hv=>cases hx;cases hv;exact .one _ _ (.p _ _ _ _ (by rw [hkn];exact .int _ _))
         |2,hx,hv=>cases hx;cases hv;exact .one _ _ (.p _ _ _ _ (by simp only [Yo,hkn];exact .int _ _))
         |j+3,hx,_=>cases hx
        ·intro g hg'
         simp [Gm,S.names,V.names,W.names] at hg'
        ·intro g hg';simp [St.upd,hg']
        ·intro g
         refine ⟨.inr trivial,fun h0 => ?_⟩
         by_cases e:g=g'
         ·subst e;rw [hog] at h0;cases h0
         ·rw [hold g e];exact h0
       |false=>
        have hkb:¬ k<bs.size:=by
         have:=of_decide_eq_false hb
         rw [hkn] at this;exact this
        have hrun:(Instr.next (a.eval x) true o.type).run Pg w=.ok (.tuple #[.bool false]) w:=by
         rw [hv]
         simp only [Instr.next,Sem.run_bind,hget,Result.andThen_ok]
         rw [if_neg hkb];rfl
        refine fin _ _ JG (fun _ _=>rfl) hrun (h2 hb) (by rw [show JG.upd=[] from rfl,show JG.new=[] from rfl,ER];exact hR) ?_ ?_ ?_ ?_
        ·refine .ku _ _ rfl fun j x v hx hv => ?_
         match j,hx,hv with
         |0,hx,hv=>cases hx;cases hv;exact .one _ _ (.p _ _ _ _ (.bool _))
         |j+1,hx,_=>cases hx
        ·intro g hg'
         simp [JG,S.names,V.names,W.names] at hg'
        ·intro g hg';simp [St.upd,hg']
        ·intro g;exact ⟨.inr trivial,fun h0=>by simpa [JG,St.upd] using h0⟩
      ·cases hn
     ·cases hn
    ·cases hn
  ·obtain ⟨e,hc,h⟩:=Oo h
   exact Gi hT htt hi hg hc fun a' w' hg'=>hK e a' w' h hg'
theorem Af (hT :∀f sp,T f=some sp→Sound Pg f sp) (htt:fK Pg tt) {K:St→Prop} (hK :∀st' a' w',K st'→Good E N aK nS st' a' w'→Q .normal a' w') :
  ∀(is:List Nat) {st:St} {a:Act} {w:World},tX T tt N ops is st K→Good E N aK nS st a w→wpOps Pg ops Q is a w
 | [],st,a,w,h,hg=>hK st a w h hg
 |i::is,st,a,w,h,hg=>by
  simp only [tX] at h
  split at h
  ·rename_i o ho
   rw [wpOps_cons]
   exact OA hT htt ho hg h fun e a' w' h hg'=>Af hT htt hK is h hg'
  ·cases h
theorem DJ {K:St→List qV→Prop} :∀(m k:Nat) (es:Nat→Eff) (fs:List qV),fs.length=k→ni T tt N ops (List.range' k m) (SD ops es st (fun _=>true) k) fs K→
  ∃(es':Nat→Eff) (fs':List qV),(∀i<k,es' i=es i)∧(∀i<k,fs'[i]?=fs[i]?)∧K (SD ops es' st (fun _=>true) (k+m)) fs'∧
   ∀i,k≤i→i<k+m→∃o,ops[i]?=some o∧Can T tt N ops (SD ops es' st (fun _=>true) i) o (es' i)∧fs'[i]?=some { rd:=oV T (SD ops es' st (fun _=>true) i) o,wr:=(es' i).upd.map (·.1),new:=(es' i).new,ld:=Gn tt (SD ops es' st (fun _=>true) i) o,kp:=Rl (SD ops es' st (fun _=>true) i) (es' i),pk:=qW o.op,kd:=Rn (SD ops es' st (fun _=>true) i) (es' i) }
 |0,k,es,fs,hl,h=>⟨es,fs,fun _ _=>rfl,fun _ _=>rfl,h,fun i h1 h2=>by omega⟩
 |m+1,k,es,fs,hl,h=>by
  simp only [List.range'_succ,ni] at h
  split at h
  ·rename_i o ho
   obtain ⟨e,hc,h⟩:=Oo h
   let es1:Nat→Eff:=fun i=>if i=k then e else es i
   have e1:SD ops es1 st (fun _=>true) k=SD ops es st (fun _=>true) k:=Gq fun i hi=>by simp only [es1];rw [if_neg (by omega)]
   have e2:SD ops es1 st (fun _=>true) (k+1)=(SD ops es st (fun _=>true) k).eff o.dst e:=by
    simp only [SD,if_true]
    rw [e1,ho]
    simp [es1]
   rw [←e2] at h
   obtain ⟨es',fs',q1,q2,q3,q4⟩:=DJ m (k+1) es1 _ (by simp [hl]) h
   have e3:SD ops es' st (fun _=>true) k=SD ops es st (fun _=>true) k:=(Gq fun i hi=>q1 i (by omega)).trans e1
   refine ⟨es',fs',fun i hi => ?_,fun i hi => ?_,by rw [show k+(m+1)=k+1+m by omega];exact q3,fun i h1 h2 => ?_⟩
   ·rw [q1 i (by omega)];simp only [es1];rw [if_neg (by omega)]
   ·rw [q2 i (by omega),List.getElem?_append_left (by omega)]
   ·by_cases e:i=k
    ·subst e
     have hei:es' i=e:=by rw [q1 i (by omega)];simp [es1]
     refine ⟨o,ho,by rw [e3,hei];exact hc,?_⟩
     rw [q2 i (by omega),List.getElem?_append_right (by omega),e3,hei]
     simp [hl]
    ·exact q4 i (by omega) (by omega)
  ·cases h
def Rng (ws:List W) (off n:Nat) (x:O):Prop :=∃wc,x=.box wc∧wc.length=ws.length∧∀off',off≤off'→off'<off+n→wc[off']?=ws[off']?
theorem Gv {g:Nat} :∀{j:Nat} {xs ys:List W} {r:List (Nat×Nat)},Ae g j xs ys=some r→xs.length=ys.length∧∀p∈r,p.1=g∧j≤p.2∧xs[p.2-j]?=ys[p.2-j]?
 |j,[],[],r,h=>by simp only [Ae,Option.some.injEq] at h;subst h;exact ⟨rfl,fun p hp=>by cases hp⟩
 |j,[],y::ys,r,h=>by simp [Ae] at h
 |j,x::xs,[],r,h=>by simp [Ae] at h
 |j,x::xs,y::ys,r,h=>by
  simp only [Ae] at h
  split at h
  ·rename_i r' hr
   obtain ⟨h1,h2⟩:=Gv hr
   have old :∀p∈r',p.1=g∧j≤p.2∧(x::xs)[p.2-j]?=(y::ys)[p.2-j]?:=fun p hp=>by
    obtain ⟨a1,a2,a3⟩:=h2 p hp
    refine ⟨a1,by omega,?_⟩
    rw [show p.2-j=(p.2-(j+1))+1 by omega,List.getElem?_cons_succ,List.getElem?_cons_succ];exact a3
   simp only [Option.some.injEq] at h
   refine ⟨by simp [h1],fun p hp => ?_⟩
   rw [←h] at hp
   split at hp
   ·rename_i hs
    rcases List.mem_cons.1 hp with rfl | hp
    ·refine ⟨rfl,Nat.le_refl _,?_⟩
     have:x=y:=by
      cases x<;>cases y<;>simp only [Yp] at hs<;>first | (cases hs) | skip
      ·rw [Nat.eq_of_beq_eq_true hs]
      ·simp only [Bool.and_eq_true] at hs
       rw [Nat.eq_of_beq_eq_true hs.1,Nat.eq_of_beq_eq_true hs.2]
     simp [this]
    ·exact old p hp
   ·exact old p hp
  ·cases h
theorem Wn {st:St} {e:Eff} {p:Nat×Nat} (h:p∈Rl st e) :∃wa wb,st.o p.1=.box wa∧e.upd.lookup p.1=some (.box wb)∧wa.length=wb.length∧wa[p.2]?=wb[p.2]?:=by
 unfold Rl at h
 obtain ⟨g,_,hp⟩:=List.mem_flatMap.1 h
 cases ho:st.o g with
 |box ws=>
  cases hl:e.upd.lookup g with
  |none=>rw [ho,hl] at hp;cases hp
  |some x=>
   cases x with
   |box ws'=>
    rw [ho,hl] at hp
    simp only [Ox] at hp
    split at hp
    ·rename_i r hr
     obtain ⟨h1,h2⟩:=Gv hr
     obtain ⟨rfl,_,a3⟩:=h2 p hp
     exact ⟨ws,ws',ho,hl,h1,by simpa using a3⟩
    ·cases hp
   |_=>rw [ho,hl] at hp;cases hp
 |_=>rw [ho] at hp;cases hp
theorem LQ {st:St} {o:Oper} {g off n:Nat} (h:Gn tt st o=some (g,off,n)) :∃t x i,o.op=.load t x∧tt t=some i∧i.size=n∧st.bY x=.v (.one (.box g off)):=by
 unfold Gn at h
 split at h
 ·rename_i t x hop
  split at h
  ·rename_i i g' off' ht hx
   simp only [Option.some.injEq,Prod.mk.injEq] at h
   obtain ⟨rfl,rfl,rfl⟩:=h
   exact ⟨t,x,i,hop,ht,rfl,hx⟩
  ·cases h
 ·cases h
theorem Wp {st:St} {o:Oper} {g off n:Nat} (h:Gn tt st o=some (g,off,n)):g∈oV T st o:=by
 obtain ⟨t,x,i,h1,_,_,h4⟩:=LQ h
 unfold oV
 rw [h1]
 refine List.mem_append_left _ (List.mem_flatMap.2 ⟨x,by simp [Op.operands],List.mem_flatMap.2 ⟨g,?_,by simp⟩⟩)
 rw [h4];simp [S.names,V.names,W.names]
theorem OC {es:Nat→Eff} {D:Nat→Bool} {g:Nat} :∀(n:Nat),∃m,(∀k,m≤k→k<n→D k=true→g∉(es k).upd.map (·.1))∧(SD ops es st D n).o g=(SD ops es st (fun _=>true) m).o g∧(m=0∨∃k,m=k+1∧k<n∧D k=true∧g∈(es k).upd.map (·.1))
 |0=>⟨0,fun k _ h=>by omega,rfl,.inl rfl⟩
 |n+1=>by
  obtain ⟨m,h1,h2,h3⟩:=OC (D:=D) (g:=g) n
  by_cases hw:D n=true∧g∈(es n).upd.map (·.1)
  ·obtain ⟨hd,hg⟩:=hw
   refine ⟨n+1,fun k a b=>by omega,?_,.inr ⟨n,rfl,by omega,hd,hg⟩⟩
   simp only [SD,hd,if_true,vW]
   cases hl:(es n).upd.lookup g with
   |some x=>rfl
   |none=>
    exfalso
    obtain ⟨p,hp,e⟩:=List.mem_map.1 hg
    have :∀{l:List (Nat×O)},p∈l→l.lookup p.1≠none:=by
     intro l
     induction l with
     |nil=>intro h;cases h
     |cons q l ih=>
      intro h hn
      simp only [List.lookup] at hn
      split at hn
      ·cases hn
      ·rename_i hb
       rcases List.mem_cons.1 h with h | h
       ·subst h;simp at hb
       ·exact ih h hn
    exact this hp (by rw [e];exact hl)
  ·refine ⟨m,fun k a b hd hg => ?_,?_,h3.imp id fun ⟨k,a,b,c⟩=>⟨k,a,by omega,c⟩⟩
   ·by_cases e:k=n
    ·subst e;exact hw ⟨hd,hg⟩
    ·exact h1 k a (by omega) hd hg
   ·cases hd:D n with
    |false=>simp only [SD,hd,Bool.false_eq_true,if_false];exact h2
    |true=>
     have hg:g∉(es n).upd.map (·.1):=fun hg=>hw ⟨hd,hg⟩
     simp only [SD,hd,if_true,vW,iW hg];exact h2
theorem yV {st:St} {o:Oper} {d:Nat} {t:TypeId} {x:Operand} {i:TI} {g off:Nat} (h1:o.op=.load t x) (h2:tt t=some i) (h4:st.bY x=.v (.one (.box g off))) {K:Eff→Prop} :
  gY T tt d st o K↔∃ws,st.o g=.box ws∧(off+i.size≤ws.length∧0<i.size)∧K { x:=V.dZ i.agg ((ws.drop off).take i.size),upd:=[],new:=[] }:=by
 have hD :∀dc,bV tt dc d st.o st.bY (.load t x) o.type=none:=fun dc=>by
  simp only [bV,yL,h2,h4]
  cases X_ dc<;>rfl
 have e:gY T tt d st o K↔(match kernel tt d st.o st.bY (.load t x) o.type with
   |some r=>r.pre∧K { x:=r.dst r.val,upd:=r.upd r.val,new:=r.new }
   |none=>False):=by
  unfold gY
  rw [h1]
  simp only [hD,reduceCtorEq,false_and,exists_false,false_or,Dp,cond_false]
  cases kernel tt d st.o st.bY (.load t x) o.type<;>rfl
 rw [e]
 simp only [kernel,h2,h4]
 cases ho:st.o g with
 |box ws=>
  simp only
  by_cases hs:off+i.size≤ws.length∧0<i.size
  ·rw [if_pos hs]
   simp only [EG.pure,true_and]
   constructor
   ·intro h;exact ⟨ws,rfl,hs,h⟩
   ·rintro ⟨ws',e',_,h⟩;cases e';exact h
  ·rw [if_neg hs]
   simp only [false_iff]
   rintro ⟨ws',e',h,_⟩;cases e';exact hs h
 |_=>
  simp only [false_iff]
  rintro ⟨ws',e',_⟩;cases e'
theorem Yr {st:St} {o:Oper} {e:Eff} {g off n:Nat} (hc:Can T tt N ops st o e) (hl:Gn tt st o=some (g,off,n)):e.upd=[]:=by
 obtain ⟨t,x,i,h1,h2,h3,h4⟩:=LQ hl
 have key :∀{d:Nat},(gY T tt d st o fun e'=>e'.new.all (fun g=>!st.used g)=true∧e'=e)→e.upd=[]:=by
  intro d h
  obtain ⟨ws,_,_,_,rfl⟩:=(yV h1 h2 h4).1 h
  rfl
 unfold Can stepW at hc
 obtain ⟨_,hc⟩:=hc
 split at hc
 ·exact key hc
 ·split at hc
  ·rename_i b _
   cases b with
   |true=>exact key hc
   |false=>have hc:Eff.skip=e:=hc;rw [←hc];rfl
  ·cases hc
theorem Wq {st:St} {e:Eff} {g:Nat} (h:g∈Rn st e) :∃x,e.upd.lookup g=some x∧kindOf x=kindOf (st.o g):=by
 unfold Rn at h
 obtain ⟨g',_,hp⟩:=List.mem_filterMap.1 h
 cases hl:e.upd.lookup g' with
 |none=>rw [hl] at hp;cases hp
 |some x=>
  rw [hl] at hp
  simp only at hp
  cases hb:Nat.beq (kindOf x) (kindOf (st.o g')) with
  |false=>rw [hb] at hp;cases hp
  |true=>
   rw [hb] at hp
   cases hp
   exact ⟨x,hl,Nat.eq_of_beq_eq_true hb⟩
theorem JL {o o':Nat→O} {x:W} (h :∀g∈x.names,kindOf (o g)=kindOf (o' g)):x.live o=x.live o':=by
 cases x<;>simp only [W.live]<;>first | rfl | skip
 ·rename_i g off
  have:=h g (by simp [W.names])
  cases h1:o g<;>cases h2:o' g<;>rw [h1,h2] at this<;>first | rfl | cases this
 ·rename_i g n off
  have:=h g (by simp [W.names])
  cases h1:o g<;>cases h2:o' g<;>rw [h1,h2] at this<;>first | rfl | cases this
theorem OD {o o':Nat→O} {d:Nat} {F F':Operand→S} {op:Op} {ty:TypeId} (hp:qW op=true) (hF :∀x∈op.operands.toList,F x=F' x) (ho :∀x∈op.operands.toList,∀g∈(F x).names,kindOf (o g)=kindOf (o' g)) :
  kernel tt d o F op ty=kernel tt d o' F' op ty:=by
 cases op<;>first | (cases hp;done) | skip
 ·rename_i x
  have h1:=hF x (by simp [Op.operands])
  have h2:=ho x (by simp [Op.operands])
  simp only [kernel,←h1]
  generalize F x=z at h2
  split
  ·rename_i x
   rw [JL (o':=o') fun g hg=>h2 g (by simpa [S.names,V.names] using hg)]
  ·rfl
 ·rename_i t x n
  have h1:=hF x (by simp [Op.operands])
  have h2:=ho x (by simp [Op.operands])
  simp only [kernel,←h1]
  generalize F x=z at h2
  split
  ·rename_i x _ _
   rw [JL (o':=o') fun g hg=>h2 g (by simpa [S.names,V.names] using hg)]
  ·rfl
theorem yX {st:St} {o:Oper} {d:Nat} (hp:qW o.op=true) {K:Eff→Prop} :
  gY T tt d st o K↔(match kernel tt d st.o st.bY o.op o.type with
   |some r=>r.pre∧K { x:=r.dst r.val,upd:=r.upd r.val,new:=r.new }
   |none=>False):=by
 unfold gY
 cases hop:o.op<;>rw [hop] at hp<;>first | (cases hp;done) | skip
 all_goals
  simp only [bV,reduceCtorEq,false_and,exists_false,false_or,Dp,cond_false]
  generalize kernel tt d st.o st.bY _ o.type=z
  cases z<;>rfl
theorem Ws {o:Nat→O} {F:Operand→S} {d:Nat} {op:Op} {ty:TypeId} {r:EG} (hp:qW op=true) (h:kernel tt d o F op ty=some r):r.upd r.val=[]:=by
 cases op<;>first | (cases hp;done) | skip
 all_goals
  simp only [kernel] at h
  split at h
  ·split at h
   ·simp only [Option.some.injEq] at h;subst h;rfl
   ·cases h
  ·cases h
theorem Yt {st:St} {o:Oper} {e:Eff} (hc:Can T tt N ops st o e) (hp:qW o.op=true):e.upd=[]:=by
 have key :∀{d:Nat},(gY T tt d st o fun e'=>e'.new.all (fun g=>!st.used g)=true∧e'=e)→e.upd=[]:=by
  intro d h
  have h:=(yX hp).1 h
  split at h
  ·rename_i r hr
   obtain ⟨_,_,rfl⟩:=h
   exact Ws hp hr
  ·cases h
 unfold Can stepW at hc
 obtain ⟨_,hc⟩:=hc
 split at hc
 ·exact key hc
 ·split at hc
  ·rename_i b _
   cases b with
   |true=>exact key hc
   |false=>have hc:Eff.skip=e:=hc;rw [←hc];rfl
  ·cases hc
theorem Yu {st st':St} {o:Oper} {e:Eff} (hc:Can T tt N ops st o e) (hp:qW o.op=true) (hs :∀t∈o.looksAt ops,st.s t=st'.s t) (ho :∀g∈oV T st o,kindOf (st.o g)=kindOf (st'.o g)) (hu :∀g∈e.new,st.used g=st'.used g):Can T tt N ops st' o e:=by
 have hx :∀x∈o.op.operands.toList,st.bY x=st'.bY x:=by
  intro x hm
  cases x with
  |tmp t=>exact hs t (List.mem_append_left _ (List.mem_filterMap.2 ⟨_,hm,rfl⟩))
  |_=>rfl
 have hl:looks o.op=true:=by cases hop:o.op<;>rw [hop] at hp<;>first | rfl | cases hp
 have hk:kernel tt (o.dst.getD 0) st.o st.bY o.op o.type=kernel tt (o.dst.getD 0) st'.o st'.bY o.op o.type:=
  OD hp hx fun x hm g hg=>ho g (List.mem_append_left _ (by rw [hl];exact List.mem_flatMap.2 ⟨x,hm,List.mem_flatMap.2 ⟨g,hg,by simp⟩⟩))
 have eff:(gY T tt (o.dst.getD 0) st o fun e'=>e'.new.all (fun g=>!st.used g)=true∧e'=e)→(gY T tt (o.dst.getD 0) st' o fun e'=>e'.new.all (fun g=>!st'.used g)=true∧e'=e):=by
  intro h
  have h:=(yX hp).1 h
  refine (yX hp).2 ?_
  rw [←hk]
  split at h
  ·obtain ⟨q1,q2,rfl⟩:=h
   refine ⟨q1,?_,rfl⟩
   rw [List.all_eq_true] at q2 ⊢
   intro g hg
   rw [←hu g hg];exact q2 g hg
  ·cases h
 unfold Can stepW at *
 refine ⟨hc.1,?_⟩
 have hc:=hc.2
 cases hg:o.guard with
 |none=>rw [hg] at hc;exact eff hc
 |some p=>
  obtain ⟨j,want⟩:=p
  rw [hg] at hc
  simp only at hc ⊢
  have:guardOf ops st j want=guardOf ops st' j want:=by
   unfold guardOf
   cases hd:(ops[j]?).bind (·.dst) with
   |none=>rfl
   |some t=>
    simp only
    rw [hs t (List.mem_append_right _ (by simp [hg,hd]))]
  rw [←this]
  split at hc
  ·rename_i b hb
   cases b with
   |true=>exact eff hc
   |false=>exact hc
  ·cases hc
theorem Yv {st st':St} {o:Oper} {e:Eff} {g off n:Nat} (hc:Can T tt N ops st o e) (hs :∀t∈o.looksAt ops,st.s t=st'.s t) (hl:Gn tt st o=some (g,off,n))
  (H:0<n→∀ws,st.o g=.box ws→Rng ws off n (st'.o g)) (hu :∀g∈e.new,st.used g=st'.used g):Can T tt N ops st' o e:=by
 obtain ⟨t,x,i,h1,h2,h3,h4⟩:=LQ hl
 have hx:st'.bY x=.v (.one (.box g off)):=by
  rw [←h4]
  cases x with
  |tmp t=>exact (hs t (List.mem_append_left _ (List.mem_filterMap.2 ⟨.tmp t,by simp [h1,Op.operands],rfl⟩))).symm
  |_=>rfl
 have eff:(gY T tt (o.dst.getD 0) st o fun e'=>e'.new.all (fun g=>!st.used g)=true∧e'=e)→(gY T tt (o.dst.getD 0) st' o fun e'=>e'.new.all (fun g=>!st'.used g)=true∧e'=e):=by
  intro h
  obtain ⟨ws,ho,⟨q1,q2⟩,q3,rfl⟩:=(yV h1 h2 h4).1 h
  obtain ⟨wc,r1,r2,r3⟩:=H (by omega) ws ho
  refine (yV h1 h2 hx).2 ⟨wc,r1,⟨by omega,q2⟩,rfl,?_⟩
  have key:(wc.drop off).take i.size=(ws.drop off).take i.size:=by
   refine List.ext_getElem? fun k => ?_
   rw [List.getElem?_take,List.getElem?_take]
   split
   ·rw [List.getElem?_drop,List.getElem?_drop]
    exact r3 _ (by omega) (by omega)
   ·rfl
  rw [key]
 unfold Can stepW at *
 refine ⟨hc.1,?_⟩
 have hc:=hc.2
 cases hg:o.guard with
 |none=>rw [hg] at hc;exact eff hc
 |some p=>
  obtain ⟨j,want⟩:=p
  rw [hg] at hc
  simp only at hc ⊢
  have:guardOf ops st j want=guardOf ops st' j want:=by
   unfold guardOf
   cases hd:(ops[j]?).bind (·.dst) with
   |none=>rfl
   |some t=>
    simp only
    rw [hs t (List.mem_append_right _ (by simp [hg,hd]))]
  rw [←this]
  split at hc
  ·rename_i b hb
   cases b with
   |true=>exact eff hc
   |false=>exact hc
  ·cases hc
theorem Wu (hT :∀f sp,T f=some sp→Sound Pg f sp) (htt:fK Pg tt) {es:Nat→Eff} {fs:List qV} (hfree:Uk ops fs=true)
  (hcan :∀i,i<ops.size→∃o,ops[i]?=some o∧Can T tt N ops (SD ops es st (fun _=>true) i) o (es i)∧fs[i]?=some { rd:=oV T (SD ops es st (fun _=>true) i) o,wr:=(es i).upd.map (·.1),new:=(es i).new,ld:=Gn tt (SD ops es st (fun _=>true) i) o,kp:=Rl (SD ops es st (fun _=>true) i) (es i),pk:=qW o.op,kd:=Rn (SD ops es st (fun _=>true) i) (es i) })
  (hQ :∀a' w',Good E N aK nS (SD ops es st (fun _=>true) ops.size) a' w'→Q .normal a' w') :
  ∀(fuel:Nat) (listed:Array Bool) (a:Act) (w:World),listed.size=ops.size→Down ops (fun k=>listed.getD k false)→(List.range ops.size).countP (fun k=>!listed.getD k false)≤fuel→
   Good E N aK nS (SD ops es st (fun k=>listed.getD k false) ops.size) a w→wpAny Pg .any ops Q fuel listed a w:=by
 have hf :∀j,j<ops.size→(mV ops.toList []).getD j 0<2 ^ j∧∀i,i<j→((mV ops.toList []).getD j 0).testBit i=true∨∃x y fx fy,ops[i]?=some x∧ops[j]?=some y∧fs[i]?=some fx∧fs[j]?=some fy∧Apart ops x y fx fy:=by
  intro j hj
  have:=(List.all_eq_true.1 hfree) j (List.mem_range.2 hj)
  simp only [Bool.and_eq_true,decide_eq_true_eq,List.all_eq_true,List.mem_range,Bool.or_eq_true] at this
  refine ⟨this.1,fun i hi => ?_⟩
  rcases this.2 i hi with h | h
  ·exact .inl h
  ·right
   split at h
   ·rename_i x y fx fy h1 h2 h3 h4
    exact ⟨x,y,fx,fy,h1,h2,h3,h4,Ro h⟩
   ·cases h
 have done :∀(listed:Array Bool),listed.size=ops.size→Down ops (fun k=>listed.getD k false)→Region.ready .any ops listed=[]→∀k,k<ops.size→listed.getD k false=true:=by
  intro listed hsz hD hr k
  induction k using Nat.strongRecOn with
  |_ k ih=>
   intro hk
   obtain ⟨o,ho,_,_⟩:=hcan k hk
   by_cases hl:listed.getD k false=true
   ·exact hl
   ·exfalso
    have:k∈Region.ready .any ops listed:=mem_ready.2 ⟨by
     have hl:listed.getD k false=false:=by simpa using hl
     rw [Array.getD_eq_getD_getElem?] at hl ⊢
     rw [Array.getElem?_eq_getElem (by omega)] at hl ⊢
     exact hl,o,ho,fun e he hb=>ih e.on (Oy ho (hf k hk).1 he hb) (by have:=Oy ho (hf k hk).1 he hb;omega)⟩
    rw [hr] at this;cases this
 have final :∀(listed:Array Bool) (a:Act) (w:World),listed.size=ops.size→Down ops (fun k=>listed.getD k false)→Region.ready .any ops listed=[]→Good E N aK nS (SD ops es st (fun k=>listed.getD k false) ops.size) a w→Q .normal a w:=by
  intro listed a w hsz hD hr hg
  have h:=done listed hsz hD hr
  rw [BJ (D':=fun _=>true) fun k hk=>h k hk] at hg
  exact hQ a w hg
 intro fuel
 induction fuel with
 |zero=>
  intro listed a w hsz hD hcnt hg
  have hr:Region.ready .any ops listed=[]:=by
   cases hr:Region.ready .any ops listed with
   |nil=>rfl
   |cons k ks=>
    exfalso
    have hk:k∈Region.ready .any ops listed:=by rw [hr];simp
    obtain ⟨h1,o,ho,_⟩:=mem_ready.1 hk
    have hlt:=(Array.getElem?_eq_some_iff.1 ho).1
    have:0<(List.range ops.size).countP (fun k=>!listed.getD k false):=by
     rw [List.countP_pos_iff]
     refine ⟨k,List.mem_range.2 hlt,?_⟩
     rw [Array.getD_eq_getD_getElem?] at h1 ⊢
     rw [Array.getElem?_eq_getElem (by omega)] at h1 ⊢
     simpa using h1
    omega
  exact ⟨hr,final listed a w hsz hD hr hg⟩
 |succ fuel ih=>
  intro listed a w hsz hD hcnt hg
  refine ⟨fun hr=>final listed a w hsz hD hr hg,fun i hi => ?_⟩
  obtain ⟨hni,oi,hoi,hpre⟩:=mem_ready.1 hi
  have hlt:i<ops.size:=(Array.getElem?_eq_some_iff.1 hoi).1
  have hDi:listed.getD i false=false:=by
   rw [Array.getD_eq_getD_getElem?] at hni ⊢
   rw [Array.getElem?_eq_getElem (by omega)] at hni ⊢
   exact hni
  obtain ⟨o,ho,hc,hfi⟩:=hcan i hlt
  rw [hoi] at ho;cases ho
  have hset :∀k,(listed.setIfInBounds i true).getD k false=if k=i then true else listed.getD k false:=by
   intro k
   by_cases e:k=i
   ·subst e
    rw [if_pos rfl,Array.getD_eq_getD_getElem?,Array.getElem?_setIfInBounds_self]
    simp [show k<listed.size by omega]
   ·rw [if_neg e,Array.getD_eq_getD_getElem?,Array.getElem?_setIfInBounds_ne (Ne.symm e),←Array.getD_eq_getD_getElem?]
  have hD':Down ops (fun k=>(listed.setIfInBounds i true).getD k false):=by
   intro j o' ho' hj e he hb
   simp only [hset] at hj ⊢
   by_cases ej:j=i
   ·subst ej
    rw [hoi] at ho';cases ho'
    have:=hpre e he hb
    rw [this];simp
   ·rw [if_neg ej] at hj
    have:=hD j o' ho' hj e he hb
    simp only at this
    rw [this];simp
  have hap :∀k,k<ops.size→k≠i→((k<i∧listed.getD k false=false)∨(i<k∧listed.getD k false=true))→∃y fy,ops[k]?=some y∧fs[k]?=some fy∧
    (∀t,y.dst=some t→t∉oi.looksAt ops)∧(∀t,oi.dst=some t→y.dst≠some t)∧((∀g∈fy.wr,g∉oV T (SD ops es st (fun _=>true) i) oi)∨∃fi,fs[i]?=some fi∧DF fy fi=true)∧(∀g∈fy.wr,g∉(es i).upd.map (·.1))∧(∀g∈fy.new,g∉(es i).new)∧fy.wr=(es k).upd.map (·.1)∧fy.new=(es k).new:=by
   intro k hk hne hcase
   obtain ⟨y0,hy0,_,hfk⟩:=hcan k hk
   rcases hcase with ⟨hlt',hfalse⟩ | ⟨hlt',ahJ⟩
   ·rcases (hf i hlt).2 k hlt' with hb | ⟨x,y,fx,fy,h1,h2,h3,h4,ap⟩
    ·have:=vY hD' i hoi (by simp [hset]) k hb
     simp only [hset,if_neg hne] at this
     rw [hfalse] at this;cases this
    ·rw [hoi] at h2;cases h2
     rw [hfi] at h4;cases h4
     rw [hfk] at h3;cases h3
     exact ⟨x,_,h1,hfk,ap.dy,fun t e e'=>ap.dd t e' e,ap.wr.imp id (fun h=>⟨_,hfi,h⟩),ap.ww,ap.nn,rfl,rfl⟩
   ·rcases (hf k hk).2 i hlt' with hb | ⟨x,y,fx,fy,h1,h2,h3,h4,ap⟩
    ·have:=vY hD k hy0 ahJ i hb
     rw [hDi] at this;cases this
    ·rw [hoi] at h1;cases h1
     rw [hfi] at h3;cases h3
     rw [hfk] at h4;cases h4
     exact ⟨y,_,h2,hfk,ap.dx,ap.dd,ap.rw.imp id (fun h=>⟨_,hfi,h⟩),fun g hg hg'=>ap.ww g hg' hg,fun g hg hg'=>ap.nn g hg' hg,rfl,rfl⟩
  have LU:SD ops es st (fun _=>true) i=SD ops es st (fun k=>decide (k<i)) ops.size:=by
   have :∀m,i+m≤ops.size→SD ops es st (fun k=>decide (k<i)) (i+m)=SD ops es st (fun _=>true) i:=by
    intro m
    induction m with
    |zero=>intro _;exact BJ fun k hk=>by simp [show k<i by omega]
    |succ m ih=>
     intro hm
     rw [←Nat.add_assoc]
     simp only [SD,show ¬ (i+m<i) by omega,decide_false,Bool.false_eq_true,if_false]
     exact ih (by omega)
   have:=this (ops.size-i) (by omega)
   rw [show i+(ops.size-i)=ops.size by omega] at this
   exact this.symm
  have hdiff :∀k,k<ops.size→decide (k<i)≠listed.getD k false→k≠i∧((k<i∧listed.getD k false=false)∨(i<k∧listed.getD k false=true)):=by
   intro k hk hne
   by_cases e:k=i
   ·subst e;rw [hDi] at hne;simp at hne
   ·refine ⟨e,?_⟩
    by_cases hki:k<i
    ·exact .inl ⟨hki,by simpa [hki] using hne⟩
    ·refine .inr ⟨by omega,?_⟩
     cases hl:listed.getD k false with
     |true=>rfl
     |false=>rw [hl] at hne;simp [hki] at hne
  have hdst :∀(k:Nat) (y:Oper),ops[k]?=some y→(ops[k]?).bind (·.dst)=y.dst:=fun k y h=>by rw [h];rfl
  have hc':Can T tt N ops (SD ops es st (fun k=>listed.getD k false) ops.size) oi (es i):=by
   have qQ :∀t∈oi.looksAt ops,(SD ops es st (fun _=>true) i).s t=(SD ops es st (fun k=>listed.getD k false) ops.size).s t:=fun t ht=>by
    rw [LU]
    refine afo fun k hk hne => ?_
    obtain ⟨h1,h2⟩:=hdiff k hk hne
    obtain ⟨y,fy,h3,_,h4,_⟩:=hap k hk h1 h2
    rw [hdst k y h3]
    exact fun e=>h4 t e ht
   have NG :∀g∈(es i).new,(SD ops es st (fun _=>true) i).used g=(SD ops es st (fun k=>listed.getD k false) ops.size).used g:=fun g hg=>by
    rw [LU]
    refine LP fun k hk hne => ?_
    obtain ⟨h1,h2⟩:=hdiff k hk hne
    obtain ⟨y,fy,h3,_,_,_,_,_,h4,_,h5⟩:=hap k hk h1 h2
    rw [←h5]
    exact fun e=>h4 g e hg
   have travel :∀(g:Nat) (Pr:O→Prop),g∉(es i).upd.map (·.1)→(∀k,k<ops.size→k≠i→((k<i∧listed.getD k false=false)∨(i<k∧listed.getD k false=true))→g∈(es k).upd.map (·.1)→
     (Pr ((SD ops es st (fun _=>true) k).o g)↔Pr ((SD ops es st (fun _=>true) (k+1)).o g)))→Pr ((SD ops es st (fun _=>true) i).o g)→Pr ((SD ops es st (fun k=>listed.getD k false) ops.size).o g):=by
    intro g Pr hgi hkeep hP0
    have hstep :∀k,k<ops.size→(g∈(es k).upd.map (·.1)→(Pr ((SD ops es st (fun _=>true) k).o g)↔Pr ((SD ops es st (fun _=>true) (k+1)).o g)))→
      (Pr ((SD ops es st (fun _=>true) k).o g)↔Pr ((SD ops es st (fun _=>true) (k+1)).o g)):=by
     intro k hk hw
     by_cases hg:g∈(es k).upd.map (·.1)
     ·exact hw hg
     ·have:(SD ops es st (fun _=>true) (k+1)).o g=(SD ops es st (fun _=>true) k).o g:=by
       simp only [SD,if_true,vW,iW hg]
      rw [this]
    obtain ⟨m',hm',hlast,hafter⟩:=OC (ops:=ops) (es:=es) (st:=st) (D:=fun k=>listed.getD k false) (g:=g) ops.size
    rw [hlast]
    rcases Nat.lt_or_ge i m' with him | him
    ·-- forward
     have :∀d,i+d≤m'→Pr ((SD ops es st (fun _=>true) (i+d)).o g):=by
      intro d
      induction d with
      |zero=>intro _;exact hP0
      |succ d ihd=>
       intro hd
       have hk:i+d<ops.size:=by
        rcases hafter with e | ⟨k1,e,h2,_⟩<;>omega
       rw [←Nat.add_assoc]
       refine (hstep (i+d) hk (fun hg => ?_)).1 (ihd (by omega))
       by_cases e0:d=0
       ·exfalso
        subst e0
        exact hgi hg
       ·have hin:listed.getD (i+d) false=true:=by
         rcases hafter with e | ⟨k1,rfl,ahK,hk1,hg1⟩
         ·omega
         ·by_cases e1:i+d=k1
          ·rw [e1];exact hk1
          ·obtain ⟨y1,hy1,_,hf1⟩:=hcan k1 ahK
           rcases (hf k1 ahK).2 (i+d) (by omega) with hb | ⟨x2,y2,fx,fy,h1,h2,h3,h4,ap⟩
           ·exact vY hD k1 hy1 hk1 _ hb
           ·exfalso
            obtain ⟨y0,_,_,hfk⟩:=hcan (i+d) hk
            rw [hfk] at h3;cases h3
            rw [hf1] at h4;cases h4
            exact ap.ww g hg hg1
        exact hkeep (i+d) hk (by omega) (.inr ⟨by omega,hin⟩) hg
     have:=this (m'-i) (by omega)
     rwa [show i+(m'-i)=m' by omega] at this
    ·-- backward
     have :∀d,d≤i-m'→Pr ((SD ops es st (fun _=>true) (i-d)).o g):=by
      intro d
      induction d with
      |zero=>intro _;exact hP0
      |succ d ihd=>
       intro hd
       have hk:i-(d+1)<ops.size:=by omega
       have e1:i-(d+1)+1=i-d:=by omega
       refine (hstep (i-(d+1)) hk (fun hg => ?_)).2 (by rw [e1];exact ihd (by omega))
       have hout:listed.getD (i-(d+1)) false=false:=by
        cases hl:listed.getD (i-(d+1)) false with
        |false=>rfl
        |true=>exact absurd hg (hm' (i-(d+1)) (by omega) hk hl)
       exact hkeep (i-(d+1)) hk (by omega) (.inl ⟨by omega,hout⟩) hg
     have:=this (i-m') (Nat.le_refl _)
     rwa [show i-(i-m')=m' by omega] at this
   cases hld:Gn tt (SD ops es st (fun _=>true) i) oi with
   |none=>
    by_cases hpk:qW oi.op=true
    ·refine Yu hc hpk qQ (fun g hg => ?_) NG
     refine (travel g (fun x=>kindOf ((SD ops es st (fun _=>true) i).o g)=kindOf x) (by rw [Yt hc hpk];simp) (fun k hk hne hcase hgk => ?_) rfl)
     obtain ⟨y,fy,h3,hfk,_,_,h4,_,_,h5,_⟩:=hap k hk hne hcase
     rcases h4 with h4 | ⟨fi,OE,hs⟩
     ·exfalso
      rw [←h5] at hgk
      exact h4 g hgk hg
     ·rw [hfi] at OE;cases OE
      simp only [DF,hld,hpk,Bool.true_and,List.all_eq_true,Bool.or_eq_true,Bool.not_eq_true',List.contains_eq_mem,decide_eq_true_eq,decide_eq_false_iff_not] at hs
      rw [h5] at hs
      rcases hs g hg with hs | hs
      ·exact absurd hgk hs
      ·obtain ⟨o',ho',_,Yw⟩:=hcan k hk
       rw [hfk] at Yw;cases Yw
       obtain ⟨x,q1,q2⟩:=Wq hs
       have:(SD ops es st (fun _=>true) (k+1)).o g=x:=by simp only [SD,if_true,vW,q1]
       rw [this,q2]
    ·refine Wj hc qQ (fun g hg => ?_) NG
     rw [LU] at hg ⊢
     refine afp fun k hk hne => ?_
     obtain ⟨h1,h2⟩:=hdiff k hk hne
     obtain ⟨y,fy,h3,_,_,_,h4,_,_,h5,_⟩:=hap k hk h1 h2
     rw [←h5]
     rcases h4 with h4 | ⟨fi,OE,hs⟩
     ·rw [LU] at h4
      exact fun e=>h4 g e hg
     ·rw [hfi] at OE;cases OE
      simp only [DF,hld,hpk,Bool.false_and] at hs
      cases hs
   |some q=>
    obtain ⟨g,off,n⟩:=q
    refine Yv hc qQ hld (fun hn ws hws => ?_) NG
    refine travel g (Rng ws off n) (by rw [Yr hc hld];simp) (fun k hk hne hcase hg => ?_) ⟨ws,hws,rfl,fun _ _ _=>rfl⟩
    obtain ⟨y,fy,h3,hfk,_,_,h4,_,_,h5,_⟩:=hap k hk hne hcase
    rcases h4 with h4 | ⟨fi,OE,hs⟩
    ·exfalso
     rw [←h5] at hg
     exact h4 g hg (Wp hld)
    ·rw [hfi] at OE;cases OE
     simp only [DF,hld,List.all_eq_true,List.mem_range] at hs
     obtain ⟨o',ho',_,Yw⟩:=hcan k hk
     rw [hfk] at Yw;cases Yw
     have one :∀off',off≤off'→off'<off+n→∃wa wb,(SD ops es st (fun _=>true) k).o g=.box wa∧(SD ops es st (fun _=>true) (k+1)).o g=.box wb∧wa.length=wb.length∧wa[off']?=wb[off']?:=by
      intro off' h1' h2'
      have:=hs (off'-off) (by omega)
      obtain ⟨p,hp,he⟩:=List.any_eq_true.1 this
      simp only [Bool.and_eq_true] at he
      have e1:=Nat.eq_of_beq_eq_true he.1
      have e2:=Nat.eq_of_beq_eq_true he.2
      obtain ⟨wa,wb,q1,q2,q3,q4⟩:=Wn hp
      rw [e1] at q1 q2
      refine ⟨wa,wb,q1,?_,q3,by rw [show off'=p.2 by omega];exact q4⟩
      simp only [SD,if_true,vW,q2]
     obtain ⟨wa,wb,q1,q2,q3,_⟩:=one off (Nat.le_refl _) (by omega)
     rw [q1,q2]
     have hall :∀off',off≤off'→off'<off+n→wa[off']?=wb[off']?:=fun off' a1 a2=>by
      obtain ⟨wa',wb',r1,r2,_,r4⟩:=one off' a1 a2
      rw [q1] at r1;rw [q2] at r2;cases r1;cases r2;exact r4
     constructor
     ·rintro ⟨wc,hc,hl,hr⟩
      cases hc
      exact ⟨wb,rfl,by omega,fun off' a1 a2=>by rw [←hall off' a1 a2];exact hr off' a1 a2⟩
     ·rintro ⟨wc,hc,hl,hr⟩
      cases hc
      exact ⟨wa,rfl,by omega,fun off' a1 a2=>by rw [hall off' a1 a2];exact hr off' a1 a2⟩
  have hins:SD ops es st (fun k=>(listed.setIfInBounds i true).getD k false) ops.size=(SD ops es st (fun k=>listed.getD k false) ops.size).eff oi.dst (es i):=by
   have hDs :∀k,(fun k=>(listed.setIfInBounds i true).getD k false) k=if k=i then true else listed.getD k false:=hset
   have hne :∀k,(fun k=>(listed.setIfInBounds i true).getD k false) k≠(fun k=>listed.getD k false) k→k=i:=by
    intro k h
    simp only [hset] at h
    by_cases e:k=i
    ·exact e
    ·rw [if_neg e] at h;exact absurd rfl h
   have Yx :∀k,i<k→k<ops.size→(fun k=>(listed.setIfInBounds i true).getD k false) k=true→listed.getD k false=true:=by
    intro k h1 h2 h3
    simp only [hset,if_neg (show k≠i by omega)] at h3
    exact h3
   refine St.ext' (fun t => ?_) (fun g => ?_) (fun g => ?_)
   ·rw [JH]
    by_cases hd:oi.dst=some t
    ·rw [if_pos hd]
     refine JI (by simp [hset]) ((hdst i oi hoi).trans hd) hlt fun k h1 h2 h3 => ?_
     obtain ⟨y,fy,q1,_,_,q2,_⟩:=hap k h2 (by omega) (.inr ⟨h1,Yx k h1 h2 h3⟩)
     rw [hdst k y q1]
     exact q2 t hd
    ·rw [if_neg hd]
     refine afo fun k hk hk' => ?_
     rw [hne k hk',hdst i oi hoi];exact hd
   ·rw [vW]
    cases hu:(es i).upd.lookup g with
    |some x=>
     refine JJ (by simp [hset]) hu hlt fun k h1 h2 h3 => ?_
     obtain ⟨y,fy,q1,_,_,_,_,q2,_,q3,_⟩:=hap k h2 (by omega) (.inr ⟨h1,Yx k h1 h2 h3⟩)
     rw [←q3]
     exact fun e=>q2 g e (List.mem_map.2 ⟨(g,x),jy hu,rfl⟩)
    |none=>
     refine afp fun k hk hk' => ?_
     rw [hne k hk']
     intro hm
     obtain ⟨p,hp,rfl⟩:=List.mem_map.1 hm
     have :∀{l:List (Nat×O)},p∈l→l.lookup p.1≠none:=by
      intro l
      induction l with
      |nil=>intro h;cases h
      |cons q l ih=>
       intro h hn
       simp only [List.lookup] at hn
       split at hn
       ·cases hn
       ·rename_i hb
        rcases List.mem_cons.1 h with h | h
        ·subst h;simp at hb
        ·exact ih h hn
     exact this hp hu
   ·rw [rU]
    by_cases hn:g∈(es i).new
    ·rw [DI (by simp [hset]) hn hlt];simp [hn]
    ·have:(es i).new.contains g=false:=by simpa using hn
     rw [this,Bool.false_or]
     refine LP fun k hk hk' => ?_
     rw [hne k hk'];exact hn
  refine Gi hT htt hoi hg hc' fun a' w' hg'=>ih _ a' w' (by simp [hsz]) hD' ?_ (by rw [hins];exact hg')
  have hlt2:(List.range ops.size).countP (fun k=>!(listed.setIfInBounds i true).getD k false)<(List.range ops.size).countP (fun k=>!listed.getD k false):=by
   have gen :∀l:List Nat,i∈l→l.countP (fun k=>!(listed.setIfInBounds i true).getD k false)<l.countP (fun k=>!listed.getD k false):=by
    intro l
    have hle :∀l:List Nat,l.countP (fun k=>!(listed.setIfInBounds i true).getD k false)≤l.countP (fun k=>!listed.getD k false):=fun l=>List.countP_mono_left fun k _ h=>by
     simp only [hset] at h
     by_cases e:k=i
     ·simp [e] at h
     ·simpa [e] using h
    induction l with
    |nil=>intro h;cases h
    |cons k l ihl=>
     intro h
     simp only [List.countP_cons]
     by_cases e:k=i
     ·subst e
      have h1:(!(listed.setIfInBounds k true).getD k false)=false:=by simp [hset]
      have h2:(!listed.getD k false)=true:=by simp [hDi]
      rw [h1,h2]
      exact Nat.lt_succ_of_le (hle l)
     ·have:=ihl (by rcases List.mem_cons.1 h with h | h;exact absurd h.symm e;exact h)
      have e1:(!(listed.setIfInBounds i true).getD k false)=(!listed.getD k false):=by rw [hset,if_neg e]
      rw [e1];omega
   exact gen _ (List.mem_range.2 hlt)
  omega
theorem Gw (hT :∀f sp,T f=some sp→Sound Pg f sp) (htt:fK Pg tt) {draw:Bool} {K:St→Prop} (h:nZ T tt N ops draw st K) (hg:Good E N aK nS st a w)
  (hK :∀st' a' w',K st'→Good E N aK nS st' a' w'→Q .normal a' w'):(draw=false∧wpOps Pg ops Q (List.range ops.size) a w)∨(draw=true∧wpAny Pg .any ops Q ops.size (Array.replicate ops.size false) a { w with drawn:=w.drawn+1 }):=by
 cases draw with
 |false=>exact .inl ⟨rfl,Af hT htt hK _ h hg⟩
 |true=>
  have h:ni T tt N ops (List.range ops.size) st [] (fun st' fs=>Uk ops fs=true∧K st'):=h
  rw [List.range_eq_range'] at h
  obtain ⟨es,fs,_,_,⟨h1,h2⟩,h3⟩:=DJ (st:=st) ops.size 0 (fun _=>Eff.skip) [] rfl h
  rw [Nat.zero_add] at h2
  refine .inr ⟨rfl,?_⟩
  refine Wu hT htt h1 (fun i hi=>h3 i (by omega) (by omega)) (fun a' w' hg'=>hK _ a' w' h2 hg') ops.size _ a _ (by simp) ?_ ?_ ?_
  ·intro j o _ hj
   simp only [Array.getD_eq_getD_getElem?] at hj
   rw [Array.getElem?_replicate] at hj
   split at hj<;>cases hj
  ·refine Nat.le_trans List.countP_le_length ?_
   simp
  ·obtain ⟨⟨gh,hR,Dw⟩,hsz,hdf⟩:=hg
   have e:SD ops es st (fun k=>(Array.replicate ops.size false).getD k false) ops.size=st:=by
    have :∀n,SD ops es st (fun k=>(Array.replicate ops.size false).getD k false) n=st:=by
     intro n
     induction n with
     |zero=>rfl
     |succ n ih=>
      have:(Array.replicate ops.size false).getD n false=false:=by
       rw [Array.getD_eq_getD_getElem?,Array.getElem?_replicate];split<;>rfl
      simp only [SD,this,Bool.false_eq_true,if_false];exact ih
    exact this _
   rw [e]
   exact ⟨⟨gh,hR.drew _,Dw⟩,hsz,hdf⟩
theorem LV (hT :∀f sp,T f=some sp→Sound Pg f sp) (htt:fK Pg tt) (hm:Pg.follows .mixedOrders=true) {id:Nat} {draw:Bool} {K:St→Prop} (h:nZ T tt N ops draw st K) (hg:Good E N aK nS st a w)
  (hK :∀st' a' w',K st'→Good E N aK nS st' a' w'→Q .normal a' w'):(Code.region id ops draw).wp Pg Q a w:=by
 rcases Gw hT htt h hg hK with ⟨e,h2⟩ | ⟨e,h2⟩
 ·rw [e];exact wp_region h2
 ·rw [e];exact wp_region_any hm h2
end
end Go.Fw

namespace Go.Fw
set_option linter.unusedSectionVars false
variable [dn]
set_option linter.unusedVariables false
def Ul (gs:List Nat) (o:Nat→O):W→W
 |.own g=>if gs.contains g=true then match plainO o g with
  |some (a,i,sz,l)=>.p a i (P.dX sz l)
  |none=>.own g
  else .own g
 |.vw g lo hi=>if gs.contains g=true then match plainO o g with
  |some (a,i,sz,l)=>.p a i (P.dX sz ((l.take hi.nat).drop lo.nat))
  |none=>.vw g lo hi
  else .vw g lo hi
 |x=>x
def Yy (gs:List Nat) (o:Nat→O):V→V
 |.one x=>.one (Ul gs o x)
 |.agg xs=>.agg (xs.map (Ul gs o))
def Yz (gs:List Nat) (o:Nat→O):S→S
 |.v x=>.v (Yy gs o x)
 |.ku xs=>.ku (xs.map (Yy gs o))
 |.no=>.no
def XL (gs:List Nat) (o:Nat→O) (g:Nat):O:=match o g with
 |.box ws=>.box (ws.map (Ul gs o))
 |x=>if gs.contains g=true then (Fw.freeze o g).2 else x
def dD (gs:List Nat) (st:St):St:={ s:=fun t=>Yz gs st.o (st.s t),o:=fun g=>XL gs st.o g,used:=st.used }
def abG (o:Nat→O) (gs:List Nat):Bool:=gs.all fun g=>(plainO o g).isSome&&(o g).names.all fun d=>gs.contains d
theorem Wv {o:Nat→O} {gs:List Nat} (h:abG o gs=true):u_ o gs:=fun g hg=>by
 have:=(List.all_eq_true.1 h) g hg
 simp only [Bool.and_eq_true,List.all_eq_true,List.contains_eq_mem,decide_eq_true_eq] at this
 exact this
section
variable {E:Env} {st:St} {gh:Nat→Gh} {w:World} {val:Nat→Value}
theorem BK {gs:List Nat} {o:Nat→O} {x:W} {g:Nat} (h:g∈(Ul gs o x).names):g∈x.names:=by
 unfold Ul at h
 split at h
 ·split at h
  ·split at h
   ·simp [W.names] at h
   ·exact h
  ·exact h
 ·split at h
  ·split at h
   ·simp [W.names] at h
   ·exact h
  ·exact h
 ·exact h
theorem JM {gs:List Nat} {o:Nat→O} {x:V} {g:Nat} (h:g∈(Yy gs o x).names):g∈x.names:=by
 cases x with
 |one x=>exact BK h
 |agg xs=>
  simp only [Yy,V.names,List.mem_flatMap,List.mem_map] at h ⊢
  obtain ⟨_,⟨x,hx,rfl⟩,hg⟩:=h
  exact ⟨x,hx,BK hg⟩
theorem Wx {gs:List Nat} {o:Nat→O} {x:S} {g:Nat} (h:g∈(Yz gs o x).names):g∈x.names:=by
 cases x with
 |v x=>exact JM h
 |ku xs=>
  simp only [Yz,S.names,List.mem_flatMap,List.mem_map] at h ⊢
  obtain ⟨_,⟨x,hx,rfl⟩,hg⟩:=h
  exact ⟨x,hx,JM hg⟩
 |no=>exact h
theorem Gx (gs:List Nat) (st:St) (g:Nat):((dD gs st).o g=(st.upd (gs.map (Fw.freeze st.o)) []).o g∧∀ws,st.o g≠.box ws)∨
  ∃ws,st.o g=.box ws∧(st.upd (gs.map (Fw.freeze st.o)) []).o g=.box ws∧(dD gs st).o g=.box (ws.map (Ul gs st.o)):=by
 rw [d_]
 cases ho:st.o g with
 |box ws=>
  refine .inr ⟨ws,rfl,?_,by simp only [dD,XL,ho]⟩
  split
  ·simp [Fw.freeze,plainO,ho]
  ·rfl
 |_=>
  refine .inl ⟨?_,fun ws e=>by cases e⟩
  simp only [dD,XL,ho]
  simp only [List.contains_eq_mem,decide_eq_true_eq]
theorem yt {gs:List Nat} {st:St} {g:Nat} (h:st.o g=.none):(dD gs st).o g=.none:=by
 simp only [dD,XL,h]
 split
 ·simp [Fw.freeze,plainO,h]
 ·rfl
theorem Rel.plain (h:Rel E st gh val w) (gs:List Nat) (hgs:u_ st.o gs):Rel E (dD gs st) gh val w:=by
 have h1:=(h.freezes gs hgs).1
 have hss:(st.upd (gs.map (Fw.freeze st.o)) []).s=st.s:=rfl
 have hun :∀g,(st.upd (gs.map (Fw.freeze st.o)) []).used g=st.used g:=fun g=>by simp [St.upd]
 have key:=Gx gs st
 have hfr:=fun g=>d_ (st:=st) gs g
 generalize hst1:st.upd (gs.map (Fw.freeze st.o)) []=st1 at h1 hss hun key hfr
 have own :∀g,((dD gs st).o g).owned=(st1.o g).owned:=fun g=>by
  rcases key g with ⟨e,_⟩ | ⟨ws,_,e1,e2⟩
  ·rw [e]
  ·rw [e1,e2];rfl
 have dim :∀g,((dD gs st).o g).dim=(st1.o g).dim:=fun g=>by
  rcases key g with ⟨e,_⟩ | ⟨ws,_,e1,e2⟩
  ·rw [e]
  ·rw [e1,e2];rfl
 have inner :∀g,((dD gs st).o g).inner=(st1.o g).inner:=fun g=>by
  rcases key g with ⟨e,_⟩ | ⟨ws,_,e1,e2⟩
  ·rw [e]
  ·rw [e1,e2];rfl
 have isd :∀g,((dD gs st).o g).mF=(st1.o g).mF:=fun g=>by
  rcases key g with ⟨e,_⟩ | ⟨ws,_,e1,e2⟩
  ·rw [e]
  ·rw [e1,e2];rfl
 have akS :∀g ws,(dD gs st).o g=.box ws→∃ws',st1.o g=.box ws':=fun g ws hg=>by
  rcases key g with ⟨e,_⟩ | ⟨ws',_,e1,e2⟩
  ·rw [e] at hg;exact ⟨ws,hg⟩
  ·exact ⟨ws',e1⟩
 have oit :∀g s n,(dD gs st).o g=.it s n→st1.o g=.it s n:=fun g s n hg=>by
  rcases key g with ⟨e,_⟩ | ⟨ws',_,e1,e2⟩
  ·rw [e] at hg;exact hg
  ·rw [e2] at hg;cases hg
 have hok:E.ok (dD gs st) gh w=E.ok st1 gh w:=by funext a i b;simp only [Env.ok,own]
 have hp :∀{g a i sz l},gs.contains g=true→plainO st.o g=some (a,i,sz,l)→st1.o g=.arr true a i sz l:=fun {g a i sz l} hc hpl=>by
  rw [hfr,if_pos (by simpa using hc),kY hpl]
 have same :∀{x:W} {v:Value},dG E st1 gh w x v→dG E (dD gs st) gh w x v:=by
  intro x v r
  induction r with
  |p a i x v hx=>exact .p a i x v (by rw [hok];exact hx)
  |bC=>exact .bC
  |own g v hv hx=>exact .own g v hv fun sz len hg=>hx sz len (by rw [←dim];exact hg)
  |vw g lo hi v hv hx=>exact .vw g lo hi v hv fun sz len hg=>hx sz len (by rw [←dim];exact hg)
  |box g off v hv hx=>exact .box g off v hv fun ws hg=>by obtain ⟨ws',e⟩:=akS g ws hg;exact hx ws' e
  |ep g n off v hv hx=>exact .ep g n off v hv fun sz len hg=>hx sz len (by rw [←dim];exact hg)
  |sp a i row off b o hb hx=>exact .sp a i row off b o (by rw [hok];exact hb) (by rw [hok];exact hx)
  |gl g=>exact .gl g
  |lF g v hv hx=>exact .lF g v hv fun s n hg=>hx s n (oit g s n hg)
  |gd b x v hx ih=>exact .gd b x v ih
  |clo f caps vs hl hx ih=>exact .clo f caps vs hl ih
  |no v=>exact .no v
 have aew :∀{a i:Bool} {sz:Nat} {l:List (List P)} {G:Gh},fU E st1 gh w a i sz l G→fU E (dD gs st) gh w a i sz l G:=by
  intro a i sz l G r
  simpa only [fU,hok] using r
 have wd :∀{x:W} {v:Value},dG E st1 gh w x v→dG E (dD gs st) gh w (Ul gs st.o x) v:=by
  intro x v r
  unfold Ul
  split
  ·rename_i g
   split
   ·rename_i hc
    split
    ·rename_i a i sz l hpl
     have ho1:=hp hc hpl
     cases r with
     |own _ _ hv hx=>
      have hv:=hx _ _ (O.iR ho1)
      have hO:=h1.objs g
      rw [ho1] at hO
      rw [hv]
      exact .p a i _ _ (by rw [hok];exact bg.dX hO)
    ·exact same r
   ·exact same r
  ·rename_i g lo hi
   split
   ·rename_i hc
    split
    ·rename_i a i sz l hpl
     have ho1:=hp hc hpl
     cases r with
     |vw _ _ _ _ hv hx=>
      obtain ⟨n,m,c,rfl,rfl,q1,q2,qc,he⟩:=hx _ _ (O.iR ho1)
      have hO:=h1.objs g
      rw [ho1] at hO
      rw [he]
      have e1:(P.int .i64 (n:Int)).nat=n:=by simp [P.nat,P.num]
      have e2:(P.int .i64 (m:Int)).nat=m:=by simp [P.nat,P.num]
      rw [e1,e2]
      exact .p a i _ _ (by rw [hok];exact bg.dX ((bg.sub hO q1 q2).aej (by simp;omega)))
    ·exact same r
   ·exact same r
  ·exact same r
 have wV :∀{x:V} {v:Value},pU E st1 gh w x v→pU E (dD gs st) gh w (Yy gs st.o x) v:=by
  intro x v r
  cases r with
  |one x v r=>exact .one _ _ (wd r)
  |agg xs cs hl hv hr=>
   refine .agg _ cs (by simpa using hl) hv fun j x v hx hv => ?_
   simp only [List.getElem?_map,Option.map_eq_some_iff] at hx
   obtain ⟨y,hy,rfl⟩:=hx
   exact wd (hr j y v hy hv)
 refine ⟨fun t => ?_,fun g => ?_,?_,?_,?_,?_,h1.wb,h1.frame,h1.size,h1.os,h1.tape,h1.output,?_,?_,?_⟩
 ·have hs:=h1.slots t
  rw [hss] at hs
  show bF E _ gh w (Yz gs st.o (st.s t)) (val t)
  cases hs':st.s t with
  |v x=>rw [hs'] at hs;cases hs with | v _ _ r=>exact .v _ _ (wV r)
  |ku xs=>
   rw [hs'] at hs
   generalize hval:val t=vt at hs
   cases hs with
   |ku _ vs hl hr=>
    refine .ku _ vs (by simpa using hl) fun j x v hx hv => ?_
    simp only [List.getElem?_map,Option.map_eq_some_iff] at hx
    obtain ⟨y,hy,rfl⟩:=hx
    exact wV (hr j y v hy hv)
  |no=>exact .no _
 ·have hO:=h1.objs g
  rcases key g with ⟨e,_⟩ | ⟨ws',_,e1,e2⟩
  ·rw [e]
   generalize st1.o g=x at hO
   cases x with
   |none=>trivial
   |box ws=>
    obtain ⟨ad,c,ty,a1,a2,a3,a4,a5⟩:=hO
    exact ⟨ad,c,ty,a1,a2,a3,a4,fun j x hx=>let ⟨v,b1,b2,b3⟩:=a5 j x hx;⟨v,b1,b2,same b3⟩⟩
   |arr fz a i sz l=>
    cases fz with
    |false=>exact aew hO
    |true=>simpa only [kC,hok] using hO
   |deep a i sz cols l hole=>
    rcases hO with hO | ⟨ad,c,ty,a1,a2,a3,a4,a5,a6,a7,a8⟩
    ·exact .inl hO
    ·refine .inr ⟨ad,c,ty,a1,a2,a3,a4,a5,a6,a7,fun n x hx j y hy => ?_⟩
     obtain ⟨v,hv,hr⟩:=a8 n x hx j y hy
     refine ⟨v,hv,?_⟩
     unfold f_ at *
     cases hcj:cols.lookup j with
     |none=>rw [hcj] at hr;exact (by rw [hok];exact hr:bg w (E.ok (dD gs st) gh w a i) y v)
     |some sz'=>
      rw [hcj] at hr
      simp only at *
      cases hh:fD hole n j with
      |some d=>rw [hh] at hr;exact ⟨hr.1,same hr.2⟩
      |none=>
       rw [hh] at hr
       obtain ⟨l',ao,k,q1,q2,q3,q4⟩:=hr
       exact ⟨l',ao,k,q1,q2,aew q3,q4⟩
   |it s n=>exact hO
  ·rw [e2]
   rw [e1] at hO
   obtain ⟨ad,c,ty,a1,a2,a3,a4,a5⟩:=hO
   refine ⟨ad,c,ty,a1,a2,a3,by simpa using a4,fun j x hx => ?_⟩
   simp only [List.getElem?_map,Option.map_eq_some_iff] at hx
   obtain ⟨y,hy,rfl⟩:=hx
   obtain ⟨v,b1,b2,b3⟩:=a5 j y hy
   exact ⟨v,b1,b2,wd b3⟩
 ·intro g g' b ha ha'
  rw [own] at ha ha'
  exact h1.inj g g' b ha ha'
 ·intro g b ha
  rw [own] at ha
  exact h1.wr g b ha
 ·intro g i b hg
  rw [inner] at hg
  exact h1.wi g i b hg
 ·intro g ho hd
  rw [own] at ho
  rw [isd] at hd
  exact h1.ns g ho hd
 ·intro t g hg
  exact h.us t g (Wx hg)
 ·intro g g' hg
  rcases key g with ⟨e,_⟩ | ⟨ws',e0,e1,e2⟩
  ·rw [e] at hg
   have:=h1.uo g g' hg
   rw [hun] at this;exact this
  ·rw [e2] at hg
   simp only [O.names,List.mem_flatMap,List.mem_map] at hg
   obtain ⟨_,⟨x,hx,rfl⟩,hg⟩:=hg
   exact h.uo g g' (by rw [e0];simp only [O.names,List.mem_flatMap];exact ⟨x,hx,BK hg⟩)
 ·intro g hg
  exact h.ul g fun e=>hg (yt e)
theorem YA {gs:List Nat} {w:World} {gh:Nat→Gh} {st:St} {E:Env} {a i:Bool} {b:Nat} (h:E.ok st gh w a i b):E.ok (dD gs st) gh w a i b:=by
 refine ⟨h.1,h.2.1,fun g ho had=>h.2.2 g ?_ had⟩
 rcases Gx gs st g with ⟨e,_⟩ | ⟨ws,e,_⟩
 ·rw [e,d_] at ho
  split at ho
  ·cases hp:plainO st.o g with
   |none=>simpa [Fw.freeze,hp] using ho
   |some x=>obtain ⟨a,i,sz,l⟩:=x;rw [kY hp] at ho;cases ho
  ·exact ho
 ·rw [e];rfl
theorem Rel.norm (h:Rel E st gh val w) (hs gs:List Nat) (hgs:abG (Fw.shuts hs st).o gs=true) :
  ∃aS,Rel E (dD gs (Fw.shuts hs st)) aS val w∧(∀x,(aS x).ad=(gh x).ad∧(aS x).cap=(gh x).cap)∧(∀a i b,E.ok st gh w a i b→E.ok (dD gs (Fw.shuts hs st)) aS w a i b)∧
   ∀g,st.o g=.none→(dD gs (Fw.shuts hs st)).o g=.none:=by
 obtain ⟨aS,h1,l1,e1⟩:=h.shuts hs
 exact ⟨aS,h1.plain gs (Wv hgs),e1,fun a i b hb=>YA (l1.ok a i b hb).1,fun g hg=>yt (FU hs hg)⟩
end
end Go.Fw

namespace Go.Fw
open Go.RowKit
set_option linter.unusedSectionVars false
set_option linter.unusedVariables false
set_option linter.unusedSimpArgs false
variable [dn]
def FR (ro:Option Nat):Fence:={ Fence.wide with round:=ro }
section
variable {Pg:Program} {ro:Option Nat} {n:Nat} {ops:Array Oper} {Q:Exit→Act→World→Prop}
theorem Rq {f:FuncId} {args:Array Value} {w:World} {R:Ending→World→Prop} (h:Calls Pg f args w R):CallsIn (FR ro) n Pg f args w R:=callsIn_wide.2 h
theorem Wy {row:String} {args:Array Value} {w:World} {R:Value→World→Prop} (h:Rows Pg row args w R):RowsIn (FR ro) n Pg row args w R:=by
 intro c cs _
 obtain ⟨v,w',h1,h2⟩:=h c cs
 exact ⟨v,w',h1,stepsIn_wide.2 h2⟩
theorem akT {o:Oper} (ho :∀c,o.op≠.defer c) {a:Act} {w:World} {K K':Act→World→Prop} (hK :∀a w,K a w→K' a w) (h:o.wp Pg a w K Q):o.wpIn (FR ro) n Pg a w K' Q:=by
 refine ⟨fun _ _=>trivial,?_⟩
 rw [Oper.semAt_eq _ _ _ ho]
 unfold Oper.wp at h
 have hd:(FR ro).depth.isSome=true→1≤n:=fun e=>absurd e (by simp [FR,Fence.wide])
 generalize (execOp a.eval o).run Pg w=r at *
 cases r with
 |ok x w'=>
  cases x<;>simp only [Oper.upon] at h<;>simp only [Oper.uponIn]
  all_goals first
   |exact hK _ _ h
   |exact ⟨hd,Rq (Calls.mono h fun e w'' he=>by cases e<;>first | exact hK _ _ he | exact he)⟩
   |exact ⟨hd,Wy (Rows.mono h fun v w'' he=>hK _ _ he)⟩
 |halt x w'=>cases x<;>simp only [Oper.upon] at h<;>simp only [Oper.uponIn]<;>exact h
theorem YB (ho :∀o∈ops.toList,∀c,o.op≠.defer c) (hlo:¬ LetsOut Q) {i:Nat} {a:Act} {w:World} {K K':Act→World→Prop} (hK :∀a w,K a w→K' a w) (h:wpOp Pg ops Q i K a w):wpOpIn (FR ro) n Pg ops Q i K' a w:=by
 unfold wpOp at h
 unfold wpOpIn
 cases hi:ops[i]? with
 |none=>rw [hi] at h;exact hK _ _ h
 |some o=>
  rw [hi] at h
  simp only at h ⊢
  split
  ·rename_i hw
   rw [if_pos hw] at h
   rcases h with h | h
   ·exact akT (ho o (by have:=(Array.getElem?_eq_some_iff.1 hi).2;rw [←this];simp)) hK h
   ·exact absurd h.2 hlo
  ·rename_i hw
   rw [if_neg hw] at h
   exact ⟨fun _ _=>trivial,hK _ _ h⟩
theorem aex (ho :∀o∈ops.toList,∀c,o.op≠.defer c) (hlo:¬ LetsOut Q) :∀(is:List Nat) (a:Act) (w:World),wpOps Pg ops Q is a w→wpOpsIn (FR ro) n Pg ops Q is a w
 | [],a,w,h=>h
 |i::is,a,w,h=>by
  rw [wpOps_cons] at h
  rw [wpOpsIn_cons]
  exact YB ho hlo (fun a w=>aex ho hlo is a w) h
theorem aey {md:Region.Mode} (ho :∀o∈ops.toList,∀c,o.op≠.defer c) (hlo:¬ LetsOut Q) :∀(fuel:Nat) (listed:Array Bool) (a:Act) (w:World),wpAny Pg md ops Q fuel listed a w→wpAnyIn (FR ro) n Pg md ops Q fuel listed a w
 |0,listed,a,w,h=>h
 |fuel+1,listed,a,w,h=>⟨h.1,fun i hi=>YB ho hlo (fun a w=>aey ho hlo fuel _ a w) (h.2 i hi)⟩
end
omit [dn] in
def P.lv:P→Value
 |.int k n=>.int k n
 |.bool b=>.bool b
 |.str s=>.string s
 |_=>undef
def P.lit:P→Bool
 |.int _ _=>true
 |.bool _=>true
 |.str _=>true
 |_=>false
theorem P.abH {w:World} {ok:Nat→Prop} {x:P} (h:x.lit=true):bg w ok x x.lv:=by
 cases x<;>first | exact .int _ _ | exact .bool _ | exact .str _ | cases h
omit [dn] in
def Gy (Pg:Program) (w:World) (S:List Nat) (rows:List (List P)) (v:Value):Prop:=
 ∃gf lb,v=.func (.func gf) #[] lb∧(∀(args:Array Value) (w:World),(callFunc gf args).run Pg w=.ok (.enter gf args) w)∧
  ∀(l:Nat) (J:Nat→List Nat→World→Prop) (W:World),(∀k D A,J k D A→∀b∈S,A.heap[b]?=w.heap[b]?)→(∀k D A B D',J k D A→oU A B→(∀b∈D',b∈D∨(A.heap.size≤b∧b<B.heap.size))→J k D' B)→
   (∀k row D A,rows[k]?=some row→J k D A→YieldAt Fence.wide 0 Pg l (row.map P.lv).toArray A fun e B=>e=.returned (.bool true)∧J (k+1) D B∧∀b∈D,B.heap[b]?=A.heap[b]?)→
   J 0 [] W→Calls Pg gf (#[.func (.yield l) #[] #[]]++lb) W fun e B=>(∃v,e=.returned v)∧∃D,J rows.length D B
omit [dn] in
theorem Gy.mono {Pg:Program} {w w':World} {S:List Nat} {rows:List (List P)} {v:Value} (h :∀b∈S,w'.heap[b]?=w.heap[b]?) (hi:Gy Pg w S rows v):Gy Pg w' S rows v:=by
 obtain ⟨gf,lb,h1,h2,h3⟩:=hi
 exact ⟨gf,lb,h1,h2,fun l J W hJ=>h3 l J W fun k D A hA b hb=>(hJ k D A hA b hb).trans (h b hb)⟩
section
variable {Pg:Program}
theorem YC {g:Operand} {ps:Array Tmp} {x y:Code} {Q:Exit→Act→World→Prop} {a:Act} {w:World} {S:List Nat} {rows:List (List P)} (hit:Gy Pg w S rows (a.eval g)) (hlen :∀row∈rows,row.length=ps.size)
  (J:Nat→List Nat→World→Prop) (hS :∀k D A,J k D A→∀b∈S,A.heap[b]?=w.heap[b]?) (hgrow :∀k D A B D',J k D A→oU A B→(∀b∈D',b∈D∨(A.heap.size≤b∧b<B.heap.size))→J k D' B)
  (hturn :∀k D A b o o',w.heap.size≤b→b∉D→J k D A→A.heap[b]?=some o→quiet o=true→J k D (A.putObj b o')) (h0:J 0 [] w)
  (afq :∀k row D A,rows[k]?=some row→J k D A→∀l,∃a₁,(∀(K:Act→World→Prop) W,K a₁ W→x.wpIn (FR (some l)) 0 Pg (Exit.then K (fun _ _ _=>False)) { tmps:=(ps.zip (row.map P.lv).toArray).foldl (fun t (p,v)=>t.setIfInBounds p v) a.tmps,defers:=[] } W)∧
   y.wpIn (FR (some l)) 0 Pg (fun e _ B=>e=.normal∧J (k+1) D B∧(∀b∈D,B.heap[b]?=A.heap[b]?)∧∀b o,A.heap[b]?=some o→quiet o=true→w.heap.size≤b→B.heap[b]?=some o) a₁ A)
  (hdone :∀D B D',w.heap.size≤D→J rows.length D' B→B.heap[D]?=some (.deferred (some []))→Q .normal { a with defers:={ target:=.collected D,args:=#[] }::a.defers } B) :
  (Code.rangeFunc g ps x y).wp Pg Q a w:=by
 obtain ⟨gf,lb,hg,eg,hseq⟩:=hit
 rw [←wpIn_wide (n:=1)]
 refine wpIn_rangeFunc ?_
 intro fn hfn
 obtain ⟨rec,hrec⟩ :∃rec:LoopState→Option Code→Loop,rec=fun st pe=>{ state:=st,pending:=pe,fn,tmps:=a.tmps,params:=ps,assign:=x,body:=y,defers:=w.heap.size }:=⟨_,rfl⟩
 obtain ⟨W1,hW1⟩ :∃W1,(w.alloc (.deferred (some []))).alloc (.loop (rec .ready none))=W1:=⟨_,rfl⟩
 have hL1:W1.heap[w.heap.size+1]?=some (.loop (rec .ready none)):=by
  rw [←hW1];have:=World.alloc_heap_new (w.alloc (.deferred (some []))) (.loop (rec .ready none));rwa [World.size_alloc] at this
 have hK1:W1.heap[w.heap.size]?=some (.deferred (some [])):=by
  rw [←hW1];exact (Below.heap_alloc _ _ _ (by simp)).trans (World.alloc_heap_new w _)
 have hJ1:J 0 [] W1:=by rw [←hW1];exact hgrow _ _ _ _ [] (hgrow _ _ _ _ [] h0 (oU.alloc _ _) (fun b hb=>by cases hb)) (oU.alloc _ _) (fun b hb=>by cases hb)
 refine ⟨w.heap.size+1,[{ target:=.collected w.heap.size,args:=#[] }],W1,{ target:=.fn (.func gf) lb,args:=#[.func (.yield (w.heap.size+1)) #[] #[]] },W1,gf,
  #[.func (.yield (w.heap.size+1)) #[] #[]]++lb,W1,?_,?_,fun _ _=>trivial,?_,fun _=>Nat.le_refl _,?_⟩
 ·rw [←hW1,hrec];exact run_enterLoop_outer _ _ _ _ _
 ·simp only [resolve,hg]
  simp [go_sem]
 ·simp [invoke,go_sem,eg]
 refine callsIn_wide.2 (Calls.mono (hseq (w.heap.size+1)
   (fun k D A=>J k D A∧A.heap[w.heap.size+1]?=some (.loop (rec .ready none))∧A.heap[w.heap.size]?=some (.deferred (some []))∧∀b∈D,w.heap.size+1<b)
   W1 (fun k D A h=>hS k D A h.1) (fun k D A B D' h hg hD => ?_) ?_ ⟨hJ1,hL1,hK1,fun b hb=>by cases hb⟩) ?_)
 ·have lt :∀{i o},A.heap[i]?=some o→i<A.heap.size:=fun h=>(Array.getElem?_eq_some_iff.1 h).1
  refine ⟨hgrow k D A B D' h.1 hg hD,(hg.same _ (lt h.2.1)).trans h.2.1,(hg.same _ (lt h.2.2.1)).trans h.2.2.1,fun b hb => ?_⟩
  rcases hD b hb with hb | hb
  ·exact h.2.2.2 b hb
  ·exact Nat.lt_of_lt_of_le (lt h.2.1) hb.1
 ·rintro k row D A hrow ⟨hj,hl,hk,hD⟩
  have hy:=run_yield (P:=Pg) (args:=(row.map P.lv).toArray) hl (by rw [hrec];simpa using hlen row (List.mem_of_getElem? hrow))
  rw [hrec] at hy
  have hlt:w.heap.size+1<A.heap.size:=(Array.getElem?_eq_some_iff.1 hl).1
  have hnD:w.heap.size+1∉D:=fun hm=>Nat.lt_irrefl _ (hD _ hm)
  have ahL :∀b∈D,b≠w.heap.size+1:=fun b hb e=>hnD (e▸hb)
  have hj2:J k D (A.putObj (w.heap.size+1) (.loop { rec .ready none with state:=.busy })):=hturn _ _ _ _ _ _ (by omega) hnD hj hl rfl
  obtain ⟨a₁,hx,hbody⟩:=afq k row D _ hrow hj2 (w.heap.size+1)
  refine ⟨fn,_,x,y,hy,roundIn_of_wpIn hfn (hx _ _ ⟨_,run_beginRound hl (by rw [hrec]),wpIn_mono hbody ?_⟩)⟩
  rintro e a3 B ⟨rfl,hj3,hkD,hkeep⟩
  have hl2:(A.putObj (w.heap.size+1) (.loop { rec .ready none with state:=.busy })).heap[w.heap.size+1]?=some (.loop { rec .ready none with state:=.busy }):=World.putObj_heap_same hlt
  have hk2:(A.putObj (w.heap.size+1) (.loop { rec .ready none with state:=.busy })).heap[w.heap.size]?=some (.deferred (some [])):=(World.putObj_heap_other (by omega)).trans hk
  have hl3:=hkeep _ _ hl2 rfl (by omega)
  have hk3:=hkeep _ _ hk2 rfl (by omega)
  have hr:=run_endRound (P:=Pg) none hl3
  refine ⟨_,_,hr,rfl,⟨hturn _ _ _ _ _ _ (by omega) hnD hj3 hl3 rfl,?_,(World.putObj_heap_other (by omega)).trans hk3,hD⟩,fun b hb => ?_⟩
  ·rw [World.putObj_heap_same (Array.getElem?_eq_some_iff.1 hl3).1,hrec];rfl
  ·rw [World.putObj_heap_other (ahL b hb),hkD b hb,World.putObj_heap_other (ahL b hb)]
 ·rintro e B ⟨⟨v,rfl⟩,D,hj,hl,hk,hD⟩
  have hnD:w.heap.size+1∉D:=fun hm=>Nat.lt_irrefl _ (hD _ hm)
  refine ⟨none,_,by have:=run_endLoop (P:=Pg) hl (by rw [hrec];simp);rw [hrec] at this;exact this,hdone _ _ D (Nat.le_refl _) (hturn _ _ _ _ _ _ (by omega) hnD hj hl rfl) ((World.putObj_heap_other (by omega)).trans hk)⟩
end
end Go.Fw

namespace Go.Fw
set_option linter.unusedSectionVars false
open Go.RowKit
variable [dn]
set_option linter.unusedVariables false
set_option linter.unusedSimpArgs false
structure tY where
 n:St→Prop
 x:Nat→St→Prop
 r:St→Prop
def keeps (aK:List Nat) (j:Shape) (m:Ren):Bool:=aK.all fun g=>j.nms.contains g&&(match m.lookup g with
 |some (some g')=>Nat.beq g' g
 |_=>false)
inductive Back (aK:List Nat) (j:Shape) (st:St) (G:List P→Prop):Prop where
 |mk (hs gs:List Nat) (m:Ren) (vs:List P) (hgs:abG (Fw.shuts hs st).o gs=true) (hm:keeps aK j m=true) (h:coerce j m (dD gs (Fw.shuts hs st))=some vs) (hG:G vs)
inductive YD (aK:List Nat) (body:St→tY→Prop) (st:St) (K:tY):Prop where
 |mk (j:Shape) (I:List P→Prop) (μ:List P→Nat) (h0:Back aK j st I) (round :∀us,I us→body (Fw.mk j us) { n:=fun st'=>Back aK j st' fun vs=>I vs∧μ vs<μ us,x:=K.x,r:=K.r })
inductive Wk (aK:List Nat) (K:St→Prop) (st:St):Prop where
 |now (h:K st)
 |back (j:Shape) (h:Back aK j st fun vs=>K (Fw.mk j vs))
def Gz:Op→Option Tmp
 |.assign (.tmp t)=>some t
 |.move (.tmp t)=>some t
 |_=>none
def uK (N:Nat):Code→St→Option St
 |.skip,st=>some st
 |.region _ ops false,st=>match ops.toList with
  | [o]=>match o.guard,o.dst,Gz o.op with
   |none,some d,some t=>if d<N then some (st.put (some d) (st.s t)) else none
   |_,_,_=>none
  |_=>none
 |.seq x y,st=>match uK N x st with
  |some st'=>uK N y st'
  |none=>none
 |_,_=>none
def qX:Code→Act→Act
 |.region _ ops _,a=>match ops.toList with
  | [o]=>match o.dst,Gz o.op with
   |some d,some t=>a.put (some d) (a.tmps.getD t undef)
   |_,_=>a
  |_=>a
 |.seq x y,a=>qX y (qX x a)
 |_,a=>a
def vZ:List Tmp→List P→St→St
 |p::ps,x::xs,st=>vZ ps xs (st.put (some p) (.v (.one (.p false false x))))
 |_,_,st=>st
def abI:Op→Bool
 |.defer _=>true
 |_=>false
def calm:Code→Bool
 |.skip=>true
 |.region _ ops _=>ops.toList.all fun o=>!abI o.op
 |.seq x y=>calm x&&calm y
 |.cond _ x y=>calm x&&calm y
 |.block _ c=>calm c
 |.loop c=>calm c
 |.exit _=>true
 |.ret=>true
 |.label _=>true
 |_=>false
def GH (st:St):St:={ s:=fun _=>.no,o:=st.o,used:=st.used }
def YE (N:Nat) (body:List Nat→St→tY→Prop) (ps:List Tmp) (x:Code) (row:List P) (st:St) (K:St→Prop):Prop:=
 ∃(sg:xA) (st1:St) (c:Ja) (outs:List P) (d:Nat),sg.ok=true∧((sg.aK.all fun g=>sg.pin.nms.contains g)&&sg.Yg)=true∧sg.bP=0∧uK N x (vZ ps row st)=some st1∧
  fE sg st.o ((List.range N).map st1.s)=some c∧c.fine sg=true∧
  body sg.aK (Fw.mk sg.pin c.ins) { n:=fun st2=>Back sg.aK sg.aF (GH st2) fun vs=>vs=outs,x:=fun _ _=>False,r:=fun _=>False }∧
  (∀g∈(fV sg d st.o c outs).new,st.used g=false)∧K (st.upd (fV sg d st.o c outs).upd (fV sg d st.o c outs).new)
inductive afr (aK:List Nat) (rows:List (List P)) (round:List P→St→(St→Prop)→Prop) (st:St) (K:St→Prop):Prop where
 |mk (j:Shape) (I:Nat→List P→Prop) (h0:Back aK j st (I 0)) (hr :∀k row us,rows[k]?=some row→I k us→round row (Fw.mk j us) fun st'=>Back aK j st' (I (k+1))) (hd :∀us,I rows.length us→K (Fw.mk j us))
def exec (T:Tab) (tt:TT) (N:Nat) (aK:List Nat):Code→St→tY→Prop
 |.skip,st,K=>K.n st
 |.region _ ops draw,st,K=>nZ T tt N ops draw st (Wk aK K.n)
 |.seq x y,st,K=>exec T tt N aK x st { n:=fun st'=>exec T tt N aK y st' K,x:=K.x,r:=K.r }
 |.cond c x y,st,K=>match st.bY c with
  |.v (.one (.p _ _ (.bool b)))=>bif b then exec T tt N aK x st { n:=Wk aK K.n,x:=K.x,r:=K.r } else exec T tt N aK y st { n:=Wk aK K.n,x:=K.x,r:=K.r }
  |_=>False
 |.block id c,st,K=>exec T tt N aK c st { n:=Wk aK K.n,x:=fun id' st'=>bif Nat.beq id' id then Wk aK K.n st' else K.x id' st',r:=K.r }
 |.loop c,st,K=>YD aK (exec T tt N aK c) st K
 |.exit id,st,K=>K.x id st
 |.ret,st,K=>K.r st
 |.label _,st,K=>K.n st
 |.rangeFunc g ps x y,st,K=>calm y=true∧match st.bY g with
  |.v (.one (.p _ _ (.seq rows)))=>(rows.all fun r=>Nat.beq r.length ps.size&&r.all P.lit)=true∧(ps.toList.all fun p=>Nat.blt p N)=true∧
    afr aK rows (YE N (fun akU st' K'=>exec T tt N akU y st' K') ps.toList x) st (Wk aK K.n)
  |_=>False
 |_,_,_=>False
structure Fit (Pg:Program):Prop where
 mixed:Pg.follows .mixedOrders=true
 sq :∀w S l v,dn.sq w S l v→Gy Pg w S l v
section
variable {E:Env} {N:Nat} {aK:List Nat} {nS:Nat→Gh} {Pg:Program} {T:Tab} {tt:TT}
structure Knt (E:Env) (N:Nat) (aK:List Nat) (nS:Nat→Gh) (K:tY) (Q:Exit→Act→World→Prop):Prop where
 n :∀st a w,K.n st→Good E N aK nS st a w→Q .normal a w
 x :∀id st a w,K.x id st→Good E N aK nS st a w→Q (.exit id) a w
 r :∀st a w,K.r st→Good E N aK nS st a w→Q .ret a w
theorem Back.good {j:Shape} {st:St} {G:List P→Prop} (h:Back aK j st G) {a:Act} {w:World} (hg:Good E N aK nS st a w) :∃vs,G vs∧Good E N aK nS (Fw.mk j vs) a w:=by
 obtain ⟨hs,gs,m,vs,hgs,hm,h,hG⟩:=h
 obtain ⟨⟨gh,hR,Dw⟩,hsz,hdf⟩:=hg
 obtain ⟨aS,hR,e1,_,e3⟩:=hR.norm hs gs hgs
 have hr:=qP h
 refine ⟨vs,hG,⟨iH aS (zY j m),hR.QW hr,fun g hg => ?_⟩,hsz,hdf⟩
 have:=(List.all_eq_true.1 hm) g hg
 simp only [Bool.and_eq_true] at this
 obtain ⟨h1,h2⟩:=this
 refine ⟨h1,?_⟩
 have hF:zY j m g=some g:=by
  unfold zY
  rw [if_pos h1]
  split at h2
  ·rename_i g' hl
   rw [hl,Nat.eq_of_beq_eq_true h2];rfl
  ·cases h2
 have ho:=hr.objs g g hF
 rcases (Dw g hg).2 with e | e
 ·have e:=e3 g e
  rw [e] at ho
  generalize (Fw.mk j vs).o g=z at ho
  cases ho;exact .inl rfl
 ·exact .inr (by simp only [iH,hF];exact ⟨(e1 g).1.trans e.1,(e1 g).2.trans e.2⟩)
theorem Wk.good {K:St→Prop} {st:St} (h:Wk aK K st) {a:Act} {w:World} (hg:Good E N aK nS st a w) :∃st',K st'∧Good E N aK nS st' a w:=by
 cases h with
 |now h=>exact ⟨st,h,hg⟩
 |back j h=>
  obtain ⟨vs,h1,h2⟩:=h.good hg
  exact ⟨_,h1,h2⟩
theorem Knt.wk {K:tY} {Q:Exit→Act→World→Prop} (h:Knt E N aK nS K Q):Knt E N aK nS { n:=Wk aK K.n,x:=K.x,r:=K.r } Q:=
 ⟨fun st a w hk hg=>let ⟨st',h1,h2⟩:=hk.good hg;h.n st' a w h1 h2,h.x,h.r⟩
theorem GI {ro:Option Nat} {n:Nat} {Q:Exit→Act→World→Prop} {st:St} {a:Act} {w:World} {ops:Array Oper} (hT :∀f sp,T f=some sp→Sound Pg f sp) (htt:fK Pg tt) (hm:Pg.follows .mixedOrders=true) {id:Nat} {draw:Bool} {K:St→Prop} (hcm:calm (.region id ops draw)=true) (h:nZ T tt N ops draw st K) (hg:Good E N aK nS st a w)
  (hK :∀st' a' w',K st'→Good E N aK nS st' a' w'→Q .normal a' w'):(Code.region id ops draw).wpIn (FR ro) n Pg Q a w:=by
 have hnd :∀o∈ops.toList,∀c,o.op≠.defer c:=fun o ho c e=>by
  have:=List.all_eq_true.1 hcm o ho
  rw [e] at this;cases this
 have hlo:¬ LetsOut (fun e a w=>e=.normal∧Q .normal a w):=fun ⟨_,_,e,_⟩=>by cases e
 refine wpIn_mono (Q:=fun e a w=>e=.normal∧Q .normal a w) ?_ fun e a w h=>by obtain ⟨rfl,h⟩:=h;exact h
 rcases Gw (Q:=fun e a w=>e=.normal∧Q .normal a w) hT htt h hg fun st' a' w' q hg'=>⟨rfl,hK st' a' w' q hg'⟩ with ⟨e,h2⟩ | ⟨e,h2⟩
 ·rw [e];exact wpIn_region (aex hnd hlo _ _ _ h2)
 ·rw [e];exact wpIn_region_any hm (aey hnd hlo _ _ _ _ h2)
theorem LW (hT :∀f sp,T f=some sp→Sound Pg f sp) (htt:fK Pg tt) (hm:Pg.follows .mixedOrders=true) (ro:Option Nat) (n:Nat) :∀(c:Code) {st:St} {K:tY} {Q:Exit→Act→World→Prop} {a:Act} {w:World},
  calm c=true→exec T tt N aK c st K→Good E N aK nS st a w→Knt E N aK nS K Q→c.wpIn (FR ro) n Pg Q a w:=by
 intro c
 induction c with
 |skip=>intro st K Q a w hcm h hg hK;exact wpIn_skip (hK.n _ _ _ h hg)
 |region id ops draw=>intro st K Q a w hcm h hg hK;exact GI hT htt hm hcm h hg fun st' a' w' q hg'=>hK.wk.n _ _ _ q hg'
 |seq x y ET ihy=>
  intro st K Q a w hcm h hg hK
  simp only [calm,Bool.and_eq_true] at hcm
  refine wpIn_seq (ET hcm.1 h hg ⟨fun st' a' w' q hg'=>ihy hcm.2 q hg' hK,fun id st' a' w' q hg'=>hK.x _ _ _ _ q hg',fun st' a' w' q hg'=>hK.r _ _ _ q hg'⟩)
 |cond c x y ET ihy=>
  intro st K Q a w hcm h hg hK
  simp only [calm,Bool.and_eq_true] at hcm
  simp only [exec] at h
  split at h
  ·rename_i a1 i1 b hc
   obtain ⟨gh,hR,_⟩:=hg.ex
   have hv:=lT hR c
   rw [hc] at hv
   have hv:=hv.dK.kK
   refine wpIn_cond_split hv (fun hb => ?_) (fun hb => ?_)
   ·subst hb;exact ET hcm.1 h hg hK.wk
   ·subst hb;exact ihy hcm.2 h hg hK.wk
  ·cases h
 |block id c ih=>
  intro st K Q a w hcm h hg hK
  refine wpIn_block (ih hcm h hg ⟨fun st' a' w' q hg'=>hK.wk.n _ _ _ q hg',fun id' st' a' w' q hg' => ?_,fun st' a' w' q hg'=>hK.r _ _ _ q hg'⟩)
  simp only [Exit.inBlock]
  by_cases e:id'=id
  ·subst e
   rw [if_pos rfl]
   have:Nat.beq id' id'=true:=by simp
   simp only [this] at q
   exact hK.wk.n _ _ _ q hg'
  ·rw [if_neg e]
   have:Nat.beq id' id=false:=by cases hb:Nat.beq id' id with | false=>rfl | true=>exact absurd (Nat.eq_of_beq_eq_true hb) e
   simp only [this] at q
   exact hK.x _ _ _ _ q hg'
 |loop c ih=>
  intro st K Q a w hcm h hg hK
  obtain ⟨j,I,μ,h0,round⟩:=(show YD aK (exec T tt N aK c) st K from h)
  obtain ⟨us,hI,hg0⟩:=h0.good hg
  refine wpIn_loop_rounds (μ us+1) ?_
  have key :∀k us,I us→μ us<k→∀a w,Good E N aK nS (Fw.mk j us) a w→Code.roundsIn (FR ro) n Pg c Q k a w:=by
   intro k
   induction k with
   |zero=>intro us _ h;omega
   |succ k ihn=>
    intro us hI hlt a w hg
    refine ih hcm (round us hI) hg ⟨fun st' a' w' q hg' => ?_,fun id st' a' w' q hg'=>hK.x _ _ _ _ q hg',fun st' a' w' q hg'=>hK.r _ _ _ q hg'⟩
    obtain ⟨vs,⟨h1,h2⟩,h3⟩:=Back.good q hg'
    exact ihn vs h1 (by omega) _ _ h3
  exact key _ us hI (by omega) a w hg0
 |exit id=>intro st K Q a w hcm h hg hK;exact wpIn_exit (hK.x _ _ _ _ h hg)
 |ret=>intro st K Q a w hcm h hg hK;exact wpIn_ret (hK.r _ _ _ h hg)
 |label l=>intro st K Q a w hcm h hg hK;exact wpIn_label (hK.n _ _ _ h hg)
 |_=>intro st K Q a w hcm;cases hcm
theorem OG {sp:xA} {st:St} {outs:List P} {jV:Nat→Gh} {rs:Nat→Value} {w':World} (hfin:Rel E st jV rs w') (GK :∀g∈sp.aK,st.used g=true∧(st.o g=.none∨((jV g).ad=(nS g).ad∧(jV g).cap=(nS g).cap)))
  (hBk:Back sp.aK sp.aF st fun vs=>vs=outs) :∃aS,Rel E (Fw.mk sp.aF outs) aS rs w'∧∀g∈sp.aK,(aS g).ad=(nS g).ad∧(aS g).cap=(nS g).cap:=by
 obtain ⟨hs,gs,m,vs,hgs,hkm,hco,rfl⟩:=hBk
 obtain ⟨vG,hfin,e1,_,e3⟩:=hfin.norm hs gs hgs
 have hr:=qP hco
 refine ⟨iH vG (zY sp.aF m),hfin.QW hr,fun g hg => ?_⟩
 have:=(List.all_eq_true.1 hkm) g hg
 simp only [Bool.and_eq_true] at this
 obtain ⟨h1,h2⟩:=this
 have hF:zY sp.aF m g=some g:=by
  unfold zY
  rw [if_pos h1]
  split at h2
  ·rename_i g' hl
   rw [hl,Nat.eq_of_beq_eq_true h2];rfl
  ·cases h2
 have ho:=hr.objs g g hF
 have hbox:(Fw.mk sp.aF vs).o g≠.none:=by
  have hm:g∈sp.aF.objs.map (·.1):=by simpa [Shape.nms] using h1
  obtain ⟨x,hxx⟩:=tN (vs:=vs) (n:=(bD vs 0 sp.aF.slots).2) hm
  have e:(Fw.mk sp.aF vs).o g=x:=by
   show (match (eP vs (bD vs 0 sp.aF.slots).2 sp.aF.objs).1.lookup g with | some x=>x | none=>O.none)=x
   rw [hxx]
  obtain ⟨k,n',_,h2⟩:=jO hxx
  rw [e,h2]
  cases k<;>simp [rH]
 rcases (GK g hg).2 with e | e
 ·exfalso
  have e:=e3 g e
  rw [e] at ho
  generalize (Fw.mk sp.aF vs).o g=z at ho hbox
  cases ho;exact hbox rfl
 ·simp only [iH,hF];exact ⟨(e1 g).1.trans e.1,(e1 g).2.trans e.2⟩
structure Head (E:Env) (aK:List Nat) (nS:Nat→Gh) (a:Act) (S D:List Nat) (w0:World) (st:St) (A:World):Prop where
 ex :∃gh,Rel E st gh (fun t=>a.tmps.getD t undef) A∧(∀g∈aK,st.used g=true∧(st.o g=.none∨((gh g).ad=(nS g).ad∧(gh g).cap=(nS g).cap)))∧∀b∈S++D,∃p q,E.ok st gh A p q b
 marks:Marks E a A
 keep :∀b∈S,A.heap[b]?=w0.heap[b]?
theorem Head.back {a:Act} {S D:List Nat} {w0 A:World} {j:Shape} {st:St} {G:List P→Prop} (h:Head E aK nS a S D w0 st A) (hb:Back aK j st G) :∃vs,G vs∧Head E aK nS a S D w0 (Fw.mk j vs) A:=by
 obtain ⟨hs,gs,m,vs,hgs,hm,hc,hG⟩:=hb
 obtain ⟨⟨gh,hR,Dw,hok⟩,hmk,hkp⟩:=h
 obtain ⟨aS,hR,e1,e2,e3⟩:=hR.norm hs gs hgs
 have hr:=qP hc
 refine ⟨vs,hG,⟨iH aS (zY j m),hR.QW hr,fun g hg => ?_,fun b hb => ?_⟩,hmk,hkp⟩
 ·have:=(List.all_eq_true.1 hm) g hg
  simp only [Bool.and_eq_true] at this
  obtain ⟨h1,h2⟩:=this
  refine ⟨h1,?_⟩
  have hF:zY j m g=some g:=by
   unfold zY
   rw [if_pos h1]
   split at h2
   ·rename_i g' hl
    rw [hl,Nat.eq_of_beq_eq_true h2];rfl
   ·cases h2
  have ho:=hr.objs g g hF
  rcases (Dw g hg).2 with e | e
  ·have e:=e3 g e
   rw [e] at ho
   generalize (Fw.mk j vs).o g=z at ho
   cases ho;exact .inl rfl
  ·exact .inr (by simp only [iH,hF];exact ⟨(e1 g).1.trans e.1,(e1 g).2.trans e.2⟩)
 ·obtain ⟨p,q,h⟩:=hok b hb
  exact ⟨p,q,hr.ok _ _ _ _ b ⟨id,id⟩ (e2 _ _ _ h)⟩
def jF:List Tmp→List P→Array Value→Array Value
 |p::ps,x::xs,t=>jF ps xs (t.setIfInBounds p x.lv)
 |_,_,t=>t
theorem GL :∀(ps:List Tmp) (row:List P) (t:Array Value),row.length=ps.length→(ps.zip (row.map P.lv)).foldl (fun t (p:Tmp×Value)=>t.setIfInBounds p.1 p.2) t=jF ps row t
 | [],[],t,_=>rfl
 |p::ps,x::row,t,h=>by
  simp only [List.map_cons,List.zip_cons_cons,List.foldl_cons,jF]
  exact GL ps row _ (by simpa using h)
 | [],x::row,t,h=>by simp at h
 |p::ps,[],t,h=>by simp at h
theorem Ag :∀(ps:List Tmp) (row:List P) (t:Array Value),(jF ps row t).size=t.size
 |p::ps,x::row,t=>by simp only [jF,Ag];simp
 | [],row,t=>by simp only [jF]
 |p::ps,[],t=>by simp only [jF]
theorem Um {gh:Nat→Gh} {w:World} :∀(ps:List Tmp) (row:List P) {st:St} {t:Array Value},(row.all P.lit)=true→(∀p∈ps,p<t.size)→Rel E st gh (fun k=>t.getD k undef) w→
  Rel E (vZ ps row st) gh (fun k=>(jF ps row t).getD k undef) w∧(vZ ps row st).o=st.o∧(vZ ps row st).used=st.used
 |p::ps,x::row,st,t,hl,hp,h=>by
  simp only [List.all_cons,Bool.and_eq_true] at hl
  have h1:=h.put (some p) (x:=.v (.one (.p false false x))) (v:=x.lv) (.v _ _ (.one _ _ (.p _ _ _ _ (P.abH hl.1)))) (by simp [S.names,V.names,W.names])
  have e:vg (fun k=>t.getD k undef) (some p) x.lv=fun k=>(t.setIfInBounds p x.lv).getD k undef:=by
   funext k
   have hlt:=hp p (by simp)
   simp only [vg,Array.getD_eq_getD_getElem?]
   by_cases e:k=p
   ·subst e;simp [hlt]
   ·rw [if_neg e,Array.getElem?_setIfInBounds_ne (Ne.symm e)]
  rw [e] at h1
  obtain ⟨q1,q2,q3⟩:=Um ps row hl.2 (fun p hp'=>by simpa using hp p (by simp [hp'])) h1
  exact ⟨q1,q2,q3⟩
 | [],row,st,t,hl,hp,h=>by simp only [vZ,jF];exact ⟨h,trivial,trivial⟩
 |p::ps,[],st,t,hl,hp,h=>by simp only [vZ,jF];exact ⟨h,trivial,trivial⟩
theorem YF {op:Op} {t:Tmp} (h:Gz op=some t):op=.assign (.tmp t)∨op=.move (.tmp t):=by
 unfold Gz at h
 split at h
 ·simp only [Option.some.injEq] at h;subst h;exact .inl rfl
 ·simp only [Option.some.injEq] at h;subst h;exact .inr rfl
 ·cases h
theorem WA {gh:Nat→Gh} {w:World} :∀(x:Code) {st st':St} {a:Act},uK N x st=some st'→a.tmps.size=N→Rel E st gh (fun k=>a.tmps.getD k undef) w→
  Rel E st' gh (fun k=>(qX x a).tmps.getD k undef) w∧(qX x a).tmps.size=N∧(qX x a).defers=a.defers∧st'.o=st.o∧st'.used=st.used∧
  ∀(ro:Option Nat) (n:Nat) (K:Act→World→Prop) (W:World),K (qX x a) W→x.wpIn (FR ro) n Pg (Exit.then K (fun _ _ _=>False)) a W:=by
 intro x
 induction x with
 |skip=>
  intro st st' a h hsz hR
  simp only [uK,Option.some.injEq] at h;subst h
  exact ⟨hR,hsz,rfl,rfl,rfl,fun ro n K W hK=>wpIn_skip hK⟩
 |region id ops draw=>
  intro st st' a h hsz hR
  cases draw with
  |true=>simp [uK] at h
  |false=>
   simp only [uK] at h
   split at h
   ·rename_i o hops
    split at h
    ·rename_i d t hg hd ht
     split at h
     ·rename_i hlt
      simp only [Option.some.injEq] at h;subst h
      have hact:qX (.region id ops false) a=a.put (some d) (a.tmps.getD t undef):=by simp only [qX,hops,hd,ht]
      rw [hact]
      have hv:(fun k=>(a.put (some d) (a.tmps.getD t undef)).tmps.getD k undef)=vg (fun k=>a.tmps.getD k undef) (some d) (a.tmps.getD t undef):=vS _ _ fun d' e=>by cases e;rw [hsz];exact hlt
      refine ⟨by rw [hv];exact hR.put _ (hR.slots t) (hR.us t),by rw [vT];exact hsz,put_defers _ _,rfl,rfl,fun ro n K W hK => ?_⟩
      have hsize:ops.size=1:=by rw [←Array.length_toList,hops];rfl
      have hi:ops[0]?=some o:=by rw [←Array.getElem?_toList,hops];rfl
      refine wpIn_region ?_
      rw [hsize]
      show wpOpsIn _ _ _ _ _ [0] _ _
      simp only [wpOpsIn,hi]
      have hw:Region.wanted o (yielded ops a.tmps)=true:=by simp [Region.wanted,hg]
      rw [if_pos hw]
      refine ⟨fun _ _=>trivial,?_⟩
      have hnd :∀c,o.op≠.defer c:=fun c e=>by rw [e] at ht;cases ht
      rw [Oper.semAt_eq _ _ _ hnd]
      have hx:(execOp a.eval o).run Pg W=.ok (.value (a.tmps.getD t undef)) W:=by
       rcases YF ht with e | e
       ·simp only [execOp,e];rfl
       ·simp only [execOp,e];rfl
      rw [hx,Oper.uponIn_value,hd]
      exact hK
     ·cases h
    ·cases h
   ·cases h
 |seq x y ET ihy=>
  intro st st' a h hsz hR
  simp only [uK] at h
  split at h
  ·rename_i st1 h1
   obtain ⟨a1,a2,a3,a4,a5,a6⟩:=ET h1 hsz hR
   obtain ⟨b1,b2,b3,b4,b5,b6⟩:=ihy h a2 a1
   refine ⟨b1,b2,b3.trans a3,b4.trans a4,b5.trans a5,fun ro n K W hK=>wpIn_seq ?_⟩
   refine wpIn_mono (a6 ro n (fun a w=>y.wpIn (FR ro) n Pg (Exit.then K fun _ _ _=>False) a w) W (b6 ro n K W hK)) fun e a w h => ?_
   cases e<;>exact h
  ·cases h
 |_=>intro st st' a h;simp [uK] at h
theorem OH (hT :∀f sp,T f=some sp→Sound Pg f sp) (htt:fK Pg tt) (hm:Fit Pg) {g:Operand} {ps:Array Tmp} {x y:Code} {st:St} {K:tY} {Q:Exit→Act→World→Prop} {a:Act} {w:World}
  (h:exec T tt N aK (.rangeFunc g ps x y) st K) (hg:Good E N aK nS st a w) (hK:Knt E N aK nS K Q):(Code.rangeFunc g ps x y).wp Pg Q a w:=by
 obtain ⟨hcm,h⟩:calm y=true∧_:=h
 split at h
 rotate_left
 ·exact h.elim
 rename_i p q rows hop
 obtain ⟨hrows,hps,j,I,h0,hr,hd⟩:=h
 obtain ⟨⟨gh,hR,Dw⟩,hsz,hmk⟩:=hg
 have hv:=lT hR g
 rw [hop] at hv
 have hv:=hv.dK
 obtain ⟨S,hS,hq⟩ :∃S,(∀b∈S,E.ok st gh w p q b∧∃c e f,w.heap[b]?=some (.cells c e f))∧dn.sq w S rows (a.eval g):=by
  generalize a.eval g=v at hv
  cases hv with
  |seq l v S _ hS hq=>exact ⟨S,hS,hq⟩
 have hB0:E.B0≤w.heap.size:=hR.size
 have hrow :∀row∈rows,row.length=ps.toList.length∧row.all P.lit=true:=fun row hm'=>by
  have:=List.all_eq_true.1 hrows row hm'
  simp only [Bool.and_eq_true] at this
  exact ⟨by simpa using Nat.eq_of_beq_eq_true this.1,this.2⟩
 have hpN :∀p∈ps.toList,p<N:=fun p hp=>by simpa using List.all_eq_true.1 hps p hp
 have ahM :∀b∈S,b<w.heap.size:=fun b hb=>(hS b hb).1.2.1
 obtain ⟨us0,hI0,hH0⟩:=Head.back (S:=S) (D:=[]) (w0:=w) ⟨⟨gh,hR,Dw,fun b hb=>⟨p,q,(hS b (by simpa using hb)).1⟩⟩,hmk,fun _ _=>rfl⟩ h0
 refine YC (hm.sq _ _ _ _ hq) (fun row hm'=>by simpa using (hrow row hm').1) (fun k D A=>w.heap.size≤A.heap.size∧∃us,I k us∧Head E aK nS a S D w (Fw.mk j us) A) (fun k D A hJ=>hJ.2.choose_spec.2.keep) ?_ ?_ ⟨Nat.le_refl _,us0,hI0,hH0⟩ ?_ ?_
 ·rintro k D A B D' ⟨hz,us,hI,⟨jV,hR1,GK,hok1⟩,Rt,WB⟩ hg hDD
  refine ⟨Nat.le_trans hz hg.size,us,hI,⟨jV,hR1.grows hg,GK,fun b hb => ?_⟩,?_,fun b hb=>(hg.same b (Nat.lt_of_lt_of_le (ahM b hb) hz)).trans (WB b hb)⟩
  ·have old:b∈S++D→∃p q,E.ok (Fw.mk j us) jV B p q b:=fun hb=>by
    obtain ⟨p,q,h⟩:=hok1 b hb
    exact ⟨p,q,(hg.lets.ok p q b h).1⟩
   rcases List.mem_append.1 hb with hb | hb
   ·exact old (List.mem_append_left _ hb)
   ·rcases hDD b hb with hb | hb
    ·exact old (List.mem_append_right _ hb)
    ·refine ⟨false,false,.inr (.inr (.inl (by omega))),hb.2,fun g ho had => ?_⟩
     have:=(hR1.wr g b ho had).2
     omega
  ·obtain ⟨Ds,d1,d2,d3⟩:=Rt
   exact ⟨Ds,d1,d2,fun D hD=>⟨(d3 D hD).1,(hg.same D (Array.getElem?_eq_some_iff.1 (d3 D hD).2).1).trans (d3 D hD).2⟩⟩
 ·rintro k D A b o o' hb hbD ⟨hz,us,hI,⟨jV,hR1,GK,hok1⟩,Rt,WB⟩ ho hqo
  have hzz:(A.putObj b o').heap.size=A.heap.size:=World.putObj_size
  refine ⟨by rw [hzz];exact hz,us,hI,⟨jV,hR1.turn ho hqo (by omega) o',GK,fun b' hb' => ?_⟩,?_,fun b' hb'=>(World.putObj_heap_other (by have:=ahM b' hb';omega)).trans (WB b' hb')⟩
  ·obtain ⟨p,q,h⟩:=hok1 b' hb'
   exact ⟨p,q,by rw [←tV hzz];exact h⟩
  ·obtain ⟨Ds,d1,d2,d3⟩:=Rt
   obtain ⟨Ds0,e1,e2,e3⟩:=hmk
   have:Ds=Ds0:=by
    have:=d1.symm.trans e1
    have hinj :∀(l l':List Nat),l.map mark=l'.map mark→l=l':=by
     intro l
     induction l with
     |nil=>intro l' h;cases l' with | nil=>rfl | cons=>simp at h
     |cons D l ih=>intro l' h;cases l' with | nil=>simp at h | cons D' l'=>simp [mark] at h;rw [h.1,ih l' (by simpa [mark] using h.2)]
    exact hinj _ _ this
   subst this
   exact ⟨Ds,d1,d2,fun D hD=>⟨(d3 D hD).1,(World.putObj_heap_other (by have:=(Array.getElem?_eq_some_iff.1 (e3 D hD).2).1;omega)).trans (d3 D hD).2⟩⟩
 ·rintro k row D A hrw ⟨hz,us,hI,⟨jV,hR1,GK,hok1⟩,Rt,WB⟩ l
  obtain ⟨hlen,hlit⟩:=hrow row (List.mem_of_getElem? hrw)
  obtain ⟨sg,st1,c,outs,d,r1,r2,r3,r4,r5,r6,r7,r8,r9⟩:=hr k row us hrw hI
  obtain ⟨r2,rb⟩:=Bool.and_eq_true_iff.1 r2
  obtain ⟨u1,u2,u3⟩:=Um (t:=a.tmps) ps.toList row hlit (fun p hp=>by rw [hsz];exact hpN p hp) hR1
  obtain ⟨v1,v2,v3,v4,v5,v6⟩:=WA (Pg:=Pg) x (a:={ tmps:=jF ps.toList row a.tmps,defers:=[] }) r4 (by rw [Ag];exact hsz) u1
  have etm:(ps.zip (row.map P.lv).toArray).foldl (fun t (p,v)=>t.setIfInBounds p v) a.tmps=jF ps.toList row a.tmps:=by
   rw [←GL ps.toList row a.tmps hlen,←Array.foldl_toList,Array.toList_zip]
  refine ⟨qX x { tmps:=jF ps.toList row a.tmps,defers:=[] },fun K W hKW => ?_,?_⟩
  ·rw [etm];exact v6 _ _ K W hKW
  generalize hA1:qX x { tmps:=jF ps.toList row a.tmps,defers:=[] }=a1 at *
  obtain ⟨E',vG,q1,q2,q3,q4,q5⟩:=JB (sp:=⟨sg,fun _ _=>True⟩) r1 hR1 (args:=(List.range N).map st1.s) (vals:=a1.tmps.toList) (fun t=>by
   rw [List.getD_eq_getElem?_getD,List.getElem?_map]
   by_cases ht:t<N
   ·rw [List.getElem?_range ht]
    have:=v1.slots t
    rw [List.getD_eq_getElem?_getD,Array.getElem?_toList,←Array.getD_eq_getD_getElem?]
    exact bF.congr (v4.trans u2).symm this
   ·rw [List.getElem?_eq_none (by simpa using ht)];exact .no _) r5 r6
  have hval:(fun k=>a1.tmps.toList.getD k undef)=fun t=>a1.tmps.getD t undef:=by
   funext t;rw [List.getD_eq_getElem?_getD,Array.getElem?_toList,←Array.getD_eq_getD_getElem?]
  rw [hval] at q3
  have hgood:Good E' N sg.aK vG (Fw.mk sg.pin c.ins) a1 A:=⟨⟨vG,q3,fun g hg=>⟨(List.all_eq_true.1 r2) g hg,.inr ⟨rfl,rfl⟩⟩⟩,v2,Marks.nil v3⟩
  refine LW hT htt hm.mixed (some l) 0 y (Q:=fun e _ B=>e=.normal∧(w.heap.size≤B.heap.size∧∃us,I (k+1) us∧Head E aK nS a S D w (Fw.mk j us) B)∧(∀b∈D,B.heap[b]?=A.heap[b]?)∧∀b o,A.heap[b]?=some o→quiet o=true→w.heap.size≤b→B.heap[b]?=some o) hcm r7 hgood ⟨fun st2 a2 B hk hg2 => ?_,fun id st2 a2 B hk=>hk.elim,fun st2 a2 B hk=>hk.elim⟩
  obtain ⟨⟨gh3,Ru,akV⟩,_,_⟩:=hg2
  have hend:Rel E' (GH st2) gh3 (fun k=>([]:List Value).getD k undef) B:=
   ⟨fun k=>.no _,fun g=>kC.congr (st:=st2) (st':=GH st2) rfl (Ru.objs g),Ru.inj,Ru.wr,Ru.wi,Ru.ns,Ru.wb,Ru.frame,Ru.size,Ru.os,Ru.tape,Ru.output,fun k g hg=>by simp [GH,Fw.S.names] at hg,Ru.uo,Ru.ul⟩
  obtain ⟨gh4,hR4,akW⟩:=OG (sp:=sg) hend (fun g hg=>akV g hg) hk
  obtain ⟨gh5,s1,s2,_,_⟩:=q5 d outs _ rfl r8 B [] gh4 r3.symm hR4 fun g hg=>⟨akW g hg,xA.Jz rb g hg⟩
  have hfr :∀b o,A.heap[b]?=some o→quiet o=true→B.heap[b]?=some o:=fun b o ho hqo=>by
   have hlt:=(Array.getElem?_eq_some_iff.1 ho).1
   rw [Ru.frame b (by rw [q1];exact hlt) (fun hw=>by obtain ⟨c,e,f,hc⟩:=q4 b hw;rw [ho] at hc;exact iq hqo _ _ _ (Option.some.inj hc)),q2]
   exact ho
  have hBz:A.heap.size≤B.heap.size:=by rw [←q1];exact Ru.size
  have hpre:Head E aK nS a S D w ((Fw.mk j us).upd (fV sg d (Fw.mk j us).o c outs).upd (fV sg d (Fw.mk j us).o c outs).new) B:=by
   refine ⟨⟨gh5,s1,fun g hg => ?_,fun b hb => ?_⟩,?_,fun b hb => ?_⟩
   ·obtain ⟨p1,p2⟩:=GK g hg
    refine ⟨by simp [St.upd,p1],?_⟩
    rcases s2.names g p1 with q | ⟨q,qk⟩
    ·exact .inl q
    ·rcases p2 with p2 | p2
     ·rw [p2] at qk;exact .inl (O.BF qk)
     ·exact .inr ⟨q.1.trans p2.1,q.2.trans p2.2⟩
   ·obtain ⟨p,q,h⟩:=hok1 b hb
    exact ⟨p,q,(s2.ok p q b h).1⟩
   ·obtain ⟨Ds,d1,d2,d3⟩:=Rt
    exact ⟨Ds,d1,d2,fun D hD=>⟨(d3 D hD).1,hfr D _ (d3 D hD).2 rfl⟩⟩
   ·obtain ⟨p,q,h⟩:=hok1 b (List.mem_append_left _ hb)
    exact ((s2.ok p q b h).2).trans (WB b hb)
  obtain ⟨us',hI',hH'⟩:=hpre.back r9
  exact ⟨rfl,⟨Nat.le_trans hz hBz,us',hI',hH'⟩,fun b hb=>(let ⟨p,q,h⟩:=hok1 b (List.mem_append_right _ hb);(s2.ok p q b h).2),fun b o ho hqo _=>hfr b o ho hqo⟩
 ·rintro D B D' hD ⟨hz,us,hI,⟨jV,hR1,GK,hok1⟩,Rt,WB⟩ hDB
  have hw:=hd us hI
  refine hK.wk.n _ _ _ hw ⟨⟨jV,hR1,GK⟩,hsz,?_⟩
  obtain ⟨Ds,d1,d2,d3⟩:=Rt
  obtain ⟨Ds0,e1,e2,e3⟩:=hmk
  have hmem :∀D'∈Ds,D'<w.heap.size:=by
   intro D' hD'
   have:mark D'∈a.defers:=by rw [d1];exact List.mem_map.2 ⟨D',hD',rfl⟩
   rw [e1] at this
   obtain ⟨D2,h1,h2⟩:=List.mem_map.1 this
   simp [mark] at h2
   subst h2
   exact (Array.getElem?_eq_some_iff.1 (e3 D2 h1).2).1
  refine ⟨D::Ds,by simp [d1,mark],List.nodup_cons.2 ⟨fun hm'=>by have:=hmem D hm';omega,d2⟩,fun D' hD' => ?_⟩
  rcases List.mem_cons.1 hD' with rfl | hD'
  ·exact ⟨by omega,hDB⟩
  ·exact d3 D' hD'
theorem Rw (hT :∀f sp,T f=some sp→Sound Pg f sp) (htt:fK Pg tt) (hm:Fit Pg) :∀(c:Code) {st:St} {K:tY} {Q:Exit→Act→World→Prop} {a:Act} {w:World},
  exec T tt N aK c st K→Good E N aK nS st a w→Knt E N aK nS K Q→c.wp Pg Q a w:=by
 intro c
 induction c with
 |skip=>intro st K Q a w h hg hK;exact wp_skip (hK.n _ _ _ h hg)
 |region id ops draw=>intro st K Q a w h hg hK;exact LV hT htt hm.mixed h hg fun st' a' w' q hg'=>hK.wk.n _ _ _ q hg'
 |seq x y ET ihy=>
  intro st K Q a w h hg hK
  refine wp_seq (ET h hg ⟨fun st' a' w' q hg'=>ihy q hg' hK,fun id st' a' w' q hg'=>hK.x _ _ _ _ q hg',fun st' a' w' q hg'=>hK.r _ _ _ q hg'⟩)
 |cond c x y ET ihy=>
  intro st K Q a w h hg hK
  simp only [exec] at h
  split at h
  ·rename_i a1 i1 b hc
   obtain ⟨gh,hR,_⟩:=hg.ex
   have hv:=lT hR c
   rw [hc] at hv
   have hv:=hv.dK.kK
   refine wp_cond_split hv (fun hb => ?_) (fun hb => ?_)
   ·subst hb;exact ET h hg hK.wk
   ·subst hb;exact ihy h hg hK.wk
  ·cases h
 |block id c ih=>
  intro st K Q a w h hg hK
  refine wp_block (ih h hg ⟨fun st' a' w' q hg'=>hK.wk.n _ _ _ q hg',fun id' st' a' w' q hg' => ?_,fun st' a' w' q hg'=>hK.r _ _ _ q hg'⟩)
  simp only [Exit.inBlock]
  by_cases e:id'=id
  ·subst e
   rw [if_pos rfl]
   have:Nat.beq id' id'=true:=by simp
   simp only [this] at q
   exact hK.wk.n _ _ _ q hg'
  ·rw [if_neg e]
   have:Nat.beq id' id=false:=by cases hb:Nat.beq id' id with | false=>rfl | true=>exact absurd (Nat.eq_of_beq_eq_true hb) e
   simp only [this] at q
   exact hK.x _ _ _ _ q hg'
 |loop c ih=>
  intro st K Q a w h hg hK
  obtain ⟨j,I,μ,h0,round⟩:=(show YD aK (exec T tt N aK c) st K from h)
  obtain ⟨us,hI,hg0⟩:=h0.good hg
  refine wp_loop_rounds (μ us+1) ?_
  have key :∀n us,I us→μ us<n→∀a w,Good E N aK nS (Fw.mk j us) a w→Code.rounds Pg c Q n a w:=by
   intro n
   induction n with
   |zero=>intro us _ h;omega
   |succ n ihn=>
    intro us hI hlt a w hg
    refine ih (round us hI) hg ⟨fun st' a' w' q hg' => ?_,fun id st' a' w' q hg'=>hK.x _ _ _ _ q hg',fun st' a' w' q hg'=>hK.r _ _ _ q hg'⟩
    obtain ⟨vs,⟨h1,h2⟩,h3⟩:=Back.good q hg'
    exact ihn vs h1 (by omega) _ _ h3
  exact key _ us hI (by omega) a w hg0
 |exit id=>intro st K Q a w h hg hK;exact wp_exit (hK.x _ _ _ _ h hg)
 |ret=>intro st K Q a w h hg hK;exact wp_ret (hK.r _ _ _ h hg)
 |label l=>intro st K Q a w h hg hK;exact wp_label (hK.n _ _ _ h hg)
 |rangeFunc g ps x y ET ihy=>intro st K Q a w h hg hK;exact OH hT htt hm h hg hK
 |_=>intro st K Q a w h;exact absurd h (by simp [exec])
def WC (tt:TT) (st:St):ResultVar→Option S
 |.tmp t=>some (st.s t)
 |.cell a t=>match tt t,st.s a with
  |some i,.v (.one (.box g off))=>match st.o g with
   |.box ws=>if off+i.size≤ws.length∧0<i.size then some (V.dZ i.agg ((ws.drop off).take i.size)) else none
   |_=>none
  |_,_=>none
def DK (tt:TT) (st:St):List ResultVar→Option (List S)
 | []=>some []
 |r::rs=>match WC tt st r,DK tt st rs with
  |some x,some xs=>some (x::xs)
  |_,_=>none
def OI (xs:List S) (st:St):St:={ s:=fun k=>xs.getD k .no,o:=st.o,used:=st.used }
def Fin (tt:TT) (sp:xA) (ts:List ResultVar) (outs:List P) (st:St):Prop:=match DK tt st ts with
 |some xs=>Back sp.aK sp.aF (OI xs st) fun vs=>vs=outs
 |none=>False
def afs (tt:TT) (sp:xA) (ts:List ResultVar) (outs:List P):tY:={ n:=Fin tt sp ts outs,x:=fun _ _=>False,r:=Fin tt sp ts outs }
def BL (tmps:Array Value) (r:ResultVar):Sem Value:=match r with
 |.tmp t=>pure (tmps.getD t undef)
 |.cell a t=>do loadVar t (←asAddr (tmps.getD a undef))
theorem Rx {fn:Func} {ts:List ResultVar} (hr:fn.results=ts.toArray) (tmps:Array Value):results fn tmps=(do
  let vs ←List.toArray <$> ts.mapM (BL tmps)
  pure (if h:vs.size=1 then vs[0] else .tuple vs)):=by
 unfold results
 rw [hr,List.mapM_toArray]
 have :∀F:ResultVar→Sem Value,(∀r,F r=BL tmps r)→ts.mapM F=ts.mapM (BL tmps):=fun F hF=>by rw [funext hF]
 rw [this _ fun r=>by cases r<;>rfl]
theorem Ry (htt:fK Pg tt) {st:St} {gh:Nat→Gh} {a:Act} {w:World} (h:Rel E st gh (fun t=>a.tmps.getD t undef) w) {r:ResultVar} {x:S} (hx:WC tt st r=some x) :
  ∃v,(BL a.tmps r).run Pg w=.ok v w∧bF E st gh w x v∧∀g∈x.names,st.used g=true:=by
 cases r with
 |tmp t=>
  simp only [WC,Option.some.injEq] at hx
  subst hx
  exact ⟨_,rfl,h.slots t,h.us t⟩
 |cell ad t=>
  simp only [WC] at hx
  split at hx
  ·rename_i i g off ht hs
   have rx:=h.slots ad;rw [hs] at rx
   split at hx
   ·rename_i ws hog
    split at hx
    ·rename_i hlt
     simp only [Option.some.injEq] at hx;subst hx
     have hO:=h.objs g;rw [hog] at hO
     obtain ⟨ad',had,cs,hl,hone,hcell,hrep⟩:=xW.cells hO
     obtain ⟨aoy,KR,hv⟩:=(by cases rx.bH with | box _ _ _ _ hb=>exact hb ws hog :∃ad',(gh g).ad=some ad'∧a.tmps.getD ad undef=.pointer (some ⟨ad'.block,ad'.off+off,none⟩))
     rw [had] at KR;cases KR
     have hl':((cs.drop off).take i.size).length=i.size:=by simp;omega
     obtain ⟨v,hrun,hval⟩:=jh (Pg:=Pg) (w:=w) (htt _ _ ht) ad'.block (ad'.off+off) ((cs.drop off).take i.size) hl' (fun j u hu=>by
      have hj:j<i.size:=by have:=(List.getElem?_eq_some_iff.1 hu).1;omega
      rw [List.getElem?_take,if_pos hj,List.getElem?_drop] at hu
      rw [Nat.add_assoc];exact hcell _ _ hu) (fun _=>hlt.2)
     refine ⟨v,by simp only [BL];rw [hv];simpa [asAddr] using hrun,jL (cs:=(cs.drop off).take i.size) (by simp;omega) (fun c hc=>hone c (List.mem_of_mem_drop (List.mem_of_mem_take hc)))
      (fun j y u hy hu => ?_) v hval,fun g' hg' => ?_⟩
     ·have hj:j<i.size:=by have:=(List.getElem?_eq_some_iff.1 hu).1;omega
      rw [List.getElem?_take,if_pos hj,List.getElem?_drop] at hy hu
      exact hrep _ _ _ hy hu
     ·obtain ⟨x,hx,hg'⟩:=iG hg'
      exact h.uo g g' (by rw [hog];simp only [O.names,List.mem_flatMap];exact ⟨x,List.mem_of_mem_drop (List.mem_of_mem_take hx),hg'⟩)
    ·cases hx
   ·cases hx
  ·cases hx
theorem DL (htt:fK Pg tt) {st:St} {gh:Nat→Gh} {a:Act} {w:World} (h:Rel E st gh (fun t=>a.tmps.getD t undef) w) :∀{rs:List ResultVar} {xs:List S},DK tt st rs=some xs→
  ∃vs:List Value,(rs.mapM (BL a.tmps)).run Pg w=.ok vs w∧vs.length=rs.length∧
   ∀k,bF E st gh w (xs.getD k .no) (vs.getD k undef)∧∀g∈(xs.getD k .no).names,st.used g=true
 | [],xs,hx=>by
  simp only [DK,Option.some.injEq] at hx
  subst hx
  exact ⟨[],rfl,rfl,fun k=>⟨.no _,by simp [S.names]⟩⟩
 |r::rs,xs,hx=>by
  simp only [DK] at hx
  split at hx
  ·rename_i x xs h1 h2
   simp only [Option.some.injEq] at hx
   subst hx
   obtain ⟨v,q1,q2,q3⟩:=Ry htt h h1
   obtain ⟨vs,p1,p2,p3⟩:=DL htt h h2
   refine ⟨v::vs,?_,by simp [p2],fun k => ?_⟩
   ·rw [List.mapM_cons,Sem.run_bind,q1]
    show Sem.run Pg _ w=_
    rw [Sem.run_bind,p1];rfl
   ·cases k with
    |zero=>exact ⟨q2,q3⟩
    |succ k=>simpa using p3 k
  ·cases hx
theorem Jf (htt:fK Pg tt) {st:St} {gh:Nat→Gh} {a:Act} {w:World} (h:Rel E st gh (fun t=>a.tmps.getD t undef) w) {fn:Func} {ts:List ResultVar} (hr:fn.results=ts.toArray) {xs:List S} (hx:DK tt st ts=some xs) :
  ∃vs:List Value,(results fn a.tmps).run Pg w=.ok (V4 vs) w∧vs.length=ts.length∧∀k,bF E st gh w (xs.getD k .no) (vs.getD k undef)∧∀g∈(xs.getD k .no).names,st.used g=true:=by
 obtain ⟨vs,q1,q2,q3⟩:=DL htt h hx
 refine ⟨vs,?_,q2,q3⟩
 rw [Rx hr,Sem.run_bind,Sem.run_map,q1]
 match vs with
 | []=>rfl
 | [v]=>rfl
 |v::u::vs=>simp [V4]
theorem YG {f:FuncId} {fn:Func} {c:Code} {sp:Spec} (ts:List ResultVar) (hf:Pg.funcs[f]?=some fn) (hb:fn.body=some c) (hname:(fn.name == "runtime.NumGoroutine")=false) (hres:fn.results=ts.toArray)
  (hok:sp.sig.ok=true) (Dw:(sp.sig.aK.all fun g=>sp.sig.pin.nms.contains g)=true) (hlk :∀ins outs,sp.R ins outs→∀g∈sp.sig.aK,((Fw.mk sp.sig.pin ins).o g).like ((Fw.mk sp.sig.aF outs).o g)) (hn:sp.sig.nargs≤fn.ntmps) (hnr:ts.length=sp.sig.bP)
  (hT :∀f sp,T f=some sp→Sound Pg f sp) (htt:fK Pg tt) (hm:Fit Pg)
  (h :∀ins outs,sp.R ins outs→exec T tt fn.ntmps sp.sig.aK c (Fw.mk sp.sig.pin ins) (afs tt sp.sig ts outs)):Sound Pg f sp:=by
 refine ⟨hok,fun args w => ?_,fun E w vals gh ins outs hR hB hw0 Jc hlen => ?_⟩
 ·have hname':¬ fn.name = "runtime.NumGoroutine" := by simpa using hname
  simp [callFunc,hf,hname',hb]
 ·have hsz:vals.toArray.size≤fn.ntmps:=by simp;omega
  refine callsIn_wide.1 (callsIn_of_wp_marks (n:=0) hf hb trivial (wpIn_wide.2 (Rw (E:=E) (N:=fn.ntmps) (aK:=sp.sig.aK) (nS:=gh) hT htt hm c (h ins outs hR) ⟨⟨gh,?_,fun g hg=>⟨?_,.inr ⟨rfl,rfl⟩⟩⟩,by simp;omega,Marks.nil rfl⟩ ?_)) rfl)
  ·have e:(fun t=>(vals.toArray++Array.replicate (fn.ntmps-vals.toArray.size) undef).getD t undef)=fun k=>vals.getD k undef:=by
    funext t
    rw [Array.getD_eq_getD_getElem?,List.getD_eq_getElem?_getD,Array.getElem?_append]
    split
    ·simp
    ·rename_i ht
     have ht:vals.length≤t:=by simpa using ht
     rw [List.getElem?_eq_none ht,Array.getElem?_replicate]
     split<;>rfl
   rw [e];exact Jc
  ·exact (List.all_eq_true.1 Dw) g hg
  ·have fin :∀st a w',Fin tt sp.sig ts outs st→Good E fn.ntmps sp.sig.aK gh st a w'→LeavesInM Fence.wide 0 Pg fn a.tmps (fun e w' =>∃(rs:List Value) (aS:Nat→Gh),rs.length=sp.sig.bP∧e=.returned (V4 rs)∧Rel E (Fw.mk sp.sig.aF outs) aS (fun k=>rs.getD k undef) w'∧∀g∈sp.sig.aK,((aS g).ad=(gh g).ad∧(aS g).cap=(gh g).cap)∧((Fw.mk sp.sig.pin ins).o g).like ((Fw.mk sp.sig.aF outs).o g)) a.defers .returning w':=by
    intro st a w' hBk hg
    unfold Fin at hBk
    split at hBk
    rotate_left
    ·cases hBk
    rename_i xs hxs
    obtain ⟨⟨jV,hR1,GK⟩,_,Ds,hd1,hd2,hd3⟩:=hg
    rw [hd1]
    clear hd1
    induction Ds generalizing w' with
    |nil=>
     obtain ⟨rs,hrun,hrl,hrs⟩:=Jf htt hR1 hres hxs
     refine ⟨_,hrun,rs,?_⟩
     have hfin:Rel E (OI xs st) jV (fun k=>rs.getD k undef) w':=by
      refine ⟨fun k => ?_,fun g=>kC.congr (st:=st) (st':=OI xs st) rfl (hR1.objs g),hR1.inj,hR1.wr,hR1.wi,hR1.ns,hR1.wb,hR1.frame,hR1.size,hR1.os,hR1.tape,hR1.output,fun k g hg=>(hrs k).2 g hg,hR1.uo,hR1.ul⟩
      exact bF.congr (st:=st) (st':=OI xs st) rfl (hrs k).1
     obtain ⟨aS,r1,r2⟩:=OG hfin GK hBk
     exact ⟨aS,by omega,rfl,r1,fun g hg=>⟨r2 g hg,hlk ins outs hR g hg⟩⟩
    |cons D Ds ih=>
     obtain ⟨h1,h2⟩:=hd3 D (by simp)
     have hnd:=List.nodup_cons.1 hd2
     refine ⟨by simp,.inl ⟨D,_,rfl,run_takeDeferred h2,ih _ (hR1.turn h2 rfl h1 _) hnd.2 fun D' hD' => ?_⟩⟩
     obtain ⟨q1,q2⟩:=hd3 D' (by simp [hD'])
     exact ⟨q1,(World.putObj_heap_other (fun e:D'=D=>hnd.1 (by rw [←e];exact hD'))).trans q2⟩
   exact ⟨fun st a w' hk hg=>fin st a w' hk hg,fun id st a w' hk=>hk.elim,fun st a w' hk hg=>fin st a w' hk hg⟩
end
end Go.Fw

namespace Go.Fg
open Go.Fw
set_option linter.unusedVariables false
set_option linter.unusedSectionVars false
inductive Ty where
 |int (k:IntKind)
 |bool
 |str
 |sl (e:Ty)
 |prod (a b:Ty)
 |st (n:Nat)
 |opq
 |sq (e:Ty)
def YH:(a b:IntKind)→Option (PLift (a=b))
 |.i8,.i8=>some ⟨rfl⟩
 |.i16,.i16=>some ⟨rfl⟩
 |.i32,.i32=>some ⟨rfl⟩
 |.i64,.i64=>some ⟨rfl⟩
 |.u8,.u8=>some ⟨rfl⟩
 |.u16,.u16=>some ⟨rfl⟩
 |.u32,.u32=>some ⟨rfl⟩
 |.u64,.u64=>some ⟨rfl⟩
 |_,_=>none
def YI (a b:Nat):Option (PLift (a=b)):=match h:Nat.beq a b with
 |true=>some ⟨Nat.eq_of_beq_eq_true h⟩
 |false=>none
def Ty.eq:(a b:Ty)→Option (PLift (a=b))
 |.int k,.int k'=>match YH k k' with
  |some ⟨h⟩=>some ⟨h▸rfl⟩
  |none=>none
 |.bool,.bool=>some ⟨rfl⟩
 |.str,.str=>some ⟨rfl⟩
 |.opq,.opq=>some ⟨rfl⟩
 |.sl a,.sl b=>match Ty.eq a b with
  |some ⟨h⟩=>some ⟨h▸rfl⟩
  |none=>none
 |.sq a,.sq b=>match Ty.eq a b with
  |some ⟨h⟩=>some ⟨h▸rfl⟩
  |none=>none
 |.prod a b,.prod a' b'=>match Ty.eq a a',Ty.eq b b' with
  |some ⟨h⟩,some ⟨h'⟩=>some ⟨h▸h'▸rfl⟩
  |_,_=>none
 |.st n,.st m=>match YI n m with
  |some ⟨h⟩=>some ⟨h▸rfl⟩
  |none=>none
 |_,_=>none
def Ty.word:Ty→Bool
 |.prod _ _=>false
 |.st _=>false
 |_=>true
def Ty.flat:Ty→Bool
 |.int _=>true
 |.bool=>true
 |.str=>true
 |.opq=>true
 |_=>false
def D (C:Nat→Type):Ty→Type
 |.int _=>Int
 |.bool=>Bool
 |.str=>List UInt8
 |.sl e=>List (D C e)
 |.prod a b=>D C a×D C b
 |.st n=>C n
 |.opq=>Value
 |.sq e=>List (D C e)
structure TP (C:Nat→Type) where
 t:Ty
 x:D C t
def TP.get {C:Nat→Type} (t:Ty) (d:D C t) (ws:List (TP C)) (n:Nat):D C t:=match ws[n]? with
 |some w=>match Ty.eq w.t t with
  |some ⟨h⟩=>h▸w.x
  |none=>d
 |none=>d
theorem aO {C:Nat→Type} {ws:List (TP C)} {t:Ty} {ts:List Ty} (h:ws.map (·.t)=t::ts) :∃x ws',ws=⟨t,x⟩::ws'∧ws'.map (·.t)=ts:=by
 cases ws with
 |nil=>cases h
 |cons w ws=>
  obtain ⟨t',x⟩:=w
  simp only [List.map_cons,List.cons.injEq] at h
  obtain ⟨rfl,h⟩:=h
  exact ⟨x,ws,rfl,h⟩
theorem dA {C:Nat→Type} {ws:List (TP C)} (h:ws.map (·.t)=[]):ws=[]:=by simpa using h
def GN {C:Nat→Type} (size:Ty→Nat) (iY:(t:Ty)→D C t→List P):(t:Ty)→D C t→P
 |.int k,x=>.int k x
 |.bool,b=>.bool b
 |.str,s=>.str ⟨s.toArray⟩
 |.sl e,l=>P.dX (size e) (List.map (iY e) l)
 |.opq,v=>.opq v
 |.sq e,l=>.seq (List.map (iY e) l)
 |.prod _ _,_=>default
 |.st _,_=>default
def nG {C:Nat→Type} (F:Nat→List Ty) (er:(n:Nat)→C n→List P) (size:Ty→Nat):(t:Ty)→D C t→List P
 |.int k,x=>[.int k x]
 |.bool,b=>[.bool b]
 |.str,s=>[.str ⟨s.toArray⟩]
 |.sl e,l=>[P.dX (size e) (List.map (nG F er size e) l)]
 |.opq,v=>[.opq v]
 |.sq e,l=>[.seq (List.map (nG F er size e) l)]
 |.prod a b,x=>nG F er size a x.1++nG F er size b x.2
 |.st n,x=>er n x
def iw (F:Nat→List Ty):Ty→Nat
 |.prod a b=>iw F a+iw F b
 |.st n=>(F n).length
 |_=>1
class RE where
 C:Nat→Type
 F:Nat→List Ty
 dflt:(n:Nat)→C n
 un:(n:Nat)→C n→List (TP C)
 ro:(n:Nat)→List (TP C)→C n
 er:(n:Nat)→C n→List P
 Fwd :∀n,(F n).all Ty.word=true
 aez :∀n x,(un n x).map (·.t)=F n
 aeA :∀n ws,ws.map (·.t)=F n→un n (ro n ws)=ws
 aeB :∀n x,er n x=(un n x).map fun w=>GN (iw F) (nG F er (iw F)) w.t w.x
 hd:Nat:=999999
 hdF:F hd=[]:=by rfl
 G:Nat→Option ((e:Ty)×List (D C e)):=fun _=>none
 Q:World→List Nat→List (List P)→Value→Prop:=fun _ _ _ _=>False
 aft :∀{w w':World} {S:List Nat} {l:List (List P)} {v:Value},(∀b∈S,w'.heap[b]?=w.heap[b]?)→Q w S l v→Q w' S l v:=by intro _ _ _ _ _ _ h;exact h
section
variable [RE]
abbrev Dt (t:Ty):Type:=D RE.C t
abbrev Wd:=TP RE.C
def size:Ty→Nat:=iw RE.F
def iY:(t:Ty)→Dt t→List P:=nG RE.F RE.er (iw RE.F)
instance:dn:=⟨fun g=>(RE.G g).map fun x=>(size x.1,List.map (iY x.1) x.2),RE.Q,RE.aft⟩
theorem aeC (g:Nat):dn.gt g=(RE.G g).map fun x=>(size x.1,List.map (iY x.1) x.2):=rfl
def enc1 (w:Wd):P:=GN (iw RE.F) (nG RE.F RE.er (iw RE.F)) w.t w.x
def dflt:(t:Ty)→Dt t
 |.int _=>(0:Int)
 |.bool=>false
 |.str=>([]:List UInt8)
 |.sl e=>([]:List (Dt e))
 |.prod a b=>(dflt a,dflt b)
 |.st n=>RE.dflt n
 |.opq=>Value.nilFunc
 |.sq e=>([]:List (Dt e))
def TP.zH (t:Ty) (w:Wd):Option (Dt t):=match Ty.eq w.t t with
 |some ⟨h⟩=>some (h▸w.x)
 |none=>none
def TP.as (t:Ty) (w:Wd):Dt t:=match Ty.eq w.t t with
 |some ⟨h⟩=>h▸w.x
 |none=>dflt t
def dM:(t:Ty)→Dt t→List Wd
 |.prod a b,x=>dM a x.1++dM b x.2
 |.st n,x=>RE.un n x
 |.int k,x=>[⟨.int k,x⟩]
 |.bool,x=>[⟨.bool,x⟩]
 |.str,x=>[⟨.str,x⟩]
 |.sl e,x=>[⟨.sl e,x⟩]
 |.opq,x=>[⟨.opq,x⟩]
 |.sq e,x=>[⟨.sq e,x⟩]
def gQ:Ty→List Ty
 |.prod a b=>gQ a++gQ b
 |.st n=>RE.F n
 |t=>[t]
def jr:(t:Ty)→List Wd→Dt t
 |.prod a b,ws=>(jr a (ws.take (size a)),jr b (ws.drop (size a)))
 |.st n,ws=>RE.ro n ws
 |.int k,ws=>match ws with
  |w::_=>w.as (.int k)
  | []=>dflt (.int k)
 |.bool,ws=>match ws with
  |w::_=>w.as .bool
  | []=>dflt .bool
 |.str,ws=>match ws with
  |w::_=>w.as .str
  | []=>dflt .str
 |.sl e,ws=>match ws with
  |w::_=>w.as (.sl e)
  | []=>dflt (.sl e)
 |.opq,ws=>match ws with
  |w::_=>w.as .opq
  | []=>dflt .opq
 |.sq e,ws=>match ws with
  |w::_=>w.as (.sq e)
  | []=>dflt (.sq e)
theorem Ty.eq_self :∀(t:Ty),∃h,Ty.eq t t=some ⟨h⟩:=by
 intro t
 induction t with
 |int k=>cases k<;>exact ⟨rfl,rfl⟩
 |bool=>exact ⟨rfl,rfl⟩
 |str=>exact ⟨rfl,rfl⟩
 |opq=>exact ⟨rfl,rfl⟩
 |sl e ih=>obtain ⟨h,ih⟩:=ih;exact ⟨rfl,by simp [Ty.eq,ih]⟩
 |sq e ih=>obtain ⟨h,ih⟩:=ih;exact ⟨rfl,by simp [Ty.eq,ih]⟩
 |prod a b iha ihb=>obtain ⟨h,iha⟩:=iha;obtain ⟨h',ihb⟩:=ihb;exact ⟨rfl,by simp [Ty.eq,iha,ihb]⟩
 |st n=>
  refine ⟨rfl,?_⟩
  have:YI n n=some ⟨rfl⟩:=by
   unfold YI
   split
   ·rfl
   ·rename_i h;simp at h
  simp [Ty.eq,this]
theorem qp (t:Ty) (x:Dt t):TP.as t ⟨t,x⟩=x:=by
 obtain ⟨h,e⟩:=Ty.eq_self t
 simp [TP.as,e]
theorem uM {t:Ty} {w:Wd} (h:w.t=t):(⟨t,w.as t⟩:Wd)=w:=by
 obtain ⟨t',x⟩:=w
 simp only at h;subst h
 rw [qp]
theorem fB {t:Ty} {w:Wd} {x:Dt t} (h:w.zH t=some x):w=⟨t,x⟩:=by
 obtain ⟨t',y⟩:=w
 unfold TP.zH at h
 split at h
 ·rename_i e he
  simp only at e
  subst e
  simp only [Option.some.injEq] at h
  subst h;rfl
 ·cases h
theorem afu {t:Ty} {w:Wd} {x:Dt t} (h:w.zH t=some x):w.t=t:=by rw [fB h]
theorem iy :∀(t:Ty),(gQ t).length=size t
 |.prod a b=>by
  have h1:=iy a
  have h2:=iy b
  simp only [size] at h1 h2
  simp [gQ,size,iw,h1,h2]
 |.st n=>by simp [gQ,size,iw]
 |.int k=>rfl
 |.bool=>rfl
 |.str=>rfl
 |.sl e=>rfl
 |.opq=>rfl
 |.sq e=>rfl
theorem oW :∀(t:Ty) (x:Dt t),(dM t x).map (·.t)=gQ t
 |.prod a b,x=>by simp [dM,gQ,oW a,oW b]
 |.st n,x=>by simp [dM,gQ];exact RE.aez n x
 |.int k,x=>rfl
 |.bool,x=>rfl
 |.str,x=>rfl
 |.sl e,x=>rfl
 |.opq,x=>rfl
 |.sq e,x=>rfl
theorem oD (t:Ty) (x:Dt t):(dM t x).length=size t:=by
 rw [←iy,←oW t x,List.length_map]
theorem eU :∀(t:Ty) (x:Dt t),iY t x=(dM t x).map enc1
 |.prod a b,x=>by
  show iY a x.1++iY b x.2=_
  rw [eU a x.1,eU b x.2];simp [dM]
 |.st n,x=>RE.aeB n x
 |.int k,x=>rfl
 |.bool,x=>rfl
 |.str,x=>rfl
 |.sl e,x=>rfl
 |.opq,x=>rfl
 |.sq e,x=>rfl
theorem GR (t:Ty) (x:Dt t):(iY t x).length=size t:=by rw [eU,List.length_map,oD]
theorem BM {ws:List Wd} {t:Ty} (h:ws.map (·.t)=[t]) :∃w,ws=[w]∧w.t=t:=by
 match ws with
 | []=>cases h
 | [w]=>exact ⟨w,rfl,by simpa using h⟩
 |w::u::ws=>simp at h
theorem GU :∀(t:Ty) (ws:List Wd),ws.map (·.t)=gQ t→dM t (jr t ws)=ws
 |.prod a b,ws,h=>by
  have h1:(ws.take (size a)).map (·.t)=gQ a:=by rw [List.map_take,h];simp [gQ,←iy]
  have h2:(ws.drop (size a)).map (·.t)=gQ b:=by rw [List.map_drop,h];simp [gQ,←iy]
  show dM a (jr a (ws.take (size a)))++dM b (jr b (ws.drop (size a)))=ws
  rw [GU a _ h1,GU b _ h2,List.take_append_drop]
 |.st n,ws,h=>RE.aeA n ws h
 |.int k,ws,h=>by
  obtain ⟨w,rfl,hw⟩:=BM (t:=(.int k)) h
  show [(⟨.int k,w.as (.int k)⟩:Wd)]=[w]
  rw [uM hw]
 |.bool,ws,h=>by
  obtain ⟨w,rfl,hw⟩:=BM (t:=.bool) h
  show [(⟨.bool,w.as .bool⟩:Wd)]=[w]
  rw [uM hw]
 |.str,ws,h=>by
  obtain ⟨w,rfl,hw⟩:=BM (t:=.str) h
  show [(⟨.str,w.as .str⟩:Wd)]=[w]
  rw [uM hw]
 |.sl e,ws,h=>by
  obtain ⟨w,rfl,hw⟩:=BM (t:=(.sl e)) h
  show [(⟨.sl e,w.as (.sl e)⟩:Wd)]=[w]
  rw [uM hw]
 |.opq,ws,h=>by
  obtain ⟨w,rfl,hw⟩:=BM (t:=.opq) h
  show [(⟨.opq,w.as .opq⟩:Wd)]=[w]
  rw [uM hw]
 |.sq e,ws,h=>by
  obtain ⟨w,rfl,hw⟩:=BM (t:=(.sq e)) h
  show [(⟨.sq e,w.as (.sq e)⟩:Wd)]=[w]
  rw [uM hw]
theorem qw {t:Ty} {ws:List Wd} (h:ws.map (·.t)=gQ t):iY t (jr t ws)=ws.map enc1:=by rw [eU,GU t ws h]
def ay (e:Ty) (l:List (Dt e)):List (List P):=List.map (iY e) l
theorem EU (e:Ty) (l:List (Dt e)):enc1 ⟨.sl e,l⟩=P.dX (size e) (ay e l):=rfl
theorem g_ (e:Ty) (l:List (Dt e)):(enc1 ⟨.sl e,l⟩).list=ay e l:=by rw [EU,P.mG]
theorem WG {w:Wd} (h:w.t.flat=true):(enc1 w).flat=true:=by
 obtain ⟨t,x⟩:=w
 cases t<;>simp [Ty.flat] at h<;>rfl
end
end Go.Fg

namespace Go.Fg
open Go.Fw
set_option linter.unusedVariables false
set_option linter.unusedSectionVars false
section
variable [RE]
inductive TW where
 |p (a i:Bool) (w:Wd)
 |bC
 |own (g:Nat)
 |vw (g:Nat) (lo hi:Int)
 |box (g off:Nat)
 |ep (g:Nat) (n:Int) (off:Nat)
 |sp (a i:Bool) (t:Ty) (x:Dt t) (off:Nat)
 |clo (f:FuncId) (caps:List TW)
 |gl (g:Nat)
 |lF (g:Nat)
 |no
inductive TV where
 |one (x:TW)
 |agg (xs:List TW)
inductive TS where
 |v (x:TV)
 |ku (xs:List TV)
 |no
inductive TO where
 |none
 |box (ws:List TW)
 |arr (fz a i:Bool) (e:Ty) (l:List (Dt e))
 |it (s:List UInt8) (n:Int)
 |deep (a i:Bool) (e:Ty) (cols:List (Nat×Ty)) (l:List (Dt e)) (hole:Option (Nat×Nat×Nat))
mutual
def aY:TW→W
 |.p a i w=>.p a i (enc1 w)
 |.bC=>.bC
 |.own g=>.own g
 |.vw g lo hi=>.vw g (.int .i64 lo) (.int .i64 hi)
 |.box g off=>.box g off
 |.ep g n off=>.ep g (.int .i64 n) off
 |.sp a i t x off=>.sp a i (iY t x) off
 |.clo f caps=>.clo f (lU caps)
 |.gl g=>.gl g
 |.lF g=>.lF g
 |.no=>.no
def lU:List TW→List W
 | []=>[]
 |x::xs=>aY x::lU xs
end
theorem xE :∀(l:List TW),lU l=l.map aY
 | []=>rfl
 |x::xs=>by simp [lU,xE xs]
def iQ:TV→V
 |.one x=>.one (aY x)
 |.agg xs=>.agg (xs.map aY)
def encS:TS→S
 |.v x=>.v (iQ x)
 |.ku xs=>.ku (xs.map iQ)
 |.no=>.no
def gy (cols:List (Nat×Ty)):List (Nat×Nat):=cols.map fun c=>(c.1,size c.2)
def cO:TO→O
 |.none=>.none
 |.box ws=>.box (ws.map aY)
 |.arr fz a i e l=>.arr fz a i (size e) (ay e l)
 |.it s n=>.it (.str ⟨s.toArray⟩) (.int .i64 n)
 |.deep a i e cols l hole=>.deep a i (size e) (gy cols) (ay e l) hole
def iJ {α:Type} (d:α):List (Nat×α)→Nat→α
 | [],_=>d
 |(k,v)::r,t=>bif Nat.beq t k then v else iJ d r t
def yY {α:Type} (k:Nat) (v:α):List (Nat×α)→List (Nat×α)
 | []=>[(k,v)]
 |(k',v')::r=>bif Nat.beq k k' then (k,v)::r else (k',v')::yY k v r
def dS (g:Nat):List Nat→Bool
 | []=>false
 |x::xs=>Nat.beq g x||dS g xs
structure je where
 s:List (Nat×TS)
 o:List (Nat×TO)
 u:List Nat
def je.gs (st:je) (t:Nat):TS:=iJ .no st.s t
def je.go (st:je) (g:Nat):TO:=iJ .none st.o g
def aH (st:je):St:={ s:=fun t=>encS (st.gs t),o:=fun g=>cO (st.go g),used:=fun g=>dS g st.u }
def aZ (o:Nat→TO):Nat→O:=fun g=>cO (o g)
def ji (k:IntKind) (x:Int):Wd:=⟨.int k,x⟩
def gG (x:Bool):Wd:=⟨.bool,x⟩
def OJ (x:List UInt8):Wd:=⟨.str,x⟩
def rV (e:Ty) (x:List (Dt e)):Wd:=⟨.sl e,x⟩
def akX (x:Value):Wd:=⟨.opq,x⟩
def WH:Value→TW
 |.int k n=>.p false false (ji k n)
 |.bool b=>.p false false (gG b)
 |.string s=>.p false false (OJ s.data.toList)
 |.slice none 0 0=>.bC
 |v=>.p false false (akX v)
def Rz:Value→TS
 |.agg cs=>bif cs.toList.all Value.oneCell' then .v (.agg (cs.toList.map WH)) else .no
 |.tuple _=>.no
 |.func (.func f) ⟨[]⟩ ⟨[]⟩=>.v (.one (.clo f []))
 |v=>bif v.oneCell' then .v (.one (WH v)) else .no
def je.bY (st:je):Operand→TS
 |.tmp t=>st.gs t
 |.const v=>Rz v
 |.func f=>.v (.one (.clo f []))
 |.global g=>match RE.G g with
  |some _=>.v (.one (.gl g))
  |none=>.no
structure pV where
 pre:Bool
 t:Ty
 val:Dt t
 dst:Dt t→TS
 upd:Dt t→List (Nat×TO)
 new:List Nat
def pV.pure (x:TS):pV:={ pre:=true,t:=.bool,val:=false,dst:=fun _=>x,upd:=fun _=>[],new:=[] }
def Un (w:Wd):TS:=.v (.one (.p false false w))
def pV.calc (pre:Bool) (t:Ty) (x:Dt t):pV:={ pre,t,val:=x,dst:=fun z=>Un ⟨t,z⟩,upd:=fun _=>[],new:=[] }
structure TA where
 a:Bool
 i:Bool
 e:Ty
 l:List (Dt e)
structure TH where
 a:Bool
 i:Bool
 e:Ty
 cols:List (Nat×Ty)
 l:List (Dt e)
def tyB (a b:Ty):Bool:=match Ty.eq a b with
 |some _=>true
 |none=>false
def rW (c:Nat):List (Nat×Ty)→Option Ty
 | []=>none
 |(k,t)::r=>bif Nat.beq c k then some t else rW c r
def WI (e:Ty) (cols:List (Nat×Ty)) (c:Nat) (e':Ty):Bool:=(match rW c cols with
 |some t=>tyB t e'
 |none=>false)&&(match (gQ e)[c]? with
 |some (.sl t)=>tyB t e'
 |_=>false)
def Jg (e:Ty) (whole:Bool) (x:Dt e) (off:Nat) (ps:List Wd):Dt e:=match whole with
 |true=>jr e ps
 |false=>jr e (aC (dM e x) off ps)
def putRow (e:Ty) (l:List (Dt e)) (n c:Nat) (w:Wd):List (Dt e):=List.set l n (Jg e (Nat.beq 1 (size e)) (l.getD n (dflt e)) c [w])
def lV (o:Nat→TO) (g:Nat):Option TA:=match o g with
 |.arr _ a i e l=>some ⟨a,i,e,l⟩
 |.deep a i e cols l hole=>match hole with
  |none=>some ⟨a,i,e,l⟩
  |some (n,c,d)=>match o d with
   |.arr _ a' i' e' l'=>match WI e cols c e' with
    |true=>some ⟨a||a',i||i',e,putRow e l n c (rV e' l')⟩
    |false=>none
   |_=>none
 |_=>none
def kE:TO→List Nat
 |.deep _ _ _ _ _ hole=>match hole with
  |some (_,_,d)=>[d]
  |none=>[]
 |_=>[]
def Jh (o:Nat→TO) (g:Nat):Option (Ty×Nat):=match o g with
 |.arr _ _ _ e l=>some (e,l.length)
 |.deep _ _ e _ l _=>some (e,l.length)
 |_=>none
def TW.toP (o:Nat→TO) (t:Ty):TW→Option (Dt t×Bool×Bool×List Nat)
 |.p a i w=>match w.zH t with
  |some x=>some (x,a,i,[])
  |none=>none
 |.bC=>match t with
  |.sl e=>some (([]:List (Dt e)),false,false,[])
  |_=>none
 |.own g=>match lV o g with
  |some ⟨a,i,e,l⟩=>match (rV e l).zH t with
   |some x=>some (x,a,i,kE (o g)++[g])
   |none=>none
  |none=>none
 |.vw g lo hi=>match lV o g with
  |some ⟨a,i,e,l⟩=>match (rV e ((l.take hi.toNat).drop lo.toNat)).zH t with
   |some x=>some (x,a,i,kE (o g)++[g])
   |none=>none
  |none=>none
 |_=>none
def oZ (o:Nat→TO):List Ty→List TW→Option (List Wd×Bool×Bool×List Nat)
 | [],[]=>some ([],false,false,[])
 |t::ts,x::xs=>match x.toP o t,oZ o ts xs with
  |some (y,a,i,gs),some (ys,a',i',gs')=>some (⟨t,y⟩::ys,a||a',i||i',gs++gs')
  |_,_=>none
 |_,_=>none
def TV.words:TV→List TW
 |.one x=>[x]
 |.agg xs=>xs
def jY (o:Nat→TO) (g:Nat):Nat×TO:=
 (g,match lV o g with
  |some ⟨a,i,e,l⟩=>.arr true a i e l
  |none=>o g)
def TV.dZ (agg:Bool) (ws:List TW):TS:=match agg with
 |true=>.v (.agg ws)
 |false=>match ws with
  | [x]=>.v (.one x)
  |_=>.no
def TW.solid:TW→Bool
 |.no=>false
 |_=>true
def TV.solid:TV→Bool
 |.one x=>x.solid
 |.agg _=>true
def Ah (place:Nat→Option (Nat×Nat)) (ws:List TW):List (Nat×TS)→Option (List TW)
 | []=>some ws
 |(n,.v x)::rest=>match place n with
  |some (off,size)=>bif Nat.beq x.words.length size&&Nat.ble (off+size) ws.length&&x.solid then Ah place (aC ws off x.words) rest else none
  |none=>none
 |_=>none
def TW.rows (o:Nat→TO) (e:Ty):TW→Option (List (Dt e)×Bool×Bool)
 |.p a i w=>match w.zH (.sl e) with
  |some l=>some (l,a,i)
  |none=>none
 |.bC=>some ([],false,false)
 |.own g=>match o g with
  |.arr _ a i e' l=>match (rV e' l).zH (.sl e) with
   |some l=>some (l,a,i)
   |none=>none
  |_=>none
 |.vw g lo hi=>match o g with
  |.arr _ a i e' l=>match (rV e' ((l.take hi.toNat).drop lo.toNat)).zH (.sl e) with
   |some l=>some (l,a,i)
   |none=>none
  |_=>none
 |_=>none
def OL (o:Nat→TO):TW→Option Int
 |.p _ _ ⟨.sl e,l⟩=>some (List.length (α:=Dt e) l)
 |.bC=>some 0
 |.own g=>match Jh o g with
  |some (_,n)=>some n
  |none=>none
 |.vw g lo hi=>match Jh o g with
  |some _=>some (hi.toNat-lo.toNat:Nat)
  |none=>none
 |_=>none
def TW.live (o:Nat→TO):TW→Bool
 |.box g _=>match o g with
  |.box _=>true
  |_=>false
 |.ep g _ _=>match Jh o g with
  |some _=>true
  |none=>false
 |.sp _ _ _ _ _=>true
 |_=>false
def TW.shift (n:Nat):TW→TW
 |.box g off=>.box g (off+n)
 |.ep g k off=>.ep g k (off+n)
 |.sp a i t x off=>.sp a i t x (off+n)
 |x=>x
def lq (dflt:Int):Option TS→Option Int
 |none=>some dflt
 |some (.v (.one (.p _ _ ⟨.int .i64,x⟩)))=>some x
 |_=>none
def akY (n:Int):Int:=0-n
def eqI (a b:Int):Bool:=decide (a=b)
def inB (n:Int) (len:Nat):Bool:=decide (0≤n)&&decide (n<len)
def BN (lo hi:Int) (len:Nat):Bool:=decide (0≤lo)&&decide (lo≤hi)&&decide (hi≤(len:Int))
def yZ (bytes:Nat) (n c:Int):Bool:=decide (0≤n)&&decide (n≤c)&&decide (bytes*c≤281474976710656)&&decide (c≤9223372036854775807)
def strOf (l:List Int):List UInt8:=l.map fun n=>UInt8.ofNat n.toNat
def ahN {α:Type} (lo hi:Int) (z:α) (l:List α):List α:=List.take lo.toNat l++List.replicate (hi.toNat-lo.toNat) z++List.drop (lo.toNat+(List.replicate (hi.toNat-lo.toNat) z).length) l
def afw (s:List UInt8):List Int:=s.map fun b=>(b.toNat:Int)
def WJ (a b:Int):Int:=if b<a then b else a
def OM (a b:Int):Int:=if b>a then b else a
def ib (b:Bool):Bool:=b
def RD (op:BinOp) (k k':IntKind) (a b:Int):Option (Bool×Wd):=
 match op with
 |.shl=>some (decide (0≤b),ji k (k.wrap (a*2 ^ min b.toNat k.bits)))
 |.shr=>some (decide (0≤b),ji k (a.fdiv (2 ^ min b.toNat k.bits)))
 |_=>match YH k k' with
  |none=>none
  |some _=>match op with
   |.add=>some (true,ji k (k.wrap (a+b)))
   |.sub=>some (true,ji k (k.wrap (a-b)))
   |.mul=>some (true,ji k (k.wrap (a*b)))
   |.quo=>some (!(decide (b=0)),ji k (k.wrap (a.tdiv b)))
   |.rem=>some (!(decide (b=0)),ji k (a.tmod b))
   |.and=>some (true,ji k (bits .and k a b))
   |.or=>some (true,ji k (bits .or k a b))
   |.xor=>some (true,ji k (bits .xor k a b))
   |.andNot=>some (true,ji k (bits .andNot k a b))
   |.eql=>some (true,gG (decide (a=b)))
   |.neq=>some (true,gG (!(decide (a=b))))
   |.lss=>some (true,gG (decide (a<b)))
   |.leq=>some (true,gG (decide (a≤b)))
   |.gtr=>some (true,gG (decide (b<a)))
   |.geq=>some (true,gG (decide (b≤a)))
   |_=>none
def Ai (n m:Nat):Bool:=Nat.ble n (9223372036854775807-m)&&Nat.ble m 9223372036854775807
theorem mW {n m:Nat}:Ai n m=true↔n+m≤9223372036854775807:=by
 unfold Ai
 rw [Bool.and_eq_true,Nat.ble_eq,Nat.ble_eq]
 omega
def RF (op:BinOp) (a b:List UInt8):Option (Bool×Wd):=
 match op with
 |.add=>some (Ai a.length b.length,OJ (a++b))
 |.eql=>some (true,gG (a==b))
 |.neq=>some (true,gG (!(a==b)))
 |.lss=>some (true,gG (Op.bytesLess a b))
 |.leq=>some (true,gG (Op.bytesLess a b||a==b))
 |.gtr=>some (true,gG (!(Op.bytesLess a b||a==b)))
 |.geq=>some (true,gG (!Op.bytesLess a b))
 |_=>none
def LX (op:BinOp) (a b:Bool):Option (Bool×Wd):=
 match op with
 |.eql=>some (true,gG (a==b))
 |.neq=>some (true,gG (a != b))
 |_=>none
def ahO (k:TK) (op:BinOp) (x y:Wd):Option (Bool×Wd):=
 match k,x,y with
 |.int _,⟨.int k,a⟩,⟨.int k',b⟩=>RD op k k' a b
 |.str,⟨.str,a⟩,⟨.str,b⟩=>RF op a b
 |.bool,⟨.bool,a⟩,⟨.bool,b⟩=>LX op a b
 |_,_,_=>none
def unT (op:UnOp) (x:Wd):Option Wd:=
 match op,x with
 |.neg,⟨.int k,n⟩=>some (ji k (k.wrap (akY n)))
 |.not,⟨.bool,b⟩=>some (gG (!b))
 |_,_=>none
def aeD (k k':IntKind) (m n:Int):Option Bool:=
 match YH k k' with
 |some _=>some (decide (m=n))
 |none=>none
def eqStr (a b:List UInt8):Option Bool:=some (a==b)
def ahP (a b:Bool):Option Bool:=some (a==b)
def afx (k:TK) (x y:Wd):Option Bool:=
 match k,x,y with
 |.int _,⟨.int a,m⟩,⟨.int b,n⟩=>aeD a b m n
 |.str,⟨.str,a⟩,⟨.str,b⟩=>eqStr a b
 |.bool,⟨.bool,a⟩,⟨.bool,b⟩=>ahP a b
 |_,_,_=>none
def EK (tt:TT):Nat→List (Nat×TypeId)→List TW→List TW→Option Bool
 |_,[],[],[]=>some true
 |n,(off,t)::fs,.p _ _ x::xs,.p _ _ y::ys=>match tt t with
  |some i=>bif Nat.beq off n&&i.k.flat&&Nat.beq i.size 1 then match afx i.k x y,EK tt (n+1) fs xs ys with
   |some b,some c=>some (b&&c)
   |_,_=>none
   else none
  |none=>none
 |_,_,_,_=>none
def pV.mX (c:Bool×Wd):pV:=.calc c.1 c.2.t c.2.x
def YJ:Wd→Value→Bool
 |⟨.int k,n⟩,.int k' n'=>(match YH k k' with | some _=>true | none=>false)&&eqI n n'
 |⟨.bool,b⟩,.bool b'=>BEq.beq (α:=Bool) b b'
 |⟨.str,s⟩,.string s'=>List.isEmpty (α:=UInt8) s&&s'.data.toList.isEmpty
 |⟨.sl e,l⟩,.slice none 0 0=>List.isEmpty (α:=Dt e) l
 |_,_=>false
def qY:List Wd→List Value→Bool
 | [],[]=>true
 |w::ws,v::vs=>YJ w v&&qY ws vs
 |_,_=>false
def tpw (a i:Bool) (ws:List Wd):List TW:=ws.map (TW.p a i)
def LY (tt:TT) (ety:TypeId→Option Ty) (d:Nat) (o:Nat→TO) (sT:TypeId) (s x:TW):Option pV:=
 match tt sT with
 |some { k:=.slice e,.. }=>match tt e,ety e with
  |some ie,some et=>bif Nat.beq ie.bytes 0||!Nat.beq (size et) ie.size then none else match x.rows o et with
   |none=>none
   |some (new,a',i')=>
    let res (pre:Bool) (old:List (Dt et)) (a i:Bool) (kill:List (Nat×TO)):pV:=
     { pre:=pre&&decide ((old.length+new.length)*ie.bytes≤140737488355328),t:=.sl et,val:=List.append old new,dst:=fun _=>.v (.one (.own d)),upd:=fun y=>kill++[(d,.arr false (a||a') (i||i') et y)],new:=[d] }
    match s with
    |.bC=>some (res true [] false false [])
    |.own g=>match o g with
     |.arr false a i e' l=>match (rV e' l).zH (.sl et) with
      |some l=>bif Nat.beq g d then none else some (res true l a i [(g,.none)])
      |none=>none
     |_=>none
    |.vw g lo hi=>match o g with
     |.arr false a i e' l=>match (rV e' (l.take hi.toNat)).zH (.sl et) with
      |some l=>bif Nat.beq g d then none else some (res (decide (lo=0)) l a i [(g,.none)])
      |none=>none
     |_=>none
    |_=>none
  |_,_=>none
 |_=>none
def Aj (e:Ty):Nat→List Wd→List (Dt e)
 |0,_=>[]
 |n+1,l=>jr e (l.take (size e))::Aj e n (l.drop (size e))
def GV {α:Type} (l:List α):Nat→List α
 |0=>[]
 |n+1=>l++GV l n
def Uo (tt:TT) (o:Nat→TO) (t:TypeId) (x h m:TS):Option pV:=
 match tt t,x,h,m with
 |some { k:=.slice e,.. },.v (.one (.own g)),.v (.one (.p _ _ ⟨.int .i64,h⟩)),.v (.one (.p _ _ ⟨.int .i64,m⟩))=>match tt e,o g with
  |some ie,.arr false _ _ e' l=>bif Nat.beq (size e') ie.size then some { pre:=BN h m l.length,t:=.bool,val:=false,dst:=fun _=>.v (.one (.vw g 0 h)),upd:=fun _=>[],new:=[] } else none
  |_,_=>none
 |some { k:=.slice e,.. },.v (.one .bC),.v (.one (.p _ _ ⟨.int .i64,h⟩)),.v (.one (.p _ _ ⟨.int .i64,m⟩))=>match tt e with
  |some _=>some { pre:=BN h m 0,t:=.bool,val:=false,dst:=fun _=>.v (.one .bC),upd:=fun _=>[],new:=[] }
  |none=>none
 |_,_,_,_=>none
def YK (tt:TT) (o:Nat→TO) (t:TypeId) (x:TS):Option pV:=
 match tt t,x with
 |some { k:=.slice e,.. },.v (.one (.vw g lo hi))=>match tt e,o g with
  |some ie,.arr false a i et l=>bif Nat.beq (size et) ie.size&&Nat.blt 0 ie.size then match oZ o (gQ et) (ie.zero.map WH) with
   |some (ps,false,false,[])=>some { pre:=Nat.blt lo.toNat hi.toNat,t:=.sl et,val:=ahN lo hi (jr et ps) l,dst:=fun _=>.no,upd:=fun y=>[(g,.arr false a i et y)],new:=[] }
   |_=>none
   else none
  |_,_=>none
 |_,_=>none
def bT (tt:TT) (ety:TypeId→Option Ty) (d:Nat) (o:Nat→TO) (f:Operand→TS) (op:Op) (ty:TypeId):Option pV:=
 match op with
 |.move x | .assign x=>match f x with
  |.no=>none
  |s=>some (.pure s)
 |.pick c x y=>match f c with
  |.v (.one (.p _ _ ⟨.bool,b⟩))=>match f x,f y with
   |.v (.one (.p a i w)),.v (.one (.p a' i' w'))=>match w'.zH w.t with
    |some z=>some { pre:=true,t:=w.t,val:=bif b then w.x else z,dst:=fun z=>.v (.one (.p (a||a') (i||i') ⟨w.t,z⟩)),upd:=fun _=>[],new:=[] }
    |none=>none
   |x,y=>match (bif b then x else y) with
    |.no=>none
    |s=>some (.pure s)
  |_=>none
 |.alloc t=>match tt t with
  |some i=>some { pre:=true,t:=.bool,val:=false,dst:=fun _=>.v (.one (.box d 0)),upd:=fun _=>[(d,.box (i.zero.map WH))],new:=[d] }
  |none=>none
 |.box t x=>match tt t,f x with
  |some i,.v x=>bif Nat.beq x.words.length i.size&&x.solid then some { pre:=true,t:=.bool,val:=false,dst:=fun _=>.v (.one (.box d 0)),upd:=fun _=>[(d,.box x.words)],new:=[d] } else none
  |_,_=>none
 |.build t parts=>match tt t with
  |some i=>bif i.known tt then match Ah (placeOf tt t) (i.zero.map WH) (parts.toList.map fun p=>(p.1,f p.2)) with
   |some ws=>some (.pure (.v (.agg ws)))
   |none=>none
   else none
  |none=>none
 |.buildSlice t n parts=>match tt t with
  |some { k:=.slice e,.. }=>match tt e,ety e with
   |some ie,some et=>match Ah (fun m=>if m<n then some (m*ie.size,ie.size) else none) (GV (ie.zero.map WH) n) (parts.toList.map fun p=>(p.1,f p.2)) with
    |some ws=>match oZ o (GV (gQ et) n) ws with
     |some (ps,a,i,gs)=>bif Nat.ble (n+n*ie.size) 16777216&&Nat.beq (size et) ie.size then
       some { pre:=true,t:=.sl et,val:=Aj et n ps,dst:=fun _=>.v (.one (.own d)),upd:=fun y=>gs.map (jY o)++[(d,.arr false a i et y)],new:=[d] } else none
     |none=>none
    |none=>none
   |_,_=>none
  |_=>none
 |.load t x=>match tt t,f x with
  |some i,.v (.one (.box g off))=>match o g with
   |.box ws=>bif Nat.ble (off+i.size) ws.length&&Nat.blt 0 i.size then some (.pure (TV.dZ i.agg ((ws.drop off).take i.size))) else none
   |_=>none
  |some i,.v (.one (.ep g n off))=>match o g with
   |.arr _ a i' e l=>bif Nat.ble (off+i.size) (size e)&&Nat.blt 0 i.size&&qY (((dM e (dflt e)).drop off).take i.size) i.zero then
     some { pre:=true,t:=e,val:=l.getD n.toNat (dflt e),dst:=fun z=>TV.dZ i.agg (tpw a i' (((dM e z).drop off).take i.size)),upd:=fun _=>[],new:=[] } else none
   |_=>none
  |some i,.v (.one (.sp a i' e x off))=>bif Nat.blt 0 i.size&&Nat.ble (off+i.size) (size e) then
    some (.pure (TV.dZ i.agg (tpw a i' (((dM e x).drop off).take i.size)))) else none
  |_,_=>none
 |.store t x y=>match tt t,f x,f y with
  |some i,.v (.one (.box g off)),.v y=>match o g with
   |.box ws=>bif Nat.ble (off+i.size) ws.length&&Nat.beq y.words.length i.size&&y.solid then
     some { pre:=true,t:=.bool,val:=false,dst:=fun _=>.no,upd:=fun _=>[(g,.box (aC ws off y.words))],new:=[] } else none
   |_=>none
  |some i,.v (.one (.ep g n off)),.v y=>match o g with
   |.arr false a i' e l=>match oZ o (((gQ e).drop off).take i.size) y.words with
    |some (ps,a',i'',gs)=>bif Nat.ble (off+i.size) (size e)&&Nat.beq y.words.length i.size&&y.solid&&!dS g gs then
     some { pre:=true,t:=.sl e,val:=List.set l n.toNat (Jg e (Nat.beq i.size (size e)) (l.getD n.toNat (dflt e)) off ps),dst:=fun _=>.no,upd:=fun z=>gs.map (jY o)++[(g,.arr false (a||a') (i'||i'') e z)],new:=[] } else none
    |none=>none
   |_=>none
  |_,_,_=>none
 |.nilCheck x=>match f x with
  |.v (.one x)=>bif x.live o then some (.pure (.v (.one x))) else none
  |_=>none
 |.binOp op t x y _=>match f x,f y with
  |.v (.one (.p _ _ x)),.v (.one (.p _ _ y))=>match tt t with
   |some i=>match ahO i.k op x y with
    |some c=>some (.mX c)
    |none=>none
   |none=>none
  |.v (.agg xs),.v (.agg ys)=>match tt t with
   |some i=>match EK tt 0 i.k.parts xs ys,abr op with
    |some b,some true=>bif i.eq then some (.mX (true,gG b)) else none
    |some b,some false=>bif i.eq then some (.mX (true,gG (!b))) else none
    |_,_=>none
   |none=>none
  |_,_=>none
 |.unOp op _ x=>match f x with
  |.v (.one (.p _ _ x))=>match unT op x with
   |some c=>some (.mX (true,c))
   |none=>none
  |_=>none
 |.convert s t x=>match tt s,tt t,f x with
  |some { k:=.int _,.. },some { k:=.int k,.. },.v (.one (.p _ _ ⟨.int _,x⟩))=>some (.calc true (.int k) (k.wrap x))
  |some { k:=.slice e,.. },some { k:=.str,.. },.v (.one x)=>match tt e with
   |some { k:=.int .u8,.. }=>match x.rows o (.int .u8) with
    |some (l,_,_)=>some (.calc true .str (strOf l))
    |none=>none
   |_=>none
  |some { k:=.str,.. },some { k:=.slice e,.. },.v (.one (.p _ _ ⟨.str,x⟩))=>match tt e with
   |some { k:=.int .u8,.. }=>some (.calc true (.sl (.int .u8)) (afw x))
   |_=>none
  |_,_,_=>none
 |.makeSlice t n c=>match tt t,f n,f c with
  |some { k:=.slice e,.. },.v (.one (.p _ _ ⟨.int .i64,n⟩)),.v (.one (.p _ _ ⟨.int .i64,c⟩))=>match tt e,ety e with
   |some ie,some et=>match oZ o (gQ et) (ie.zero.map WH) with
    |some (ps,false,false,[])=>bif Nat.blt 0 ie.size&&Nat.beq (size et) ie.size then
     some { pre:=yZ ie.bytes n c,t:=.sl et,val:=List.replicate (Int.toNat n) (jr et ps),dst:=fun _=>.v (.one (.own d)),upd:=fun y=>[(d,.arr false false false et y)],new:=[d] } else none
    |_=>none
   |_,_=>none
  |_,_,_=>none
 |.slice t x lo hi none=>match tt t,f x with
  |some { k:=.slice e,.. },.v (.one x)=>match tt e,ety e,OL o x with
   |some ie,some et,some len=>match lq 0 (lo.map f),lq len (hi.map f) with
    |some lo,some hi=>match x with
     |.own g=>match Jh o g with
      |some (e',l)=>bif Nat.beq (size e') ie.size then
        some { pre:=BN lo hi l,t:=.bool,val:=false,dst:=fun _=>.v (.one (.vw g lo hi)),upd:=fun _=>[],new:=[] } else none
      |none=>none
     |.p a i w=>match w.zH (.sl et) with
      |some l=>bif Nat.beq (size et) ie.size then some { pre:=BN lo hi (List.length (α:=Dt et) l),t:=.sl et,val:=List.drop lo.toNat (List.take (α:=Dt et) hi.toNat l),dst:=fun z=>.v (.one (.p a i ⟨.sl et,z⟩)),upd:=fun _=>[],new:=[] } else none
      |none=>none
     |.bC=>some { pre:=decide (lo=0)&&decide (hi=0),t:=.bool,val:=false,dst:=fun _=>.v (.one .bC),upd:=fun _=>[],new:=[] }
     |_=>none
    |_,_=>none
   |_,_,_=>none
  |some { k:=.str,.. },.v (.one (.p _ _ ⟨.str,y⟩))=>match lq 0 (lo.map f),lq (List.length (α:=UInt8) y) (hi.map f) with
   |some lo,some hi=>some (.calc (BN lo hi (List.length (α:=UInt8) y)) .str (List.drop lo.toNat (List.take (α:=UInt8) hi.toNat y)))
   |_,_=>none
  |_,_=>none
 |.slice t x none (some hi) (some mx)=>Uo tt o t (f x) (f hi) (f mx)
 |.fieldAddr t x n=>match tt t,placeOf tt t n,f x with
  |some { k:=.struct _,.. },some (off',sz'),.v (.one x)=>bif Nat.blt 0 sz'&&x.live o then some (.pure (.v (.one (x.shift off')))) else none
  |_,_,_=>none
 |.field t x n=>match tt t,f x with
  |some { k:=.struct fs,.. },.v (.agg ws)=>match fs[n]? with
   |some (off,u)=>match tt u with
    |some iu=>bif Nat.ble (off+iu.size) ws.length&&Nat.blt 0 iu.size then some (.pure (TV.dZ iu.agg ((ws.drop off).take iu.size))) else none
    |none=>none
   |none=>none
  |_,_=>none
 |.indexAddr t x ix=>match tt t,f x,f ix with
  |some { k:=.slice e,.. },.v (.one x),.v (.one (.p _ _ ⟨.int _,n⟩))=>match tt e,ety e,x with
   |some ie,some et,.own g=>match Jh o g with
    |some (e',l)=>bif Nat.beq (size e') ie.size then
      some { pre:=inB n l,t:=.bool,val:=false,dst:=fun _=>.v (.one (.ep g (Int.toNat n:Nat) 0)),upd:=fun _=>[],new:=[] } else none
    |none=>none
   |some ie,some et,.vw g lo hi=>match Jh o g with
    |some (e',_)=>bif Nat.beq (size e') ie.size then
      some { pre:=inB n (hi.toNat-lo.toNat),t:=.bool,val:=false,dst:=fun _=>.v (.one (.ep g (lo.toNat+Int.toNat n:Nat) 0)),upd:=fun _=>[],new:=[] } else none
    |none=>none
   |some ie,some et,.p a i w=>match w.zH (.sl et) with
    |some l=>bif Nat.beq (size et) ie.size then some { pre:=inB n (List.length (α:=Dt et) l),t:=et,val:=List.getD (α:=Dt et) l (Int.toNat n) (dflt et),dst:=fun z=>.v (.one (.sp a i et z 0)),upd:=fun _=>[],new:=[] } else none
    |none=>none
   |_,_,_=>none
  |some { k:=.arr m e,.. },.v (.one (.gl g)),.v (.one (.p _ _ ⟨.int _,n⟩))=>match tt e,RE.G g with
   |some ie,some ⟨et,l⟩=>bif Nat.beq (size et) ie.size&&Nat.beq (List.length (α:=Dt et) l) m then some { pre:=inB n m,t:=et,val:=List.getD (α:=Dt et) l (Int.toNat n) (dflt et),dst:=fun z=>.v (.one (.sp false false et z 0)),upd:=fun _=>[],new:=[] } else none
   |_,_=>none
  |some { k:=.arr m e,.. },.v (.one x),.v (.one (.p _ _ ⟨.int _,n⟩))=>match tt e with
   |some ie=>bif inB n m&&x.live o then some (.pure (.v (.one (x.shift (Int.toNat n*ie.size))))) else none
   |none=>none
  |_,_,_=>none
 |.index t x ix=>match tt t,f x,f ix with
  |some { k:=.str,.. },.v (.one (.p _ _ ⟨.str,s⟩)),.v (.one (.p _ _ ⟨.int _,n⟩))=>
    some (.calc (inB n (List.length (α:=UInt8) s)) (.int .u8) ((List.getD (α:=UInt8) s (Int.toNat n) 0).toNat:Int))
  |_,_,_=>none
 |.range t x=>match tt t,f x with
  |some { k:=.str,.. },.v (.one (.p _ _ ⟨.str,s⟩))=>some { pre:=true,t:=.str,val:=s,dst:=fun _=>.v (.one (.lF d)),upd:=fun z=>[(d,.it z 0)],new:=[d] }
  |_,_=>none
 |.extract t n=>match f t with
  |.ku xs=>match xs[n]? with
   |some x=>some (.pure (.v x))
   |none=>none
  |_=>none
 |.makeFunc (.func g) first caps=>bif Nat.beq first.size 0 then
   match caps.toList.mapM (fun x=>match f x with | .v (.one w)=>some w | _=>none) with
   |some ws=>some (.pure (.v (.one (.clo g ws))))
   |none=>none
   else none
 |.call { callee:=.builtin .len,args,argTypes }=>match args.toList,argTypes.toList with
  | [x],[t]=>match tt t,f x with
   |some { k:=.slice _,.. },.v (.one x)=>match OL o x with
    |some n=>some (.calc true (.int .i64) n)
    |none=>none
   |some { k:=.str,.. },.v (.one (.p _ _ ⟨.str,s⟩))=>some (.calc true (.int .i64) (List.length (α:=UInt8) s:Int))
   |_,_=>none
  |_,_=>none
 |.call { callee:=.builtin .append,args,argTypes }=>match args.toList,argTypes.toList with
  | [s,x],sT::xT::_=>match tt xT,f s,f x with
   |some { k:=.slice _,.. },.v (.one s),.v (.one x)=>LY tt ety d o sT s x
   |_,_,_=>none
  |_,_=>none
 |.call { callee:=.builtin .clear,args,argTypes }=>match args.toList,argTypes.toList with
  | [x],t::_=>YK tt o t (f x)
  |_,_=>none
 |.call { callee:=.builtin .min,args,.. }=>match args.toList with
  | [x,y]=>match f x,f y with
   |.v (.one (.p _ _ ⟨.int k,x⟩)),.v (.one (.p _ _ ⟨.int _,y⟩))=>some (.calc true (.int k) (WJ x y))
   |_,_=>none
  | [x,y,z]=>match f x,f y,f z with
   |.v (.one (.p _ _ ⟨.int k,x⟩)),.v (.one (.p _ _ ⟨.int _,y⟩)),.v (.one (.p _ _ ⟨.int _,z⟩))=>some (.calc true (.int k) (WJ (WJ x y) z))
   |_,_,_=>none
  |_=>none
 |.call { callee:=.builtin .max,args,.. }=>match args.toList with
  | [x,y]=>match f x,f y with
   |.v (.one (.p _ _ ⟨.int k,x⟩)),.v (.one (.p _ _ ⟨.int _,y⟩))=>some (.calc true (.int k) (OM x y))
   |_,_=>none
  | [x,y,z]=>match f x,f y,f z with
   |.v (.one (.p _ _ ⟨.int k,x⟩)),.v (.one (.p _ _ ⟨.int _,y⟩)),.v (.one (.p _ _ ⟨.int _,z⟩))=>some (.calc true (.int k) (OM (OM x y) z))
   |_,_,_=>none
  |_=>none
 |_=>none
end
end Go.Fg

namespace Go.Fg
open Go.Fw
set_option linter.unusedVariables false
set_option linter.unusedSectionVars false
set_option linter.unusedSimpArgs false
section
variable [RE] {o:Nat→TO} {tt:TT} {ety:TypeId→Option Ty}
theorem dL (e:Ty) (l:List (Dt e)):(ay e l).length=l.length:=by simp [ay]
theorem qx (e:Ty) (l:List (Dt e)) (lo hi:Int):((ay e l).take (P.nat (.int .i64 hi))).drop (P.nat (.int .i64 lo))=ay e ((l.take hi.toNat).drop lo.toNat):=by
 simp [ay,P.nat,P.num,List.map_take,List.map_drop]
theorem tZ (e:Ty) (l:List (Dt e)) (hi:Int):(ay e l).take (P.nat (.int .i64 hi))=ay e (l.take hi.toNat):=by
 simp [ay,P.nat,P.num,List.map_take]
theorem fF {g:Nat} {fz a i:Bool} {e:Ty} {l:List (Dt e)} (h:o g=.arr fz a i e l):aZ o g=.arr fz a i (size e) (ay e l):=by simp [aZ,h,cO]
theorem mY {g:Nat} {ws:List TW} (h:o g=.box ws):aZ o g=.box (ws.map aY):=by simp [aZ,h,cO]
theorem nH {g n:Nat} {e:Ty} (h:Jh o g=some (e,n)):(aZ o g).dim=some (size e,n):=by
 unfold Jh at h
 unfold aZ
 cases ho:o g with
 |arr fz a i e l=>rw [ho] at h;cases h;simp [cO,O.dim,ay]
 |deep a i e cols l hole=>rw [ho] at h;cases h;simp [cO,O.dim,ay]
 |_=>rw [ho] at h;cases h
theorem wo {a b:Ty} (h:tyB a b=true):a=b:=by
 unfold tyB at h
 split at h
 ·rename_i p _;exact p.down
 ·cases h
theorem BO {c:Nat} :∀{cols:List (Nat×Ty)} {t:Ty},rW c cols=some t→(gy cols).lookup c=some (size t)
 | [],t,h=>by cases h
 |(k,u)::r,t,h=>by
  simp only [rW] at h
  simp only [gy,List.map_cons,List.lookup]
  by_cases e:c=k
  ·subst e
   have:Nat.beq c c=true:=by simp
   rw [this] at h
   simp only [cond_true,Option.some.injEq] at h;subst h
   simp
  ·have e1:Nat.beq c k=false:=by cases hb:Nat.beq c k with | false=>rfl | true=>exact absurd (Nat.eq_of_beq_eq_true hb) e
   have e2:(c==k)=false:=by simpa using e
   rw [e1] at h
   rw [e2]
   exact BO h
theorem GX {c:Nat} :∀{cols:List (Nat×Ty)},rW c cols=none→(gy cols).lookup c=none
 | [],h=>rfl
 |(k,u)::r,h=>by
  simp only [rW] at h
  simp only [gy,List.map_cons,List.lookup]
  by_cases e:c=k
  ·subst e
   have:Nat.beq c c=true:=by simp
   rw [this] at h;cases h
  ·have e1:Nat.beq c k=false:=by cases hb:Nat.beq c k with | false=>rfl | true=>exact absurd (Nat.eq_of_beq_eq_true hb) e
   have e2:(c==k)=false:=by simpa using e
   rw [e1] at h
   rw [e2]
   exact GX h
theorem rX {e e':Ty} {cols:List (Nat×Ty)} {c:Nat} (h:WI e cols c e'=true):(gy cols).lookup c=some (size e')∧(gQ e)[c]?=some (.sl e')∧c<size e:=by
 simp only [WI,Bool.and_eq_true] at h
 obtain ⟨h1,h2⟩:=h
 have k1:rW c cols=some e':=by
  split at h1
  ·rename_i t ht;rw [ht,wo h1]
  ·cases h1
 have k2:(gQ e)[c]?=some (.sl e'):=by
  split at h2
  ·rename_i t ht;rw [ht,wo h2]
  ·cases h2
 exact ⟨BO k1,k2,by have:=(List.getElem?_eq_some_iff.1 k2).1;rwa [iy] at this⟩
theorem yu {α β:Type} (f:α→β) (l:List α) (off:Nat) (new:List α):(aC l off new).map f=aC (l.map f) off (new.map f):=by
 simp [aC,List.map_take,List.map_drop]
theorem YL {e:Ty} {x:Dt e} {off:Nat} {ps:List Wd} (hty:ps.map (·.t)=((gQ e).drop off).take ps.length) (hlt:off+ps.length≤size e):iY e (Jg e (Nat.beq ps.length (size e)) x off ps)=aC (iY e x) off (ps.map enc1):=by
 have hty':(aC (dM e x) off ps).map (·.t)=gQ e:=by
  have e0:gQ e=(gQ e).take off++(((gQ e).drop off).take ps.length++(gQ e).drop (off+ps.length)):=by
   rw [←List.drop_drop,List.take_append_drop,List.take_append_drop]
  simp only [aC,List.map_append,List.map_take,List.map_drop,oW,hty,List.append_assoc]
  exact e0.symm
 unfold Jg
 cases hc:Nat.beq ps.length (size e) with
 |true=>
  have hc:=Nat.eq_of_beq_eq_true hc
  have h0:off=0:=by omega
  subst h0
  have e2:aC (dM e x) 0 ps=ps:=by
   simp only [aC,List.take_zero,List.nil_append,Nat.zero_add]
   rw [List.drop_of_length_le (by rw [oD];omega),List.append_nil]
  have e3:aC (iY e x) 0 (ps.map enc1)=ps.map enc1:=by rw [eU,←yu,e2]
  rw [e2] at hty'
  rw [e3]
  exact qw hty'
 |false=>
  simp only
  rw [qw hty',yu,←eU]
theorem DN {e:Ty} {l:List (Dt e)} {n off:Nat} {ps:List Wd} (hty:ps.map (·.t)=((gQ e).drop off).take ps.length) (hlt:off+ps.length≤size e) :
  ay e (List.set l n (Jg e (Nat.beq ps.length (size e)) (l.getD n (dflt e)) off ps))=(ay e l).set n (aC ((ay e l).getD n []) off (ps.map enc1)):=by
 have e0 :∀x,ay e (List.set l n x)=(ay e l).set n (iY e x):=fun x=>by simp [ay,List.map_set]
 rw [e0]
 by_cases hn:n<l.length
 ·have e1:(ay e l).getD n []=iY e (l.getD n (dflt e)):=by simp [ay,List.getD_eq_getElem?_getD,hn]
  rw [e1,YL hty hlt]
 ·have e1 :∀z,(ay e l).set n z=ay e l:=fun z=>List.set_eq_of_length_le (by rw [dL];omega)
  rw [e1,e1]
theorem y7 {e e':Ty} {l:List (Dt e)} {n c:Nat} {l':List (Dt e')} (hc:(gQ e)[c]?=some (.sl e')):ay e (putRow e l n c (rV e' l'))=gW (ay e l) n c (P.dX (size e') (ay e' l')):=by
 have hlt:c<size e:=by have:=(List.getElem?_eq_some_iff.1 hc).1;rwa [iy] at this
 have:=DN (e:=e) (l:=l) (n:=n) (off:=c) (ps:=[rV e' l']) (by
  show [Ty.sl e']=((gQ e).drop c).take 1
  have hlt':c<(gQ e).length:=by rw [iy];exact hlt
  rw [List.drop_eq_getElem_cons hlt']
  rw [List.getElem?_eq_getElem hlt'] at hc
  simp only [Option.some.injEq] at hc
  rw [hc];rfl) (by simp only [List.length_singleton];omega)
 exact this
theorem mZ {g:Nat} {a i:Bool} {e:Ty} {l:List (Dt e)} (h:lV o g=some ⟨a,i,e,l⟩):plainO (aZ o) g=some (a,i,size e,ay e l)∧(aZ o g).names=kE (o g):=by
 unfold lV at h
 cases ho:o g with
 |arr fz a' i' e' l'=>
  rw [ho] at h;cases h
  have:=fF ho
  exact ⟨by simp [plainO,this],by rw [this];rfl⟩
 |deep a0 i0 e0 cols l0 hole=>
  rw [ho] at h
  have hg:aZ o g=.deep a0 i0 (size e0) (gy cols) (ay e0 l0) hole:=by simp [aZ,ho,cO]
  rcases hole with _ | ⟨n,c,d⟩
  ·cases h
   exact ⟨by simp [plainO,hg],by rw [hg];rfl⟩
  ·simp only at h
   cases hd:o d with
   |arr fz a' i' e' l'=>
    rw [hd] at h
    simp only at h
    split at h
    ·rename_i hc
     cases h
     obtain ⟨k1,k2,k3⟩:=rX hc
     refine ⟨?_,by rw [hg];rfl⟩
     simp only [plainO,hg,fF hd]
     rw [if_pos ⟨k1,k3⟩,y7 k2]
    ·cases h
   |_=>rw [hd] at h;cases h
 |_=>rw [ho] at h;cases h
theorem m_ {e:Ty} {l:List (Dt e)} {t:Ty} {x:Dt t} (h:(rV e l).zH t=some x) :∃h:Ty.sl e=t,x=h▸l:=by
 have:=fB h
 unfold rV at this
 cases this
 exact ⟨rfl,rfl⟩
theorem LZ {t:Ty} {x:TW} {y:Dt t} {a i:Bool} {gs:List Nat} (h:x.toP o t=some (y,a,i,gs)):(aY x).toP (aZ o)=some (enc1 ⟨t,y⟩,a,i,gs):=by
 cases x with
 |p a' i' w=>
  simp only [TW.toP] at h
  split at h
  ·rename_i x hx
   simp only [Option.some.injEq,Prod.mk.injEq] at h
   obtain ⟨rfl,rfl,rfl,rfl⟩:=h
   rw [fB hx];rfl
  ·cases h
 |bC=>
  simp only [TW.toP] at h
  split at h
  ·simp only [Option.some.injEq,Prod.mk.injEq] at h
   obtain ⟨rfl,rfl,rfl,rfl⟩:=h
   rfl
  ·cases h
 |own g=>
  simp only [TW.toP] at h
  split at h
  ·rename_i a' i' e l hg
   split at h
   ·rename_i z hz
    simp only [Option.some.injEq,Prod.mk.injEq] at h
    obtain ⟨rfl,rfl,rfl,rfl⟩:=h
    rw [←fB hz]
    obtain ⟨k1,k2⟩:=mZ hg
    simp only [aY,W.toP,k1,k2];rfl
   ·cases h
  ·cases h
 |vw g lo hi=>
  simp only [TW.toP] at h
  split at h
  ·rename_i a' i' e l hg
   split at h
   ·rename_i z hz
    simp only [Option.some.injEq,Prod.mk.injEq] at h
    obtain ⟨rfl,rfl,rfl,rfl⟩:=h
    rw [←fB hz]
    obtain ⟨k1,k2⟩:=mZ hg
    simp only [aY,W.toP,k1,k2,qx];rfl
   ·cases h
  ·cases h
 |_=>simp [TW.toP] at h
theorem wu :∀{ts:List Ty} {xs:List TW} {ys:List Wd} {a i:Bool} {gs:List Nat},oZ o ts xs=some (ys,a,i,gs)→qH (aZ o) (xs.map aY)=some (ys.map enc1,a,i,gs)∧ys.map (·.t)=ts
 | [],[],ys,a,i,gs,h=>by
  simp only [oZ,Option.some.injEq,Prod.mk.injEq] at h
  obtain ⟨rfl,rfl,rfl,rfl⟩:=h
  exact ⟨rfl,rfl⟩
 | [],x::xs,ys,a,i,gs,h=>by simp [oZ] at h
 |t::ts,[],ys,a,i,gs,h=>by simp [oZ] at h
 |t::ts,x::xs,ys,a,i,gs,h=>by
  simp only [oZ] at h
  split at h
  ·rename_i h1 h2
   simp only [Option.some.injEq,Prod.mk.injEq] at h
   obtain ⟨rfl,rfl,rfl,rfl⟩:=h
   obtain ⟨k1,k2⟩:=wu h2
   refine ⟨?_,by simp only [List.map_cons,k2]⟩
   simp only [List.map_cons,qH,LZ h1,k1]
  ·cases h
def gq (l:List (Nat×TO)):List (Nat×O):=l.map fun p=>(p.1,cO p.2)
def Pl (o:Nat→TO) (gs:List Nat):Prop :=∀g∈gs,∃p,lV o g=some p
theorem Pl.append {a b:List Nat} (h:Pl o a) (h':Pl o b):Pl o (a++b):=fun g hg=>by
 rcases List.mem_append.1 hg with x | x
 ·exact h g x
 ·exact h' g x
theorem Pl.nil:Pl o []:=fun g hg=>by cases hg
theorem JO {g:Nat} {p:TA} (h:lV o g=some p):Pl o (kE (o g)++[g]):=by
 refine Pl.append (fun d hd => ?_) (fun g' hg'=>by rw [List.mem_singleton] at hg';subst hg';exact ⟨p,h⟩)
 unfold lV at h
 cases ho:o g with
 |deep a i e cols l hole=>
  rw [ho] at h hd
  rcases hole with _ | ⟨n,c,d'⟩
  ·cases hd
  ·simp only [kE,List.mem_singleton] at hd
   subst hd
   simp only at h
   cases hod:o d with
   |arr fz a' i' e' l'=>exact ⟨⟨a',i',e',l'⟩,by simp only [lV,hod]⟩
   |_=>rw [hod] at h;cases h
 |_=>rw [ho] at hd;cases hd
theorem RG {t:Ty} {x:TW} {y:Dt t} {a i:Bool} {gs:List Nat} (h:x.toP o t=some (y,a,i,gs)):Pl o gs:=by
 cases x with
 |p a' i' w=>
  simp only [TW.toP] at h
  split at h
  ·simp only [Option.some.injEq,Prod.mk.injEq] at h;obtain ⟨_,_,_,rfl⟩:=h;exact Pl.nil
  ·cases h
 |bC=>
  simp only [TW.toP] at h
  split at h
  ·simp only [Option.some.injEq,Prod.mk.injEq] at h;obtain ⟨_,_,_,rfl⟩:=h;exact Pl.nil
  ·cases h
 |own g=>
  simp only [TW.toP] at h
  split at h
  ·rename_i hg
   split at h
   ·simp only [Option.some.injEq,Prod.mk.injEq] at h;obtain ⟨_,_,_,rfl⟩:=h;exact JO hg
   ·cases h
  ·cases h
 |vw g lo hi=>
  simp only [TW.toP] at h
  split at h
  ·rename_i hg
   split at h
   ·simp only [Option.some.injEq,Prod.mk.injEq] at h;obtain ⟨_,_,_,rfl⟩:=h;exact JO hg
   ·cases h
  ·cases h
 |_=>simp [TW.toP] at h
theorem L6 :∀{ts:List Ty} {xs:List TW} {ys:List Wd} {a i:Bool} {gs:List Nat},oZ o ts xs=some (ys,a,i,gs)→Pl o gs
 | [],[],ys,a,i,gs,h=>by simp only [oZ,Option.some.injEq,Prod.mk.injEq] at h;obtain ⟨_,_,_,rfl⟩:=h;exact Pl.nil
 | [],x::xs,ys,a,i,gs,h=>by simp [oZ] at h
 |t::ts,[],ys,a,i,gs,h=>by simp [oZ] at h
 |t::ts,x::xs,ys,a,i,gs,h=>by
  simp only [oZ] at h
  split at h
  ·rename_i h1 h2
   simp only [Option.some.injEq,Prod.mk.injEq] at h
   obtain ⟨_,_,_,rfl⟩:=h
   exact (RG h1).append (L6 h2)
  ·cases h
theorem GY {g:Nat} (h :∃p,lV o g=some p):Fw.freeze (aZ o) g=((jY o g).1,cO (jY o g).2):=by
 obtain ⟨⟨a,i,e,l⟩,hp⟩:=h
 simp only [Fw.freeze,jY,hp,(mZ hp).1];rfl
theorem nI {gs:List Nat} (h:Pl o gs):gs.map (Fw.freeze (aZ o))=gq (gs.map (jY o)):=by
 simp only [gq,List.map_map]
 exact List.map_congr_left fun g hg=>GY (h g hg)
theorem rY (x:TV):(iQ x).words=x.words.map aY:=by cases x<;>rfl
theorem rZ (x:TV) (h:x.solid=true):(iQ x).solid=true:=by
 cases x with
 |one x=>cases x<;>first | rfl | (simp [TV.solid,TW.solid] at h)
 |agg xs=>rfl
theorem jQ (agg:Bool) (ws:List TW):encS (TV.dZ agg ws)=V.dZ agg (ws.map aY):=by
 cases agg with
 |true=>rfl
 |false=>
  match ws with
  | []=>rfl
  | [x]=>rfl
  |x::y::ws=>rfl
theorem n_ {α β:Type} (f:α→β) (l:List α) (off:Nat) (new:List α):(aC l off new).map f=aC (l.map f) off (new.map f):=by
 simp [aC,List.map_take,List.map_drop]
theorem Ak {place:Nat→Option (Nat×Nat)} :∀{ps:List (Nat×TS)} {ws r:List TW},Ah place ws ps=some r→kJ place (ws.map aY) (ps.map fun p=>(p.1,encS p.2))=some (r.map aY)
 | [],ws,r,h=>by simp only [Ah,Option.some.injEq] at h;subst h;rfl
 |(n,.v x)::ps,ws,r,h=>by
  simp only [Ah] at h
  split at h
  ·rename_i off size hp
   cases hb:(Nat.beq x.words.length size&&Nat.ble (off+size) ws.length&&x.solid) with
   |false=>rw [hb] at h;cases h
   |true=>
    rw [hb,cond_true] at h
    simp only [Bool.and_eq_true] at hb
    have h1:=Nat.eq_of_beq_eq_true hb.1.1
    have h2:=Nat.le_of_ble_eq_true hb.1.2
    have ih:=Ak h
    rw [n_] at ih
    simp only [List.map_cons,encS,kJ,hp,rY,List.length_map]
    rw [if_pos ⟨h1,h2,rZ x hb.2⟩]
    exact ih
  ·cases h
 |(n,.ku xs)::ps,ws,r,h=>by simp [Ah] at h
 |(n,.no)::ps,ws,r,h=>by simp [Ah] at h
theorem abJ (sz:Nat) (l:List (List P)):(P.dX sz l).QG sz:=by cases l<;>simp [P.dX,P.QG]
theorem GZ (e:Ty) (l:List (Dt e)):(enc1 ⟨.sl e,l⟩).QG (size e):=abJ _ _
theorem OO {e:Ty} {x:TW} {l:List (Dt e)} {a i:Bool} (h:x.rows o e=some (l,a,i)) :∃ask,(aY x).rows (aZ o) (size e)=some (ask,ay e l,a,i)∧ask:=by
 cases x with
 |p a' i' w=>
  simp only [TW.rows] at h
  split at h
  ·rename_i y hy
   simp only [Option.some.injEq,Prod.mk.injEq] at h
   obtain ⟨rfl,rfl,rfl⟩:=h
   rw [fB hy]
   exact ⟨(enc1 ⟨.sl e,l⟩).QG (size e),by simp only [aY,W.rows,g_],GZ _ _⟩
  ·cases h
 |bC=>
  simp only [TW.rows,Option.some.injEq,Prod.mk.injEq] at h
  obtain ⟨rfl,rfl,rfl⟩:=h
  exact ⟨_,rfl,trivial⟩
 |own g=>
  simp only [TW.rows] at h
  split at h
  ·rename_i fz a' i' e' l' hg
   split at h
   ·rename_i z hz
    simp only [Option.some.injEq,Prod.mk.injEq] at h
    obtain ⟨rfl,rfl,rfl⟩:=h
    obtain ⟨he,hz⟩:=m_ hz
    cases he
    subst hz
    exact ⟨True,by simp only [aY,W.rows,fF hg,if_true],trivial⟩
   ·cases h
  ·cases h
 |vw g lo hi=>
  simp only [TW.rows] at h
  split at h
  ·rename_i fz a' i' e' l' hg
   split at h
   ·rename_i z hz
    simp only [Option.some.injEq,Prod.mk.injEq] at h
    obtain ⟨rfl,rfl,rfl⟩:=h
    obtain ⟨he,hz⟩:=m_ hz
    cases he
    subst hz
    exact ⟨True,by simp only [aY,W.rows,fF hg,if_true,qx],trivial⟩
   ·cases h
  ·cases h
 |_=>simp [TW.rows] at h
theorem RH (sz:Nat) (l:List (List P)):(P.dX sz l).isSlice:=by cases l<;>simp [P.dX,P.isSlice]
theorem afy (sz:Nat) (l:List (List P)):(P.dX sz l).len=.int .i64 l.length:=by cases l<;>rfl
theorem abK (e:Ty) (l:List (Dt e)):(enc1 ⟨.sl e,l⟩).len=.int .i64 l.length:=by rw [EU,afy,dL]
theorem Ur {x:TW} {n:Int} (h:OL o x=some n) :∃ask,lenOf (aZ o) (aY x)=some (ask,.int .i64 n)∧ask:=by
 cases x with
 |p a i w=>
  obtain ⟨t,x⟩:=w
  cases t<;>simp only [OL] at h<;>try (cases h;done)
  rename_i e
  simp only [Option.some.injEq] at h;subst h
  refine ⟨(enc1 ⟨.sl e,x⟩).isSlice,?_,RH _ _⟩
  have e1:(enc1 ⟨.sl e,x⟩).len=.int .i64 (List.length (α:=Dt e) x):=abK e x
  simp only [aY,lenOf]
  rw [e1]
 |bC=>simp only [OL,Option.some.injEq] at h;subst h;exact ⟨_,rfl,trivial⟩
 |own g=>
  simp only [OL] at h
  split at h
  ·rename_i hg
   simp only [Option.some.injEq] at h;subst h
   exact ⟨True,by simp only [aY,lenOf,nH hg],trivial⟩
  ·cases h
 |vw g lo hi=>
  simp only [OL] at h
  split at h
  ·rename_i hg
   simp only [Option.some.injEq] at h;subst h
   rename_i x
   obtain ⟨e,n⟩:=x
   exact ⟨True,by simp only [aY,lenOf,nH hg,P.nat,P.num],trivial⟩
  ·cases h
 |_=>simp [OL] at h
theorem G5 {x:TW} (h:x.live o=true):(aY x).live (aZ o)=true:=by
 cases x with
 |box g off=>
  simp only [TW.live] at h
  split at h
  ·rename_i hg;simp only [aY,W.live,mY hg]
  ·cases h
 |ep g n off=>
  simp only [TW.live] at h
  split at h
  ·rename_i x hg
   obtain ⟨e,n⟩:=x
   simp only [aY,W.live,nH hg];rfl
  ·cases h
 |sp=>rfl
 |_=>simp [TW.live] at h
theorem JQ (n:Nat) (x:TW):aY (x.shift n)=(aY x).shift n:=by cases x<;>simp [TW.shift,aY,W.shift]
theorem YM (v:Value):aY (WH v)=cv v:=by
 unfold WH
 split
 ·rfl
 ·rfl
 ·rfl
 ·rfl
 ·rename_i x h1 h2 h3 h4
  show W.p false false (P.opq v)=cv v
  unfold cv
  split
  ·exact (h1 _ _ rfl).elim
  ·exact (h2 _ rfl).elim
  ·exact (h3 _ rfl).elim
  ·exact (h4 rfl).elim
  ·rfl
theorem qy (l:List Value):(l.map WH).map aY=l.map cv:=by
 rw [List.map_map];exact List.map_congr_left fun v _=>YM v
theorem WL (v:Value):encS (Rz v)=sO v:=by
 unfold Rz
 split
 ·rename_i cs
  unfold sO
  have e:(cs.toList.map WH).map aY=cs.toList.map cv:=qy _
  cases h:cs.toList.all Value.oneCell'
  ·simp only [h,cond_false,Bool.false_eq_true,if_false];rfl
  ·simp only [h,cond_true,if_true,encS,iQ,e]
 ·rfl
 ·simp only [encS,iQ,aY,lU];rfl
 ·rename_i x h1 h2 h3
  have e:sO v=if v.oneCell'=true then .v (.one (cv v)) else .no:=by
   unfold sO
   split
   ·exact (h1 _ rfl).elim
   ·exact (h2 _ rfl).elim
   ·exact (h3 _ rfl).elim
   ·rfl
  rw [e]
  cases h:v.oneCell'
  ·simp only [cond_false,Bool.false_eq_true,if_false];rfl
  ·simp only [cond_true,if_true,encS,iQ,YM]
theorem lW (st:je) (x:Operand):(aH st).bY x=encS (st.bY x):=by
 cases x with
 |tmp t=>rfl
 |const v=>exact (WL v).symm
 |func f=>simp [St.bY,je.bY,encS,iQ,aY,lU]
 |global g=>
  simp only [Fw.St.bY,je.bY,aeC]
  cases RE.G g<;>rfl
end
end Go.Fg

namespace Go.Fg
open Go.Fw
set_option linter.unusedVariables false
set_option linter.unusedSectionVars false
set_option linter.unusedSimpArgs false
section
variable [RE] {o:Nat→TO} {tt:TT} {ety:TypeId→Option Ty} {d:Nat} {f:Operand→TS} {ty:TypeId}
structure dU (r:pV) (r':EG):Prop where
 pre:r.pre=true→r'.pre
 dst:r'.dst r'.val=encS (r.dst r.val)
 upd:r'.upd r'.val=gq (r.upd r.val)
 new:r'.new=r.new
def fC (tt:TT) (ety:TypeId→Option Ty) (d:Nat) (o:Nat→TO) (f:Operand→TS) (op:Op) (ty:TypeId):Prop:=
 ∀r,bT tt ety d o f op ty=some r→∃r',kernel tt d (aZ o) (fun x=>encS (f x)) op ty=some r'∧dU r r'
def ahQ (r:pV) (r':EG):Prop:=(r.pre=true→dU r r')∧r'.new=r.new
theorem dU.toC {r:pV} {r':EG} (h:dU r r'):ahQ r r':=⟨fun _=>h,h.new⟩
def YN (tt:TT) (ety:TypeId→Option Ty) (d:Nat) (o:Nat→TO) (f:Operand→TS) (op:Op) (ty:TypeId):Prop:=
 ∀r,bT tt ety d o f op ty=some r→∃r',kernel tt d (aZ o) (fun x=>encS (f x)) op ty=some r'∧ahQ r r'
theorem fC.toC {tt:TT} {ety:TypeId→Option Ty} {d:Nat} {o:Nat→TO} {f:Operand→TS} {op:Op} {ty:TypeId} (h:fC tt ety d o f op ty):YN tt ety d o f op ty:=fun r hr=>
 let ⟨r',h1,h2⟩:=h r hr
 ⟨r',h1,h2.toC⟩
theorem dU.pure (x:TS):dU (.pure x) (.pure (encS x)):=⟨fun _=>trivial,rfl,rfl,rfl⟩
theorem L8 {x:TS} (h:encS x=.no):x=.no:=by cases x<;>first | rfl | cases h
theorem abL (x:Operand):fC tt ety d o f (.move x) ty:=by
 intro r h
 simp only [bT] at h
 split at h
 ·cases h
 ·rename_i s hs
  simp only [Option.some.injEq] at h;subst h
  refine ⟨.pure (encS (f x)),?_,dU.pure _⟩
  simp only [kernel]
  split
  ·rename_i e;exact (hs (L8 e)).elim
  ·rfl
theorem WM (x:Operand):fC tt ety d o f (.assign x) ty:=by
 intro r h
 simp only [bT] at h
 split at h
 ·cases h
 ·rename_i s hs
  simp only [Option.some.injEq] at h;subst h
  refine ⟨.pure (encS (f x)),?_,dU.pure _⟩
  simp only [kernel]
  split
  ·rename_i e;exact (hs (L8 e)).elim
  ·rfl
theorem YO {x:TS} {a i:Bool} {y:P} (h:encS x=.v (.one (.p a i y))) :∃w,x=.v (.one (.p a i w))∧enc1 w=y:=by
 cases x with
 |v x=>cases x with
  |one x=>cases x<;>simp [encS,iQ,aY] at h<;>exact ⟨_,by rw [h.1,h.2.1],h.2.2⟩
  |agg xs=>cases h
 |_=>cases h
theorem YP (b:Bool):enc1 ⟨.bool,b⟩=.bool b:=rfl
theorem abM (c x y:Operand):fC tt ety d o f (.pick c x y) ty:=by
 intro r h
 simp only [bT] at h
 split at h
 ·rename_i a0 i0 b hc
  change Bool at b
  have hc':encS (f c)=.v (.one (.p a0 i0 (.bool b))):=by rw [hc];rfl
  split at h
  ·rename_i a i w a' i' w' hx hy
   split at h
   ·rename_i z hz
    simp only [Option.some.injEq] at h;subst h
    have hx':encS (f x)=.v (.one (.p a i (enc1 w))):=by rw [hx];rfl
    have hy':encS (f y)=.v (.one (.p a' i' (enc1 w'))):=by rw [hy];rfl
    simp only [kernel,hc',hx',hy']
    refine ⟨_,rfl,⟨fun _=>trivial,?_,rfl,rfl⟩⟩
    have e:=fB hz
    rw [e]
    cases b<;>rfl
   ·cases h
  ·rename_i hno
   have eb:(bif b then encS (f x) else encS (f y))=encS (bif b then f x else f y):=by cases b<;>rfl
   split at h
   ·cases h
   ·rename_i s hs
    simp only [Option.some.injEq] at h;subst h
    refine ⟨.pure (encS (bif b then f x else f y)),?_,dU.pure _⟩
    simp only [kernel,hc']
    split
    ·rename_i a1 i1 x1 a2 i2 y1 h1 h2
     obtain ⟨w1,e1,_⟩:=YO h1
     obtain ⟨w2,e2,_⟩:=YO h2
     exact (hno _ _ _ _ _ _ e1 e2).elim
    ·rw [eb]
     split
     ·rename_i e;exact (hs (L8 e)).elim
     ·rfl
 ·cases h
theorem aV {α:Type} {b:Bool} {x:Option α} {y:α} (h:(bif b then x else none)=some y):b=true∧x=some y:=by
 cases b
 ·cases h
 ·exact ⟨rfl,h⟩
theorem YQ (t:TypeId):fC tt ety d o f (.alloc t) ty:=by
 intro r h
 simp only [bT] at h
 split at h
 ·rename_i i hi
  simp only [Option.some.injEq] at h;subst h
  simp only [kernel,hi]
  refine ⟨_,rfl,⟨fun _=>trivial,rfl,?_,rfl⟩⟩
  simp only [gq,List.map_cons,List.map_nil,cO,qy]
 ·cases h
theorem afz (t:TypeId) (x:Operand):fC tt ety d o f (.box t x) ty:=by
 intro r h
 simp only [bT] at h
 split at h
 ·rename_i i x' hi hx
  obtain ⟨hb,h⟩:=aV h
  simp only [Option.some.injEq] at h;subst h
  simp only [Bool.and_eq_true] at hb
  simp only [kernel,hi,hx,encS,rY,List.length_map]
  rw [if_pos ⟨Nat.eq_of_beq_eq_true hb.1,rZ _ hb.2⟩]
  exact ⟨_,rfl,⟨fun _=>trivial,rfl,rfl,rfl⟩⟩
 ·cases h
theorem BP (ps:List (Nat×Operand)):(ps.map fun p=>(p.1,encS (f p.2)))=(ps.map fun p=>(p.1,f p.2)).map fun p=>(p.1,encS p.2):=by
 rw [List.map_map];rfl
theorem YR (t:TypeId) (ps:Array (Nat×Operand)):fC tt ety d o f (.build t ps) ty:=by
 intro r h
 simp only [bT] at h
 split at h
 ·rename_i i hi
  obtain ⟨hb,h⟩:=aV h
  split at h
  ·rename_i ws hw
   simp only [Option.some.injEq] at h;subst h
   have:=Ak hw
   rw [qy] at this
   simp only [kernel,hi,hb,if_true,BP,this]
   exact ⟨_,rfl,dU.pure _⟩
  ·cases h
 ·cases h
theorem G6 {α β:Type} (g:α→β) (l:List α) :∀n,(GV l n).map g=dV (l.map g) n
 |0=>rfl
 |n+1=>by simp [GV,dV,G6 g l n]
theorem y8 (e:Ty) :∀(n:Nat) (ws:List Wd),ws.map (·.t)=GV (gQ e) n→ay e (Aj e n ws)=chunks (size e) n (ws.map enc1)
 |0,ws,h=>rfl
 |n+1,ws,h=>by
  have h1:(ws.take (size e)).map (·.t)=gQ e:=by
   rw [List.map_take,h,GV,←iy,List.take_left]
  have h2:(ws.drop (size e)).map (·.t)=GV (gQ e) n:=by
   rw [List.map_drop,h,GV,←iy,List.drop_left]
  simp only [Aj,ay,List.map_cons,chunks]
  rw [qw h1,List.map_take]
  congr 1
  rw [←List.map_drop]
  exact y8 e n _ h2
theorem jR (a b:List (Nat×TO)):gq (a++b)=gq a++gq b:=by simp [gq]
theorem Ji (t:TypeId) (n:Nat) (ps:Array (Nat×Operand)):fC tt ety d o f (.buildSlice t n ps) ty:=by
 intro r h
 simp only [bT] at h
 split at h
 ·rename_i e i1 i2 i3 ht
  split at h
  ·rename_i ie et he het
   split at h
   ·rename_i ws hw
    split at h
    ·rename_i qs a i gs hp
     obtain ⟨hb,h⟩:=aV h
     simp only [Option.some.injEq] at h;subst h
     simp only [Bool.and_eq_true] at hb
     have hsz:=Nat.eq_of_beq_eq_true hb.2
     have:=Ak hw
     rw [G6,qy] at this
     obtain ⟨k1,k2⟩:=wu hp
     simp only [kernel,ht,he,BP,this,k1]
     rw [if_pos (Nat.le_of_ble_eq_true hb.1)]
     refine ⟨_,rfl,⟨fun _=>trivial,rfl,?_,rfl⟩⟩
     simp only [jR,←nI (L6 hp)]
     congr 1
     simp only [P.list,gq,List.map_cons,List.map_nil,cO,y8 et n qs k2,hsz]
    ·cases h
   ·cases h
  ·cases h
 ·cases h
end
end Go.Fg

namespace Go.Fg
open Go.Fw
set_option linter.unusedVariables false
set_option linter.unusedSectionVars false
set_option linter.unusedSimpArgs false
section
variable [RE] {o:Nat→TO} {tt:TT} {ety:TypeId→Option Ty} {d:Nat} {f:Operand→TS} {ty:TypeId}
theorem eY {a b:Bool} (h:(a&&b)=true):a=true∧b=true:=by simpa using h
theorem abN (a i:Bool) (ws:List Wd):(tpw a i ws).map aY=ws.map fun w=>W.p a i (enc1 w):=by
 simp only [tpw,List.map_map];rfl
theorem wz (e:Ty) (x:Dt e) (a i:Bool) (off n:Nat) (h:off+n≤size e) (df:Nat→P) :
  ((List.range n).map fun j=>W.p a i ((iY e x).getD (off+j) (df j)))=(tpw a i (((dM e x).drop off).take n)).map aY:=by
 rw [abN,eU]
 apply List.ext_getElem?
 intro j
 simp only [List.getElem?_map,List.getElem?_take,List.getElem?_drop]
 by_cases hj:j<n
 ·have hlt:off+j<(dM e x).length:=by rw [oD];omega
  rw [List.getElem?_range hj,if_pos hj]
  simp [List.getD_eq_getElem?_getD,List.getElem?_eq_getElem hlt]
 ·rw [List.getElem?_eq_none (by simp;omega),if_neg hj];rfl
theorem G7 {n:Nat} (h:Nat.blt 0 n=true):0<n:=Nat.le_of_ble_eq_true h
theorem YS {w:Wd} {v:Value} (h:YJ w v=true):enc1 w=QH [v] 0:=by
 unfold YJ at h
 split at h
 ·rename_i k n k' n'
  change Int at n
  simp only [Bool.and_eq_true,eqI,decide_eq_true_eq] at h
  obtain ⟨h1,h2⟩:=h
  cases hk:YH k k' with
  |none=>rw [hk] at h1;cases h1
  |some p=>have e:=p.down;subst e;subst h2;rfl
 ·rename_i b b'
  change Bool at b
  have h:b=b':=LawfulBEq.eq_of_beq h
  subst h;rfl
 ·rename_i s s'
  change List UInt8 at s
  simp only [Bool.and_eq_true,List.isEmpty_iff] at h
  obtain ⟨h1,h2⟩:=h
  subst h1
  obtain ⟨⟨l⟩⟩:=s'
  simp only at h2
  subst h2
  rfl
 ·rename_i e l
  change List (Dt e) at l
  have hl:l=[]:=by simpa using h
  subst hl;rfl
 ·cases h
theorem BQ :∀{ws:List Wd} {vs:List Value},qY ws vs=true→∀j,(ws.map enc1)[j]?=if j<vs.length then some (QH vs j) else none
 | [],[],h,j=>by simp
 |w::ws,[],h,j=>by simp [qY] at h
 | [],v::vs,h,j=>by simp [qY] at h
 |w::ws,v::vs,h,j=>by
  obtain ⟨h1,h2⟩:=eY h
  cases j with
  |zero=>simp only [List.map_cons,List.getElem?_cons_zero,List.length_cons,Nat.zero_lt_succ,if_true,YS h1];rfl
  |succ j=>
   have:=BQ h2 j
   simp only [List.map_cons,List.getElem?_cons_succ,List.length_cons,this,Nat.succ_lt_succ_iff]
   rfl
theorem L9 (e:Ty) (l:List (Dt e)) (n off size':Nat) (z:List Value) (h:off+size'≤size e) (hz:qY (((dM e (dflt e)).drop off).take size') z=true) (a i:Bool) :
  ((List.range size').map fun j=>W.p a i (((ay e l).getD n []).getD (off+j) (QH z j)))=(tpw a i (((dM e (l.getD n (dflt e))).drop off).take size')).map aY:=by
 by_cases hn:n<l.length
 ·have e1:(ay e l).getD n []=iY e (l.getD n (dflt e)):=by simp [ay,List.getD_eq_getElem?_getD,hn]
  rw [e1]
  exact wz e _ a i off size' h _
 ·have e1:(ay e l).getD n []=[]:=by simp [ay,List.getD_eq_getElem?_getD,List.getElem?_eq_none (Nat.le_of_not_lt hn)]
  have e2:l.getD n (dflt e)=dflt e:=by simp [List.getD_eq_getElem?_getD,List.getElem?_eq_none (Nat.le_of_not_lt hn)]
  rw [e1,e2,←wz e _ a i off size' h (QH z)]
  refine List.map_congr_left fun j hj => ?_
  have hj:j<size':=List.mem_range.1 hj
  have:=BQ hz j
  rw [List.map_take,List.map_drop,List.getElem?_take,if_pos hj,List.getElem?_drop,←eU] at this
  have hlen:off+j<(iY e (dflt e)).length:=by rw [GR];omega
  rw [List.getD_eq_getElem?_getD,List.getD_eq_getElem?_getD,this]
  split
  ·rfl
  ·rfl
theorem abO (t:TypeId) (x:Operand):fC tt ety d o f (.load t x) ty:=by
 intro r h
 simp only [bT] at h
 split at h
 ·rename_i i g off ht hx
  have hx':encS (f x)=.v (.one (.box g off)):=by rw [hx];rfl
  split at h
  ·rename_i ws hg
   obtain ⟨hb,h⟩:=aV h
   simp only [Option.some.injEq] at h;subst h
   obtain ⟨h1,h2⟩:=eY hb
   simp only [kernel,ht,hx',mY hg,List.length_map]
   rw [if_pos ⟨Nat.le_of_ble_eq_true h1,G7 h2⟩]
   refine ⟨_,rfl,?_⟩
   have:=dU.pure (TV.dZ i.agg ((ws.drop off).take i.size))
   rw [jQ,List.map_take,List.map_drop] at this
   exact this
  ·cases h
 ·rename_i i g n off ht hx
  have hx':encS (f x)=.v (.one (.ep g (.int .i64 n) off)):=by rw [hx];rfl
  split at h
  ·rename_i fz a i' e l hg
   obtain ⟨hb,h⟩:=aV h
   simp only [Option.some.injEq] at h;subst h
   obtain ⟨hb,h3⟩:=eY hb
   obtain ⟨h1,h2⟩:=eY hb
   have h1:=Nat.le_of_ble_eq_true h1
   simp only [kernel,ht,hx',fF hg]
   rw [if_pos ⟨h1,G7 h2⟩]
   refine ⟨_,rfl,⟨fun _=>trivial,?_,rfl,rfl⟩⟩
   simp only [EG.pure,jQ]
   congr 1
   have en:(P.int .i64 n).nat=n.toNat:=rfl
   rw [en]
   exact L9 e l n.toNat off i.size i.zero h1 h3 a i'
  ·cases h
 ·rename_i i a i' e x' off ht hx
  have hx':encS (f x)=.v (.one (.sp a i' (iY e x') off)):=by rw [hx];rfl
  obtain ⟨hb,h⟩:=aV h
  simp only [Option.some.injEq] at h;subst h
  obtain ⟨h1,h2⟩:=eY hb
  have h2:=Nat.le_of_ble_eq_true h2
  simp only [kernel,ht,hx']
  rw [if_pos (G7 h1)]
  refine ⟨_,rfl,⟨fun _=>by rw [GR];exact h2,?_,rfl,rfl⟩⟩
  simp only [pV.pure,jQ]
  congr 1
  exact wz e x' a i' off i.size h2 fun _=>default
 ·cases h
theorem aW (g:Nat) :∀(l:List Nat),dS g l=l.contains g
 | []=>rfl
 |x::xs=>by
  simp only [dS,List.contains_cons,aW g xs]
  congr 1
  rw [Bool.eq_iff_iff];simp
theorem abP (e:Ty) (l:List (Dt e)) (n:Nat) (x:Dt e):ay e (l.set n x)=(ay e l).set n (iY e x):=by simp [ay,List.map_set]
theorem YT (t:TypeId) (x y:Operand):fC tt ety d o f (.store t x y) ty:=by
 intro r h
 simp only [bT] at h
 split at h
 ·rename_i i g off y' ht hx hy
  have hx':encS (f x)=.v (.one (.box g off)):=by rw [hx];rfl
  have hy':encS (f y)=.v (iQ y'):=by rw [hy];rfl
  split at h
  ·rename_i ws hg
   obtain ⟨hb,h⟩:=aV h
   simp only [Option.some.injEq] at h;subst h
   obtain ⟨hb,h3⟩:=eY hb
   obtain ⟨h1,h2⟩:=eY hb
   simp only [kernel,ht,hx',hy',mY hg,List.length_map,rY]
   rw [if_pos ⟨Nat.le_of_ble_eq_true h1,Nat.eq_of_beq_eq_true h2,rZ _ h3⟩]
   refine ⟨_,rfl,⟨fun _=>trivial,rfl,?_,rfl⟩⟩
   simp only [gq,List.map_cons,List.map_nil,cO,n_]
  ·cases h
 ·rename_i i g n off y' ht hx hy
  have hx':encS (f x)=.v (.one (.ep g (.int .i64 n) off)):=by rw [hx];rfl
  have hy':encS (f y)=.v (iQ y'):=by rw [hy];rfl
  split at h
  ·rename_i a i' e l hg
   split at h
   ·rename_i ps a' i'' gs hp
    obtain ⟨hb,h⟩:=aV h
    simp only [Option.some.injEq] at h;subst h
    obtain ⟨hb,h4⟩:=eY hb
    obtain ⟨hb,h3⟩:=eY hb
    obtain ⟨h1,h2⟩:=eY hb
    have h1:=Nat.le_of_ble_eq_true h1
    have h2:=Nat.eq_of_beq_eq_true h2
    obtain ⟨k1,k2⟩:=wu hp
    have hl:ps.length=i.size:=by
     have:=congrArg List.length k2
     simp [iy] at this
     omega
    simp only [kernel,ht,hx',hy',fF hg,rY,k1,List.length_map]
    rw [if_pos ⟨h1,hl,h2,rZ _ h3,by simpa [aW] using h4⟩]
    refine ⟨_,rfl,⟨fun _=>trivial,rfl,?_,rfl⟩⟩
    simp only [jR,←nI (L6 hp)]
    congr 1
    simp only [P.list,gq,List.map_cons,List.map_nil,cO,abP]
    have en:(P.int .i64 n).nat=n.toNat:=rfl
    rw [en]
    by_cases hn:n.toNat<l.length
    ·have e1:(ay e l).getD n.toNat []=iY e (l.getD n.toNat (dflt e)):=by simp [ay,List.getD_eq_getElem?_getD,hn]
     have hty:(aC (dM e (l.getD n.toNat (dflt e))) off ps).map (·.t)=gQ e:=by
      have e0:gQ e=(gQ e).take off++(((gQ e).drop off).take i.size++(gQ e).drop (off+i.size)):=by
       rw [←List.drop_drop,List.take_append_drop,List.take_append_drop]
      simp only [aC,List.map_append,List.map_take,List.map_drop,oW,k2,hl,List.append_assoc]
      exact e0.symm
     have key:iY e (Jg e (Nat.beq i.size (size e)) (l.getD n.toNat (dflt e)) off ps)=aC ((ay e l).getD n.toNat []) off (ps.map enc1):=by
      rw [e1]
      unfold Jg
      cases hc:Nat.beq i.size (size e) with
      |true=>
       have hc:=Nat.eq_of_beq_eq_true hc
       have h0:off=0:=by omega
       subst h0
       have e2:aC (dM e (l.getD n.toNat (dflt e))) 0 ps=ps:=by
        simp only [aC,List.take_zero,List.nil_append,Nat.zero_add]
        rw [List.drop_of_length_le (by rw [oD];omega),List.append_nil]
       have e3:aC (iY e (l.getD n.toNat (dflt e))) 0 (ps.map enc1)=ps.map enc1:=by
        rw [eU,←n_,e2]
       rw [e2] at hty
       rw [e3]
       exact qw hty
      |false=>
       simp only
       rw [qw hty,n_,←eU]
     rw [key]
    ·have e1 :∀z,(ay e l).set n.toNat z=ay e l:=fun z=>List.set_eq_of_length_le (by rw [dL];omega)
     rw [e1,e1]
   ·cases h
  ·cases h
 ·cases h
theorem OQ (x:Operand):fC tt ety d o f (.nilCheck x) ty:=by
 intro r h
 simp only [bT] at h
 split at h
 ·rename_i x' hx
  obtain ⟨hb,h⟩:=aV h
  simp only [Option.some.injEq] at h;subst h
  have hx':encS (f x)=.v (.one (aY x')):=by rw [hx];rfl
  simp only [kernel,hx']
  rw [if_pos (G5 hb)]
  exact ⟨_,rfl,dU.pure _⟩
 ·cases h
theorem RI {op:BinOp} {k k':IntKind} {a b:Int} {c:Bool×Wd} (h:RD op k k' a b=some c):(c.1=true→P.ND op (.int k a) (.int k' b))∧P.bin op (.int k a) (.int k' b)=enc1 c.2:=by
 unfold RD at h
 cases op<;>simp only at h
 case shl=>simp only [Option.some.injEq] at h;subst h;exact ⟨fun h=>(by simpa using h:0≤b),rfl⟩
 case shr=>simp only [Option.some.injEq] at h;subst h;exact ⟨fun h=>(by simpa using h:0≤b),rfl⟩
 all_goals
  split at h
  ·cases h
  ·rename_i p hp
   obtain ⟨e⟩:=p
   subst e
   simp only [Option.some.injEq] at h
   first
    |(cases h;done)
    |(
      
      subst h
      refine ⟨fun h => ?_,?_⟩
      ·first
       |exact rfl
       |(simp at h;exact ⟨rfl,h⟩)
      ·first
       |rfl
       |(simp only [P.bin,gG,YP];congr 1))
theorem WO (a b:List UInt8):(⟨a.toArray⟩++⟨b.toArray⟩:ByteArray)=⟨(a++b).toArray⟩:=by
 apply ByteArray.ext;simp [ByteArray.data_append]
theorem BR (a:List UInt8):(⟨a.toArray⟩:ByteArray).toList=a:=by rw [ByteArray.toList_eq]
theorem RJ {op:BinOp} {a b:List UInt8} {c:Bool×Wd} (h:RF op a b=some c):(c.1=true→P.ND op (.str ⟨a.toArray⟩) (.str ⟨b.toArray⟩))∧P.bin op (.str ⟨a.toArray⟩) (.str ⟨b.toArray⟩)=enc1 c.2:=by
 unfold RF at h
 cases op<;>simp only [Option.some.injEq] at h<;>try (cases h;done)
 all_goals subst h
 case add=>
  refine ⟨fun h => ?_,?_⟩
  ·simp only [mW] at h
   show a.toArray.size+b.toArray.size≤_
   simp only [List.size_toArray];omega
  ·simp only [P.bin,WO];rfl
 all_goals exact ⟨fun _=>trivial,by simp only [P.bin,BR];rfl⟩
theorem OT {op:BinOp} {a b:Bool} {c:Bool×Wd} (h:LX op a b=some c):(c.1=true→P.KL op (.bool a) (.bool b))∧P.bin op (.bool a) (.bool b)=enc1 c.2:=by
 unfold LX at h
 cases op<;>simp only [Option.some.injEq] at h<;>try (cases h;done)
 all_goals subst h
 ·exact ⟨fun _=>.inl rfl,rfl⟩
 ·exact ⟨fun _=>.inr rfl,rfl⟩
theorem dU.mX {c:Bool×Wd} {pre:Prop} {x:P} (h:c.1=true→pre) (hx:x=enc1 c.2):dU (.mX c) (.calc pre x):=by
 subst hx
 obtain ⟨c1,t,y⟩:=c
 exact ⟨h,rfl,rfl,rfl⟩
theorem abQ (a b:List UInt8):P.eqB (.str ⟨a.toArray⟩) (.str ⟨b.toArray⟩)=(a==b):=by
 show ((⟨a.toArray⟩:ByteArray)==⟨b.toArray⟩)=_
 rw [beq_toListBytes,BR,BR]
theorem YU {k:TK} {x y:Wd} {b:Bool} (h:afx k x y=some b):TR k (enc1 x) (enc1 y)∧P.eqB (enc1 x) (enc1 y)=b:=by
 unfold afx at h
 split at h
 ·unfold aeD at h
  split at h
  ·rename_i p hp
   obtain ⟨e⟩:=p
   subst e
   simp only [Option.some.injEq] at h;subst h
   exact ⟨rfl,rfl⟩
  ·cases h
 ·rename_i a b'
  simp only [eqStr,Option.some.injEq] at h;subst h
  exact ⟨trivial,abQ a b'⟩
 ·simp only [ahP,Option.some.injEq] at h;subst h
  exact ⟨trivial,rfl⟩
 ·cases h
theorem OU {tt:TT} :∀(fs:List (Nat×TypeId)) (n:Nat) (xs ys:List TW) (b:Bool),EK tt n fs xs ys=some b→∃c,lH tt n fs (xs.map aY) (ys.map aY)=some c∧c.1∧c.2=b
 | [],n,[],[],b,h=>by
  simp only [EK,Option.some.injEq] at h;subst h
  exact ⟨(True,true),rfl,trivial,rfl⟩
 |(off,t)::fs,n,x::xs,y::ys,b,h=>by
  cases x with
  |p a1 i1 x=>cases y with
   |p a2 i2 y=>
    simp only [EK] at h
    split at h
    ·rename_i i hi
     cases hb:(Nat.beq off n&&i.k.flat&&Nat.beq i.size 1) with
     |false=>rw [hb] at h;cases h
     |true=>
      rw [hb] at h
      simp only [cond_true] at h
      split at h
      ·rename_i b1 b2 h1 h2
       simp only [Option.some.injEq] at h;subst h
       obtain ⟨c,e1,e2,e3⟩:=OU fs (n+1) xs ys b2 h2
       obtain ⟨q1,q2⟩:=YU h1
       simp only [Bool.and_eq_true] at hb
       have hoff:off=n∧i.k.flat=true∧i.size=1:=⟨Nat.eq_of_beq_eq_true hb.1.1,hb.1.2,Nat.eq_of_beq_eq_true hb.2⟩
       refine ⟨(TR i.k (enc1 x) (enc1 y)∧c.1,P.eqB (enc1 x) (enc1 y)&&c.2),?_,⟨q1,e2⟩,by rw [q2,e3]⟩
       simp only [List.map_cons,aY,lH,hi]
       rw [if_pos hoff,e1]
      ·cases h
    ·cases h
   |_=>simp [EK] at h
  |_=>simp [EK] at h
 | [],n,_::_,_,b,h=>by simp [EK] at h
 | [],n,[],_::_,b,h=>by simp [EK] at h
 |_::_,n,[],_,b,h=>by simp [EK] at h
 |_::_,n,x::xs,[],b,h=>by cases x<;>simp [EK] at h
theorem YV (op:BinOp) (t:TypeId) (x y:Operand) (u:TypeId):fC tt ety d o f (.binOp op t x y u) ty:=by
 intro r h
 simp only [bT] at h
 split at h
 ·rename_i a1 i1 x' a2 i2 y' hx hy
  have hx':encS (f x)=.v (.one (.p a1 i1 (enc1 x'))):=by rw [hx];rfl
  have hy':encS (f y)=.v (.one (.p a2 i2 (enc1 y'))):=by rw [hy];rfl
  split at h
  ·rename_i i ht
   split at h
   ·rename_i c hc
    simp only [Option.some.injEq] at h;subst h
    obtain ⟨ik,isz,ib,iz⟩:=i
    simp only at hc
    unfold ahO at hc
    split at hc
    ·obtain ⟨k1,k2⟩:=RI hc
     simp only [kernel,hx',hy',ht]
     exact ⟨_,rfl,dU.mX k1 k2⟩
    ·obtain ⟨k1,k2⟩:=RJ hc
     simp only [kernel,hx',hy',ht]
     exact ⟨_,rfl,dU.mX k1 k2⟩
    ·obtain ⟨k1,k2⟩:=OT hc
     simp only [kernel,hx',hy',ht]
     exact ⟨_,rfl,dU.mX k1 k2⟩
    ·cases hc
   ·cases h
  ·cases h
 ·rename_i xs ys hx hy
  have hx':encS (f x)=.v (.agg (xs.map aY)):=by rw [hx];rfl
  have hy':encS (f y)=.v (.agg (ys.map aY)):=by rw [hy];rfl
  split at h
  ·rename_i i ht
   have key :∀{b q:Bool} {v:Bool},EK tt 0 i.k.parts xs ys=some b→abr op=some q→i.eq=true→v=(b==q)→∃r',kernel tt d (aZ o) (fun a=>encS (f a)) (.binOp op t x y u) ty=some r'∧dU (.mX (true,gG v)) r':=by
    intro b q v h1 h2 h3 h4
    obtain ⟨c,e1,e2,e3⟩:=OU _ _ _ _ _ h1
    simp only [kernel,hx',hy',ht,e1,h2]
    rw [if_pos h3]
    exact ⟨_,rfl,dU.mX (fun _=>e2) (by rw [e3,h4];rfl)⟩
   split at h
   ·rename_i b h1 h2
    cases h3:i.eq with
    |false=>rw [h3] at h;cases h
    |true=>
     rw [h3] at h
     simp only [cond_true,Option.some.injEq] at h;subst h
     exact key (v:=b) h1 h2 h3 (by cases b<;>rfl)
   ·rename_i b h1 h2
    cases h3:i.eq with
    |false=>rw [h3] at h;cases h
    |true=>
     rw [h3] at h
     simp only [cond_true,Option.some.injEq] at h;subst h
     exact key (v:=!b) h1 h2 h3 (by cases b<;>rfl)
   ·cases h
  ·cases h
 ·cases h
theorem abR (op:UnOp) (t:TypeId) (x:Operand):fC tt ety d o f (.unOp op t x) ty:=by
 intro r h
 simp only [bT] at h
 split at h
 ·rename_i a1 i1 x' hx
  have hx':encS (f x)=.v (.one (.p a1 i1 (enc1 x'))):=by rw [hx];rfl
  split at h
  ·rename_i c hc
   simp only [Option.some.injEq] at h;subst h
   simp only [kernel,hx']
   unfold unT at hc
   split at hc
   ·simp only [Option.some.injEq] at hc;subst hc
    exact ⟨_,rfl,dU.mX (fun _=>trivial) rfl⟩
   ·simp only [Option.some.injEq] at hc;subst hc
    exact ⟨_,rfl,dU.mX (fun _=>trivial) rfl⟩
   ·cases hc
  ·cases h
 ·cases h
theorem RN (s t:TypeId) (x:Operand):fC tt ety d o f (.convert s t x) ty:=by
 intro r h
 simp only [bT] at h
 split at h
 ·rename_i k0 s0 b0 z0 k s1 b1 z1 a1 i1 k2 x' hs ht hx
  have hx':encS (f x)=.v (.one (.p a1 i1 (.int k2 x'))):=by rw [hx];rfl
  simp only [Option.some.injEq] at h;subst h
  simp only [kernel,hs,ht,hx']
  exact ⟨_,rfl,⟨fun _=>trivial,rfl,rfl,rfl⟩⟩
 ·rename_i e s0 b0 z0 s1 b1 z1 x' hs ht hx
  have hx':encS (f x)=.v (.one (aY x')):=by rw [hx];rfl
  split at h
  ·rename_i s2 b2 z2 he
   split at h
   ·rename_i l a1 i1 hr
    simp only [Option.some.injEq] at h;subst h
    obtain ⟨ask,hr',hask⟩:=OO hr
    have hr':(aY x').rows (aZ o) 1=some (ask,ay (.int .u8) l,a1,i1):=hr'
    simp only [kernel,hs,ht,hx',he,hr']
    refine ⟨_,rfl,⟨fun _=>⟨hask,fun r hr => ?_⟩,?_,rfl,rfl⟩⟩
    ·simp only [ay,List.mem_map] at hr
     obtain ⟨n,_,rfl⟩:=hr
     exact ⟨n,rfl⟩
    ·have e:Fv (ay (.int .u8) l)=enc1 ⟨.str,strOf l⟩:=by
      show P.str _=P.str _
      congr 2
      simp only [ay,List.map_map,strOf]
      congr 1
     show S.v (V.one (W.p false false (Fv (ay (.int .u8) l))))=_
     rw [e];rfl
   ·cases h
  ·cases h
 ·rename_i s0 b0 z0 e s1 b1 z1 a1 i1 x' hs ht hx
  change List UInt8 at x'
  have hx':encS (f x)=.v (.one (.p a1 i1 (.str ⟨x'.toArray⟩))):=by rw [hx];rfl
  split at h
  ·rename_i s2 b2 z2 he
   simp only [Option.some.injEq] at h;subst h
   simp only [kernel,hs,ht,hx',he]
   refine ⟨_,rfl,⟨fun _=>trivial,?_,rfl,rfl⟩⟩
   have e:KN (.str ⟨x'.toArray⟩)=enc1 ⟨.sl (.int .u8),afw x'⟩:=by
    show P.dX 1 _=P.dX 1 _
    have key :∀l:List UInt8,(l.map fun b=>[P.int .u8 (b.toNat:Int)])=ay (.int .u8) (afw l):=by
     intro l
     induction l with
     |nil=>rfl
     |cons a l ih=>exact congrArg (List.cons _) ih
    exact congrArg (P.dX 1) (key x')
   show S.v (V.one (W.p false false (KN (.str ⟨x'.toArray⟩))))=_
   rw [e];rfl
  ·cases h
 ·cases h
end
end Go.Fg

namespace Go.Fg
open Go.Fw
set_option linter.unusedVariables false
set_option linter.unusedSectionVars false
set_option linter.unusedSimpArgs false
section
variable [RE] {o:Nat→TO} {tt:TT} {ety:TypeId→Option Ty} {d:Nat} {f:Operand→TS} {ty:TypeId}
theorem wB {k:IntKind} {n:Int} {m:Nat} (h:inB n m=true):inRange (.int k n) m:=by
 simp only [inB,Bool.and_eq_true,decide_eq_true_eq] at h;exact h
theorem L_ (t:TypeId) (n c:Operand):fC tt ety d o f (.makeSlice t n c) ty:=by
 intro r h
 simp only [bT] at h
 split at h
 ·rename_i e i1 i2 i3 a1 j1 n' a2 j2 c' ht hn hc
  change Int at n';change Int at c'
  have hn':encS (f n)=.v (.one (.p a1 j1 (.int .i64 n'))):=by rw [hn];rfl
  have hc':encS (f c)=.v (.one (.p a2 j2 (.int .i64 c'))):=by rw [hc];rfl
  split at h
  ·rename_i ie et he het
   split at h
   ·rename_i ps hp
    obtain ⟨hb,h⟩:=aV h
    simp only [Option.some.injEq] at h;subst h
    obtain ⟨h1,h2⟩:=eY hb
    obtain ⟨k1,k2⟩:=wu hp
    have hsz:=Nat.eq_of_beq_eq_true h2
    rw [qy] at k1
    simp only [kernel,ht,hn',hc',he,k1]
    rw [if_pos (G7 h1)]
    refine ⟨_,rfl,⟨fun hp => ?_,rfl,?_,rfl⟩⟩
    ·simp only [yZ,Bool.and_eq_true,decide_eq_true_eq] at hp
     obtain ⟨⟨⟨p1,p2⟩,p3⟩,p4⟩:=hp
     refine ⟨n'.toNat,c'.toNat,by rw [Int.toNat_of_nonneg p1],by rw [Int.toNat_of_nonneg (by omega)],by omega,?_,by omega⟩
     have e:((ie.bytes*c'.toNat:Nat):Int)=ie.bytes*c':=by rw [Int.natCast_mul,Int.toNat_of_nonneg (by omega)]
     omega
    ·simp only [P.list,gq,List.map_cons,List.map_nil,cO,hsz]
     have en:(P.int .i64 n').nat=n'.toNat:=rfl
     rw [en]
     simp only [ay,List.map_replicate]
     rw [qw k2]
   ·cases h
  ·cases h
 ·cases h
theorem lX {df:Int} {lo:Option Operand} {m:Int} (h:lq df (lo.map f)=some m):lI (.int .i64 df) (lo.map fun x=>encS (f x))=some (.int .i64 m):=by
 cases lo with
 |none=>simp only [Option.map_none,lq,Option.some.injEq] at h;subst h;rfl
 |some x=>
  simp only [Option.map_some] at h ⊢
  unfold lq at h
  split at h
  ·rename_i hh;cases hh
  ·rename_i hh
   simp only [Option.some.injEq] at hh
   cases h
   rw [hh];rfl
  ·cases h
theorem r_ {lo hi:Int} {len:Nat} (h:BN lo hi len=true) :∃m k:Nat,P.int .i64 lo=.int .i64 m∧P.int .i64 hi=.int .i64 k∧m≤k∧k≤len:=by
 simp only [BN,Bool.and_eq_true,decide_eq_true_eq] at h
 exact ⟨lo.toNat,hi.toNat,by rw [Int.toNat_of_nonneg (by omega)],by rw [Int.toNat_of_nonneg (by omega)],by omega,by omega⟩
theorem RP (y:List UInt8) (a b:Nat):(⟨y.toArray⟩:ByteArray).extract a b=⟨((y.take b).drop a).toArray⟩:=by
 apply ByteArray.ext
 simp [ByteArray.data_extract,List.drop_take]
theorem WQ (t:TypeId) (x hi mx:Operand):fC tt ety d o f (.slice t x none (some hi) (some mx)) ty:=by
 intro r h
 simp only [bT] at h
 unfold Uo at h
 split at h
 ·rename_i e i1 i2 i3 g a1 j1 h' a2 j2 m' ht hx hh hm
  change Int at h';change Int at m'
  have hx':encS (f x)=.v (.one (.own g)):=by rw [hx];rfl
  have hh':encS (f hi)=.v (.one (.p a1 j1 (.int .i64 h'))):=by rw [hh];rfl
  have hm':encS (f mx)=.v (.one (.p a2 j2 (.int .i64 m'))):=by rw [hm];rfl
  split at h
  ·rename_i ie a i e' l he hg
   obtain ⟨hb,h⟩:=aV h
   simp only [Option.some.injEq] at h;subst h
   have hg':aZ o g=.arr false a i (size e') (ay e' l):=by unfold aZ;rw [hg];rfl
   simp only [kernel,zM,ht,hx',hh',hm',he,hg']
   rw [if_pos (Nat.eq_of_beq_eq_true hb)]
   refine ⟨_,rfl,⟨fun hp => ?_,rfl,rfl,rfl⟩⟩
   obtain ⟨k,j,q1,q2,q3,q4⟩:=r_ hp
   exact ⟨k,j,q1,q2,q3,by rw [dL];exact q4⟩
  ·cases h
 ·rename_i e i1 i2 i3 a1 j1 h' a2 j2 m' ht hx hh hm
  change Int at h';change Int at m'
  have hx':encS (f x)=.v (.one .bC):=by rw [hx];rfl
  have hh':encS (f hi)=.v (.one (.p a1 j1 (.int .i64 h'))):=by rw [hh];rfl
  have hm':encS (f mx)=.v (.one (.p a2 j2 (.int .i64 m'))):=by rw [hm];rfl
  split at h
  ·rename_i ie he
   simp only [Option.some.injEq] at h;subst h
   simp only [kernel,zM,ht,hx',hh',hm',he]
   refine ⟨_,rfl,⟨fun hp => ?_,rfl,rfl,rfl⟩⟩
   obtain ⟨k,j,q1,q2,q3,q4⟩:=r_ hp
   have hj:j=0:=by omega
   have hk:k=0:=by omega
   subst hj;subst hk
   exact ⟨q1,q2⟩
  ·cases h
 ·cases h
theorem YW (args:Array Operand) (ts:Array TypeId):fC tt ety d o f (.call { callee:=.builtin .clear,args:=args,argTypes:=ts }) ty:=by
 intro r h
 simp only [bT] at h
 split at h
 ·rename_i x t tl ha hts
  unfold YK at h
  split at h
  ·rename_i e i1 i2 i3 g lo hi ht hx
   change Int at lo;change Int at hi
   have hx':encS (f x)=.v (.one (.vw g (.int .i64 lo) (.int .i64 hi))):=by rw [hx];rfl
   split at h
   ·rename_i ie a i et l he hg
    obtain ⟨hb,h⟩:=aV h
    split at h
    ·rename_i ps hp
     simp only [Option.some.injEq] at h;subst h
     obtain ⟨h1,h2⟩:=eY hb
     obtain ⟨k1,k2⟩:=wu hp
     have hsz:=Nat.eq_of_beq_eq_true h1
     rw [qy] at k1
     have hg':aZ o g=.arr false a i (size et) (ay et l):=by unfold aZ;rw [hg];rfl
     simp only [kernel,ha,hts,KO,ht,hx',he,hg',k1]
     rw [if_pos ⟨hsz,by rw [hsz];exact G7 h2⟩]
     refine ⟨_,rfl,⟨fun hp=>Nat.le_of_ble_eq_true hp,rfl,?_,rfl⟩⟩
     simp only [P.list,gq,List.map_cons,List.map_nil,cO]
     have e1:(P.int .i64 lo).nat=lo.toNat:=rfl
     have e2:(P.int .i64 hi).nat=hi.toNat:=rfl
     rw [e1,e2]
     simp only [ay,ahN,aC,List.map_append,List.map_take,List.map_drop,List.map_replicate,List.length_replicate]
     rw [qw k2]
    ·cases h
   ·cases h
  ·cases h
 ·cases h
theorem YX (t:TypeId) (x:Operand) (lo hi:Option Operand):fC tt ety d o f (.slice t x lo hi none) ty:=by
 intro r h
 simp only [bT] at h
 split at h
 ·rename_i e i1 i2 i3 x' ht hx
  have hx':encS (f x)=.v (.one (aY x')):=by rw [hx];rfl
  split at h
  ·rename_i ie et len he het hlen
   split at h
   ·rename_i lo' hi' hlo hhi
    obtain ⟨ask,hl,hask⟩:=Ur hlen
    have FM:=lX hlo
    have yJ:=lX hhi
    have en0:kH 0=P.int .i64 0:=rfl
    simp only [kernel,ht,hx',he,hl,en0,FM,yJ]
    split at h
    ·rename_i g
     split at h
     ·rename_i e' l hg
      obtain ⟨hb,h⟩:=aV h
      simp only [Option.some.injEq] at h;subst h
      simp only [aY,nH hg]
      rw [if_pos (Nat.eq_of_beq_eq_true hb)]
      refine ⟨_,rfl,⟨fun hp => ?_,rfl,rfl,rfl⟩⟩
      exact r_ hp
     ·cases h
    ·rename_i a i w
     split at h
     ·rename_i l hl'
      change List (Dt et) at l
      obtain ⟨hb,h⟩:=aV h
      simp only [Option.some.injEq] at h;subst h
      have hsz:=Nat.eq_of_beq_eq_true hb
      simp only [aY]
      refine ⟨_,rfl,⟨fun hp=>⟨hask,?_,?_⟩,?_,rfl,rfl⟩⟩
      ·rw [fB hl',←hsz];exact GZ _ _
      ·rw [fB hl',g_,dL];exact r_ hp
      ·rw [fB hl']
       show S.v (V.one (W.p a i (P.sub ie.size (P.int .i64 lo').nat (P.int .i64 hi').nat (enc1 ⟨.sl et,l⟩))))=S.v (V.one (W.p a i (enc1 ⟨.sl et,List.drop lo'.toNat (List.take hi'.toNat l)⟩)))
       rw [P.sub,g_,qx,←hsz];rfl
     ·cases h
    ·simp only [Option.some.injEq] at h;subst h
     simp only [aY]
     refine ⟨_,rfl,⟨fun hp => ?_,rfl,rfl,rfl⟩⟩
     obtain ⟨h1,h2⟩:=eY hp
     have h1:lo'=0:=by simpa using h1
     have h2:hi'=0:=by simpa using h2
     subst h1;subst h2;exact ⟨rfl,rfl⟩
    ·cases h
   ·cases h
  ·cases h
 ·rename_i s0 b0 z0 a1 i1 y ht hx
  have hx':encS (f x)=.v (.one (.p a1 i1 (.str ⟨y.toArray⟩))):=by rw [hx];rfl
  change List UInt8 at y
  split at h
  ·rename_i lo' hi' hlo hhi
   simp only [Option.some.injEq] at h;subst h
   have FM:=lX hlo
   have yJ:=lX hhi
   have en0:kH 0=P.int .i64 0:=rfl
   have el:(P.str ⟨y.toArray⟩).len=P.int .i64 (y.length:Nat):=by show P.int .i64 (y.toArray.size:Nat)=_;simp
   simp only [kernel,ht,hx',en0,el,FM,yJ]
   refine ⟨_,rfl,⟨fun hp=>⟨trivial,?_⟩,?_,rfl,rfl⟩⟩
   ·have:=r_ hp
    simpa [P.bytes,ByteArray.size] using this
   ·show S.v (V.one (W.p false false (P.str ((⟨y.toArray⟩:ByteArray).extract lo'.toNat hi'.toNat))))=S.v (V.one (W.p false false (P.str ⟨(List.drop lo'.toNat (List.take hi'.toNat y)).toArray⟩)))
    rw [RP]
  ·cases h
 ·cases h
theorem Mc (t:TypeId) (x:Operand) (n:Nat):fC tt ety d o f (.fieldAddr t x n) ty:=by
 intro r h
 simp only [bT] at h
 split at h
 ·rename_i fs i1 i2 i3 off' sz' x' ht hp hx
  have hx':encS (f x)=.v (.one (aY x')):=by rw [hx];rfl
  obtain ⟨hb,h⟩:=aV h
  simp only [Option.some.injEq] at h;subst h
  obtain ⟨h1,h2⟩:=eY hb
  simp only [kernel,ht,hp,hx']
  rw [if_pos ⟨G7 h1,G5 h2⟩]
  refine ⟨_,rfl,?_⟩
  have:=dU.pure (.v (.one (x'.shift off')))
  simpa only [encS,iQ,JQ] using this
 ·cases h
theorem YZ (t:TypeId) (x:Operand) (n:Nat):fC tt ety d o f (.field t x n) ty:=by
 intro r h
 simp only [bT] at h
 split at h
 ·rename_i fs i1 i2 i3 ws ht hx
  have hx':encS (f x)=.v (.agg (ws.map aY)):=by rw [hx];rfl
  split at h
  ·rename_i off u hf
   split at h
   ·rename_i iu hu
    obtain ⟨hb,h⟩:=aV h
    simp only [Option.some.injEq] at h;subst h
    obtain ⟨h1,h2⟩:=eY hb
    simp only [kernel,ht,hx',hf,hu,List.length_map]
    rw [if_pos ⟨Nat.le_of_ble_eq_true h1,G7 h2⟩]
    refine ⟨_,rfl,?_⟩
    have:=dU.pure (TV.dZ iu.agg ((ws.drop off).take iu.size))
    rw [jQ,List.map_take,List.map_drop] at this
    exact this
   ·cases h
  ·cases h
 ·cases h
theorem Me (t:TypeId) (x ix:Operand):YN tt ety d o f (.indexAddr t x ix) ty:=by
 intro r h
 simp only [bT] at h
 split at h
 ·rename_i e i1 i2 i3 x' a1 j1 k n ht hx hn
  change Int at n
  have hx':encS (f x)=.v (.one (aY x')):=by rw [hx];rfl
  have hn':encS (f ix)=.v (.one (.p a1 j1 (.int k n))):=by rw [hn];rfl
  have en:(P.int k n).nat=n.toNat:=rfl
  split at h
  ·rename_i ie et g he het
   split at h
   ·rename_i e' l hg
    obtain ⟨hb,h⟩:=aV h
    simp only [Option.some.injEq] at h;subst h
    simp only [kernel,ht,hx',hn',he,aY,nH hg]
    rw [if_pos (Nat.eq_of_beq_eq_true hb)]
    refine ⟨_,rfl,dU.toC ⟨fun hp => ?_,rfl,rfl,rfl⟩⟩
    exact wB (k:=k) hp
   ·cases h
  ·rename_i ie et g lo hi he het
   split at h
   ·rename_i e' l hg
    obtain ⟨hb,h⟩:=aV h
    simp only [Option.some.injEq] at h;subst h
    simp only [kernel,ht,hx',hn',he,aY,nH hg]
    rw [if_pos (Nat.eq_of_beq_eq_true hb)]
    exact ⟨_,rfl,dU.toC ⟨fun hp=>wB (k:=k) hp,rfl,rfl,rfl⟩⟩
   ·cases h
  ·rename_i ie et a i w he het
   split at h
   ·rename_i l hl
    change List (Dt et) at l
    obtain ⟨hb,h⟩:=aV h
    simp only [Option.some.injEq] at h;subst h
    have hsz:=Nat.eq_of_beq_eq_true hb
    simp only [kernel,ht,hx',hn',he,aY]
    refine ⟨_,rfl,⟨fun hp=>⟨fun _=>⟨?_,?_⟩,?_,rfl,rfl⟩,rfl⟩⟩
    ·rw [fB hl,←hsz];exact GZ _ _
    ·rw [fB hl,g_,dL];exact wB (k:=k) hp
    ·have hlt:n.toNat<l.length:=by
      have hp:inB n l.length=true:=hp
      simp only [inB,Bool.and_eq_true,decide_eq_true_eq] at hp;omega
     rw [fB hl]
     show S.v (V.one (W.sp a i ((enc1 ⟨.sl et,l⟩).list.getD (P.int k n).nat []) 0))=S.v (V.one (W.sp a i (iY et (List.getD l n.toNat (dflt et))) 0))
     rw [g_,en]
     simp [ay,List.getD_eq_getElem?_getD,hlt]
   ·cases h
  ·cases h
 ·rename_i m e i1 i2 i3 g a1 j1 k n ht hx hn
  change Int at n
  have hx':encS (f x)=.v (.one (.gl g)):=by rw [hx];rfl
  have hn':encS (f ix)=.v (.one (.p a1 j1 (.int k n))):=by rw [hn];rfl
  split at h
  ·rename_i ie et l he hg
   obtain ⟨hb,h⟩:=aV h
   simp only [Option.some.injEq] at h;subst h
   obtain ⟨h1,h2⟩:=eY hb
   have h1:=Nat.eq_of_beq_eq_true h1
   have h2:=Nat.eq_of_beq_eq_true h2
   simp only [kernel,ht,hx',hn',he,aeC,hg,Option.map_some]
   rw [if_pos ⟨h1,by rw [List.length_map];exact h2⟩]
   refine ⟨_,rfl,⟨fun hp=>⟨fun _=>wB (k:=k) hp,?_,rfl,rfl⟩,rfl⟩⟩
   have hlt:n.toNat<l.length:=by
    have hp:inB n m=true:=hp
    simp only [inB,Bool.and_eq_true,decide_eq_true_eq] at hp;omega
   show S.v (V.one (W.sp false false ((List.map (iY et) l).getD (P.int k n).nat []) 0))=S.v (V.one (W.sp false false (iY et (List.getD l n.toNat (dflt et))) 0))
   have en:(P.int k n).nat=n.toNat:=rfl
   rw [en]
   simp [List.getD_eq_getElem?_getD,hlt]
  ·cases h
 ·rename_i m e i1 i2 i3 x' a1 j1 k n hng ht hx hn
  change Int at n
  have hx':encS (f x)=.v (.one (aY x')):=by rw [hx];rfl
  have hn':encS (f ix)=.v (.one (.p a1 j1 (.int k n))):=by rw [hn];rfl
  split at h
  ·rename_i ie he
   obtain ⟨hb,h⟩:=aV h
   simp only [Option.some.injEq] at h;subst h
   obtain ⟨h1,h2⟩:=eY hb
   simp only [inB,Bool.and_eq_true,decide_eq_true_eq] at h1
   have hl:=G5 h2
   have key :∃r',kernel tt d (aZ o) (fun x=>encS (f x)) (.indexAddr t x ix) ty=some r'∧r'=.pure (.v (.one ((aY x').shift (n.toNat*ie.size)))):=by
    cases x'<;>first
     |(cases h2;done)
     |(
       simp only [aY] at hx' hl ⊢
       simp only [kernel,ht,hx',hn',he]
       rw [if_pos ⟨h1.1,h1.2,hl⟩]
       exact ⟨_,rfl,rfl⟩)
   obtain ⟨r',e1,rfl⟩:=key
   refine ⟨_,e1,dU.toC ?_⟩
   have:=dU.pure (.v (.one (x'.shift (n.toNat*ie.size))))
   simpa only [encS,iQ,JQ] using this
  ·cases h
 ·cases h
theorem Y0 (t:TypeId) (x ix:Operand):fC tt ety d o f (.index t x ix) ty:=by
 intro r h
 simp only [bT] at h
 split at h
 ·rename_i i1 i2 i3 a1 j1 s a2 j2 k n ht hx hn
  change List UInt8 at s;change Int at n
  have hx':encS (f x)=.v (.one (.p a1 j1 (.str ⟨s.toArray⟩))):=by rw [hx];rfl
  have hn':encS (f ix)=.v (.one (.p a2 j2 (.int k n))):=by rw [hn];rfl
  simp only [Option.some.injEq] at h;subst h
  simp only [kernel,ht,hx',hn']
  refine ⟨_,rfl,⟨fun hp=>⟨trivial,?_⟩,?_,rfl,rfl⟩⟩
  ·have:(P.str ⟨s.toArray⟩).bytes.size=s.length:=by show s.toArray.size=_;simp
   rw [this];exact wB (k:=k) hp
  ·have:(s.toArray.getD n.toNat 0)=s.getD n.toNat 0:=by simp [Array.getD_eq_getD_getElem?,List.getD_eq_getElem?_getD]
   simp only [P.aeg,this];rfl
 ·cases h
theorem Y1 (t:TypeId) (x:Operand):fC tt ety d o f (.range t x) ty:=by
 intro r h
 simp only [bT] at h
 split at h
 ·rename_i i1 i2 i3 a1 j1 s ht hx
  change List UInt8 at s
  have hx':encS (f x)=.v (.one (.p a1 j1 (.str ⟨s.toArray⟩))):=by rw [hx];rfl
  simp only [Option.some.injEq] at h;subst h
  simp only [kernel,ht,hx']
  exact ⟨_,rfl,⟨fun _=>trivial,rfl,rfl,rfl⟩⟩
 ·cases h
theorem RQ (t:Operand) (n:Nat):fC tt ety d o f (.extract t n) ty:=by
 intro r h
 simp only [bT] at h
 split at h
 ·rename_i xs hx
  have hx':encS (f t)=.ku (xs.map iQ):=by rw [hx];rfl
  split at h
  ·rename_i x hn
   simp only [Option.some.injEq] at h;subst h
   simp only [kernel,hx',List.getElem?_map,hn,Option.map_some]
   exact ⟨_,rfl,dU.pure _⟩
  ·cases h
 ·cases h
theorem OV {F:Operand→Option TW} {G:Operand→Option W} (hFG :∀x w,F x=some w→G x=some (aY w)) :∀{xs:List Operand} {ws:List TW},xs.mapM F=some ws→xs.mapM G=some (ws.map aY)
 | [],ws,h=>by simp at h;subst h;rfl
 |x::xs,ws,h=>by
  simp only [List.mapM_cons,Option.bind_eq_bind,Option.bind_eq_some_iff] at h ⊢
  obtain ⟨w,hw,ws',hws,h⟩:=h
  cases h
  exact ⟨aY w,hFG x w hw,ws'.map aY,OV hFG hws,rfl⟩
theorem OW (g:FuncId) (first caps:Array Operand):fC tt ety d o f (.makeFunc (.func g) first caps) ty:=by
 intro r h
 simp only [bT] at h
 obtain ⟨hb,h⟩:=aV h
 split at h
 ·rename_i ws hw
  simp only [Option.some.injEq] at h;subst h
  simp only [kernel]
  rw [if_pos (Nat.eq_of_beq_eq_true hb)]
  have key :∀{G:Operand→Option W},(∀x,G x=match encS (f x) with | .v (.one w)=>some w | _=>none)→caps.toList.mapM G=some (ws.map aY):=by
   intro G hG
   refine OV (fun x w hx => ?_) hw
   rw [hG]
   split at hx
   ·rename_i hf;cases hx;rw [hf];rfl
   ·cases hx
  split
  ·rename_i ws' hw'
   have e:=hw'.symm.trans (key fun x=>rfl)
   simp only [Option.some.injEq] at e;subst e
   refine ⟨_,rfl,?_⟩
   have:=dU.pure (.v (.one (.clo g ws)))
   simpa only [encS,iQ,aY,xE] using this
  ·rename_i hw'
   exact nomatch hw'.symm.trans (key fun x=>rfl)
 ·cases h
theorem afA (args:Array Operand) (ts:Array TypeId):fC tt ety d o f (.call { callee:=.builtin .len,args:=args,argTypes:=ts }) ty:=by
 intro r h
 simp only [bT] at h
 split at h
 ·rename_i x t ha hts
  split at h
  ·rename_i e i1 i2 i3 x' ht hx
   have hx':encS (f x)=.v (.one (aY x')):=by rw [hx];rfl
   split at h
   ·rename_i n hn
    simp only [Option.some.injEq] at h;subst h
    obtain ⟨ask,hl,hask⟩:=Ur hn
    simp only [kernel,ha,hts,ht,hx',hl]
    exact ⟨_,rfl,⟨fun _=>hask,rfl,rfl,rfl⟩⟩
   ·cases h
  ·rename_i i1 i2 i3 a1 j1 s ht hx
   change List UInt8 at s
   have hx':encS (f x)=.v (.one (.p a1 j1 (.str ⟨s.toArray⟩))):=by rw [hx];rfl
   simp only [Option.some.injEq] at h;subst h
   simp only [kernel,ha,hts,ht,hx']
   refine ⟨_,rfl,⟨fun _=>trivial,?_,rfl,rfl⟩⟩
   have:(P.str ⟨s.toArray⟩).len=.int .i64 s.length:=by show P.int .i64 (s.toArray.size:Nat)=_;simp
   simp only [this];rfl
  ·cases h
 ·cases h
theorem afB (args:Array Operand) (ts:Array TypeId):fC tt ety d o f (.call { callee:=.builtin .min,args:=args,argTypes:=ts }) ty:=by
 intro r h
 simp only [bT] at h
 split at h
 ·rename_i x y ha
  split at h
  ·rename_i a1 j1 k x' a2 j2 k2 y' hx hy
   have hx':encS (f x)=.v (.one (.p a1 j1 (.int k x'))):=by rw [hx];rfl
   have hy':encS (f y)=.v (.one (.p a2 j2 (.int k2 y'))):=by rw [hy];rfl
   simp only [Option.some.injEq] at h;subst h
   simp only [kernel,ha,hx',hy']
   exact ⟨_,rfl,⟨fun _=>⟨trivial,trivial⟩,rfl,rfl,rfl⟩⟩
  ·cases h
 ·rename_i x y z ha
  split at h
  ·rename_i a1 j1 k x' a2 j2 k2 y' a3 j3 k3 z' hx hy hz
   have hx':encS (f x)=.v (.one (.p a1 j1 (.int k x'))):=by rw [hx];rfl
   have hy':encS (f y)=.v (.one (.p a2 j2 (.int k2 y'))):=by rw [hy];rfl
   have hz':encS (f z)=.v (.one (.p a3 j3 (.int k3 z'))):=by rw [hz];rfl
   simp only [Option.some.injEq] at h;subst h
   simp only [kernel,ha,hx',hy',hz']
   exact ⟨_,rfl,⟨fun _=>⟨trivial,trivial,trivial⟩,rfl,rfl,rfl⟩⟩
  ·cases h
 ·cases h
theorem afC (args:Array Operand) (ts:Array TypeId):fC tt ety d o f (.call { callee:=.builtin .max,args:=args,argTypes:=ts }) ty:=by
 intro r h
 simp only [bT] at h
 split at h
 ·rename_i x y ha
  split at h
  ·rename_i a1 j1 k x' a2 j2 k2 y' hx hy
   have hx':encS (f x)=.v (.one (.p a1 j1 (.int k x'))):=by rw [hx];rfl
   have hy':encS (f y)=.v (.one (.p a2 j2 (.int k2 y'))):=by rw [hy];rfl
   simp only [Option.some.injEq] at h;subst h
   simp only [kernel,ha,hx',hy']
   exact ⟨_,rfl,⟨fun _=>⟨trivial,trivial⟩,rfl,rfl,rfl⟩⟩
  ·cases h
 ·rename_i x y z ha
  split at h
  ·rename_i a1 j1 k x' a2 j2 k2 y' a3 j3 k3 z' hx hy hz
   have hx':encS (f x)=.v (.one (.p a1 j1 (.int k x'))):=by rw [hx];rfl
   have hy':encS (f y)=.v (.one (.p a2 j2 (.int k2 y'))):=by rw [hy];rfl
   have hz':encS (f z)=.v (.one (.p a3 j3 (.int k3 z'))):=by rw [hz];rfl
   simp only [Option.some.injEq] at h;subst h
   simp only [kernel,ha,hx',hy',hz']
   exact ⟨_,rfl,⟨fun _=>⟨trivial,trivial,trivial⟩,rfl,rfl,rfl⟩⟩
  ·cases h
 ·cases h
theorem wC (e:Ty) (a b:List (Dt e)):ay e (a++b)=ay e a++ay e b:=by simp [ay]
theorem RS {sT:TypeId} {s x:TW} {r:pV} (h:LY tt ety d o sT s x=some r) :∃r',sQ tt d (aZ o) sT (aY s) (aY x)=some r'∧dU r r':=by
 simp only [LY] at h
 split at h
 ·rename_i e i1 i2 i3 ht
  split at h
  ·rename_i ie et he het
   cases hb:(Nat.beq ie.bytes 0||!Nat.beq (size et) ie.size) with
   |true=>rw [hb] at h;cases h
   |false=>
    rw [hb,cond_false] at h
    simp only [Bool.or_eq_false_iff,Bool.not_eq_false'] at hb
    have hsz:=Nat.eq_of_beq_eq_true hb.2
    have hb0:¬ ie.bytes=0:=fun e=>by rw [e] at hb;cases hb.1
    split at h
    ·cases h
    ·rename_i new a' i' hrow
     obtain ⟨ask,hr,hask⟩:=OO hrow
     rw [hsz] at hr
     simp only [sQ,ht,he,if_neg hb0,hr]
     have key :∀(pre:Bool) (pre':Prop) (old:List (Dt et)) (a i:Bool) (kill:List (Nat×TO)),(pre=true→pre')→
       dU { pre:=pre&&decide ((old.length+new.length)*ie.bytes≤140737488355328),t:=.sl et,val:=List.append old new,dst:=fun _=>.v (.one (.own d)),upd:=fun y=>kill++[(d,.arr false (a||a') (i||i') et y)],new:=[d] }
        (.mk (ask∧pre'∧((ay et old).length+(ay et new).length)*ie.bytes≤140737488355328) (.sl ie.size (ay et old++ay et new)) (fun _=>.v (.one (.own d)))
         (fun y=>gq kill++[(d,.arr false (a||a') (i||i') ie.size y.list)]) [d]):=by
      intro pre pre' old a i kill hpre
      refine ⟨fun hp => ?_,rfl,?_,rfl⟩
      ·obtain ⟨h1,h2⟩:=eY hp
       refine ⟨hask,hpre h1,?_⟩
       rw [dL,dL]
       simpa using h2
      ·simp only [jR]
       congr 1
       simp only [P.list,gq,List.map_cons,List.map_nil,cO,hsz]
       rw [←wC];rfl
     split at h
     ·simp only [Option.some.injEq] at h;subst h
      exact ⟨_,rfl,key true True [] false false [] fun _=>trivial⟩
     ·rename_i g
      split at h
      ·rename_i a i e' l hg
       split at h
       ·rename_i l' hl
        cases hgd:Nat.beq g d with
        |true=>rw [hgd] at h;cases h
        |false=>
         rw [hgd,cond_false] at h
         simp only [Option.some.injEq] at h;subst h
         obtain ⟨ee,hl⟩:=m_ hl
         cases ee
         subst hl
         simp only [aY,fF hg]
         rw [if_pos ⟨hsz,fun e=>by subst e;simp at hgd⟩]
         exact ⟨_,rfl,key true True _ a i [(g,.none)] fun _=>trivial⟩
       ·cases h
      ·cases h
     ·rename_i g lo hi
      split at h
      ·rename_i a i e' l hg
       split at h
       ·rename_i l' hl
        cases hgd:Nat.beq g d with
        |true=>rw [hgd] at h;cases h
        |false=>
         rw [hgd,cond_false] at h
         simp only [Option.some.injEq] at h;subst h
         obtain ⟨ee,hl⟩:=m_ hl
         cases ee
         subst hl
         simp only [aY,fF hg,tZ]
         rw [if_pos ⟨hsz,fun e=>by subst e;simp at hgd⟩]
         refine ⟨_,rfl,key (decide (lo=0)) (P.int .i64 lo=kH 0) (l.take hi.toNat) a i [(g,.none)] fun h => ?_⟩
         have h:lo=0:=by simpa using h
         subst h;rfl
       ·cases h
      ·cases h
     ·cases h
  ·cases h
 ·cases h
theorem WR (args:Array Operand) (ts:Array TypeId):fC tt ety d o f (.call { callee:=.builtin .append,args:=args,argTypes:=ts }) ty:=by
 intro r h
 simp only [bT] at h
 split at h
 ·rename_i s x sT xT rest ha hts
  split at h
  ·rename_i e i1 i2 i3 s' x' ht hs hx
   have hs':encS (f s)=.v (.one (aY s')):=by rw [hs];rfl
   have hx':encS (f x)=.v (.one (aY x')):=by rw [hx];rfl
   simp only [kernel,ha,hts,ht,hs',hx']
   exact RS h
  ·cases h
 ·cases h
theorem RU (op:Op):YN tt ety d o f op ty:=by
 cases op
 case move x=>exact fC.toC (abL x)
 case assign x=>exact fC.toC (WM x)
 case pick c x y=>exact fC.toC (abM c x y)
 case alloc t=>exact fC.toC (YQ t)
 case box t x=>exact fC.toC (afz t x)
 case build t ps=>exact fC.toC (YR t ps)
 case buildSlice t n ps=>exact fC.toC (Ji t n ps)
 case load t x=>exact fC.toC (abO t x)
 case store t x y=>exact fC.toC (YT t x y)
 case nilCheck x=>exact fC.toC (OQ x)
 case binOp op t x y u=>exact fC.toC (YV op t x y u)
 case unOp op t x=>exact fC.toC (abR op t x)
 case convert s t x=>exact fC.toC (RN s t x)
 case makeSlice t n c=>exact fC.toC (L_ t n c)
 case slice t x lo hi mx=>
  cases mx with
  |none=>exact fC.toC (YX t x lo hi)
  |some m=>cases lo with
   |some l=>intro r h;simp [bT] at h
   |none=>cases hi with
    |none=>intro r h;simp [bT] at h
    |some hi=>exact fC.toC (WQ t x hi m)
 case fieldAddr t x n=>exact fC.toC (Mc t x n)
 case field t x n=>exact fC.toC (YZ t x n)
 case indexAddr t x ix=>exact Me t x ix
 case index t x ix=>exact fC.toC (Y0 t x ix)
 case range t x=>exact fC.toC (Y1 t x)
 case extract t n=>exact fC.toC (RQ t n)
 case makeFunc fn first caps=>
  cases fn
  case func g=>exact fC.toC (OW g first caps)
  all_goals (intro r h;simp [bT] at h)
 case call c=>
  obtain ⟨callee,args,ts⟩:=c
  cases callee
  case builtin b=>
   cases b
   case len=>exact fC.toC (afA args ts)
   case append=>exact fC.toC (WR args ts)
   case clear=>exact fC.toC (YW args ts)
   case min=>exact fC.toC (afB args ts)
   case max=>exact fC.toC (afC args ts)
   all_goals (intro r h;simp [bT] at h)
  all_goals (intro r h;simp [bT] at h)
 all_goals (intro r h;simp [bT] at h)
end
end Go.Fg

namespace Go.Fg
open Go.Fw
set_option linter.unusedVariables false
set_option linter.unusedSectionVars false
set_option linter.unusedSimpArgs false
section
variable [RE]
def wdF:Wd:=⟨.bool,false⟩
def placesOf:Ty→List Nat
 |.prod (.st c) r=>c::placesOf r
 |_=>[]
def RV (et:Ty):List Nat→List (Nat×Ty)
 | []=>[]
 |c::cs=>match (gQ et)[c]? with
  |some (.sl t)=>(c,t)::RV et cs
  |_=>RV et cs
def Y2 (ety:TypeId→Option Ty) (e:TypeId) (et:Ty):List (Nat×Ty):=match ety (1000000+e) with
 |some t=>RV et (placesOf t)
 |none=>[]
def xG (cols:List (Nat×Ty)) (off n:Nat):List (Nat×Ty):=match cols with
 | []=>[]
 |(c,t)::r=>match Nat.ble off c&&Nat.blt c (off+n) with
  |true=>(c,t)::xG r off n
  |false=>xG r off n
def wE (o:Nat→TO) (g:Nat):Option TH:=match o g with
 |.deep a i e cols l hole=>match hole with
  |none=>some ⟨a,i,e,cols,l⟩
  |some (n,c,d)=>match o d with
   |.arr false a' i' e' l'=>match WI e cols c e' with
    |true=>some ⟨a||a',i||i',e,cols,putRow e l n c (rV e' l')⟩
    |false=>none
   |_=>none
 |_=>none
def ahR:TO→Bool
 |.arr fz _ _ _ _=>!fz
 |_=>false
def jS:List Nat→List (Nat×TO)
 | []=>[]
 |g::gs=>(g,.none)::jS gs
def cellT (e:Ty) (x:Dt e) (c:Nat) (e':Ty):List (Dt e'):=((dM e x).getD c wdF).as (.sl e')
def MB (o:Nat→TO) (col:Nat→Option Ty):Nat→List Ty→List TW→Option (List Wd×Bool×Bool×List Nat×List (Nat×Nat))
 |_,[],[]=>some ([],false,false,[],[])
 |j,t::ts,x::xs=>match MB o col (j+1) ts xs with
  |none=>none
  |some (ys,a',i',gs',es)=>match col j with
   |none=>match x.toP o t with
    |some (y,a,i,gs)=>some (⟨t,y⟩::ys,a||a',i||i',gs++gs',es)
    |none=>none
   |some s=>match tyB t (.sl s) with
    |true=>match x with
     |.bC=>some (rV s []::ys,a',i',gs',es)
     |.own e=>match o e with
      |.arr false a i s' l=>match (rV s' l).zH (.sl s) with
       |some l=>some (rV s l::ys,a||a',i||i',gs',(j,e)::es)
       |none=>none
      |_=>none
     |_=>none
    |false=>none
 |_,_,_=>none
def DR:List (Nat×Ty)→List (Nat×Ty)→Bool
 | [],[]=>true
 |(c,t)::r,(c',t')::r'=>Nat.beq c c'&&tyB t t'&&DR r r'
 |_,_=>false
def OX (o:Nat→TO) (et:Ty) (cols:List (Nat×Ty)):TW→Option (Bool×Bool×Bool×List (Dt et)×List Nat)
 |.bC=>some (true,false,false,[],[])
 |.own g=>match wE o g with
  |some ⟨a,i,e,jq,l⟩=>match (rV e l).zH (.sl et),DR jq cols with
   |some l,true=>some (true,a,i,l,g::kE (o g))
   |_,_=>none
  |none=>none
 |.vw g lo hi=>match wE o g with
  |some ⟨a,i,e,jq,l⟩=>match (rV e (l.take hi.toNat)).zH (.sl et),DR jq cols with
   |some l,true=>some (decide (lo=0),a,i,l,g::kE (o g))
   |_,_=>none
  |none=>none
 |_=>none
def t_:Ty:=.st RE.hd
def WT (n:Nat):List (Dt t_):=List.replicate n (dflt t_)
def MC (tt:TT) (o:Nat→TO) (f:Operand→TS) (t:TypeId) (x:Operand):Option pV:=match tt t,f x with
 |some i,.v (.one (.ep g n off))=>match wE o g with
  |some ⟨a,i',e,cols,l⟩=>match rW off cols with
   |some e'=>bif WI e cols off e'&&(Nat.beq i.size 1&&!i.agg)&&qY (((dM e (dflt e)).drop off).take i.size) i.zero then
     some { pre:=true,t:=.sl t_,val:=WT (List.length (α:=Dt e') (cellT e (l.getD n.toNat (dflt e)) off e')),dst:=fun z=>.v (.one (.p false false ⟨.sl t_,z⟩)),upd:=fun _=>[],new:=[] } else none
   |none=>none
  |none=>none
 |_,_=>none
def iC (tt:TT) (ety:TypeId→Option Ty) (d:Nat) (o:Nat→TO) (f:Operand→TS) (op:Op) (ty:TypeId):Option pV:=
 match op with
 |.load t x=>match ety (3000000+d) with
  |some _=>MC tt o f t x
  |none=>match tt t,f x with
  |some i,.v (.one (.ep g n off))=>match o g with
   |.deep a0 i0 e0 jD l0 _=>bif Nat.ble (off+i.size) (size e0)&&Nat.blt 0 i.size&&qY (((dM e0 (dflt e0)).drop off).take i.size) i.zero then
     match xG jD off i.size with
     | []=>some { pre:=true,t:=e0,val:=l0.getD n.toNat (dflt e0),dst:=fun z=>TV.dZ i.agg (tpw a0 i0 (((dM e0 z).drop off).take i.size)),upd:=fun _=>[],new:=[] }
     | [(c,e')]=>match wE o g with
      |some ⟨a,i',e,cols,l⟩=>match WI e cols c e'&&Nat.ble (off+i.size) (size e)&&qY (((dM e (dflt e)).drop off).take i.size) i.zero with
       |true=>some { pre:=true,t:=.sl e,val:=l,dst:=fun (y:List (Dt e))=>TV.dZ i.agg ((tpw a i' (((dM e (y.getD n.toNat (dflt e))).drop off).take i.size)).set (c-off) (.own d)),upd:=fun (y:List (Dt e))=>(g,.deep a i' e cols y (some (n.toNat,c,d)))::(d,.arr false a i' e' (cellT e (y.getD n.toNat (dflt e)) c e'))::jS (kE (o g)),new:=[d] }
       |false=>none
      |none=>none
     |_=>none
     else none
   |_=>none
  |_,_=>none
 |.store t x y=>match tt t,f x,f y with
  |some i,.v (.one (.ep g n off)),.v y=>match o g with
   |.deep a0 i0 e0 cols l0 hole=>match MB o (fun j=>rW j cols) off (((gQ e0).drop off).take i.size) y.words with
    |some (ps,a',i',gs,es)=>bif Nat.ble (off+i.size) (size e0)&&Nat.beq y.words.length i.size&&y.solid&&!dS g gs&&qM (es.map (·.2))&&Bv (es.map (·.2)) gs then
      let res (pre:Bool) (a i1:Bool) (e:Ty) (l:List (Dt e)) (gV:Option (Nat×Nat×Nat)) (ks:List Nat):pV:=
       { pre,t:=.sl e,val:=List.set l n.toNat (Jg e (Nat.beq i.size (size e)) (l.getD n.toNat (dflt e)) off ps),dst:=fun _=>.no,upd:=fun z=>(g,.deep (a||a') (i1||i') e cols z gV)::jS (es.map (·.2))++jS ks++gs.map (jY o),new:=[] }
      match xG cols off i.size with
      | []=>some (res true a0 i0 e0 l0 hole [])
      |_::_=>match hole with
       |none=>some (res true a0 i0 e0 l0 none [])
       |some (n0,c0,d0)=>match wE o g with
        |some ⟨a,i1,e,jq,l⟩=>match !dS d0 (es.map (·.2))&&!dS d0 gs with
         |true=>match tyB e e0 with
          |true=>some (res true a i1 e l none [d0])
          |false=>none
         |false=>bif Nat.ble off c0&&Nat.blt c0 (off+i.size) then some (res (Nat.beq n0 n.toNat) a0 i0 e0 l0 none []) else none
        |none=>match ahR (o d0) with
         |true=>none
         |false=>bif Nat.ble off c0&&Nat.blt c0 (off+i.size) then some (res (Nat.beq n0 n.toNat) a0 i0 e0 l0 none []) else none
      else none
    |none=>none
   |_=>none
  |_,_,_=>none
 |.buildSlice t n parts=>match tt t with
  |some { k:=.slice e,.. }=>match tt e,ety e with
   |some ie,some et=>match Y2 ety e et with
    | []=>none
    |yg::BD=>match Ah (fun m=>if m<n then some (m*ie.size,ie.size) else none) (GV (ie.zero.map WH) n) (parts.toList.map fun p=>(p.1,f p.2)) with
     |some ws=>match MB o (fun j=>rW (j % ie.size) (yg::BD)) 0 (GV (gQ et) n) ws with
      |some (ps,a,i,gs,es)=>bif Nat.ble (n+n*ie.size) 16777216&&Nat.beq (size et) ie.size&&qM (es.map (·.2))&&Bv (es.map (·.2)) gs then
        some { pre:=true,t:=.sl et,val:=Aj et n ps,dst:=fun _=>.v (.one (.own d)),upd:=fun y=>(d,.deep a i et (yg::BD) y none)::jS (es.map (·.2))++gs.map (jY o),new:=[d] } else none
      |none=>none
     |none=>none
   |_,_=>none
  |_=>none
 |.makeSlice t n c=>match tt t,f n,f c with
  |some { k:=.slice e,.. },.v (.one (.p _ _ ⟨.int .i64,n⟩)),.v (.one (.p _ _ ⟨.int .i64,c⟩))=>match tt e,ety e with
   |some ie,some et=>match Y2 ety e et with
    | []=>none
    |yg::BD=>match MB o (fun j=>rW j (yg::BD)) 0 (gQ et) (ie.zero.map WH) with
     |some (ps,false,false,[],[])=>bif Nat.blt 0 ie.size&&Nat.beq (size et) ie.size then
      some { pre:=yZ ie.bytes n c,t:=.sl et,val:=List.replicate (Int.toNat n) (jr et ps),dst:=fun _=>.v (.one (.own d)),upd:=fun y=>[(d,.deep false false et (yg::BD) y none)],new:=[d] } else none
     |_=>none
   |_,_=>none
  |_,_,_=>none
 |.call { callee:=.builtin .append,args,argTypes }=>match args.toList,argTypes.toList with
  | [s,x],sT::xT::_=>match tt sT,tt xT,f s,f x with
   |some { k:=.slice e,.. },some { k:=.slice _,.. },.v (.one s),.v (.one (.own g2))=>match tt e,wE o g2 with
    |some ie,some ⟨a2,i2,et,cols,new⟩=>match OX o et cols s with
     |some (pre,a,i,old,ks)=>bif !Nat.beq ie.bytes 0&&Nat.beq (size et) ie.size&&qM (ks++g2::kE (o g2)) then
       some { pre:=pre&&decide ((old.length+new.length)*ie.bytes≤140737488355328),t:=.sl et,val:=List.append old new,dst:=fun _=>.v (.one (.own d)),upd:=fun y=>(d,.deep (a||a2) (i||i2) et cols y none)::jS (ks++g2::kE (o g2)),new:=[d] } else none
     |none=>none
    |_,_=>none
   |_,_,_,_=>none
  |_,_=>none
 |.slice t x none hi none=>match ety 2000000 with
  |none=>none
  |some _=>match tt t,f x with
   |some { k:=.slice e,.. },.v (.one (.own g))=>match tt e,o g with
    |some ie,.arr false a i et l=>bif Nat.beq (size et) ie.size then match lq (List.length (α:=Dt et) l) (hi.map f) with
     |some hi=>some { pre:=decide (0≤hi)&&decide (hi≤(List.length (α:=Dt et) l:Int)),t:=.sl et,val:=List.take (α:=Dt et) hi.toNat l,dst:=fun _=>.v (.one (.own d)),upd:=fun y=>[(d,.arr false a i et y),(g,.none)],new:=[d] }
     |none=>none
     else none
    |_,_=>none
   |_,_=>none
 |_=>none
section
variable {o:Nat→TO} {tt:TT} {ety:TypeId→Option Ty} {d:Nat} {f:Operand→TS} {ty:TypeId}
theorem o7 (off n:Nat) :∀(cols:List (Nat×Ty)),lM (gy cols) off n=gy (xG cols off n)
 | []=>rfl
 |(c,t)::r=>by
  have ih:=o7 off n r
  simp only [lM,gy,List.map_cons,List.filter_cons,xG] at ih ⊢
  cases hb:(Nat.ble off c&&Nat.blt c (off+n)) with
  |true=>simp only [if_true,List.map_cons,ih]
  |false=>simp only [Bool.false_eq_true,if_false,ih]
theorem BU (c:Nat) (cols:List (Nat×Ty)):(gy cols).lookup c=(rW c cols).map size:=by
 cases h:rW c cols with
 |none=>exact GX h
 |some t=>exact BO h
theorem oG (g:Nat) (x:TO) (r:List (Nat×TO)):gq ((g,x)::r)=(g,cO x)::gq r:=rfl
theorem oH :∀(gs:List Nat),gq (jS gs)=kills gs
 | []=>rfl
 |g::gs=>by
  show (g,O.none)::gq (jS gs)=(g,O.none)::kills gs
  rw [oH gs]
theorem oI {g:Nat} {a i:Bool} {e:Ty} {cols:List (Nat×Ty)} {l:List (Dt e)} (h:wE o g=some ⟨a,i,e,cols,l⟩):iM (aZ o) g=some (a,i,size e,gy cols,ay e l)∧(aZ o g).hn=kE (o g):=by
 unfold wE at h
 cases ho:o g with
 |deep a0 i0 e0 jD l0 hole=>
  rw [ho] at h
  have hg:aZ o g=.deep a0 i0 (size e0) (gy jD) (ay e0 l0) hole:=by simp [aZ,ho,cO]
  rcases hole with _ | ⟨n,c,d⟩
  ·cases h
   exact ⟨by simp [iM,hg],by rw [hg];rfl⟩
  ·simp only at h
   cases hd:o d with
   |arr fz a' i' e' l'=>
    rw [hd] at h
    cases fz with
    |true=>cases h
    |false=>
     simp only at h
     split at h
     ·rename_i hc
      cases h
      obtain ⟨k1,k2,k3⟩:=rX hc
      refine ⟨?_,by rw [hg];rfl⟩
      simp only [iM,hg,fF hd]
      rw [if_pos ⟨k1,k3⟩,y7 k2]
     ·cases h
   |_=>rw [hd] at h;cases h
 |_=>rw [ho] at h;cases h
theorem RX {g n c d0:Nat} {a0 i0:Bool} {e0:Ty} {cols:List (Nat×Ty)} {l0:List (Dt e0)} (hog:o g=.deep a0 i0 e0 cols l0 (some (n,c,d0))) (h:ahR (o d0)=false):iM (aZ o) g=none:=by
 have hg:aZ o g=.deep a0 i0 (size e0) (gy cols) (ay e0 l0) (some (n,c,d0)):=by simp [aZ,hog,cO]
 simp only [iM,hg]
 cases hd:o d0 with
 |arr fz a i e l=>
  rw [hd] at h
  cases fz with
  |true=>simp [aZ,hd,cO]
  |false=>cases h
 |_=>simp [aZ,hd,cO]
theorem OY {e e':Ty} {x:Dt e} {c:Nat} (hc:(gQ e)[c]?=some (.sl e')):(iY e x)[c]?=some (enc1 ⟨.sl e',cellT e x c e'⟩):=by
 rw [eU,List.getElem?_map]
 have hlt:c<(dM e x).length:=by rw [oD,←iy];exact (List.getElem?_eq_some_iff.1 hc).1
 rw [List.getElem?_eq_getElem hlt,Option.map_some]
 have ht:((dM e x)[c]).t=.sl e':=by
  have:=oW e x
  have h2:=congrArg (fun l=>l[c]?) this
  simp only [List.getElem?_map,List.getElem?_eq_getElem hlt,Option.map_some,hc,Option.some.injEq] at h2
  exact h2
 have hg:(dM e x).getD c wdF=(dM e x)[c]:=by rw [List.getD_eq_getElem?_getD,List.getElem?_eq_getElem hlt];rfl
 unfold cellT
 rw [hg,uM ht]
theorem Am {col:Nat→Option Ty} {col':Nat→Option Nat} (abx :∀j,col' j=(col j).map size) :∀{ts:List Ty} {xs:List TW} {j:Nat} {ys:List Wd} {a i:Bool} {gs:List Nat} {es:List (Nat×Nat)},MB o col j ts xs=some (ys,a,i,gs,es)→
  Nv (aZ o) col' j (xs.map aY)=some (ys.map enc1,a,i,gs,es)∧ys.map (·.t)=ts∧Pl o gs
 | [],[],j,ys,a,i,gs,es,h=>by
  simp only [MB,Option.some.injEq,Prod.mk.injEq] at h
  obtain ⟨rfl,rfl,rfl,rfl,rfl⟩:=h
  exact ⟨rfl,rfl,Pl.nil⟩
 | [],x::xs,j,ys,a,i,gs,es,h=>by simp [MB] at h
 |t::ts,[],j,ys,a,i,gs,es,h=>by simp [MB] at h
 |t::ts,x::xs,j,ys,a,i,gs,es,h=>by
  simp only [MB] at h
  split at h
  ·cases h
  ·rename_i ys' a' i' gs' es' h2
   obtain ⟨k1,k2,k3⟩:=Am abx h2
   simp only [List.map_cons,Nv,k1,abx j]
   cases hc:col j with
   |none=>
    rw [hc] at h
    simp only at h
    split at h
    ·rename_i h1
     simp only [Option.some.injEq,Prod.mk.injEq] at h
     obtain ⟨rfl,rfl,rfl,rfl,rfl⟩:=h
     refine ⟨by simp only [Option.map_none,LZ h1,List.map_cons],by simp only [List.map_cons,k2],(RG h1).append k3⟩
    ·cases h
   |some s=>
    rw [hc] at h
    simp only at h
    split at h
    ·rename_i hts
     have hts:=wo hts
     split at h
     ·simp only [Option.some.injEq,Prod.mk.injEq] at h
      obtain ⟨rfl,rfl,rfl,rfl,rfl⟩:=h
      exact ⟨by simp only [Option.map_some,aY,List.map_cons];rfl,by simp only [List.map_cons,k2,hts];rfl,k3⟩
     ·rename_i e
      split at h
      ·rename_i a1 i1 s' l hoe
       split at h
       ·rename_i l1 hl
        simp only [Option.some.injEq,Prod.mk.injEq] at h
        obtain ⟨rfl,rfl,rfl,rfl,rfl⟩:=h
        obtain ⟨he,hl⟩:=m_ hl
        cases he
        subst hl
        refine ⟨?_,by simp only [List.map_cons,k2,hts];rfl,k3⟩
        simp only [Option.map_some,aY,fF hoe,if_true,List.map_cons]
        rfl
       ·cases h
      ·cases h
     ·cases h
    ·cases h
def G8 (tt:TT) (ety:TypeId→Option Ty) (d:Nat) (o:Nat→TO) (f:Operand→TS) (op:Op) (ty:TypeId):Prop:=
 ∀r,iC tt ety d o f op ty=some r→∃dc r',bV tt dc d (aZ o) (fun x=>encS (f x)) op ty=some r'∧dU r r'
theorem JR {i:TI} {e e':Ty} {l:List (Dt e)} {n off c:Nat} (hz:qY (((dM e (dflt e)).drop off).take i.size) i.zero=true) (c2:(gQ e)[c]?=some (.sl e')) (hc1:off≤c) (hc2:c<off+i.size) :
  (((ay e l).getD n []).getD c default).list=ay e' (cellT e (l.getD n (dflt e)) c e'):=by
 by_cases hn:n<l.length
 ·have e1:(ay e l).getD n []=iY e (l.getD n (dflt e)):=by simp [ay,List.getD_eq_getElem?_getD,hn]
  rw [e1,List.getD_eq_getElem?_getD,OY c2]
  exact g_ _ _
 ·have e1:(ay e l).getD n []=[]:=by simp [ay,List.getD_eq_getElem?_getD,List.getElem?_eq_none (Nat.le_of_not_lt hn)]
  have e2:l.getD n (dflt e)=dflt e:=by simp [List.getD_eq_getElem?_getD,List.getElem?_eq_none (Nat.le_of_not_lt hn)]
  rw [e1,e2]
  have hz':=BQ hz (c-off)
  rw [List.map_take,List.map_drop,List.getElem?_take,if_pos (by omega),List.getElem?_drop,←eU] at hz'
  have e3:off+(c-off)=c:=by omega
  rw [e3,OY c2] at hz'
  split at hz'
  ·simp only [Option.some.injEq] at hz'
   have hl:=congrArg P.list hz'
   rw [g_] at hl
   rw [hl]
   have:(QH i.zero (c-off)).list=[]:=by
    have hsl :∃sz l,QH i.zero (c-off)=P.dX sz l:=⟨_,_,hz'.symm⟩
    unfold QH at hsl ⊢
    split<;>rfl
   rw [this];rfl
  ·cases hz'
theorem abS (n:Nat):enc1 ⟨.sl t_,WT n⟩=hdr (List.replicate n ([]:List P)):=by
 have e0 :∀x,iY t_ x=[]:=fun x=>by
  have h1:=oD t_ x
  have h2:size t_=0:=by simp [t_,size,iw,RE.hdF]
  rw [h2] at h1
  rw [eU,List.eq_nil_of_length_eq_zero h1];rfl
 rw [EU]
 have e1:ay t_ (WT n)=List.replicate n []:=by
  have :∀(n:Nat),List.map (iY t_) (WT n)=List.replicate n []:=fun n=>by
   induction n with
   |zero=>rfl
   |succ n ih=>
    have e1:iY t_ (dflt t_)=[]:=e0 _
    show iY t_ (dflt t_)::List.map (iY t_) (WT n)=[]::List.replicate n []
    rw [ih,e1]
  exact this n
 have e2:size t_=0:=by simp [t_,size,iw,RE.hdF]
 rw [e1,e2]
 unfold hdr
 rw [List.length_replicate]
 cases n<;>rfl
theorem RY {t:TypeId} {x:Operand} {r:pV} (h:MC tt o f t x=some r) :∃r',yL tt (aZ o) (fun x=>encS (f x)) t x=some r'∧dU r r':=by
 unfold MC at h
 split at h
 ·rename_i i g n off ht hx
  have hx':encS (f x)=.v (.one (.ep g (.int .i64 n) off)):=by rw [hx];rfl
  have en:(P.int .i64 n).nat=n.toNat:=rfl
  split at h
  ·rename_i a i' e cols l hh
   split at h
   ·rename_i e' hca
    obtain ⟨hb,h⟩:=aV h
    obtain ⟨hb,hz⟩:=eY hb
    obtain ⟨hcb,hb⟩:=eY hb
    obtain ⟨h1,h2⟩:=eY hb
    have h1:=Nat.eq_of_beq_eq_true h1
    have h2:i.agg=false:=by simpa using h2
    simp only [Option.some.injEq] at h;subst h
    obtain ⟨k1,k2⟩:=oI hh
    obtain ⟨c1,c2,c3⟩:=rX hcb
    unfold yL
    simp only [ht,hx',k1,c1]
    rw [if_pos ⟨c3,h1,h2⟩]
    refine ⟨_,rfl,⟨fun _=>trivial,?_,rfl,rfl⟩⟩
    have key:(((ay e l).getD (P.int .i64 n).nat []).getD off default).list=ay e' (cellT e (l.getD n.toNat (dflt e)) off e'):=by
     rw [en];exact JR hz c2 (Nat.le_refl _) (by omega)
    show S.v (.one (.p false false (hdr (((ay e l).getD (P.int .i64 n).nat []).getD off default).list)))=S.v (.one (.p false false (enc1 ⟨.sl t_,WT _⟩)))
    rw [abS,key]
    unfold hdr
    rw [dL,List.length_replicate]
   ·cases h
  ·cases h
 ·cases h
theorem Y3 (t:TypeId) (x:Operand):G8 tt ety d o f (.load t x) ty:=by
 intro r h
 simp only [iC] at h
 split at h
 ·obtain ⟨r',h1,h2⟩:=RY h
  exact ⟨[(0,0)],r',h1,h2⟩
 split at h
 ·rename_i i g n off ht hx
  have hx':encS (f x)=.v (.one (.ep g (.int .i64 n) off)):=by rw [hx];rfl
  have en:(P.int .i64 n).nat=n.toNat:=rfl
  split at h
  ·rename_i a0 i0 e0 jD l0 hole hog
   have hg:aZ o g=.deep a0 i0 (size e0) (gy jD) (ay e0 l0) hole:=by simp [aZ,hog,cO]
   obtain ⟨hb,h⟩:=aV h
   obtain ⟨hb,h3⟩:=eY hb
   obtain ⟨h1,h2⟩:=eY hb
   have h1:=Nat.le_of_ble_eq_true h1
   split at h
   ·rename_i hci
    simp only [Option.some.injEq] at h;subst h
    refine ⟨[],?_⟩
    simp only [bV,X_,cond_false,ht,hx',hg]
    rw [if_pos ⟨h1,G7 h2⟩]
    have eci:lM (gy jD) off i.size=[]:=by rw [o7,hci];rfl
    simp only [eci]
    refine ⟨_,rfl,⟨fun _=>trivial,?_,rfl,rfl⟩⟩
    simp only [EG.pure,jQ]
    congr 1
    rw [en]
    exact L9 e0 l0 n.toNat off i.size i.zero h1 h3 a0 i0
   ·rename_i c e' hci
    split at h
    ·rename_i a i' e cols l hh
     split at h
     ·rename_i hcc
      obtain ⟨hcc,hz⟩:=eY hcc
      obtain ⟨hcb,hle⟩:=eY hcc
      have hle:=Nat.le_of_ble_eq_true hle
      simp only [Option.some.injEq] at h;subst h
      obtain ⟨k1,k2⟩:=oI hh
      obtain ⟨c1,c2,c3⟩:=rX hcb
      have hcin:off≤c∧c<off+i.size:=by
       have hm:(c,size e')∈lM (gy jD) off i.size:=by rw [o7,hci];simp [gy]
       have:=(List.mem_filter.1 hm).2
       simp only [Bool.and_eq_true,Nat.ble_eq,Nat.blt_eq] at this
       exact this
      refine ⟨[],?_⟩
      simp only [bV,X_,cond_false,ht,hx',hg]
      rw [if_pos ⟨h1,G7 h2⟩]
      rw [hg] at k2
      have eci:lM (gy jD) off i.size=[(c,size e')]:=by rw [o7,hci];rfl
      simp only [eci,k1]
      refine ⟨_,rfl,⟨fun _=>trivial,?_,?_,rfl⟩⟩
      ·simp only [jQ]
       congr 1
       rw [en]
       have key:=L9 e l n.toNat off i.size i.zero hle hz a i'
       simp only [P.list]
       rw [List.map_set,←key]
       apply List.ext_getElem?
       intro j
       rw [List.getElem?_set]
       simp only [List.getElem?_map,List.length_map,List.length_range]
       by_cases hj:j<i.size
       ·rw [List.getElem?_range hj]
        by_cases hjc:c-off=j
        ·rw [if_pos hjc,if_pos (by omega)]
         have:Nat.beq (off+j) c=true:=by simp;omega
         simp only [Option.map_some,this,if_true];rfl
        ·rw [if_neg hjc]
         have:Nat.beq (off+j) c=false:=by
          cases hb:Nat.beq (off+j) c with
          |false=>rfl
          |true=>have:=Nat.eq_of_beq_eq_true hb;omega
         simp only [Option.map_some,this,Bool.false_eq_true,if_false]
       ·rw [List.getElem?_eq_none (by simp;omega),if_neg (by omega)]
        rfl
      ·have key:(((ay e l).getD n.toNat []).getD c default).list=ay e' (cellT e (l.getD n.toNat (dflt e)) c e'):=JR hz c2 hcin.1 hcin.2
       show (g,O.deep a i' (size e) (gy cols) (ay e l) (some ((P.int .i64 n).nat,c,d)))::(d,O.arr false a i' (size e') ((((ay e l).getD (P.int .i64 n).nat []).getD c default).list))::kills _=gq (_::_::jS _)
       rw [oG,oG,oH,k2,en,key];rfl
     ·cases h
    ·cases h
   ·cases h
  ·cases h
 ·cases h
theorem G9 {g:Nat} {l:List Nat}:(!dS g l)=true→l.contains g=false:=by
 intro h;rw [aW] at h;simpa using h
theorem ng :∀{a b:List (Nat×Ty)},DR a b=true→a=b
 | [],[],_=>rfl
 | [],_::_,h=>by cases h
 |_::_,[],h=>by cases h
 |(c,t)::r,(c',t')::r',h=>by
  simp only [DR,Bool.and_eq_true] at h
  rw [Nat.eq_of_beq_eq_true h.1.1,wo h.1.2,ng h.2]
theorem WU (t:TypeId) (x y:Operand):G8 tt ety d o f (.store t x y) ty:=by
 intro r h
 simp only [iC] at h
 split at h
 ·rename_i i g n off y' ht hx hy
  have hx':encS (f x)=.v (.one (.ep g (.int .i64 n) off)):=by rw [hx];rfl
  have hy':encS (f y)=.v (iQ y'):=by rw [hy];rfl
  have en:(P.int .i64 n).nat=n.toNat:=rfl
  split at h
  ·rename_i a0 i0 e0 cols l0 hole hog
   have hg:aZ o g=.deep a0 i0 (size e0) (gy cols) (ay e0 l0) hole:=by simp [aZ,hog,cO]
   split at h
   ·rename_i ps a' i' gs es hD
    obtain ⟨hb,h⟩:=aV h
    obtain ⟨hb,h6⟩:=eY hb
    obtain ⟨hb,h5⟩:=eY hb
    obtain ⟨hb,h4⟩:=eY hb
    obtain ⟨hb,h3⟩:=eY hb
    obtain ⟨h1,h2⟩:=eY hb
    have h1:=Nat.le_of_ble_eq_true h1
    have h2:=Nat.eq_of_beq_eq_true h2
    obtain ⟨k1,k2,k3⟩:=Am (col':=fun j=>(gy cols).lookup j) (fun j=>BU j cols) hD
    have hl:ps.length=i.size:=by
     have:=congrArg List.length k2
     simp [iy] at this
     omega
    have hgl:gs.contains g=false:=G9 h4
    have hcnd:off+i.size≤size e0∧(y'.words.map aY).length=i.size∧(iQ y').solid=true∧gs.contains g=false∧qM (es.map (·.2))=true∧Bv (es.map (·.2)) gs=true:=
     ⟨h1,by rw [List.length_map];exact h2,rZ _ h3,hgl,h5,h6⟩
    have key :∀(pre:Bool) (pre':Prop) (a i1:Bool) (e:Ty) (l:List (Dt e)) (gV:Option (Nat×Nat×Nat)) (ks:List Nat),e=e0→(pre=true→pre')→
      dU { pre,t:=.sl e,val:=List.set l n.toNat (Jg e (Nat.beq i.size (size e)) (l.getD n.toNat (dflt e)) off ps),dst:=fun _=>.no,upd:=fun z=>(g,.deep (a||a') (i1||i') e cols z gV)::jS (es.map (·.2))++jS ks++gs.map (jY o),new:=[] }
       (.mk pre' (.sl (size e0) ((ay e l).set (P.int .i64 n).nat (aC ((ay e l).getD (P.int .i64 n).nat []) off (ps.map enc1)))) (fun _=>.no)
        (fun z=>(g,.deep (a||a') (i1||i') (size e0) (gy cols) z.list gV)::kills (es.map (·.2))++kills ks++gs.map (Fw.freeze (aZ o))) []):=by
     intro pre pre' a i1 e l gV ks he hpre
     subst he
     refine ⟨hpre,rfl,?_,rfl⟩
     show (g,O.deep (a||a') (i1||i') (size e) (gy cols) ((ay e l).set (P.int .i64 n).nat (aC ((ay e l).getD (P.int .i64 n).nat []) off (ps.map enc1))) gV)::kills (es.map (·.2))++kills ks++gs.map (Fw.freeze (aZ o))=gq ((_::jS _)++jS _++_)
     rw [jR,jR,oG,oH,oH,nI k3,en]
     have hp:=DN (e:=e) (l:=l) (n:=n.toNat) (off:=off) (ps:=ps) (by rw [hl];exact k2) (by omega)
     rw [hl] at hp
     rw [←hp];rfl
    have eci:=o7 off i.size cols
    have hk:bV tt [] d (aZ o) (fun x=>encS (f x)) (.store t x y) ty=bV tt [] d (aZ o) (fun x=>encS (f x)) (.store t x y) ty:=rfl
    refine ⟨[],?_⟩
    simp only [bV,ht,hx',hy',hg,rY,k1]
    rw [if_pos hcnd]
    split at h
    ·rename_i hci
     simp only [Option.some.injEq] at h;subst h
     have eci:lM (gy cols) off i.size=[]:=by rw [eci,hci];rfl
     simp only [eci]
     exact ⟨_,rfl,key true True a0 i0 e0 l0 hole [] rfl fun _=>trivial⟩
    ·rename_i c0 cs hci
     have eci:lM (gy cols) off i.size=(c0.1,size c0.2)::gy cs:=by rw [eci,hci];rfl
     simp only [eci]
     split at h
     ·simp only [Option.some.injEq] at h;subst h
      exact ⟨_,rfl,key true True a0 i0 e0 l0 none [] rfl fun _=>trivial⟩
     ·rename_i n0 c1 d0 _
      have over :∀(r:pV),(bif Nat.ble off c1&&Nat.blt c1 (off+i.size) then some
         ({ pre:=Nat.beq n0 n.toNat,t:=.sl e0,val:=List.set l0 n.toNat (Jg e0 (Nat.beq i.size (size e0)) (l0.getD n.toNat (dflt e0)) off ps),dst:=fun _=>.no,upd:=fun z=>(g,.deep (a0||a') (i0||i') e0 cols z none)::jS (es.map (·.2))++jS []++gs.map (jY o),new:=[] }:pV) else none)=some r→
        (off≤c1∧c1<off+i.size)∧dU r (.mk (n0=(P.int .i64 n).nat) (.sl (size e0) ((ay e0 l0).set (P.int .i64 n).nat (aC ((ay e0 l0).getD (P.int .i64 n).nat []) off (ps.map enc1)))) (fun _=>.no)
         (fun z=>(g,.deep (a0||a') (i0||i') (size e0) (gy cols) z.list none)::kills (es.map (·.2))++kills []++gs.map (Fw.freeze (aZ o))) []):=by
       intro r hr
       obtain ⟨hb,hr⟩:=aV hr
       simp only [Option.some.injEq] at hr;subst hr
       obtain ⟨q1,q2⟩:=eY hb
       exact ⟨⟨Nat.le_of_ble_eq_true q1,Nat.le_of_ble_eq_true q2⟩,key _ _ a0 i0 e0 l0 none [] rfl fun hp=>by rw [en];exact Nat.eq_of_beq_eq_true hp⟩
      split at h
      ·rename_i a i1 e jq l hh
       obtain ⟨j1,j2⟩:=oI hh
       simp only [j1]
       split at h
       ·rename_i hcc
        obtain ⟨q1,q2⟩:=eY hcc
        split at h
        ·rename_i hty
         simp only [Option.some.injEq] at h;subst h
         rw [if_pos ⟨G9 q1,G9 q2⟩]
         exact ⟨_,rfl,key true True a i1 e l none [d0] (wo hty) fun _=>trivial⟩
        ·cases h
       ·rename_i hcc
        obtain ⟨q1,q2⟩:=over r h
        rw [if_neg (by
         rintro ⟨z1,z2⟩
         rw [←aW] at z1 z2
         rw [z1,z2] at hcc;cases hcc),if_pos q1]
        exact ⟨_,rfl,q2⟩
      ·split at h
       ·cases h
       ·rename_i har
        obtain ⟨q1,q2⟩:=over r h
        simp only [RX hog har]
        rw [if_pos q1]
        exact ⟨_,rfl,q2⟩
   ·cases h
  ·cases h
 ·cases h
theorem Jj (t:TypeId) (n c:Operand):G8 tt ety d o f (.makeSlice t n c) ty:=by
 intro r h
 simp only [iC] at h
 split at h
 ·rename_i e i1 i2 i3 a1 j1 n' a2 j2 c' ht hn hc
  change Int at n';change Int at c'
  have hn':encS (f n)=.v (.one (.p a1 j1 (.int .i64 n'))):=by rw [hn];rfl
  have hc':encS (f c)=.v (.one (.p a2 j2 (.int .i64 c'))):=by rw [hc];rfl
  split at h
  ·rename_i ie et he het
   split at h
   ·cases h
   ·rename_i yg BD hdc
    split at h
    ·rename_i ps hp
     obtain ⟨hb,h⟩:=aV h
     simp only [Option.some.injEq] at h;subst h
     obtain ⟨h1,h2⟩:=eY hb
     have hsz:=Nat.eq_of_beq_eq_true h2
     obtain ⟨k1,k2,_⟩:=Am (col':=fun j=>(gy (yg::BD)).lookup j) (fun j=>BU j (yg::BD)) hp
     rw [qy] at k1
     refine ⟨gy (yg::BD),?_⟩
     have edc:gy (yg::BD)=(yg.1,size yg.2)::gy BD:=rfl
     simp only [bV,ht,hn',hc',edc,he]
     rw [edc] at k1
     simp only [k1]
     rw [if_pos (G7 h1)]
     refine ⟨_,rfl,⟨fun hp => ?_,rfl,?_,rfl⟩⟩
     ·have hp:yZ ie.bytes n' c'=true:=hp
      simp only [yZ,Bool.and_eq_true,decide_eq_true_eq] at hp
      obtain ⟨⟨⟨q1,q2⟩,q3⟩,q4⟩:=hp
      exact ⟨n'.toNat,c'.toNat,by congr 1;omega,by congr 1;omega,by omega,by
       have:((ie.bytes*c'.toNat:Nat):Int)≤281474976710656:=by
        rw [Int.natCast_mul,Int.toNat_of_nonneg (by omega)];exact q3
       omega,by omega⟩
     ·show [(d,O.deep false false ie.size ((yg.1,size yg.2)::gy BD) (List.replicate (P.int .i64 n').nat (ps.map enc1)) none)]=gq [(d,_)]
      have en:(P.int .i64 n').nat=n'.toNat:=rfl
      rw [oG,en]
      simp only [cO,edc,hsz,ay,List.map_replicate,qw k2];rfl
    ·cases h
  ·cases h
 ·cases h
theorem G_ (t:TypeId) (n:Nat) (ps:Array (Nat×Operand)):G8 tt ety d o f (.buildSlice t n ps) ty:=by
 intro r h
 simp only [iC] at h
 split at h
 ·rename_i e i1 i2 i3 ht
  split at h
  ·rename_i ie et he het
   split at h
   ·cases h
   ·rename_i yg BD hdc
    split at h
    ·rename_i ws hw
     split at h
     ·rename_i qs a i gs es hp
      obtain ⟨hb,h⟩:=aV h
      simp only [Option.some.injEq] at h;subst h
      obtain ⟨hb,h4⟩:=eY hb
      obtain ⟨hb,h3⟩:=eY hb
      obtain ⟨h1,h2⟩:=eY hb
      have hsz:=Nat.eq_of_beq_eq_true h2
      have:=Ak hw
      rw [G6,qy] at this
      have edc:gy (yg::BD)=(yg.1,size yg.2)::gy BD:=rfl
      obtain ⟨k1,k2,k3⟩:=Am (col':=fun j=>((yg.1,size yg.2)::gy BD).lookup (j % ie.size)) (fun j=>by rw [←edc];exact BU (j % ie.size) (yg::BD)) hp
      refine ⟨gy (yg::BD),?_⟩
      simp only [bV,ht,edc,he,BP,this,k1]
      rw [if_pos ⟨Nat.le_of_ble_eq_true h1,h3,h4⟩]
      refine ⟨_,rfl,⟨fun _=>trivial,rfl,?_,rfl⟩⟩
      show (d,O.deep a i ie.size ((yg.1,size yg.2)::gy BD) (chunks ie.size n (qs.map enc1)) none)::kills (es.map (·.2))++gs.map (Fw.freeze (aZ o))=gq ((_::jS _)++_)
      rw [jR,oG,oH,nI k3]
      have e1:=y8 et n qs k2
      rw [hsz] at e1
      simp only [cO,edc,hsz]
      rw [←e1]
     ·cases h
    ·cases h
  ·cases h
 ·cases h
theorem RZ (args:Array Operand) (ts:Array TypeId):G8 tt ety d o f (.call { callee:=.builtin .append,args:=args,argTypes:=ts }) ty:=by
 intro r h
 simp only [iC] at h
 split at h
 ·rename_i s x sT xT rest ha hts
  split at h
  ·rename_i e i1 i2 i3 e' j1 j2 j3 s' g2 hsT hxT hs hx
   have hs':encS (f s)=.v (.one (aY s')):=by rw [hs];rfl
   have hx':encS (f x)=.v (.one (.own g2)):=by rw [hx];rfl
   split at h
   ·rename_i ie a2 i2' et cols new he hh
    obtain ⟨j1',j2'⟩:=oI hh
    split at h
    ·rename_i pre a i old ks hbase
     obtain ⟨hb,h⟩:=aV h
     simp only [Option.some.injEq] at h;subst h
     obtain ⟨hb,h3⟩:=eY hb
     obtain ⟨h1,h2⟩:=eY hb
     have hsz:=Nat.eq_of_beq_eq_true h2
     have hb0:ie.bytes≠0:=fun e=>by rw [e] at h1;cases h1
     have hB :∃ask src,baseD (aZ o) (aY s')=some (ask,a,i,ay et old,ks,src)∧(src=none∨src=some (size et,gy cols))∧(pre=true→ask):=by
      cases s' with
      |bC=>
       simp only [OX,Option.some.injEq,Prod.mk.injEq] at hbase
       obtain ⟨rfl,rfl,rfl,rfl,rfl⟩:=hbase
       exact ⟨True,none,rfl,.inl rfl,fun _=>trivial⟩
      |own g=>
       simp only [OX] at hbase
       split at hbase
       ·rename_i a1 i1 e1 jq l hg
        obtain ⟨q1,q2⟩:=oI hg
        split at hbase
        ·rename_i l1 hl hc
         simp only [Option.some.injEq,Prod.mk.injEq] at hbase
         obtain ⟨rfl,rfl,rfl,rfl,rfl⟩:=hbase
         obtain ⟨ee,hl⟩:=m_ hl
         cases ee
         subst hl
         have:=ng hc
         subst this
         exact ⟨True,some (size et,gy jq),by simp only [aY,baseD,q1,q2],.inr rfl,fun _=>trivial⟩
        ·cases hbase
       ·cases hbase
      |vw g lo hi=>
       simp only [OX] at hbase
       split at hbase
       ·rename_i a1 i1 e1 jq l hg
        obtain ⟨q1,q2⟩:=oI hg
        split at hbase
        ·rename_i l1 hl hc
         simp only [Option.some.injEq,Prod.mk.injEq] at hbase
         obtain ⟨rfl,rfl,rfl,rfl,rfl⟩:=hbase
         obtain ⟨ee,hl⟩:=m_ hl
         cases ee
         subst hl
         have:=ng hc
         subst this
         refine ⟨P.int .i64 lo=kH 0,some (size et,gy jq),by simp only [aY,baseD,q1,q2,tZ],.inr rfl,fun h => ?_⟩
         have h:lo=0:=by simpa using h
         subst h;rfl
        ·cases hbase
       ·cases hbase
      |_=>simp [OX] at hbase
     obtain ⟨ask,src,q1,q2,q3⟩:=hB
     refine ⟨[],?_⟩
     simp only [bV,ha,hts,hsT,hxT,hs',hx',he,q1,j1']
     rw [if_pos ⟨hb0,hsz,q2,by rw [j2'];exact h3⟩]
     refine ⟨_,rfl,⟨fun hp => ?_,rfl,?_,rfl⟩⟩
     ·obtain ⟨p1,p2⟩:=eY hp
      refine ⟨q3 p1,?_⟩
      rw [dL,dL]
      simpa using p2
     ·show (d,O.deep (a||a2) (i||i2') (size et) (gy cols) (ay et old++ay et new) none)::kills (ks++g2::(aZ o g2).hn)=gq (_::jS _)
      rw [oG,oH,j2',←wC];rfl
    ·cases h
   ·cases h
  ·cases h
 ·cases h
theorem WV (t:TypeId) (x:Operand) (lo hi mx:Option Operand):G8 tt ety d o f (.slice t x lo hi mx) ty:=by
 intro r h
 cases lo with
 |some _=>simp [iC] at h
 |none=>
 cases mx with
 |some _=>simp [iC] at h
 |none=>
 simp only [iC] at h
 split at h
 ·cases h
 ·split at h
  ·rename_i e i1 i2 i3 g ht hx
   have hx':encS (f x)=.v (.one (.own g)):=by rw [hx];rfl
   split at h
   ·rename_i ie a i et l he hg
    change List (Dt et) at l
    obtain ⟨hb,h⟩:=aV h
    split at h
    ·rename_i hi' hhi
     simp only [Option.some.injEq] at h;subst h
     have yJ:=lX hhi
     have hg':aZ o g=.arr false a i (size et) (ay et l):=fF hg
     refine ⟨[],?_⟩
     have en:kH (ay et l).length=P.int .i64 (List.length (α:=Dt et) l:Int):=by rw [dL];rfl
     simp only [bV,ht,hx',he,hg']
     rw [if_pos (Nat.eq_of_beq_eq_true hb)]
     simp only [en,yJ]
     refine ⟨_,rfl,⟨fun hp => ?_,rfl,?_,rfl⟩⟩
     ·obtain ⟨h1,h2⟩:=eY hp
      have h1:=of_decide_eq_true h1
      have h2:=of_decide_eq_true h2
      exact ⟨hi'.toNat,by rw [Int.toNat_of_nonneg h1],by rw [dL];omega⟩
     ·show [(d,O.arr false a i (size et) ((ay et l).take (P.nat (.int .i64 hi')))),(g,O.none)]=[(d,O.arr false a i (size et) (ay et (List.take hi'.toNat l))),(g,O.none)]
      rw [tZ]
    ·cases h
   ·cases h
  ·cases h
theorem OZ (op:Op):G8 tt ety d o f op ty:=by
 cases op
 case load t x=>exact Y3 t x
 case store t x y=>exact WU t x y
 case buildSlice t n ps=>exact G_ t n ps
 case makeSlice t n c=>exact Jj t n c
 case slice t x lo hi mx=>exact WV t x lo hi mx
 case call c=>
  obtain ⟨callee,args,ts⟩:=c
  cases callee
  case builtin b=>
   cases b
   case append=>exact RZ args ts
   all_goals (intro r h;simp [iC] at h)
  all_goals (intro r h;simp [iC] at h)
 all_goals (intro r h;simp [iC] at h)
end
end
end Go.Fg

namespace Go.Fg
open Go.Fw
set_option linter.unusedVariables false
set_option linter.unusedSectionVars false
inductive Prog:Type→Type 1 where
 |ret {R:Type} (r:R):Prog R
 |stuck {R:Type} (n:Nat):Prog R
 |cond {R:Type} (b:Bool) (x y:Prog R):Prog R
 |chk {R:Type} (b:Bool) (x:Prog R):Prog R
 |any {R:Type} (x y:Prog R):Prog R
 |let_ {A R:Type} (x:A) (k:A→Prog R):Prog R
 |join {A R:Type} (x:Prog A) (k:A→Prog R):Prog R
 |JU {A R:Type} (x:Prog (A ⊕ R)) (k:A→Prog R):Prog R
 |loop {A R:Type} (a:A) (body:A→Prog (A ⊕ R)):Prog R
 |call {A B R:Type} (n:Nat) (f:A→Option B) (a:A) (k:B→Prog R):Prog R
def Prog.map:{R R':Type}→(R→R')→Prog R→Prog R'
 |_,_,f,.ret r=>.ret (f r)
 |_,_,_,.stuck n=>.stuck n
 |_,_,f,.cond b x y=>.cond b (x.map f) (y.map f)
 |_,_,f,.chk b x=>.chk b (x.map f)
 |_,_,f,.any x y=>.any (x.map f) (y.map f)
 |_,_,f,.let_ x k=>.let_ x fun z=>(k z).map f
 |_,_,f,.join x k=>.join x fun z=>(k z).map f
 |_,_,f,.JU x k=>.JU (x.map (Sum.map id f)) fun z=>(k z).map f
 |_,_,f,.loop a body=>.loop a fun z=>(body z).map (Sum.map id f)
 |_,_,f,.call n g a k=>.call n g a fun z=>(k z).map f
def gI {A R:Type} (body:A→Option (A ⊕ R)):Nat→A→Option R
 |0,_=>none
 |n+1,a=>(body a).bind fun
  |.inl a'=>gI body n a'
  |.inr r=>some r
open Classical in
noncomputable def aX {A R:Type} (body:A→Option (A ⊕ R)) (a:A):Option R:=
 if h :∃n r,gI body n a=some r then gI body (Classical.choose h) a else none
open Classical in
noncomputable def both {R:Type} (x y:Option R):Option R:=if x=y then x else none
def ck {R:Type} (b:Bool) (x:Option R):Option R:=bif b then x else none
def dh {A R:Type} (x:Option (A ⊕ R)) (k:A→Option R):Option R:=x.bind fun
 |.inl z=>k z
 |.inr r=>some r
def bW (x:Int):Int:=IntKind.i64.wrap x
noncomputable def Prog.run:{R:Type}→Prog R→Option R
 |_,.ret r=>some r
 |_,.stuck _=>none
 |_,.cond b x y=>bif b then x.run else y.run
 |_,.chk b x=>ck b x.run
 |_,.any x y=>both x.run y.run
 |_,.let_ x k=>(k x).run
 |_,.join x k=>x.run.bind fun z=>(k z).run
 |_,.JU x k=>dh x.run fun z=>(k z).run
 |_,.loop a body=>aX (fun z=>(body z).run) a
 |_,.call _ g a k=>(g a).bind fun z=>(k z).run
section
variable [RE]
inductive jl where
 |p (a i:Bool) (t:Ty)
 |bC
 |own (g:Nat)
 |box (g off:Nat)
 |fn (f:FuncId) (gs:List Nat)
 |lF (g:Nat)
 |no
 |vw (g:Nat)
 |ep (g off:Nat)
inductive jI where
 |one (x:jl)
 |agg (xs:List jl)
inductive fZ where
 |box (ws:List jl)
 |arr (fz a i:Bool) (e:Ty)
 |it
 |deep (a i:Bool) (e:Ty) (cols:List (Nat×Ty))
structure JV where
 slots:List (Nat×jI)
 objs:List (Nat×fZ)
def jl.er:jl→WS
 |.p a i _=>.p a i
 |.bC=>.bC
 |.own g=>.own g
 |.box g off=>.box g off
 |.fn f gs=>.fn f gs
 |.lF g=>.lF g
 |.no=>.no
 |.vw g=>.vw g
 |.ep g off=>.ep g off
def jI.er:jI→SS
 |.one x=>.one x.er
 |.agg xs=>.agg (xs.map jl.er)
def fZ.er:fZ→OS
 |.box ws=>.box (ws.map jl.er)
 |.arr fz a i e=>.arr fz a i (size e)
 |.it=>.it
 |.deep a i e cols=>.deep a i (size e) (gy cols)
def JV.er (j:JV):Shape:=⟨j.slots.map fun p=>(p.1,p.2.er),j.objs.map fun p=>(p.1,p.2.er)⟩
def jl.tys:jl→List Ty
 |.p _ _ t=>[t]
 |.vw _=>[.int .i64,.int .i64]
 |.ep _ _=>[.int .i64]
 |_=>[]
def jI.tys:jI→List Ty
 |.one x=>x.tys
 |.agg xs=>xs.flatMap jl.tys
def fZ.tys:fZ→List Ty
 |.box ws=>ws.flatMap jl.tys
 |.arr _ _ _ e=>[.sl e]
 |.it=>[.str,.int .i64]
 |.deep _ _ e _=>[.sl e]
def JV.tys (j:JV):List Ty:=j.slots.flatMap (fun p=>p.2.tys)++j.objs.flatMap fun p=>p.2.tys
def Tup:List Ty→Type
 | []=>Unit
 | [t]=>Dt t
 |t::u::ts=>Dt t×Tup (u::ts)
def Tup.jm:(ts:List Ty)→Tup ts→List Wd
 | [],_=>[]
 | [t],x=>[⟨t,x⟩]
 |t::u::ts,x=>⟨t,x.1⟩::Tup.jm (u::ts) x.2
def Tup.ofL:(ts:List Ty)→List Wd→Option (Tup ts)
 | [],[]=>some ()
 | [t],[w]=>w.zH t
 |t::u::ts,w::ws=>match w.zH t,Tup.ofL (u::ts) ws with
  |some x,some xs=>some (x,xs)
  |_,_=>none
 |_,_=>none
def EW (m:Ren):List Nat→List TW→Bool
 | [],[]=>true
 |g'::gs,.box g off::cs=>decide (m.lookup g'=some (some g))&&(Nat.beq off 0&&EW m gs cs)
 |_,_=>false
def BX:List Nat→List TW
 | []=>[]
 |g::gs=>.box g 0::BX gs
def BZ (m:Ren):jl→TW→Option (List Wd)
 |.p a i t,.p a' i' w=>match w.zH t with
  |some _=>bif (imp a' a&&imp i' i)||w.t.flat then some [w] else none
  |none=>none
 |.p _ _ t,.bC=>match t with
  |.sl e=>some [rV e []]
  |_=>none
 |.bC,.bC=>some []
 |.own g',.own g=>if m.lookup g'=some (some g) then some [] else none
 |.own g',.bC=>if m.lookup g'=some none then some [] else none
 |.box g' off,.box g off'=>if m.lookup g'=some (some g)∧off=off' then some [] else none
 |.fn f gs,.clo f' caps=>bif Nat.beq f f'&&EW m gs caps then some [] else none
 |.lF g',.lF g=>if m.lookup g'=some (some g) then some [] else none
 |.no,_=>some []
 |.vw g',.vw g lo hi=>if m.lookup g'=some (some g) then some [ji .i64 lo,ji .i64 hi] else none
 |.ep g' off,.ep g n off'=>if m.lookup g'=some (some g)∧off=off' then some [ji .i64 n] else none
 |_,_=>none
def wF (m:Ren):List jl→List TW→Option (List Wd)
 | [],[]=>some []
 |k::ks,x::xs=>match BZ m k x,wF m ks xs with
  |some u,some v=>some (u++v)
  |_,_=>none
 |_,_=>none
def abT (m:Ren):jI→TS→Option (List Wd)
 |.one k,.v (.one x)=>BZ m k x
 |.agg ks,.v (.agg xs)=>wF m ks xs
 |_,_=>none
def R_ (m:Ren):fZ→TO→Option (List Wd)
 |.box ks,.box xs=>wF m ks xs
 |.arr fz a i e,.arr fz' a' i' e' l=>match (rV e' l).zH (.sl e) with
  |some l=>if fz=fz'∧(imp a' a&&imp i' i)=true then some [rV e l] else none
  |none=>none
 |.it,.it s n=>some [OJ s,ji .i64 n]
 |.deep a i e cols,.deep a' i' e' jq l hole=>match hole,(rV e' l).zH (.sl e),DR cols jq with
  |none,some l,true=>if (imp a' a&&imp i' i)=true then some [rV e l] else none
  |_,_,_=>none
 |_,_=>none
def lY (m:Ren) (s:Nat→TS):List (Nat×jI)→Option (List Wd)
 | []=>some []
 |(t,k)::rest=>match abT m k (s t),lY m s rest with
  |some u,some v=>some (u++v)
  |_,_=>none
def oh (m:Ren) (o:Nat→TO):List (Nat×fZ)→Option (List Wd)
 | []=>some []
 |(g',k)::rest=>match (match m.lookup g' with
   |some (some g)=>R_ m k (o g)
   |some none=>(match k with
    |.arr false _ _ e=>some [rV e []]
    |.deep _ _ e _=>some [rV e []]
    |_=>none)
   |none=>none),oh m o rest with
  |some u,some v=>some (u++v)
  |_,_=>none
def xH (j:JV) (m:Ren) (st:je):Option (List Wd):=
 match j.er.ok&&aem j.er m with
 |true=>match lY m st.gs j.slots,oh m st.go j.objs with
  |some u,some v=>some (u++v)
  |_,_=>none
 |false=>none
def y9:Wd:=⟨.bool,false⟩
def zf (vs:List Wd) (n:Nat):jl→TW×Nat
 |.p a i _=>(.p a i (vs.getD n y9),n+1)
 |.bC=>(.bC,n)
 |.own g=>(.own g,n)
 |.box g off=>(.box g off,n)
 |.fn f gs=>(.clo f (BX gs),n)
 |.lF g=>(.lF g,n)
 |.no=>(.no,n)
 |.vw g=>(.vw g ((vs.getD n y9).as (.int .i64)) ((vs.getD (n+1) y9).as (.int .i64)),n+2)
 |.ep g off=>(.ep g ((vs.getD n y9).as (.int .i64)) off,n+1)
def su (vs:List Wd):Nat→List jl→List TW×Nat
 |n,[]=>([],n)
 |n,k::ks=>((zf vs n k).1::(su vs (zf vs n k).2 ks).1,(su vs (zf vs n k).2 ks).2)
def EL (vs:List Wd) (n:Nat):jI→TS×Nat
 |.one k=>(.v (.one (zf vs n k).1),(zf vs n k).2)
 |.agg ks=>(.v (.agg (su vs n ks).1),(su vs n ks).2)
def B_ (vs:List Wd) (n:Nat):fZ→TO×Nat
 |.box ks=>(.box (su vs n ks).1,(su vs n ks).2)
 |.arr fz a i e=>(.arr fz a i e ((vs.getD n y9).as (.sl e)),n+1)
 |.it=>(.it ((vs.getD n y9).as .str) ((vs.getD (n+1) y9).as (.int .i64)),n+2)
 |.deep a i e cols=>(.deep a i e cols ((vs.getD n y9).as (.sl e)) none,n+1)
def eF (vs:List Wd):Nat→List (Nat×jI)→List (Nat×TS)×Nat
 |n,[]=>([],n)
 |n,(t,k)::rest=>((t,(EL vs n k).1)::(eF vs (EL vs n k).2 rest).1,(eF vs (EL vs n k).2 rest).2)
def iT (vs:List Wd):Nat→List (Nat×fZ)→List (Nat×TO)×Nat
 |n,[]=>([],n)
 |n,(g,k)::rest=>((g,(B_ vs n k).1)::(iT vs (B_ vs n k).2 rest).1,(iT vs (B_ vs n k).2 rest).2)
def mkT (j:JV) (vs:List Wd):je:=
 { s:=(eF vs 0 j.slots).1,o:=(iT vs (eF vs 0 j.slots).2 j.objs).1,u:=j.objs.map (·.1) }
def Us:List Nat→List TW→Ren
 |g'::gs,.box g _::cs=>(g',some g)::Us gs cs
 |_,_=>[]
def ahS:jl→TW→Ren
 |.own g',.own g=>[(g',some g)]
 |.own g',.bC=>[(g',none)]
 |.box g' _,.box g _=>[(g',some g)]
 |.lF g',.lF g=>[(g',some g)]
 |.fn _ gs,.clo _ caps=>Us gs caps
 |.vw g',.vw g _ _=>[(g',some g)]
 |.ep g' _,.ep g _ _=>[(g',some g)]
 |_,_=>[]
def Y4:List jl→List TW→Ren
 |k::ks,x::xs=>ahS k x++Y4 ks xs
 |_,_=>[]
def akZ:jI→TS→Ren
 |.one k,.v (.one x)=>ahS k x
 |.agg ks,.v (.agg xs)=>Y4 ks xs
 |_,_=>[]
def O1 (s:Nat→TS):List (Nat×jI)→Ren
 | []=>[]
 |(t,k)::r=>akZ k (s t)++O1 s r
def EX (m:Ren) (o:Nat→TO):List (Nat×fZ)→Ren
 | []=>[]
 |(g',.box ks)::r=>(match m.lookup g' with
  |some (some g)=>match o g with
   |.box ws=>Y4 ks ws
   |_=>[]
  |_=>[])++EX m o r
 |_::r=>EX m o r
def derive (aK:List Nat) (j:JV) (st:je):Ren:=
 let m0:=aK.map (fun g=>(g,some g))++O1 st.gs j.slots
 let m1:=m0++EX m0 st.go j.objs
 m1++EX m1 st.go j.objs
structure bU where
 nargs:Nat
 pin:JV
 aF:JV
 bP:Nat
 aK:List Nat
 news:List Nat
 kept:List Nat:=[]
def bU.er (s:bU):xA:={ nargs:=s.nargs,pin:=s.pin.er,aF:=s.aF.er,bP:=s.bP,aK:=s.aK,news:=s.news }
open Classical in
noncomputable def uV {A R:Type} (x y:A) (r:Option R):Option R:=if x=y then r else none
noncomputable def He {R:Type} (a b:Nat→TO) (r:R):List Nat→Option R
 | []=>some r
 |g::gs=>match a g,b g with
  |.arr false _ _ e l,.arr false _ _ e' l'=>match (rV e' l').zH (.sl e) with
   |some l''=>uV (A:=List (Dt e)) l'' l (He a b r gs)
   |none=>none
  |.deep _ _ e cols l none,.deep _ _ e' jq l' none=>match (rV e' l').zH (.sl e),DR cols jq with
   |some l'',true=>uV (A:=List (Dt e)) l'' l (He a b r gs)
   |_,_=>none
  |_,_=>none
structure aP where
 sig:bU
 f:Tup sig.pin.tys→Option (Tup sig.aF.tys)
noncomputable def aP.ff (s:aP):Tup s.sig.pin.tys→Option (Tup s.sig.aF.tys):=match s.sig.kept with
 | []=>s.f
 |g::gs=>fun x=>(s.f x).bind fun y=>He (mkT s.sig.pin (Tup.jm s.sig.pin.tys x)).go (mkT s.sig.aF (Tup.jm s.sig.aF.tys y)).go y (g::gs)
abbrev lZ:=FuncId→Option aP
structure EM where
 ins:List Wd
 A:Bool×Bool
 I:Bool×Bool
 sN:List Nat
 ren:List (Nat×Nat)
def nJ:List Nat→List TW→Option (List (Nat×Nat))
 | [],[]=>some []
 |g'::gs,.box g off::cs=>bif Nat.beq off 0 then match nJ gs cs with
  |some r=>some ((g',g)::r)
  |none=>none
  else none
 |_,_=>none
def JW (o:Nat→TO):jl→TW→Option (List Wd×(Bool×Bool)×List Nat×List (Nat×Nat))
 |.p _ _ t,x=>match x.toP o t with
  |some (y,a,i,gs)=>some ([⟨t,y⟩],(a,i),gs,[])
  |none=>none
 |.own g',.own g=>some ([],(false,false),[],[(g',g)])
 |.box g' off',.box g off=>bif Nat.beq off' 0&&Nat.beq off 0 then some ([],(false,false),[],[(g',g)]) else none
 |.fn f gs,.clo f' caps=>bif Nat.beq f f' then match nJ gs caps with
  |some r=>some ([],(false,false),[],r)
  |none=>none
  else none
 |_,_=>none
def nT (o:Nat→TO):List jl→List TW→Option (List Wd×(Bool×Bool)×List Nat×List (Nat×Nat))
 | [],[]=>some ([],(false,false),[],[])
 |k::ks,x::xs=>match JW o k x,nT o ks xs with
  |some (u,c,g,r),some (u',c',g',r')=>some (u++u',uT c c',g++g',r++r')
  |_,_=>none
 |_,_=>none
def Ut (o:Nat→TO):jI→TS→Option (List Wd×(Bool×Bool)×List Nat×List (Nat×Nat))
 |.one k,.v (.one x)=>JW o k x
 |.agg ks,.v (.agg xs)=>nT o ks xs
 |_,_=>none
def lu (o:Nat→TO) (args:List TS):List (Nat×jI)→Option (List Wd×(Bool×Bool)×List Nat×List (Nat×Nat))
 | []=>some ([],(false,false),[],[])
 |(t,k)::rest=>match Ut o k (args.getD t .no),lu o args rest with
  |some (u,c,g,r),some (u',c',g',r')=>some (u++u',uT c c',g++g',r++r')
  |_,_=>none
def afE:jl→TW→Option (List Wd×(Bool×Bool)×List (Nat×Nat))
 |.p _ _ t,.p a i w=>match w.zH t with
  |some x=>some ([⟨t,x⟩],(a,i),[])
  |none=>none
 |.p _ _ t,.bC=>match t with
  |.sl e=>some ([rV e []],(false,false),[])
  |_=>none
 |.own g',.own g=>some ([],(false,false),[(g',g)])
 |.box g' off',.box g off=>bif Nat.beq off' 0&&Nat.beq off 0 then some ([],(false,false),[(g',g)]) else none
 |.fn f gs,.clo f' caps=>bif Nat.beq f f' then match nJ gs caps with
  |some r=>some ([],(false,false),r)
  |none=>none
  else none
 |_,_=>none
def Hf:List jl→List TW→Option (List Wd×(Bool×Bool)×List (Nat×Nat))
 | [],[]=>some ([],(false,false),[])
 |k::ks,x::xs=>match afE k x,Hf ks xs with
  |some (u,c,r),some (u',c',r')=>some (u++u',uT c c',r++r')
  |_,_=>none
 |_,_=>none
def uf (o:Nat→TO):List (Nat×Nat)→List (Nat×fZ)→Option (List Wd×(Bool×Bool)×List (Nat×Nat))
 |ren,[]=>some ([],(false,false),ren)
 |ren,(g',k)::rest=>match ren.lookup g' with
  |some g=>match k,o g with
   |.box ks,.box ws=>match Hf ks ws with
    |some (u,c,r)=>match uf o (ren++r) rest with
     |some (u',c',r')=>some (u++u',uT c c',r')
     |none=>none
    |none=>none
   |.arr _ _ _ e,.arr false a i e' l=>match (rV e' l).zH (.sl e) with
    |some l=>match uf o ren rest with
     |some (u',c',r')=>some (rV e l::u',uT (a,i) c',r')
     |none=>none
    |none=>none
   |.deep _ _ e cols,.deep a i e' jq l hole=>match hole,(rV e' l).zH (.sl e),DR cols jq with
    |none,some l,true=>match uf o ren rest with
     |some (u',c',r')=>some (rV e l::u',uT (a,i) c',r')
     |none=>none
    |_,_,_=>none
   |_,_=>none
  |none=>none
def ug (s:bU) (o:Nat→TO) (args:List TS):Option EM:=
 match lu o args s.pin.slots with
 |some (u,A,gs,r)=>match uf o r s.pin.objs with
  |some (u',I,r')=>some { ins:=u++u',A,I,sN:=gs,ren:=iV r' }
  |none=>none
 |none=>none
def EM.er (c:EM):Ja:={ ins:=c.ins.map enc1,A:=c.A,I:=c.I,sN:=c.sN,ren:=c.ren }
def wG (f:Nat→Nat):List TW→List TW
 | []=>[]
 |.box g off::r=>.box (f g) off::wG f r
 |_::r=>.no::wG f r
def WW (A I:Bool×Bool) (f:Nat→Nat):TW→TW
 |.p a i x=>.p (oP A I a i).1 (oP A I a i).2 x
 |.bC=>.bC
 |.own g=>.own (f g)
 |.box g off=>.box (f g) off
 |.clo fn caps=>.clo fn (wG f caps)
 |_=>.no
def afF (A I:Bool×Bool) (f:Nat→Nat):TV→TV
 |.one x=>.one (WW A I f x)
 |.agg xs=>.agg (xs.map (WW A I f))
def Y5 (A I:Bool×Bool) (f:Nat→Nat):TS→TV
 |.v x=>afF A I f x
 |_=>.one .no
def MF (A I:Bool×Bool) (f:Nat→Nat):TO→TO
 |.none=>.none
 |.box ws=>.box (ws.map (WW A I f))
 |.arr fz a i e l=>.arr fz (oP A I a i).1 (oP A I a i).2 e l
 |.it s n=>.it s n
 |.deep a i e cols l _=>.deep (oP A I a i).1 (oP A I a i).2 e cols l none
structure jf where
 x:TS
 upd:List (Nat×TO)
 new:List Nat
def jf.er (e:jf):Eff:={ x:=encS e.x,upd:=gq e.upd,new:=e.new }
def Y6 (vs:List TV):TS:=match vs with
 | [x]=>.v x
 |xs=>.ku xs
def jv (s:bU) (d:Nat) (o:Nat→TO) (c:EM) (outs:List Wd):jf:=
 let x:=mkT s.aF outs
 let f:=callName d s.er c.ren
 { x:=Y6 ((List.range s.bP).map fun k=>Y5 c.A c.I f (x.gs k)),upd:=(bif s.er.kM then c.sN.map (jY o) else [])++c.ren.map (fun p=>(p.2,bif s.aK.contains p.1 then MF c.A c.I f (x.go p.1) else .none))++s.news.map (fun g=>(f g,MF c.A c.I f (x.go g))),new:=s.news.map f }
def afG:Bool→Bool→Bool
 |true,true=>true
 |false,false=>true
 |_,_=>false
def Si:TO→Option (Bool×Bool)
 |.arr fz a i _ _=>match fz with
  |true=>none
  |false=>some (a,i)
 |.deep a i _ _ _ hole=>match hole with
  |none=>some (a,i)
  |some _=>none
 |_=>none
def Ap (s:bU) (o f:Nat→TO):List (Nat×Nat)→List Nat
 | []=>[]
 |(g',g)::r=>match dS g' s.kept&&s.aK.contains g',Si (o g),Si (f g') with
  |true,some (a,i),some (a',i')=>match afG a a'&&afG i i' with
   |true=>g::Ap s o f r
   |false=>Ap s o f r
  |_,_,_=>Ap s o f r
def JX (same:List Nat):List (Nat×TO)→List (Nat×TO)
 | []=>[]
 |(g,x)::r=>match dS g same with
  |true=>JX same r
  |false=>(g,x)::JX same r
def xI (s:bU) (d:Nat) (o:Nat→TO) (c:EM) (outs:List Wd):jf:=match s.kept with
 | []=>jv s d o c outs
 |_::_=>
  let e:=jv s d o c outs
  { e with upd:=JX (Ap s o (fun g'=>MF c.A c.I (callName d s.er c.ren) ((mkT s.aF outs).go g')) c.ren) e.upd }
def jf.skip:jf:={ x:=.ku [],upd:=[],new:=[] }
def Cb (l:List (Nat×TO)):List (Nat×TO)→List (Nat×TO)
 | []=>l
 |(g,x)::r=>yY g x (Cb l r)
structure iK where
 st:je
 ds:List Nat
 od:List Nat
def je.put (st:je) (dst:Option Tmp) (x:TS):je:=match dst with
 |some t=>{ st with s:=yY t x st.s }
 |none=>st
def iK.eff (q:iK) (dst:Option Tmp) (e:jf):iK:=
 { st:={ s:=(q.st.put dst e.x).s,o:=Cb q.st.o e.upd,u:=e.new++q.st.u },ds:=(match dst with | some t=>t::q.ds | none=>q.ds),od:=e.upd.map (·.1)++q.od }
def Y7 {β:Type 1} (b:Bool) (k:Bool→β):β:=match b with
 |true=>k true
 |false=>k false
def MG {β:Type 1}:Ty→(Ty→β)→β
 |.int .i8,k=>k (.int .i8)
 |.int .i16,k=>k (.int .i16)
 |.int .i32,k=>k (.int .i32)
 |.int .i64,k=>k (.int .i64)
 |.int .u8,k=>k (.int .u8)
 |.int .u16,k=>k (.int .u16)
 |.int .u32,k=>k (.int .u32)
 |.int .u64,k=>k (.int .u64)
 |.bool,k=>k .bool
 |.str,k=>k .str
 |.sl e,k=>MG e fun e=>k (.sl e)
 |.prod a b,k=>MG a fun a=>MG b fun b=>k (.prod a b)
 |.st n,k=>k (.st n)
 |.opq,k=>k .opq
 |.sq e,k=>MG e fun e=>k (.sq e)
def frW {β:Type 1}:TW→(TW→β)→β
 |.p a i ⟨t,x⟩,k=>Y7 a fun a=>Y7 i fun i=>k (.p a i ⟨t,x⟩)
 |.bC,k=>k .bC
 |.own g,k=>k (.own g)
 |.vw g lo hi,k=>k (.vw g lo hi)
 |.box g off,k=>k (.box g off)
 |.ep g n off,k=>k (.ep g n off)
 |.sp a i t x off,k=>Y7 a fun a=>Y7 i fun i=>k (.sp a i t x off)
 |.clo f caps,k=>k (.clo f caps)
 |.gl g,k=>k (.gl g)
 |.lF g,k=>k (.lF g)
 |.no,k=>k .no
def Y8 {β:Type 1}:List TW→(List TW→β)→β
 | [],k=>k []
 |x::xs,k=>frW x fun x=>Y8 xs fun xs=>k (x::xs)
def frV {β:Type 1}:TV→(TV→β)→β
 |.one x,k=>frW x fun x=>k (.one x)
 |.agg xs,k=>Y8 xs fun xs=>k (.agg xs)
def abU {β:Type 1}:List TV→(List TV→β)→β
 | [],k=>k []
 |x::xs,k=>frV x fun x=>abU xs fun xs=>k (x::xs)
def frS {β:Type 1}:TS→(TS→β)→β
 |.v x,k=>frV x fun x=>k (.v x)
 |.ku xs,k=>abU xs fun xs=>k (.ku xs)
 |.no,k=>k .no
def frC {β:Type 1}:List (Nat×Ty)→(List (Nat×Ty)→β)→β
 | [],k=>k []
 |(c,t)::r,k=>MG t fun t=>frC r fun r=>k ((c,t)::r)
def frH {β:Type 1}:Option (Nat×Nat×Nat)→(Option (Nat×Nat×Nat)→β)→β
 |none,k=>k none
 |some (n,c,d),k=>k (some (n,c,d))
def frO {β:Type 1}:TO→(TO→β)→β
 |.none,k=>k .none
 |.box ws,k=>Y8 ws fun ws=>k (.box ws)
 |.arr fz a i e l,k=>Y7 fz fun fz=>Y7 a fun a=>Y7 i fun i=>k (.arr fz a i e l)
 |.it s n,k=>k (.it s n)
 |.deep a i e cols l hole,k=>Y7 a fun a=>Y7 i fun i=>frC cols fun cols=>frH hole fun hole=>k (.deep a i e cols l hole)
def abV {β:Type 1}:List (Nat×TS)→(List (Nat×TS)→β)→β
 | [],k=>k []
 |(t,x)::r,k=>frS x fun x=>abV r fun r=>k ((t,x)::r)
def abW {β:Type 1}:List (Nat×TO)→(List (Nat×TO)→β)→β
 | [],k=>k []
 |(t,x)::r,k=>frO x fun x=>abW r fun r=>k ((t,x)::r)
def Jk {β:Type 1}:List Nat→(List Nat→β)→β
 | [],k=>k []
 |x::r,k=>Jk r fun r=>k (x::r)
def frX {β:Type 1} (q:iK) (k:iK→β):β:=
 abV q.st.s fun s=>abW q.st.o fun o=>Jk q.st.u fun u=>Jk q.ds fun ds=>Jk q.od fun od=>k ⟨⟨s,o,u⟩,ds,od⟩
noncomputable def Y9 {R:Type} (T:lZ) (tt:TT) (ety:TypeId→Option Ty) (d:Nat) (st:je) (o:Oper) (K:jf→Prog R):Prog R:=
 match o.op with
 |.call { callee:=.value f,args,.. }=>match st.bY f with
  |.v (.one (.clo fn caps))=>match T fn with
   |some sp=>match ug sp.sig st.go ((args.toList.map st.bY)++caps.map fun x=>TS.v (.one x)) with
    |some c=>match c.er.fine sp.sig.er&&Nat.beq (args.size+caps.length) sp.sig.nargs with
     |true=>match Tup.ofL sp.sig.pin.tys c.ins with
      |some x=>match sp.sig.er.ok with
       |true=>.call fn sp.ff x fun y=>K (xI sp.sig d st.go c (Tup.jm sp.sig.aF.tys y))
       |false=>.stuck 17
      |none=>.stuck 11
     |false=>.stuck 12
    |none=>.stuck 13
   |none=>.stuck 14
  |_=>.stuck 15
 |op=>match iC tt ety d st.go st.bY op o.type with
  |some r=>.chk r.pre (.let_ r.val fun z=>K { x:=r.dst z,upd:=r.upd z,new:=r.new })
  |none=>match bT tt ety d st.go st.bY op o.type with
   |some r=>.chk r.pre (.let_ r.val fun z=>K { x:=r.dst z,upd:=r.upd z,new:=r.new })
   |none=>.stuck 16
def zh (u:List Nat):List Nat→Bool
 | []=>true
 |g::gs=>!dS g u&&zh u gs
def Sj (ops:Array Oper) (st:je) (j:Nat):Option (Tmp×Option (Bool×Bool×Bool)):=
 match (ops[j]?).bind (·.dst) with
 |some t=>match st.gs t with
  |.v (.one (.p a i ⟨.bool,b⟩))=>some (t,some (a,i,b))
  |.ku []=>some (t,none)
  |_=>none
 |none=>none
def Uu (N:Nat):Option Tmp→Bool
 |some d=>Nat.blt d N
 |none=>true
def iK.know (q:iK) (t:Tmp) (a i b:Bool):iK:={ q with st:={ q.st with s:=yY t (.v (.one (.p a i (gG b)))) q.st.s } }
noncomputable def stepT {R:Type} (T:lZ) (tt:TT) (ety:TypeId→Option Ty) (N:Nat) (ops:Array Oper) (o:Oper) (q:iK) (K:iK→jf→Prog R):Prog R:=
 match Uu N o.dst with
 |false=>.stuck 20
 |true=>match o.guard with
  |none=>Y9 T tt ety (o.dst.getD 0) q.st o fun e=>match zh q.st.u e.new with
   |true=>K q e
   |false=>.stuck 21
  |some (j,want)=>match Sj ops q.st j with
   |none=>.stuck 22
   |some (t,none)=>K q jf.skip
   |some (t,some (a,i,b))=>
    let on (q:iK):Prog R:=Y9 T tt ety (o.dst.getD 0) q.st o fun e=>match zh q.st.u e.new with
     |true=>K q e
     |false=>.stuck 21
    .cond b (frX (q.know t a i true) fun q=>bif want then on q else K q jf.skip) (frX (q.know t a i false) fun q=>bif want then K q jf.skip else on q)
inductive MH where
 |yes
 |no
 |may (empty:Bool)
def Hg (o:Nat→TO):TS→Option MH
 |.v (.one (.p _ _ ⟨.sl e,l⟩))=>some (.may (List.isEmpty (α:=Dt e) l))
 |.v (.one (.own g))=>match o g with
  |.arr _ _ _ _ l=>some (.may l.isEmpty)
  |.deep _ _ _ _ l _=>some (.may l.isEmpty)
  |_=>none
 |.v (.one .bC)=>some .yes
 |_=>none
def Hl (o:Nat→TO):TS→Option MH
 |.v (.one (.box g _))=>match o g with
  |.box _=>some .no
  |_=>none
 |.v (.one (.p _ _ ⟨.opq,.pointer none⟩))=>some .yes
 |_=>none
def MI (o:Nat→TO) (x:TS) (k:TK) (c:Value):Option MH:=
 match k,c with
 |.slice _,.slice none 0 0=>Hg o x
 |.ptr,.pointer none=>Hl o x
 |_,_=>none
def afH (tt:TT) (st:je) (o:Oper):Option (Bool×MH):=
 match o.guard with
 |some _=>none
 |none=>match o.op with
  |.binOp op t x (.const c) _=>match tt t with
   |some i=>match op,MI st.go (st.bY x) i.k c with
    |.eql,some p=>some (true,p)
    |.neq,some p=>some (false,p)
    |_,_=>none
   |none=>none
  |_=>none
def abX (s:List UInt8) (n:Int):Bool:=decide (n.toNat<s.length)
def afI (s:List UInt8) (n:Int):Int:=((Utf8.decode ⟨s.toArray⟩ n.toNat).1:Nat)
def WX (s:List UInt8) (n:Int):Int:=((n.toNat+(Utf8.decode ⟨s.toArray⟩ n.toNat).2:Nat):Int)
def O4 (n:Int):Int:=((n.toNat:Nat):Int)
def Y_ (st:je) (o:Oper):Option (Nat×List UInt8×Int):=
 match o.guard with
 |some _=>none
 |none=>match o.op with
  |.next x true=>match st.bY x with
   |.v (.one (.lF g))=>match st.go g with
    |.it s n=>some (g,s,n)
    |_=>none
   |_=>none
  |_=>none
def MJ (g:Nat) (s:List UInt8) (n:Int):jf:={ x:=.ku [.one (.p false false (gG true)),.one (.p false false (ji .i64 (O4 n))),.one (.p false false (ji .i32 (afI s n)))],upd:=[(g,.it s (WX s n))],new:=[] }
def Sl:jf:={ x:=.ku [.one (.p false false (gG false))],upd:=[],new:=[] }
def o8 (b:Bool):jf:={ x:=Un (gG b),upd:=[],new:=[] }
noncomputable def Sm {R:Type} (T:lZ) (tt:TT) (ety:TypeId→Option Ty) (N:Nat) (ops:Array Oper) (o:Oper) (q:iK) (K:iK→jf→Prog R):Prog R:=
 match afH tt q.st o with
 |some (pos,c)=>match Uu N o.dst with
  |false=>.stuck 23
  |true=>match c with
   |.yes=>K q (o8 pos)
   |.no=>K q (o8 (!pos))
   |.may e=>.cond e (.any (K q (o8 true)) (K q (o8 false))) (K q (o8 (!pos)))
 |none=>match Y_ q.st o with
  |some (g,s,n)=>match Uu N o.dst with
   |false=>.stuck 23
   |true=>.cond (abX s n) (K q (MJ g s n)) (K q Sl)
  |none=>stepT T tt ety N ops o q K
noncomputable def runT {R:Type} (T:lZ) (tt:TT) (ety:TypeId→Option Ty) (N:Nat) (ops:Array Oper):List Oper→iK→(iK→Prog R)→Prog R
 | [],q,K=>K q
 |o::os,q,K=>Sm T tt ety N ops o q fun q e=>frX (q.eff o.dst e) fun q=>runT T tt ety N ops os q K
def wH:List TW→List Nat
 | []=>[]
 |.box g _::r=>g::wH r
 |x::r=>(aY x).names++wH r
def W.namesT:TW→List Nat
 |.own g | .vw g _ _ | .box g _ | .ep g _ _ | .lF g=>[g]
 |.clo _ caps=>wH caps
 |_=>[]
def V.namesT:TV→List Nat
 |.one x=>W.namesT x
 |.agg xs=>xs.flatMap W.namesT
def S.namesT:TS→List Nat
 |.v x=>V.namesT x
 |.ku xs=>xs.flatMap V.namesT
 |.no=>[]
def Uw (args:List TS):List (Nat×jI)→Bool
 | []=>false
 |(t,_)::rest=>match args.getD t .no with
  |.no=>true
  |.ku _=>true
  |_=>Uw args rest
def Sr (T:lZ) (st:je) (o:Oper):Option (List Nat):=
 match o.op with
 |.call { callee:=.value f,args,.. }=>match st.bY f with
  |.v (.one (.clo fn caps))=>match T fn with
   |some sp=>match ug sp.sig st.go ((args.toList.map st.bY)++caps.map fun x=>TS.v (.one x)) with
    |some c=>some (c.ren.map (·.2))
    |none=>bif Uw ((args.toList.map st.bY)++caps.map fun x=>TS.v (.one x)) sp.sig.pin.slots then some [] else none
   |none=>some []
  |_=>some []
 |_=>some []
def Za (T:lZ) (st:je) (o:Oper):Option (List Nat):=match Sr T st o with
 |some r=>some ((bif looks o.op then (o.op.operands.toList.flatMap fun x=>(S.namesT (st.bY x)).flatMap fun g=>g::kE (st.go g)) else [])++r)
 |none=>none
def abY {β:Type 1}:List (Nat×Nat)→(List (Nat×Nat)→β)→β
 | [],k=>k []
 |(a,b)::r,k=>abY r fun r=>k ((a,b)::r)
def frF {β:Type 1} (f:qV) (k:qV→β):β:=Jk f.rd fun rd=>Jk f.wr fun wr=>Jk f.new fun new=>frH f.ld fun ld=>abY f.kp fun kp=>Y7 f.pk fun pk=>Jk f.kd fun kd=>k ⟨rd,wr,new,ld,kp,pk,kd⟩
def Zb:TW→TW→Bool
 |.own g,.own g'=>Nat.beq g g'
 |.box g off,.box g' off'=>Nat.beq g g'&&Nat.beq off off'
 |_,_=>false
def Cc (g:Nat):Nat→List TW→List TW→Option (List (Nat×Nat))
 |_,[],[]=>some []
 |j,x::xs,y::ys=>match Cc g (j+1) xs ys with
  |some r=>some (match Zb x y with
   |true=>(g,j)::r
   |false=>r)
  |none=>none
 |_,_,_=>none
def Sv (g:Nat):TO→Option TO→List (Nat×Nat)
 |.box ws,some (.box ws')=>match Cc g 0 ws ws' with
  |some r=>r
  |none=>[]
 |_,_=>[]
def kpT (st:je) (upd:List (Nat×TO)):List (Nat×Nat):=(upd.map (·.1)).flatMap fun g=>Sv g (st.go g) (upd.lookup g)
def Zc:TO→Nat
 |.box _=>1
 |.arr _ _ _ _ _=>2
 |.deep _ _ _ _ _ _=>2
 |.it _ _=>3
 |.none=>0
def kdT (st:je) (upd:List (Nat×TO)):List Nat:=(upd.map (·.1)).filterMap fun g=>match upd.lookup g with
 |some x=>bif Nat.beq (Zc x) (Zc (st.go g)) then some g else none
 |none=>none
def ldT (tt:TT) (st:je) (o:Oper):Option (Nat×Nat×Nat):=match o.op with
 |.load t x=>match tt t,st.bY x with
  |some i,.v (.one (.box g off))=>some (g,off,i.size)
  |_,_=>none
 |_=>none
noncomputable def runNT {R:Type} (T:lZ) (tt:TT) (ety:TypeId→Option Ty) (N:Nat) (ops:Array Oper):List Oper→iK→List qV→(iK→List qV→Prog R)→Prog R
 | [],q,fs,K=>K q fs
 |o::os,q,fs,K=>match Za T q.st o with
  |none=>.stuck 25
  |some rd=>stepT T tt ety N ops o q fun q' e=>frF { rd,wr:=e.upd.map (·.1),new:=e.new,ld:=ldT tt q.st o,kp:=kpT q.st e.upd,pk:=qW o.op,kd:=kdT q.st e.upd } fun ft=>frX (q'.eff o.dst e) fun q=>runNT T tt ety N ops os q (fs++[ft]) K
noncomputable def uh {R:Type} (T:lZ) (tt:TT) (ety:TypeId→Option Ty) (N:Nat) (ops:Array Oper) (draw:Bool) (q:iK) (K:iK→Prog R):Prog R:=
 match draw with
 |false=>runT T tt ety N ops ops.toList q K
 |true=>runNT T tt ety N ops ops.toList q [] fun q fs=>match Uk ops fs with
  |true=>K q
  |false=>.stuck 24
inductive Md where
 |keep
 |sl (k:jI)
inductive Mo where
 |keep
 |ob (k:fZ)
structure JT where
 slots:List (Nat×Md)
 objs:List (Nat×Mo)
def Aq:List TW→Option (List Nat)
 | []=>some []
 |.box g off::cs=>bif Nat.beq off 0 then match Aq cs with
  |some gs=>some (g::gs)
  |none=>none
  else none
 |_=>none
def O5:TW→Option (jl×List Wd)
 |.p a i w=>some (.p a i w.t,[w])
 |.bC=>some (.bC,[])
 |.own g=>some (.own g,[])
 |.box g off=>some (.box g off,[])
 |.clo f caps=>match Aq caps with
  |some gs=>some (.fn f gs,[])
  |none=>none
 |.lF g=>some (.lF g,[])
 |.vw g lo hi=>some (.vw g,[ji .i64 lo,ji .i64 hi])
 |.ep g n off=>some (.ep g off,[ji .i64 n])
 |_=>none
def uN:List TW→Option (List jl×List Wd)
 | []=>some ([],[])
 |x::xs=>match O5 x,uN xs with
  |some (k,u),some (ks,us)=>some (k::ks,u++us)
  |_,_=>none
def MK:TS→Option (jI×List Wd)
 |.v (.one x)=>match O5 x with
  |some (k,u)=>some (.one k,u)
  |none=>none
 |.v (.agg xs)=>match uN xs with
  |some (ks,u)=>some (.agg ks,u)
  |none=>none
 |_=>none
def uX:TO→Option (fZ×List Wd)
 |.box ws=>match uN ws with
  |some (ks,u)=>some (.box ks,u)
  |none=>none
 |.arr fz a i e l=>some (.arr fz a i e,[rV e l])
 |.it s n=>some (.it,[OJ s,ji .i64 n])
 |.deep a i e cols l hole=>match hole with
  |none=>some (.deep a i e cols,[rV e l])
  |some _=>none
 |.none=>none
def zi (s:Nat→TS):List (Nat×Md)→Option (List (Nat×jI×Option (List Wd)))
 | []=>some []
 |(t,.keep)::r=>match MK (s t),zi s r with
  |some (k,u),some l=>some ((t,k,some u)::l)
  |_,_=>none
 |(t,.sl k)::r=>match zi s r with
  |some l=>some ((t,k,none)::l)
  |none=>none
def Ho (o:Nat→TO):List (Nat×Mo)→Option (List (Nat×fZ×Option (List Wd)))
 | []=>some []
 |(t,.keep)::r=>match uX (o t),Ho o r with
  |some (k,u),some l=>some ((t,k,some u)::l)
  |_,_=>none
 |(t,.ob k)::r=>match Ho o r with
  |some l=>some ((t,k,none)::l)
  |none=>none
structure JF where
 slots:List (Nat×jI×Option (List Wd))
 objs:List (Nat×fZ×Option (List Wd))
def JF.sh (j:JF):JV:=⟨j.slots.map fun p=>(p.1,p.2.1),j.objs.map fun p=>(p.1,p.2.1)⟩
def iP:List (Nat×jI×Option (List Wd))→List Ty
 | []=>[]
 |(_,k,none)::r=>k.tys++iP r
 |(_,_,some _)::r=>iP r
def nK:List (Nat×fZ×Option (List Wd))→List Ty
 | []=>[]
 |(_,k,none)::r=>k.tys++nK r
 |(_,_,some _)::r=>nK r
def JF.tys (j:JF):List Ty:=iP j.slots++nK j.objs
def kP:List (Nat×jI×Option (List Wd))→List Wd→List Wd×List Wd
 | [],ws=>([],ws)
 |(_,k,none)::r,ws=>(ws.take k.tys.length++(kP r (ws.drop k.tys.length)).1,(kP r (ws.drop k.tys.length)).2)
 |(_,_,some u)::r,ws=>(u++(kP r ws).1,(kP r ws).2)
def o9:List (Nat×fZ×Option (List Wd))→List Wd→List Wd×List Wd
 | [],ws=>([],ws)
 |(_,k,none)::r,ws=>(ws.take k.tys.length++(o9 r (ws.drop k.tys.length)).1,(o9 r (ws.drop k.tys.length)).2)
 |(_,_,some u)::r,ws=>(u++(o9 r ws).1,(o9 r ws).2)
def JF.pay (j:JF) (ws:List Wd):List Wd:=(kP j.slots ws).1++(o9 j.objs (kP j.slots ws).2).1
def ML:List (Nat×jI×Option (List Wd))→List Wd→List Wd×List Wd
 | [],ws=>([],ws)
 |(_,k,none)::r,ws=>(ws.take k.tys.length++(ML r (ws.drop k.tys.length)).1,(ML r (ws.drop k.tys.length)).2)
 |(_,k,some u)::r,ws=>((ML r (ws.drop u.length)).1,(ML r (ws.drop u.length)).2)
def O6:List (Nat×fZ×Option (List Wd))→List Wd→List Wd×List Wd
 | [],ws=>([],ws)
 |(_,k,none)::r,ws=>(ws.take k.tys.length++(O6 r (ws.drop k.tys.length)).1,(O6 r (ws.drop k.tys.length)).2)
 |(_,k,some u)::r,ws=>((O6 r (ws.drop u.length)).1,(O6 r (ws.drop u.length)).2)
def JF.ext (j:JF) (ws:List Wd):List Wd:=(ML j.slots ws).1++(O6 j.objs (ML j.slots ws).2).1
def hasK {α:Type} (t:Nat):List (Nat×α)→Bool
 | []=>false
 |(k,_)::r=>Nat.beq t k||hasK t r
def O7 (s:List (Nat×TS)) (ds:List Nat):List (Nat×jI×Option (List Wd))→Bool
 | []=>true
 |(t,_,some _)::r=>hasK t s&&!dS t ds&&O7 s ds r
 |(_,_,none)::r=>O7 s ds r
def O8 (s:List (Nat×TO)) (ds:List Nat):List (Nat×fZ×Option (List Wd))→Bool
 | []=>true
 |(t,_,some _)::r=>hasK t s&&!dS t ds&&O8 s ds r
 |(_,_,none)::r=>O8 s ds r
def keysB (aK:List Nat) (j:JV) (m:Ren):Bool:=keeps aK j.er m
def JY:List (Nat×fZ×Option (List Wd))→Ren
 | []=>[]
 |(t,_,some _)::r=>(t,some t)::JY r
 |(_,_,none)::r=>JY r
def Zd (gs:List Nat) (o:Nat→TO):TW→TW
 |.own g=>bif dS g gs then match lV o g with
  |some ⟨a,i,e,l⟩=>.p a i (rV e l)
  |none=>.own g
  else .own g
 |.vw g lo hi=>bif dS g gs then match lV o g with
  |some ⟨a,i,e,l⟩=>.p a i (rV e ((l.take hi.toNat).drop lo.toNat))
  |none=>.vw g lo hi
  else .vw g lo hi
 |x=>x
def tpV (gs:List Nat) (o:Nat→TO):TV→TV
 |.one x=>.one (Zd gs o x)
 |.agg xs=>.agg (xs.map (Zd gs o))
def tpS (gs:List Nat) (o:Nat→TO):TS→TS
 |.v x=>.v (tpV gs o x)
 |.ku xs=>.ku (xs.map (tpV gs o))
 |.no=>.no
def tpO (gs:List Nat) (o:Nat→TO) (g:Nat):TO→TO
 |.none=>.none
 |.box ws=>.box (ws.map (Zd gs o))
 |.arr fz a i e l=>.arr (fz||dS g gs) a i e l
 |.it s n=>.it s n
 |.deep a i e cols l hole=>bif dS g gs then (jY o g).2 else .deep a i e cols l hole
def Hq (gs:List Nat) (st:je):je:=match gs with
 | []=>st
 |g::r=>{ s:=st.s.map fun p=>(p.1,tpS (g::r) st.go p.2),o:=st.o.map fun p=>(p.1,tpO (g::r) st.go p.1 p.2),u:=st.u }
def plB (o:Nat→TO) (g:Nat):Bool:=match lV o g with
 |some _=>true
 |none=>false
def ab2 (o:Nat→TO) (gs:List Nat):Bool:=gs.all fun g=>plB o g&&(kE (o g)).all fun d=>dS d gs
def Ux:TO→Option Nat
 |.deep _ _ _ _ _ hole=>match hole with
  |some (_,_,d)=>some d
  |none=>none
 |_=>none
def kW (keep:List Nat):List Nat→je→List Nat×je
 | [],st=>([],st)
 |g::gs,st=>match Ux (st.go g),wE st.go g with
  |some d,some ⟨a,i,e,cols,l⟩=>match !dS g keep&&!dS d keep with
   |true=>let r:=kW keep gs { st with o:=Cb st.o [(g,.deep a i e cols l none),(d,.none)] }
    (g::r.1,r.2)
   |false=>kW keep gs st
  |_,_=>kW keep gs st
def Jl:List (Nat×TO)→List Nat
 | []=>[]
 |(g,x)::r=>match Ux x with
  |some _=>g::Jl r
  |none=>Jl r
def yw:List (Nat×fZ×Option (List Wd))→List Nat
 | []=>[]
 |(t,_,some _)::r=>t::yw r
 |(_,_,none)::r=>yw r
def fzW (o:Nat→TO):jl→TW→List Nat
 |.p _ _ _,.own g=>bif plB o g then kE (o g)++[g] else []
 |.p _ _ _,.vw g _ _=>bif plB o g then kE (o g)++[g] else []
 |_,_=>[]
def afJ (o:Nat→TO):List jl→List TW→List Nat
 |k::ks,x::xs=>fzW o k x++afJ o ks xs
 |_,_=>[]
def fzS (o:Nat→TO):jI→TS→List Nat
 |.one k,.v (.one x)=>fzW o k x
 |.agg ks,.v (.agg xs)=>afJ o ks xs
 |_,_=>[]
def Uy (st:je):List (Nat×jI)→List Nat
 | []=>[]
 |(t,k)::r=>fzS st.go k (st.gs t)++Uy st r
def Sz (m:Ren) (st:je):List (Nat×fZ)→List Nat
 | []=>[]
 |(g',.box ks)::r=>(match m.lookup g' with
  |some (some g)=>match st.go g with
   |.box ws=>afJ st.go ks ws
   |_=>[]
  |_=>[])++Sz m st r
 |_::r=>Sz m st r
def ab3 (aK:List Nat) (j:JV) (st:je):List Nat:=Uy st j.slots++Sz (derive aK j st) st j.objs
def SA (gs:List Nat) (x:TS):Bool:=(S.namesT x).all fun g=>!dS g gs
def Hr (gs:List Nat) (g:Nat):TO→Bool
 |.none=>true
 |.box ws=>(ws.flatMap W.namesT).all fun g=>!dS g gs
 |.arr _ _ _ _ _=>!dS g gs
 |.it _ _=>true
 |.deep _ _ _ _ _ _=>!dS g gs
def Ze (gs:List Nat) (s:Nat→TS):List (Nat×jI×Option (List Wd))→Bool
 | []=>true
 |(t,_,some _)::r=>SA gs (s t)&&Ze gs s r
 |(_,_,none)::r=>Ze gs s r
def Zf (gs:List Nat) (o:Nat→TO):List (Nat×fZ×Option (List Wd))→Bool
 | []=>true
 |(t,_,some _)::r=>Hr gs t (o t)&&Zf gs o r
 |(_,_,none)::r=>Zf gs o r
def o_ {R:Type} (aK:List Nat) (j:JF) (q:iK) (K:Tup j.tys→Prog R):Prog R:=
 let st0:=(kW (yw j.objs) (Jl q.st.o) q.st).2
 let gs:=ab3 aK j.sh st0
 let st:=Hq gs st0
 let m:=JY j.objs++derive aK j.sh st
 match O7 q.st.s q.ds j.slots&&O8 q.st.o q.od j.objs&&keysB aK j.sh m&&ab2 st0.go gs&&Ze gs st0.gs j.slots&&Zf gs st0.go j.objs with
 |false=>.stuck 30
 |true=>match xH j.sh m st with
  |none=>.stuck 31
  |some vs=>match Tup.ofL j.tys (j.ext vs) with
   |none=>.stuck 32
   |some x=>K x
def pq (j:JF) (x:Tup j.tys):je:=mkT j.sh (j.pay (Tup.jm j.tys x))
def newS:List (Nat×jI×Option (List Wd))→List Nat
 | []=>[]
 |(t,_,none)::r=>t::newS r
 |(_,_,some _)::r=>newS r
def pW:List (Nat×fZ×Option (List Wd))→List Nat
 | []=>[]
 |(t,_,none)::r=>t::pW r
 |(_,_,some _)::r=>pW r
def iK.fresh (q:iK):iK:={ q with ds:=[],od:=[] }
def iK.since (q' q:iK):iK:={ q' with ds:=q'.ds++q.ds,od:=q'.od++q.od }
structure TK (R:Type) where
 n:iK→Prog R
 x:Nat→iK→Prog R
 r:iK→Prog R
inductive fP where
 |nil
 |seq (a b:fP)
 |meet (early:Bool) (j:JT) (a:fP)
 |loop (j:JT) (a:fP)
 |range (j:JT) (sg:bU) (a:fP)
def fP.fst:fP→fP
 |.seq a _=>a
 |_=>.nil
def fP.snd:fP→fP
 |.seq _ b=>b
 |_=>.nil
def Zg (nw:List Nat):List (Nat×jI×Option (List Wd))→Bool
 | []=>true
 |(t,_,some _)::r=>!dS t nw&&Zg nw r
 |(_,_,none)::r=>Zg nw r
def Zh (nw:List Nat):List (Nat×fZ×Option (List Wd))→Bool
 | []=>true
 |(t,_,some _)::r=>!dS t nw&&Zh nw r
 |(_,_,none)::r=>Zh nw r
def jOf (st:je) (j:JT):Option JF:=match zi st.gs j.slots,Ho st.go j.objs with
 |some s,some o=>match Zg (newS s) s&&Zh (pW o) o with
  |true=>some ⟨s,o⟩
  |false=>none
 |_,_=>none
def knT (c:Operand) (a i b:Bool) (q:iK):iK:=match c with
 |.tmp t=>q.know t a i b
 |_=>q
def Uz {R:Type} (c:Operand) (q:iK) (x y:iK→Prog R):Prog R:=match q.st.bY c with
 |.v (.one (.p a i ⟨.bool,b⟩))=>.cond b (frX (knT c a i true q) x) (frX (knT c a i false q) y)
 |_=>.stuck 50
def JZ {R:Type} (aK:List Nat) (early:Bool) (jt:JT) (here:Nat→Bool) (q:iK) (inner:(R':Type)→iK→TK R'→Prog R') (K:TK R):Prog R:=
 match jOf q.st jt with
 |none=>.stuck 40
 |some j=>match early with
  |false=>.join (inner (Tup j.tys) q.fresh { n:=fun q'=>o_ aK j q' .ret,x:=fun id q'=>bif here id then o_ aK j q' .ret else .stuck 41,r:=fun _=>.stuck 42 })
    fun x=>frX ⟨pq j x,newS j.slots++q.ds,pW j.objs++q.od⟩ K.n
  |true=>.JU (inner (Tup j.tys ⊕ R) q.fresh { n:=fun q'=>o_ aK j q' fun x=>.ret (.inl x),x:=fun id q'=>bif here id then o_ aK j q' (fun x=>.ret (.inl x)) else (K.x id (q'.since q)).map .inr,r:=fun q'=>(K.r (q'.since q)).map .inr })
    fun x=>frX ⟨pq j x,newS j.slots++q.ds,pW j.objs++q.od⟩ K.n
def Ty.lit:Ty→Bool
 |.int _=>true
 |.bool=>true
 |.str=>true
 |_=>false
def MN (N:Nat):Code→je→Option je
 |.skip,st=>some st
 |.region _ ops false,st=>match ops.toList with
  | [o]=>match o.guard,o.dst,Gz o.op with
   |none,some d,some t=>match Nat.blt d N with
    |true=>some (st.put (some d) (st.gs t))
    |false=>none
   |_,_,_=>none
  |_=>none
 |.seq x y,st=>match MN N x st with
  |some st'=>MN N y st'
  |none=>none
 |_,_=>none
def rowT:List Tmp→List Wd→je→je
 |p::ps,x::xs,st=>rowT ps xs (st.put (some p) (.v (.one (.p false false x))))
 |_,_,st=>st
def outT (sg:bU) (q:iK):Prog (Tup sg.aF.tys):=
 let st0:je:=(kW [] (Jl q.st.o) { s:=[],o:=q.st.o,u:=q.st.u }).2
 let gs:=ab3 sg.aK sg.aF st0
 let st:=Hq gs st0
 let m:=derive sg.aK sg.aF st
 match keysB sg.aK sg.aF m&&ab2 st0.go gs with
 |false=>.stuck 81
 |true=>match xH sg.aF m st with
  |none=>.stuck 82
  |some vs=>match Tup.ofL sg.aF.tys vs with
   |none=>.stuck 83
   |some x=>.ret x
def MO {R:Type} (N:Nat) (sg:bU) (body:iK→TK (Tup sg.aF.tys)→Prog (Tup sg.aF.tys)) (ps:Array Tmp) (x:Code) (ws:List Wd) (q:iK) (K:iK→Prog R):Prog R:=
 match MN N x (rowT ps.toList ws q.st) with
 |none=>.stuck 70
 |some st1=>match ug sg q.st.go ((List.range N).map st1.gs) with
  |none=>.stuck 71
  |some c=>match sg.er.ok&&(sg.aK.all (fun g=>sg.pin.er.nms.contains g)&&sg.er.Yg)&&Nat.beq sg.bP 0&&c.er.fine sg.er with
   |false=>.stuck 72
   |true=>match Tup.ofL sg.pin.tys c.ins with
    |none=>.stuck 73
    |some z=>.join (frX ⟨mkT sg.pin (Tup.jm sg.pin.tys z),[],[]⟩ fun qb=>body qb { n:=outT sg,x:=fun _ _=>.stuck 74,r:=fun _=>.stuck 75 }) fun outs=>
      match zh q.st.u (jv sg (ps.getD 0 0) q.st.go c (Tup.jm sg.aF.tys outs)).new with
      |true=>frX (q.eff none (jv sg (ps.getD 0 0) q.st.go c (Tup.jm sg.aF.tys outs))) K
      |false=>.stuck 76
noncomputable def kQ (T:lZ) (tt:TT) (ety:TypeId→Option Ty) (N:Nat) (aK:List Nat):Code→(R:Type)→fP→iK→TK R→Prog R
 |.skip,R,_,q,K=>K.n q
 |.region _ ops draw,R,a,q,K=>match a with
  |.meet e j _=>JZ aK e j (fun _=>false) q (fun _ q K=>uh T tt ety N ops draw q K.n) K
  |_=>uh T tt ety N ops draw q K.n
 |.seq x y,R,a,q,K=>kQ T tt ety N aK x R a.fst q { n:=fun q'=>kQ T tt ety N aK y R a.snd q' K,x:=K.x,r:=K.r }
 |.cond c x y,R,a,q,K=>match a with
  |.meet e j a=>JZ aK e j (fun _=>false) q (fun R q K=>Uz c q (fun q=>kQ T tt ety N aK x R a.fst q K) fun q=>kQ T tt ety N aK y R a.snd q K) K
  |a=>Uz c q (fun q=>kQ T tt ety N aK x R a.fst q K) fun q=>kQ T tt ety N aK y R a.snd q K
 |.block id c,R,a,q,K=>match a with
  |.meet e j a=>JZ aK e j (Nat.beq id) q (fun R q K=>kQ T tt ety N aK c R a q K) K
  |a=>kQ T tt ety N aK c R a.fst q { n:=K.n,x:=fun id' q'=>bif Nat.beq id' id then K.n q' else K.x id' q',r:=K.r }
 |.loop c,R,a,q,K=>match a with
  |.loop jt a=>match jOf q.st jt with
   |none=>.stuck 43
   |some j=>o_ aK j q.fresh fun x=>.loop x fun x=>
     frX ⟨pq j x,[],[]⟩ fun q'=>kQ T tt ety N aK c (Tup j.tys ⊕ R) a q'
      { n:=fun q'=>o_ aK j q' fun x=>.ret (.inl x),x:=fun id q'=>(K.x id (q'.since ⟨q'.st,newS j.slots++q.ds,pW j.objs++q.od⟩)).map .inr,r:=fun q'=>(K.r (q'.since ⟨q'.st,newS j.slots++q.ds,pW j.objs++q.od⟩)).map .inr }
  |_=>.stuck 44
 |.exit id,R,_,q,K=>K.x id q
 |.ret,R,_,q,K=>K.r q
 |.label _,R,_,q,K=>K.n q
 |.rangeFunc g ps x y,R,a,q,K=>match a with
  |.range jt sg a=>match calm y,q.st.bY g with
   |true,.v (.one (.p _ _ ⟨.sq e,rows⟩))=>match (gQ e).all Ty.lit&&Nat.beq (gQ e).length ps.size&&ps.toList.all (fun p=>Nat.blt p N) with
    |true=>match jOf q.st jt with
     |none=>.stuck 77
     |some j=>o_ aK j q.fresh fun z0=>.loop (z0,(0:Nat)) fun (zk:Tup j.tys×Nat)=>
       .cond (Nat.blt zk.2 (List.length (α:=Dt e) rows))
        (frX ⟨pq j zk.1,[],[]⟩ fun q'=>MO N sg (fun q K=>kQ T tt ety N sg.aK y (Tup sg.aF.tys) a q K) ps x (dM e (List.getD (α:=Dt e) rows zk.2 (dflt e))) q' fun q''=>o_ aK j q'' fun z'=>.ret (.inl (z',zk.2+1)))
        (frX ⟨pq j zk.1,newS j.slots++q.ds,pW j.objs++q.od⟩ fun q'=>(K.n q').map .inr)
    |false=>.stuck 78
   |_,_=>.stuck 79
  |_=>.stuck 80
 |_,R,_,_,_=>.stuck 45
def UA (tt:TT) (st:je):ResultVar→Option TS
 |.tmp t=>some (st.gs t)
 |.cell a t=>match tt t,st.gs a with
  |some i,.v (.one (.box g off))=>match st.go g with
   |.box ws=>bif Nat.ble (off+i.size) ws.length&&Nat.blt 0 i.size then some (TV.dZ i.agg ((ws.drop off).take i.size)) else none
   |_=>none
  |_,_=>none
def Ht (tt:TT) (st:je):List ResultVar→Option (List TS)
 | []=>some []
 |r::rs=>match UA tt st r,Ht tt st rs with
  |some x,some xs=>some (x::xs)
  |_,_=>none
def SB (n:Nat):List TS→List (Nat×TS)
 | []=>[]
 |x::xs=>(n,x)::SB (n+1) xs
def ab4 (tt:TT) (sp:bU) (ts:List ResultVar) (q:iK):Prog (Tup sp.aF.tys):=
 match Ht tt q.st ts with
 |none=>.stuck 60
 |some xs=>
  let st0:je:=(kW [] (Jl q.st.o) { s:=SB 0 xs,o:=q.st.o,u:=q.st.u }).2
  let gs:=ab3 sp.aK sp.aF st0
  let st:=Hq gs st0
  let m:=derive sp.aK sp.aF st
  match keysB sp.aK sp.aF m&&ab2 st0.go gs with
  |false=>.stuck 61
  |true=>match xH sp.aF m st with
   |none=>.stuck 62
   |some vs=>match Tup.ofL sp.aF.tys vs with
    |none=>.stuck 63
    |some x=>.ret x
inductive LkC where
 |yes
 |no
 |len (n m:Nat)
def O9:TO→TO→LkC
 |.box _,.box _=>.yes
 |.arr _ _ _ e l,.arr _ _ _ e' l'=>bif Nat.beq (size e) (size e') then .len (List.length (α:=Dt e) l) (List.length (α:=Dt e') l') else .no
 |.deep _ _ e _ l _,.deep _ _ e' _ l' _=>bif Nat.beq (size e) (size e') then .len (List.length (α:=Dt e) l) (List.length (α:=Dt e') l') else .no
 |_,_=>.no
def zl {R:Type} (a b:Nat→TO) (K:Prog R):List Nat→Prog R
 | []=>K
 |g::gs=>match O9 (a g) (b g) with
  |.yes=>zl a b K gs
  |.no=>.stuck 90
  |.len n m=>.chk (decide (n=m)) (zl a b K gs)
noncomputable def tfun (T:lZ) (tt:TT) (ety:TypeId→Option Ty) (N:Nat) (sp:bU) (ts:List ResultVar) (c:Code) (a:fP) (x:Tup sp.pin.tys):Prog (Tup sp.aF.tys):=
 frX ⟨mkT sp.pin (Tup.jm sp.pin.tys x),[],[]⟩ fun q=>kQ T tt ety N sp.aK c (Tup sp.aF.tys) a q { n:=ab4 tt sp ts,x:=fun _ _=>.stuck 64,r:=ab4 tt sp ts }
noncomputable def Zi (T:lZ) (tt:TT) (ety:TypeId→Option Ty) (N:Nat) (sp:bU) (ts:List ResultVar) (c:Code) (a:fP) (x:Tup sp.pin.tys):Prog (Tup sp.aF.tys):=
 match sp.er.Yg with
 |true=>tfun T tt ety N sp ts c a x
 |false=>.join (tfun T tt ety N sp ts c a x) fun y=>zl (mkT sp.pin (Tup.jm sp.pin.tys x)).go (mkT sp.aF (Tup.jm sp.aF.tys y)).go (.ret y) sp.aK
end
end Go.Fg

