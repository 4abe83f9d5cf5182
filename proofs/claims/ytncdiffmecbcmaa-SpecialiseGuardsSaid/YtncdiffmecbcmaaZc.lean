/-
  The framework (a machine on plain data that answers as the program does), part 3.
-/
import Derived.RangeFuncLeaves
import Derived.RangeFuncCalls
import Derived.OrdersIn
import Derived.LoopNIn
import Derived.LoopN
import Derived.Tactics
import Derived.Laws.Strings
import Derived.Test.YtncdiffmecbcmaaZb
set_option linter.unusedSimpArgs false
set_option linter.unusedVariables false
set_option linter.unusedSectionVars false
namespace Go.Fw
variable [dB]
theorem G9 (st:St) (dst:Option Tmp) (e:Eff) (t:Nat):(st.eff dst e).s t=if dst=some t then e.x else st.s t:=by
 cases dst with
 |none=>simp [St.eff,St.put,St.aA]
 |some d=>
  simp only [St.eff,St.put,St.aA,Q0]
  by_cases h:t=d
  ·subst h;simp
  ·have h1:Nat.beq t d=false:=by cases hb:Nat.beq t d with | false=>rfl | true=>exact absurd (Q4 hb) h
   rw [h1,if_neg (fun e=>h e.symm)];rfl
theorem uf (st:St) (dst:Option Tmp) (e:Eff) (g:Nat):(st.eff dst e).o g=match e.aA.lookup g with | some x=>x | none=>st.o g:=by
 cases dst<;>rfl
theorem qh (st:St) (dst:Option Tmp) (e:Eff) (g:Nat):(st.eff dst e).used g=(e.new.contains g||st.used g):=by
 cases dst<;>rfl
theorem iK {α:Type} {g:Nat} :∀{l:List (Nat×α)},g∉l.map (·.1)→l.lookup g=none
 | [],_=>rfl
 |(k,v)::l,h=>by
  simp only [Qt,QQ,not_or] at h
  have:(g==k)=false:=by simpa using h.1
  simp only [List.lookup,this]
  exact iK h.2
theorem St.ext' {a b:St} (h1 :∀t,a.s t=b.s t) (h2 :∀g,a.o g=b.o g) (h3 :∀g,a.used g=b.used g):a=b:=by
 obtain ⟨s,o,u⟩:=a
 obtain ⟨s',o',u'⟩:=b
 simp only at h1 h2 h3
 rw [funext h1,funext h2,funext h3]
section
variable {ops:Array Oper} {es es':Nat→Eff} {st:St} {D D':Nat→Bool}
def SD (ops:Array Oper) (es:Nat→Eff) (st:St) (D:Nat→Bool):Nat→St
 |0=>st
 |k+1=>if D k=true then (SD ops es st D k).eff ((ops[k]?).bind (·.dst)) (es k) else SD ops es st D k
theorem Eb :∀{n:Nat},(∀k<n,es k=es' k)→SD ops es st D n=SD ops es' st D n
 |0,_=>rfl
 |n+1,h=>by simp only [SD];rw [Eb fun k hk=>h k (by omega),h n (by omega)]
theorem zZ :∀{n:Nat},(∀k<n,D k=D' k)→SD ops es st D n=SD ops es st D' n
 |0,_=>rfl
 |n+1,h=>by simp only [SD];rw [zZ fun k hk=>h k (by omega),h n (by omega)]
theorem Zv {t:Nat} :∀{n:Nat},(∀k<n,D k≠D' k→(ops[k]?).bind (·.dst)≠some t)→(SD ops es st D n).s t=(SD ops es st D' n).s t
 |0,_=>rfl
 |n+1,h=>by
  have ih:=Zv (n:=n) fun k hk=>h k (by omega)
  have hn:=h n (by omega)
  simp only [SD]
  cases h1:D n<;>cases h2:D' n
  ·simpa using ih
  ·have:=hn (by rw [h1,h2];simp)
   simp only [if_true,G9,if_neg this];simpa using ih
  ·have:=hn (by rw [h1,h2];simp)
   simp only [if_true,G9,if_neg this];simpa using ih
  ·simp only [if_true,G9,ih]
theorem Zw {g:Nat} :∀{n:Nat},(∀k<n,D k≠D' k→g∉(es k).aA.map (·.1))→(SD ops es st D n).o g=(SD ops es st D' n).o g
 |0,_=>rfl
 |n+1,h=>by
  have ih:=Zw (n:=n) fun k hk=>h k (by omega)
  have hn:=h n (by omega)
  simp only [SD]
  cases h1:D n<;>cases h2:D' n
  ·simpa using ih
  ·have:=iK (hn (by rw [h1,h2];simp))
   simp only [if_true,uf,this];simpa using ih
  ·have:=iK (hn (by rw [h1,h2];simp))
   simp only [if_true,uf,this];simpa using ih
  ·simp only [if_true,uf,ih]
theorem Je {g:Nat} :∀{n:Nat},(∀k<n,D k≠D' k→g∉(es k).new)→(SD ops es st D n).used g=(SD ops es st D' n).used g
 |0,_=>rfl
 |n+1,h=>by
  have ih:=Je (n:=n) fun k hk=>h k (by omega)
  have hn:=h n (by omega)
  simp only [SD]
  cases h1:D n<;>cases h2:D' n
  ·simpa using ih
  ·have:=hn (by rw [h1,h2];simp)
   have:(es n).new.contains g=false:=by simpa using this
   simp only [if_true,qh,this,VM];simpa using ih
  ·have:=hn (by rw [h1,h2];simp)
   have:(es n).new.contains g=false:=by simpa using this
   simp only [if_true,qh,this,VM];simpa using ih
  ·simp only [if_true,qh,ih]
theorem G_ {t i:Nat} (hi:D i=true) (hd:(ops[i]?).bind (·.dst)=some t) :∀{n:Nat},i<n→(∀k,i<k→k<n→D k=true→(ops[k]?).bind (·.dst)≠some t)→(SD ops es st D n).s t=(es i).x
 |0,h,_=>by omega
 |n+1,hin,h=>by
  simp only [SD]
  by_cases e:n=i
  ·subst e;simp [hi,G9,hd]
  ·have ih:=G_ hi hd (n:=n) (by omega) fun k h1 h2=>h k h1 (by omega)
   cases hn:D n with
   |false=>simpa using ih
   |true=>
    have:=h n (by omega) (by omega) hn
    simp only [if_true,G9,if_neg this,ih]
theorem He {g i:Nat} {x:O} (hi:D i=true) (hd:(es i).aA.lookup g=some x) :∀{n:Nat},i<n→(∀k,i<k→k<n→D k=true→g∉(es k).aA.map (·.1))→(SD ops es st D n).o g=x
 |0,h,_=>by omega
 |n+1,hin,h=>by
  simp only [SD]
  by_cases e:n=i
  ·subst e;simp [hi,uf,hd]
  ·have ih:=He hi hd (n:=n) (by omega) fun k h1 h2=>h k h1 (by omega)
   cases hn:D n with
   |false=>simpa using ih
   |true=>
    have:=iK (h n (by omega) (by omega) hn)
    simp only [if_true,uf,this,ih]
theorem BG {g i:Nat} (hi:D i=true) (hd:g∈(es i).new) :∀{n:Nat},i<n→(SD ops es st D n).used g=true
 |0,h=>by omega
 |n+1,hin=>by
  simp only [SD]
  by_cases e:n=i
  ·subst e;simp [hi,qh,hd]
  ·have ih:=BG hi hd (n:=n) (by omega)
   cases hn:D n with
   |false=>simpa using ih
   |true=>simp only [if_true,qh,ih,Bool.or_true]
structure Apart (ops:Array Oper) (x y:Oper) (fx fy:pK):Prop where
 dy :∀t,x.dst=some t→t∉y.looksAt ops
 dx :∀t,y.dst=some t→t∉x.looksAt ops
 dd :∀t,x.dst=some t→y.dst≠some t
 wr:(∀g∈fx.wr,g∉fy.rd)∨BF fx fy=true
 rw:(∀g∈fy.wr,g∉fx.rd)∨BF fy fx=true
 ww :∀g∈fx.wr,g∉fy.wr
 nn :∀g∈fx.new,g∉fy.new
theorem ug {x:Option Tmp} {ts:List Tmp} (h:Ea x ts=true) :∀t,x=some t→t∉ts:=by
 intro t e
 subst e
 simpa [Ea] using h
theorem u_ {xs ys:List Nat} (h:IX xs ys=true) :∀x∈xs,x∉ys:=by
 intro x hx
 have:=(X2.1 h) x hx
 simpa using this
theorem N8 {x y:Oper} {fx fy:pK} (h:Uu ops x y fx fy=true):Apart ops x y fx fy:=by
 simp only [Uu,Qf,VV] at h
 obtain ⟨⟨⟨⟨⟨⟨h1,h2⟩,h3⟩,h4⟩,h5⟩,h6⟩,h7⟩:=h
 exact ⟨ug h1,ug h2,fun t e e'=>ug h3 t e (by simp [e']),h4.imp u_ id,h5.imp u_ id,u_ h6,u_ h7⟩
theorem Hf {acc:List Nat} {i:Nat} :∀{l:List Edge} {s:Nat},(l.foldl (fun s e=>if Region.binds .any e=true then s ||| (2 ^ e.on) ||| acc.getD e.on 0 else s) s).testBit i=true↔
  s.testBit i=true∨∃e∈l,Region.binds .any e=true∧(e.on=i∨(acc.getD e.on 0).testBit i=true)
 | [],s=>by simp
 |e::l,s=>by
  simp only [qa]
  rw [Hf]
  by_cases hb:Region.binds .any e=true
  ·simp only [hb,if_true,Nat.testBit_or,VV,Nat.testBit_two_pow,decide_eq_true_eq,QQ]
   constructor
   ·rintro (((h | h) | h) | ⟨e',h1,h2⟩)
    ·exact .inl h
    ·exact .inr ⟨e,.inl rfl,hb,.inl h⟩
    ·exact .inr ⟨e,.inl rfl,hb,.inr h⟩
    ·exact .inr ⟨e',.inr h1,h2⟩
   ·rintro (h | ⟨e',h1 | h1,h2,h3 | h3⟩)
    ·exact .inl (.inl (.inl h))
    ·subst h1;exact .inl (.inl (.inr h3))
    ·subst h1;exact .inl (.inr h3)
    ·exact .inr ⟨e',h1,h2,.inl h3⟩
    ·exact .inr ⟨e',h1,h2,.inr h3⟩
  ·simp only [hb,QQ]
   constructor
   ·rintro (h | ⟨e',h1,h2⟩)
    ·exact .inl (by simpa using h)
    ·exact .inr ⟨e',.inr h1,h2⟩
   ·rintro (h | ⟨e',h1 | h1,h2,h3⟩)
    ·exact .inl (by simpa using h)
    ·subst h1;exact absurd h2 hb
    ·exact .inr ⟨e',h1,h2,h3⟩
theorem Ec :∀{os:List Oper} {acc:List Nat},∃t,lI os acc=acc++t
 | [],acc=>⟨[],by simp [lI]⟩
 |o::os,acc=>by
  obtain ⟨t,h⟩:=Ec (os:=os) (acc:=acc++[jE acc o])
  exact ⟨jE acc o::t,by simp [lI,h]⟩
theorem Ed :∀{os:List Oper} {acc:List Nat} {j:Nat} {o:Oper},os[j]?=some o→∃acc',(∃t,lI os acc=acc'++jE acc' o::t)∧acc'.length=acc.length+j
 | [],acc,j,o,h=>by simp at h
 |o'::os,acc,0,o,h=>by
  simp only [UV,Q0] at h
  subst h
  obtain ⟨t,h⟩:=Ec (os:=os) (acc:=acc++[jE acc o'])
  exact ⟨acc,⟨t,by simp [lI,h]⟩,rfl⟩
 |o'::os,acc,j+1,o,h=>by
  simp only [V1] at h
  obtain ⟨acc',h1,h2⟩:=Ed (acc:=acc++[jE acc o']) h
  exact ⟨acc',h1,by simp at h2;omega⟩
def Down (ops:Array Oper) (D:Nat→Bool):Prop :=∀(j:Nat) o,ops[j]?=some o→D j=true→∀e∈o.after,Region.binds .any e=true→D e.on=true
theorem Ee {j:Nat} {o:Oper} (ho:ops[j]?=some o) {i:Nat}:((lI ops.toList []).getD j 0).testBit i=true↔
  ∃e∈o.after,Region.binds .any e=true∧(e.on=i∨(e.on<j∧((lI ops.toList []).getD e.on 0).testBit i=true)):=by
 have hl:ops.toList[j]?=some o:=by simpa using ho
 obtain ⟨acc,⟨t,h1⟩,h2⟩:=Ed (acc:=[]) hl
 simp only [List.length_nil,Wb] at h2
 rw [h1]
 have e1:(acc++jE acc o::t).getD j 0=jE acc o:=by
  rw [Q6,Wf (by omega),h2];simp
 have e2 :∀k,(acc++jE acc o::t).getD k 0=if k<j then acc.getD k 0 else (acc++jE acc o::t).getD k 0:=by
  intro k
  split
  ·rename_i hk
   rw [Q6,Wl (by omega),←Q6]
  ·rfl
 rw [e1]
 unfold jE
 rw [Hf]
 simp only [Nat.zero_testBit,Zs,false_or,Array.mem_toList_iff]
 constructor
 ·rintro ⟨e,q1,q2,q3⟩
  refine ⟨e,q1,q2,q3.imp id fun q => ?_⟩
  by_cases hk:e.on<j
  ·refine ⟨hk,?_⟩
   have:=e2 e.on
   rw [if_pos hk] at this
   unfold jE at this
   rw [this];exact q
  ·have:acc.getD e.on 0=0:=by rw [Q6,WP (by omega)];rfl
   rw [this] at q;simp at q
 ·rintro ⟨e,q1,q2,q3⟩
  refine ⟨e,q1,q2,q3.imp id fun ⟨hk,q⟩ => ?_⟩
  have:=e2 e.on
  rw [if_pos hk] at this
  unfold jE at this
  rw [this] at q;exact q
theorem uh (hD:Down ops D) :∀(j:Nat) {o:Oper},ops[j]?=some o→D j=true→∀i,((lI ops.toList []).getD j 0).testBit i=true→D i=true:=by
 intro j
 induction j using Nat.strongRecOn with
 |_ j ih=>
  intro o ho hj i hb
  obtain ⟨e,h1,h2,h3 | ⟨h3,h4⟩⟩:=(Ee ho).1 hb
  ·rw [←h3];exact hD j o ho hj e h1 h2
  ·have hlt:j<ops.size:=(Wt.1 ho).1
   have hlt':e.on<ops.size:=by omega
   exact ih e.on h3 (K3 hlt') (hD j o ho hj e h1 h2) i h4
theorem Ld {j:Nat} {o:Oper} (ho:ops[j]?=some o) (h:(lI ops.toList []).getD j 0<2 ^ j) {e:Edge} (he:e∈o.after) (hb:Region.binds .any e=true):e.on<j:=by
 have:=(Ee ho (i:=e.on)).2 ⟨e,he,hb,.inl rfl⟩
 by_cases hk:e.on<j
 ·exact hk
 ·rw [Nat.testBit_lt_two_pow (Wg h (Nat.pow_le_pow_right (by omega) (by omega)))] at this;cases this
end
section
variable {E:Env} {N:Nat} {aY:List Nat} {sU:Nat→Gh} {st:St} {a:Act} {w:World} {Pg:Program} {T:Tab} {tt:TT} {ops:Array Oper} {Q:Exit→Act→World→Prop}
theorem Le {gh:Nat→Gh} (h:Rel E st gh (fun t=>a.tmps.getD t undef) w) {x:S} {v:Value} (hx:bP E st gh w x v) {i:TI} {t:TypeId} (ht:mO Pg t i) {c:Value} {p:Bool→Prop} (hp:t_ st.o x i.k c=some p) :
  ∃b,(Op.equal t v c).run Pg w=.ok b w∧p b:=by
 unfold t_ at hp
 split at hp
 ·rename_i e hk
  have hu:=ht.kind
  rw [hk] at hu
  have hu:Pg.underlying t=some (.slice e):=hu
  have eqs :∀ao n cap,(Op.equal t (.slice ao n cap) (.slice none 0 0)).run Pg w=.ok ao.isNone w:=by
   intro ao n cap
   unfold Op.equal Op.maxDepth
   show (Op.equalIn (9999+1) t _ _).run Pg w=_
   unfold Op.equalIn
   cases ao<;>simp [dh hu]
  unfold G7 at hp
  split at hp
  ·simp only [Q0] at hp;subst hp
   have r:=hx.dK
   generalize hl:(P.sl _ _)=y at r
   cases r with
   |nil sz ao cap=>cases hl;exact ⟨_,eqs _ _ _,fun h=>absurd rfl h⟩
   |sl sz l ad cap f _ _ _ _ _ _=>cases hl;exact ⟨_,eqs _ _ _,fun _=>rfl⟩
   |_=>cases hl
  ·rename_i g
   split at hp
   ·rename_i sz l ho
    simp only [Q0] at hp;subst hp
    cases hx.bU with
    |own _ _ _ hb=>
     rw [hb _ _ ho]
     refine ⟨_,eqs _ _ _,fun hl => ?_⟩
     obtain ⟨ad,had,_⟩:=(qP (h.aN g) ho).2 (by omega)
     rw [had];rfl
   ·cases hp
  ·simp only [Q0] at hp;subst hp
   cases hx.bU
   exact ⟨_,eqs _ _ _,rfl⟩
  ·cases hp
 ·rename_i hk
  have hu:=ht.kind
  rw [hk] at hu
  obtain ⟨e,hu⟩:=(hu :∃e,Pg.underlying t=some (.pointer e))
  have eqp :∀ao,(Op.equal t (.pointer ao) (.pointer none)).run Pg w=.ok ao.isNone w:=by
   intro ao
   unfold Op.equal Op.maxDepth
   show (Op.equalIn (9999+1) t _ _).run Pg w=_
   unfold Op.equalIn
   cases ao<;>simp [dh hu]
  unfold BD at hp
  split at hp
  ·rename_i g off
   split at hp
   ·rename_i ws ho
    simp only [Q0] at hp;subst hp
    cases hx.bU with
    |box _ _ _ _ hb=>
     obtain ⟨ad,_,rfl⟩:=hb ws ho
     exact ⟨_,eqp _,rfl⟩
   ·cases hp
  ·simp only [Q0] at hp;subst hp
   cases hx.dK with
   |opq _ _=>exact ⟨_,eqp _,rfl⟩
  ·cases hp
 ·cases hp
theorem Lh (hT :∀f sp,T f=some sp→Sound Pg (f % 1000000) sp) (htt:fP Pg tt) {i:Nat} {o:Oper} (hi:ops[i]?=some o) (hg:Good E N aY sU st a w) {K':Eff→Prop} (h:yU T tt N ops o st K')
  {K:Act→World→Prop} (hK :∀e a' w',K' e→Good E N aY sU (st.eff o.dst e) a' w'→K a' w'):wpOp Pg ops Q i K a w:=by
 unfold yU at h
 split at h
 ·rename_i pos p hn
  obtain ⟨hd,h⟩:=h
  have hd :∀d,o.dst=some d→d<a.tmps.size:=by
   intro d e
   rw [e] at hd
   rw [hg.size];simpa using hd
  unfold Jb at hn
  split at hn
  ·cases hn
  ·rename_i hgd
   split at hn
   ·rename_i op t x c u hop
    split at hn
    ·rename_i ti ht
     obtain ⟨gh,hR,CX⟩:=hg.ex
     have hx:=nS hR x
     have key :∀p',t_ st.o (st.bC x) ti.k c=some p'→∃b,(Op.equal t (a.eval x) c).run Pg w=.ok b w∧p' b:=fun p' hp=>Le hR hx (htt _ _ ht) hp
     have fin :∀b,(execOp a.eval o).run Pg w=.ok (.value (.bool (bif pos then b else !b))) w→p b→wpOp Pg ops Q i K a w:=by
      intro b hrun hb
      unfold wpOp
      rw [hi]
      simp only
      have:Region.wanted o (yielded ops a.tmps)=true:=by simp [Region.wanted,hgd]
      rw [if_pos this]
      left
      show o.upon Pg a K Q ((execOp a.eval o).run Pg w)
      rw [hrun]
      refine hK _ _ _ (h b hb) ⟨⟨gh,?_,fun g hg' => ?_⟩,by rw [yR];exact hg.size,hg.defers.put _ _⟩
      ·rw [yQ _ _ hd]
       unfold St.eff
       simp only [CU]
       exact hR.put o.dst (bP.Yw (.bool _)) (by simp [scalar,S.names,V.names,W.names])
      ·have ho:(st.eff o.dst { x:=scalar (.bool (bif pos then b else !b)),aA:=[],new:=[] }).o g=st.o g:=by unfold St.eff St.put;cases o.dst<;>simp [St.aA]
       have hu:(st.eff o.dst { x:=scalar (.bool (bif pos then b else !b)),aA:=[],new:=[] }).used g=st.used g:=by unfold St.eff St.put;cases o.dst<;>simp [St.aA]
       rw [ho,hu];exact CX g hg'
     have hcv :∀b,(Op.equal t (a.eval x) c).run Pg w=.ok b w→(c=.slice none 0 0∨c=.pointer none)∧True→(eqGuard op t x (.const c) (a.eval x) c).run Pg w=.ok () w:=by
      intro b _ hc
      unfold eqGuard
      rcases hc.1 with rfl | rfl
      ·cases op<;>first | rfl | (simp only;split<;>first | rfl | simp_all)
      ·cases op<;>first | rfl | (simp only;split<;>first | rfl | simp_all)
     have hcc :∀p',t_ st.o (st.bC x) ti.k c=some p'→c=.slice none 0 0∨c=.pointer none:=by
      intro p' hp
      unfold t_ at hp
      split at hp
      ·exact .inl rfl
      ·exact .inr rfl
      ·cases hp
     split at hn
     ·rename_i p' hp
      simp only [Q0,Q1] at hn
      obtain ⟨rfl,rfl⟩:=hn
      obtain ⟨b,hb1,hb2⟩:=key _ hp
      refine fin b ?_ hb2
      have hge:=hcv b hb1 ⟨hcc _ hp,trivial⟩
      unfold execOp
      rw [hop]
      refine eH ?_
      show (eqGuard _ t x (.const c) (a.eval x) c >>= fun _=>binOp _ t (a.eval x) c).run Pg w=_
      rw [Sem.run_bind,hge]
      rcases hcc _ hp with rfl | rfl<;>simp [binOp,hb1]
     ·rename_i p' hp
      simp only [Q0,Q1] at hn
      obtain ⟨rfl,rfl⟩:=hn
      obtain ⟨b,hb1,hb2⟩:=key _ hp
      refine fin b ?_ hb2
      have hge:=hcv b hb1 ⟨hcc _ hp,trivial⟩
      unfold execOp
      rw [hop]
      refine eH ?_
      show (eqGuard _ t x (.const c) (a.eval x) c >>= fun _=>binOp _ t (a.eval x) c).run Pg w=_
      rw [Sem.run_bind,hge]
      rcases hcc _ hp with rfl | rfl<;>simp [binOp,hb1]
     ·cases hn
    ·cases hn
   ·cases hn
 ·split at h
  ·rename_i g s n hn
   obtain ⟨hd,h1,h2⟩:=h
   have hd :∀d,o.dst=some d→d<a.tmps.size:=by
    intro d e
    rw [e] at hd
    rw [hg.size];simpa using hd
   unfold Jc at hn
   split at hn
   ·cases hn
   ·rename_i hgd
    split at hn
    ·rename_i x hop
     split at hn
     ·rename_i g' hx
      split at hn
      ·rename_i s' n' hog
       simp only [Q0,Q1] at hn
       obtain ⟨rfl,rfl,rfl⟩:=hn
       obtain ⟨gh,hR,CX⟩:=hg.ex
       have hrx:=nS hR x
       rw [hx] at hrx
       obtain ⟨ad,had,hv⟩ :∃ad,(gh g').ad=some ad∧a.eval x=.pointer (some ⟨ad.block,0,none⟩):=by
        have:=hrx.bU
        generalize a.eval x=z at this
        cases this with | kH _ _ _ hb=>exact hb _ _ hog
       have hO:=hR.aN g'
       rw [hog] at hO
       obtain ⟨ad',bs,k,q1,rfl,rfl,q4⟩:=hO
       rw [had] at q1;cases q1
       have hlt:ad.block<w.heap.size:=(hR.wr g' ad.block (by rw [hog];rfl) (Gh.iP had)).2
       have hkn:(P.int .i64 (k:Int)).nat=k:=by simp [P.nat,P.num]
       have hget:(getObj ad.block).run Pg w=.ok (.stringIter bs k) w:=by simp [getObj,Sem.run,q4]
       have fin :∀(v:Value) (w':World) (e:Eff),(∀b,b≠ad.block→w'.heap[b]?=w.heap[b]?)→(Instr.next (a.eval x) true o.type).run Pg w=.ok v w'→K' e→Rel E (st.aA e.aA e.new) gh (fun t=>a.tmps.getD t undef) w'→bP E (st.aA e.aA e.new) gh w' e.x v→(∀g∈e.x.names,(st.aA e.aA e.new).used g=true)→
         (∀g,st.used g=true→(st.aA e.aA e.new).used g=true)→(∀g,((st.aA e.aA e.new).o g=.none∨True)∧(st.o g=.none→(st.aA e.aA e.new).o g=.none))→wpOp Pg ops Q i K a w:=by
        intro v w' e hmm hrun hke hR' hx' hn' hu' ho'
        unfold wpOp
        rw [hi]
        simp only
        have:Region.wanted o (yielded ops a.tmps)=true:=by simp [Region.wanted,hgd]
        rw [if_pos this]
        left
        show o.upon Pg a K Q ((execOp a.eval o).run Pg w)
        have:(execOp a.eval o).run Pg w=.ok (.value v) w':=by
         unfold execOp
         rw [hop]
         exact eH hrun
        rw [this]
        refine hK e _ _ hke ⟨⟨gh,?_,fun g hg' => ?_⟩,by rw [yR];exact hg.size,hg.defers.same (fun D _ h3=>hmm D fun e'=>by rw [e',q4] at h3;cases h3) _ _⟩
        ·rw [yQ _ _ hd]
         exact hR'.put o.dst hx' hn'
        ·obtain ⟨p1,p2⟩:=CX g hg'
         have ho2:(st.eff o.dst e).o g=(st.aA e.aA e.new).o g:=by unfold St.eff St.put;cases o.dst<;>rfl
         have hu2:(st.eff o.dst e).used g=(st.aA e.aA e.new).used g:=by unfold St.eff St.put;cases o.dst<;>rfl
         refine ⟨by rw [hu2];exact hu' g p1,?_⟩
         rw [ho2]
         rcases p2 with p2 | p2
         ·exact .inl ((ho' g).2 p2)
         ·exact .inr p2
       cases hb:La (.str bs) (.int .i64 k) with
       |true=>
        have hkb:k<bs.size:=by
         have:=of_decide_eq_true hb
         rw [hkn] at this;exact this
        have hrun:(Instr.next (a.eval x) true o.type).run Pg w=.ok (.tuple #[.bool true,.int .i64 k,.int .i32 (Utf8.decode bs k).1]) { w with heap:=w.heap.setIfInBounds ad.block (.stringIter bs (k+(Utf8.decode bs k).2)) }:=by
         rw [hv]
         simp only [Instr.next,Sem.run_bind,hget,Result.andThen_ok]
         rw [if_pos hkb]
         have hset:(setObj ad.block (.stringIter bs (k+(Utf8.decode bs k).2))).run Pg w=.ok () { w with heap:=w.heap.setIfInBounds ad.block (.stringIter bs (k+(Utf8.decode bs k).2)) }:=by
          simp [setObj,Sem.run,q4]
         simp only [Sem.run_bind,hset,Result.andThen_ok,Sem.run_pure]
         rfl
        obtain ⟨w1,w2⟩:=hR.write g' ad (by rw [hog];rfl) had (.it (.str bs) (NZ (.str bs) (.int .i64 k))) (by rw [hog];trivial) { w with heap:=w.heap.setIfInBounds ad.block (.stringIter bs (k+(Utf8.decode bs k).2)) }
         (fun b hb=>by simp [Array.getElem?_setIfInBounds,Ne.symm hb]) (by simp) rfl rfl rfl rfl (fun _ e=>by cases e) (fun _=>by rw [hog];rfl)
         (fun _=>⟨ad,bs,k+(Utf8.decode bs k).2,had,rfl,by simp only [NZ,jh,hkn];rfl,by simp [hlt]⟩) (fun g hg=>by simp [O.names] at hg)
        have hold :∀g,g≠g'→(st.aA (D9 g' (.str bs) (.int .i64 k)).aA (D9 g' (.str bs) (.int .i64 k)).new).o g=st.o g:=by
         intro g hne
         have:(g==g')=false:=by simpa using hne
         simp [D9,St.aA,List.lookup,this]
        refine fin _ _ (D9 g' (.str bs) (.int .i64 k)) (fun b hb=>by simp [Array.getElem?_setIfInBounds,Ne.symm hb]) hrun (h1 hb) w1 ?_ ?_ ?_ ?_
        ·refine .jK _ _ rfl fun j x v hx hv => ?_
         match j,hx,hv with
         |0,hx,hv=>cases hx;cases hv;exact .one _ _ (.p _ _ _ _ (.bool _))
         |1,hx,hv=>cases hx;cases hv;exact .one _ _ (.p _ _ _ _ (by rw [hkn];exact .int _ _))
         |2,hx,hv=>cases hx;cases hv;exact .one _ _ (.p _ _ _ _ (by simp only [Us,hkn];exact .int _ _))
         |j+3,hx,_=>cases hx
        ·intro g hg'
         simp [D9,S.names,V.names,W.names] at hg'
        ·intro g hg';simp [St.aA,hg']
        ·intro g
         refine ⟨.inr trivial,fun h0 => ?_⟩
         by_cases e:g=g'
         ·subst e;rw [hog] at h0;cases h0
         ·rw [hold g e];exact h0
       |false=>
        have hkb:¬ k<bs.size:=by
         have:=of_decide_eq_false hb
         rw [hkn] at this;exact this
        have hrun:(Instr.next (a.eval x) true o.type).run Pg w=.ok (.tuple #[.bool false]) w:=by
         rw [hv]
         simp only [Instr.next,Sem.run_bind,hget,Result.andThen_ok]
         rw [if_neg hkb];rfl
        refine fin _ _ G8 (fun _ _=>rfl) hrun (h2 hb) (by rw [show G8.aA=[] from rfl,show G8.new=[] from rfl,CU];exact hR) ?_ ?_ ?_ ?_
        ·refine .jK _ _ rfl fun j x v hx hv => ?_
         match j,hx,hv with
         |0,hx,hv=>cases hx;cases hv;exact .one _ _ (.p _ _ _ _ (.bool _))
         |j+1,hx,_=>cases hx
        ·intro g hg'
         simp [G8,S.names,V.names,W.names] at hg'
        ·intro g hg';simp [St.aA,hg']
        ·intro g;exact ⟨.inr trivial,fun h0=>by simpa [G8,St.aA] using h0⟩
      ·cases hn
     ·cases hn
    ·cases hn
  ·obtain ⟨e,hc,h⟩:=KW h
   exact D6 hT htt hi hg hc fun a' w' hg'=>hK e a' w' h hg'
theorem yX (hT :∀f sp,T f=some sp→Sound Pg (f % 1000000) sp) (htt:fP Pg tt) {K:St→Prop} (hK :∀st' a' w',K st'→Good E N aY sU st' a' w'→Q .normal a' w') :
  ∀(is:List Nat) {st:St} {a:Act} {w:World},rG T tt N ops is st K→Good E N aY sU st a w→wpOps Pg ops Q is a w
 | [],st,a,w,h,hg=>hK st a w h hg
 |i::is,st,a,w,h,hg=>by
  simp only [rG] at h
  split at h
  ·rename_i o ho
   rw [wpOps_cons]
   exact Lh hT htt ho hg h fun e a' w' h hg'=>yX hT htt hK is h hg'
  ·cases h
theorem BH {K:St→List pK→Prop} :∀(m k:Nat) (es:Nat→Eff) (fs:List pK),fs.length=k→lU T tt N ops (List.range' k m) (SD ops es st (fun _=>true) k) fs K→
  ∃(es':Nat→Eff) (fs':List pK),(∀i<k,es' i=es i)∧(∀i<k,fs'[i]?=fs[i]?)∧K (SD ops es' st (fun _=>true) (k+m)) fs'∧
   ∀i,k≤i→i<k+m→∃o,ops[i]?=some o∧Can T tt N ops (SD ops es' st (fun _=>true) i) o (es' i)∧fs'[i]?=some { rd:=pJ T (SD ops es' st (fun _=>true) i) o,wr:=(es' i).aA.map (·.1),new:=(es' i).new,ld:=Gi tt (SD ops es' st (fun _=>true) i) o,kp:=Jd (SD ops es' st (fun _=>true) i) o (es' i),pk:=j_ o.op,kd:=N7 (SD ops es' st (fun _=>true) i) (es' i) }
 |0,k,es,fs,hl,h=>⟨es,fs,fun _ _=>rfl,fun _ _=>rfl,h,fun i h1 h2=>by omega⟩
 |m+1,k,es,fs,hl,h=>by
  simp only [K4,lU] at h
  split at h
  ·rename_i o ho
   obtain ⟨e,hc,h⟩:=KW h
   let es1:Nat→Eff:=fun i=>if i=k then e else es i
   have e1:SD ops es1 st (fun _=>true) k=SD ops es st (fun _=>true) k:=Eb fun i hi=>by simp only [es1];rw [if_neg (by omega)]
   have e2:SD ops es1 st (fun _=>true) (k+1)=(SD ops es st (fun _=>true) k).eff o.dst e:=by
    simp only [SD,if_true]
    rw [e1,ho]
    simp [es1]
   rw [←e2] at h
   obtain ⟨es',fs',q1,q2,q3,q4⟩:=BH m (k+1) es1 _ (by simp [hl]) h
   have e3:SD ops es' st (fun _=>true) k=SD ops es st (fun _=>true) k:=(Eb fun i hi=>q1 i (by omega)).trans e1
   refine ⟨es',fs',fun i hi => ?_,fun i hi => ?_,by rw [show k+(m+1)=k+1+m by omega];exact q3,fun i h1 h2 => ?_⟩
   ·rw [q1 i (by omega)];simp only [es1];rw [if_neg (by omega)]
   ·rw [q2 i (by omega),Wl (by omega)]
   ·by_cases e:i=k
    ·subst e
     have hei:es' i=e:=by rw [q1 i (by omega)];simp [es1]
     refine ⟨o,ho,by rw [e3,hei];exact hc,?_⟩
     rw [q2 i (by omega),Wf (by omega),e3,hei]
     simp [hl]
    ·exact q4 i (by omega) (by omega)
  ·cases h
def Rng (ws:List W) (off n:Nat) (x:O):Prop :=∃wc,x=.box wc∧wc.length=ws.length∧∀off',off≤off'→off'<off+n→wc[off']?=ws[off']?
theorem Ef {g:Nat} :∀{j:Nat} {xs ys:List W} {r:List (Nat×Nat)},yV g j xs ys=some r→xs.length=ys.length∧∀p∈r,p.1=g∧j≤p.2∧xs[p.2-j]?=ys[p.2-j]?
 |j,[],[],r,h=>by simp only [yV,Q0] at h;subst h;exact ⟨rfl,fun p hp=>by cases hp⟩
 |j,[],y::ys,r,h=>by simp [yV] at h
 |j,x::xs,[],r,h=>by simp [yV] at h
 |j,x::xs,y::ys,r,h=>by
  simp only [yV] at h
  split at h
  ·rename_i r' hr
   obtain ⟨h1,h2⟩:=Ef hr
   have old :∀p∈r',p.1=g∧j≤p.2∧(x::xs)[p.2-j]?=(y::ys)[p.2-j]?:=fun p hp=>by
    obtain ⟨a1,a2,a3⟩:=h2 p hp
    refine ⟨a1,by omega,?_⟩
    rw [show p.2-j=(p.2-(j+1))+1 by omega,V1,V1];exact a3
   simp only [Q0] at h
   refine ⟨by simp [h1],fun p hp => ?_⟩
   rw [←h] at hp
   split at hp
   ·rename_i hs
    rcases QQ.1 hp with rfl | hp
    ·refine ⟨rfl,W4 _,?_⟩
     have:x=y:=by
      cases x<;>cases y<;>simp only [Ut] at hs<;>first | (cases hs) | skip
      ·rw [Q4 hs]
      ·simp only [Qf] at hs
       rw [Q4 hs.1,Q4 hs.2]
     simp [this]
    ·exact old p hp
   ·exact old p hp
  ·cases h
theorem xB {st:St} {o:Oper} {g off n:Nat} (h:Gi tt st o=some (g,off,n)):(∃t x i,o.op=.load t x∧tt t=some i∧i.size=n∧st.bC x=.v (.one (.box g off)))∨
  ((off=5000000∧n=1)∧∃t x i m off' a0 i0 sz ak l hole,o.op=.load t x∧tt t=some i∧st.bC x=.v (.one (.ep g m off'))∧st.o g=.ay a0 i0 sz ak l hole∧gI ak off' i.size=[]):=by
 unfold Gi at h
 split at h
 ·rename_i t x hop
  split at h
  ·rename_i i g' off' ht hx
   simp only [Q0,Q1] at h
   obtain ⟨rfl,rfl,rfl⟩:=h
   exact .inl ⟨t,x,i,hop,ht,rfl,hx⟩
  ·rename_i i g' m off' ht hx
   split at h
   ·rename_i a0 i0 sz ak l hole ho
    cases hc:gI ak off' i.size with
    |nil=>
     rw [hc] at h
     have h:some (g',5000000,1)=some (g,off,n):=h
     simp only [Q0,Q1] at h
     obtain ⟨rfl,rfl,rfl⟩:=h
     exact .inr ⟨⟨rfl,rfl⟩,t,x,i,m,off',a0,i0,sz,ak,l,hole,hop,ht,hx,ho,hc⟩
    |cons q qs=>
     rw [hc] at h
     have h:(none:Option (Nat×Nat×Nat))=some (g,off,n):=h
     cases h
   ·cases h
  ·cases h
 ·cases h
theorem ni {st:St} {o:Oper} (h:D_ o.op=true∨j_ o.op=true):gK st o=[]:=by
 refine NK ?_
 unfold argNames
 split
 ·rename_i f args ts hop
  rw [hop] at h
  rcases h with h | h<;>cases h
 ·rename_i hop
  rw [hop] at h
  rcases h with h | h<;>cases h
 ·rfl
theorem Rx {st:St} {o:Oper} {g off n:Nat} (h:Gi tt st o=some (g,off,n)):g∈pJ T st o:=by
 rcases xB h with ⟨t,x,i,h1,_,_,h4⟩ | ⟨_,t,x,i,m,off',a0,i0,sz,ak,l,hole,h1,_,h4,_⟩
 all_goals
  refine Z2 _ ?_
  rw [ni (.inl (by rw [h1];rfl))]
  unfold yT
  rw [h1]
  show g∈(bif _ then _ else _)++_
  refine Z2 _ (X1.2 ⟨x,by simp [Op.operands],X1.2 ⟨g,?_,by simp⟩⟩)
  show g∈(st.bC x).names
  rw [h4];simp [S.names,V.names,W.names]
theorem Lj {es:Nat→Eff} {D:Nat→Bool} {g:Nat} :∀(n:Nat),∃m,(∀k,m≤k→k<n→D k=true→g∉(es k).aA.map (·.1))∧(SD ops es st D n).o g=(SD ops es st (fun _=>true) m).o g∧(m=0∨∃k,m=k+1∧k<n∧D k=true∧g∈(es k).aA.map (·.1))
 |0=>⟨0,fun k _ h=>by omega,rfl,.inl rfl⟩
 |n+1=>by
  obtain ⟨m,h1,h2,h3⟩:=Lj (D:=D) (g:=g) n
  by_cases hw:D n=true∧g∈(es n).aA.map (·.1)
  ·obtain ⟨hd,hg⟩:=hw
   refine ⟨n+1,fun k a b=>by omega,?_,.inr ⟨n,rfl,by omega,hd,hg⟩⟩
   simp only [SD,hd,if_true,uf]
   cases hl:(es n).aA.lookup g with
   |some x=>rfl
   |none=>
    exfalso
    obtain ⟨p,hp,e⟩:=QP.1 hg
    have :∀{l:List (Nat×O)},p∈l→l.lookup p.1≠none:=by
     intro l
     induction l with
     |nil=>intro h;cases h
     |cons q l ih=>
      intro h hn
      simp only [List.lookup] at hn
      split at hn
      ·cases hn
      ·rename_i hb
       rcases QQ.1 h with h | h
       ·subst h;simp at hb
       ·exact ih h hn
    exact this hp (by rw [e];exact hl)
  ·refine ⟨m,fun k a b hd hg => ?_,?_,h3.imp id fun ⟨k,a,b,c⟩=>⟨k,a,by omega,c⟩⟩
   ·by_cases e:k=n
    ·subst e;exact hw ⟨hd,hg⟩
    ·exact h1 k a (by omega) hd hg
   ·cases hd:D n with
    |false=>simp only [SD,hd,Zs,if_false];exact h2
    |true=>
     have hg:g∉(es n).aA.map (·.1):=fun hg=>hw ⟨hd,hg⟩
     simp only [SD,hd,if_true,uf,iK hg];exact h2
theorem xC {st:St} {o:Oper} {d:Nat} {t:TypeId} {x:Operand} {i:TI} {g off:Nat} (h1:o.op=.load t x) (h2:tt t=some i) (h4:st.bC x=.v (.one (.box g off))) {K:Eff→Prop} :
  gQ T tt d st o K↔∃ws,st.o g=.box ws∧(off+i.size≤ws.length∧0<i.size)∧K { x:=V.dN i.agg ((ws.drop off).take i.size),aA:=[],new:=[] }:=by
 have hD :∀dc,bV tt dc d st.o st.bC (.load t x) o.type=none:=fun dc=>by
  simp only [bV,o_,h2,h4]
  cases KA dc<;>rfl
 have e:gQ T tt d st o K↔(match kernel tt d st.o st.bC (.load t x) o.type with
   |some r=>r.pre∧K { x:=r.dst r.val,aA:=r.aA r.val,new:=r.new }
   |none=>False):=by
  rw [oG (ni (.inl (by rw [h1];rfl)))]
  unfold iT
  rw [h1]
  simp only [hD,reduceCtorEq,false_and,exists_false,false_or,Bg,cond_false]
  cases kernel tt d st.o st.bC (.load t x) o.type<;>rfl
 rw [e]
 simp only [kernel,h2,h4]
 cases ho:st.o g with
 |box ws=>
  simp only
  by_cases hs:off+i.size≤ws.length∧0<i.size
  ·rw [if_pos hs]
   simp only [zJ.pure,true_and]
   constructor
   ·intro h;exact ⟨ws,rfl,hs,h⟩
   ·rintro ⟨ws',e',_,h⟩;cases e';exact h
  ·rw [if_neg hs]
   simp only [false_iff]
   rintro ⟨ws',e',h,_⟩;cases e';exact hs h
 |_=>
  simp only [false_iff]
  rintro ⟨ws',e',_⟩;cases e'
theorem Pz {st:St} {o:Oper} {e:Eff} (hc:Can T tt N ops st o e) {Q:Eff→Prop} (hs:Q Eff.skip) (key :∀{d:Nat},(gQ T tt d st o fun e'=>e'.new.all (fun g=>!st.used g)=true∧e'=e)→Q e):Q e:=by
 unfold Can stepW at hc
 obtain ⟨_,hc⟩:=hc
 split at hc
 ·exact key hc
 ·split at hc
  ·rename_i b _
   cases b with
   |true=>exact key hc
   |false=>have hc:Eff.skip=e:=hc;rw [←hc];exact hs
  ·cases hc
theorem Eh {st:St} {o:Oper} {d:Nat} {t:TypeId} {x:Operand} {i:TI} {g off sz:Nat} {m:P} {a0 i0:Bool} {ak:List (Nat×Nat)} {l:List (List P)} {hole:Option (Nat×Nat×Nat)} (h1:o.op=.load t x) (h2:tt t=some i) (h4:st.bC x=.v (.one (.ep g m off)))
  (h5:st.o g=.ay a0 i0 sz ak l hole) (h6:gI ak off i.size=[]) {K:Eff→Prop} :
  gQ T tt d st o K↔(off+i.size≤sz∧0<i.size)∧K { x:=V.dN i.agg ((List.range i.size).map fun j=>.p a0 i0 ((l.getD m.nat []).getD (off+j) (J4 i.zero j))),aA:=[],new:=[] }:=by
 have hK:kernel tt d st.o st.bC (.load t x) o.type=none:=by simp only [kernel,h2,h4,h5]
 have hH:o_ tt st.o st.bC t x=none:=by
  unfold o_
  simp only [h2,h4]
  cases hh:gJ st.o g with
  |none=>rfl
  |some q=>
   obtain ⟨a,i',sz',fD,l'⟩:=q
   simp only
   have hcols:fD=ak:=by
    unfold gJ at hh
    rw [h5] at hh
    simp only at hh
    split at hh
    ·simp only [Q0,Q1] at hh;exact hh.2.2.2.1.symm
    ·split at hh
     ·split at hh
      ·simp only [Q0,Q1] at hh;exact hh.2.2.2.1.symm
      ·cases hh
     ·cases hh
   subst hcols
   cases hl:fD.lookup off with
   |none=>rfl
   |some s=>
    simp only
    rw [if_neg]
    rintro ⟨_,h1',_⟩
    have hm:(off,s)∈fD:=iy hl
    have:(off,s)∈gI fD off i.size:=by
     unfold gI
     rw [K9]
     exact ⟨hm,by rw [h1'];simp⟩
    rw [h6] at this;cases this
 rw [oG (ni (.inl (by rw [h1];rfl)))]
 unfold iT
 rw [h1]
 simp only [hK,or_false]
 constructor
 ·rintro ⟨dc,r,hk,hp,hb⟩
  simp only [bV] at hk
  cases hd:KA dc with
  |true=>rw [hd] at hk;simp only [cond_true,hH] at hk;cases hk
  |false=>
   rw [hd] at hk
   simp only [cond_false,h2,h4,h5,h6] at hk
   split at hk
   ·rename_i hc
    simp only [Q0] at hk
    subst hk
    exact ⟨hc,F8.iff.1 hb⟩
   ·cases hk
 ·rintro ⟨hc,hK'⟩
  refine ⟨[],.pure (V.dN i.agg ((List.range i.size).map fun j=>.p a0 i0 ((l.getD m.nat []).getD (off+j) (J4 i.zero j)))),?_,trivial,F8.iff.2 hK'⟩
  simp only [bV,KA,cond_false,h2,h4,h5,h6]
  rw [if_pos hc]
theorem Ll {st:St} {o:Oper} {e:Eff} {g off n:Nat} (hc:Can T tt N ops st o e) (hl:Gi tt st o=some (g,off,n)):e.aA=[]:=by
 refine Pz (Q:=fun e=>e.aA=[]) hc rfl fun {d} h => ?_
 rcases xB hl with ⟨t,x,i,h1,h2,h3,h4⟩ | ⟨_,t,x,i,m,off',a0,i0,sz,ak,l,hole,h1,h2,h4,h5,h6⟩
 ·obtain ⟨ws,_,_,_,rfl⟩:=(xC h1 h2 h4).1 h
  rfl
 ·obtain ⟨_,_,rfl⟩:=(Eh h1 h2 h4 h5 h6).1 h
  rfl
theorem Ry {st:St} {o:Oper} {e:Eff} {g:Nat} {t:TypeId} {x:Operand} {a i:Bool} {sz:Nat} {ak:List (Nat×Nat)} {l:List (List P)} (hc:Can T tt N ops st o e) (h1:o.op=.load t x) (ho:st.o g=.ay a i sz ak l none) {a' i':Bool} {sz':Nat} {fD:List (Nat×Nat)} {l':List (List P)} {eP:Option (Nat×Nat×Nat)}
  (hl:e.aA.lookup g=some (.ay a' i' sz' fD l' eP)):(O.ay a' i' sz' fD l' eP).core=(O.ay a i sz ak l none).core:=by
 refine Pz (Q:=fun e=>e.aA.lookup g=some (.ay a' i' sz' fD l' eP)→_) hc (fun h=>by cases h) (fun {d} h hl => ?_) hl
 rw [oG (ni (.inl (by rw [h1];rfl)))] at h
 unfold iT at h
 rw [h1] at h
 simp only at h
 rcases h with ⟨dc,r,hk,hp,hb⟩ | h
 ·have hb:=(F8.iff.1 hb).2
  rw [←hb] at hl
  simp only at hl
  simp only [bV] at hk
  cases hd:KA dc with
  |true=>
   rw [hd] at hk
   simp only [cond_true] at hk
   unfold o_ at hk
   repeat' split at hk
   all_goals first | (cases hk;done) | skip
   simp only [Q0] at hk
   subst hk
   simp [zJ.pure,nI] at hl
  |false=>
   rw [hd] at hk
   simp only [cond_false] at hk
   split at hk
   ·rename_i i1 g1 n1 off1 _ _
    split at hk
    ·rename_i a1 i2 sz1 aeY l1 aeZ ho1
     split at hk
     ·split at hk
      ·simp only [Q0] at hk
       subst hk
       simp [zJ.pure,nI] at hl
      ·rename_i c s _
       split at hk
       ·rename_i a2 i3 Y9 abM l2 hh
        simp only [Q0] at hk
        subst hk
        simp only [List.lookup] at hl
        cases hg:g==g1 with
        |true=>
         have e1:g=g1:=by simpa using hg
         subst e1
         rw [hg] at hl
         simp only [Q0] at hl
         rw [ho] at ho1
         cases ho1
         unfold gJ at hh
         rw [ho] at hh
         simp only [Q0,Q1] at hh
         obtain ⟨rfl,rfl,rfl,rfl,rfl⟩:=hh
         rw [←hl]
         rfl
        |false=>
         rw [hg] at hl
         simp only at hl
         cases hg2:g==d with
         |true=>rw [hg2] at hl;cases hl
         |false=>
          rw [hg2] at hl
          simp only at hl
          exfalso
          have :∀gs:List Nat,(kills gs).lookup g≠some (.ay a' i' sz' fD l' eP):=fun gs=>by
           induction gs with
           |nil=>intro h;cases h
           |cons q qs ih=>
            intro h
            simp only [kills,Qt,List.lookup] at h
            split at h
            ·cases h
            ·exact ih h
          exact this _ hl
       ·cases hk
      ·cases hk
     ·cases hk
    ·cases hk
   ·cases hk
 ·split at h
  ·rename_i r hr
   obtain ⟨_,h⟩:=h
   have h:(_:Prop)∧({ x:=r.dst r.val,aA:=r.aA r.val,new:=r.new }:Eff)=e:=h
   rw [←h.2] at hl
   have:r.aA r.val=[]:=by
    simp only [kernel] at hr
    repeat' split at hr
    all_goals first | (cases hr;done) | (simp only [Q0] at hr;subst hr;rfl)
   simp only [this] at hl
   cases hl
  ·cases h
theorem z_ {st:St} {o:Oper} {e:Eff} {p:Nat×Nat} (hc:Can T tt N ops st o e) (h:p∈Jd st o e):j_ o.op=true∨(∃wa wb,st.o p.1=.box wa∧e.aA.lookup p.1=some (.box wb)∧wa.length=wb.length∧wa[p.2]?=wb[p.2]?)∨
  ∃x,e.aA.lookup p.1=some x∧x.core=(st.o p.1).core∧(st.o p.1).core≠none:=by
 unfold Jd at h
 rcases Z1.1 h with h | h
 ·cases hp:j_ o.op with
  |true=>exact .inl rfl
  |false=>rw [hp] at h;cases h
 obtain ⟨g,_,hp⟩:=X1.1 h
 rcases Z1.1 hp with hp | hp
 ·refine .inr (.inl ?_)
  cases ho:st.o g with
  |box ws=>
   cases hl:e.aA.lookup g with
   |none=>rw [ho,hl] at hp;cases hp
   |some x=>
    cases x with
    |box ws'=>
     rw [ho,hl] at hp
     simp only [Lc] at hp
     split at hp
     ·rename_i r hr
      obtain ⟨h1,h2⟩:=Ef hr
      obtain ⟨rfl,_,a3⟩:=h2 p hp
      exact ⟨ws,ws',ho,hl,h1,by simpa using a3⟩
     ·cases hp
    |_=>rw [ho,hl] at hp;cases hp
  |_=>rw [ho] at hp;cases hp
 ·refine .inr (.inr ?_)
  cases hop:o.op with
  |load t x=>
   rw [hop] at hp
   simp only [D_,cond_true] at hp
   cases ho:st.o g with
   |ay a i sz ak l hole=>
    cases hole with
    |some q=>rw [ho] at hp;revert hp;cases e.aA.lookup g with
     |none=>intro hp;cases hp
     |some y=>cases y<;>intro hp<;>cases hp
    |none=>
     cases hl:e.aA.lookup g with
     |none=>rw [ho,hl] at hp;cases hp
     |some y=>
      cases y with
      |ay a' i' sz' fD l' eP=>
       rw [ho,hl] at hp
       have hp:p∈[(g,5000000)]:=hp
       rw [ZZ] at hp
       subst hp
       exact ⟨_,hl,by rw [ho];exact Ry hc hop ho hl,by rw [ho];simp [O.core]⟩
      |_=>rw [ho,hl] at hp;cases hp
   |_=>rw [ho] at hp;cases hp
  |_=>rw [hop] at hp;cases hp
theorem Rz {st:St} {e:Eff} {g:Nat} (h:g∈N7 st e) :∃x,e.aA.lookup g=some x∧kindOf x=kindOf (st.o g):=by
 unfold N7 at h
 obtain ⟨g',_,hp⟩:=JS.1 h
 cases hl:e.aA.lookup g' with
 |none=>rw [hl] at hp;cases hp
 |some x=>
  rw [hl] at hp
  simp only at hp
  cases hb:Nat.beq (kindOf x) (kindOf (st.o g')) with
  |false=>rw [hb] at hp;cases hp
  |true=>
   rw [hb] at hp
   cases hp
   exact ⟨x,hl,Q4 hb⟩
theorem Hg {o o':Nat→O} {x:W} (h :∀g∈x.names,kindOf (o g)=kindOf (o' g)):x.live o=x.live o':=by
 cases x<;>simp only [W.live]<;>first | rfl | skip
 ·rename_i g off
  have:=h g (by simp [W.names])
  cases h1:o g<;>cases h2:o' g<;>rw [h1,h2] at this<;>first | rfl | cases this
 ·rename_i g n off
  have:=h g (by simp [W.names])
  cases h1:o g<;>cases h2:o' g<;>rw [h1,h2] at this<;>first | rfl | cases this
theorem Lm {o o':Nat→O} {d:Nat} {F F':Operand→S} {op:Op} {ty:TypeId} (hp:j_ op=true) (hF :∀x∈op.operands.toList,F x=F' x) (ho :∀x∈op.operands.toList,∀g∈(F x).names,kindOf (o g)=kindOf (o' g)) :
  kernel tt d o F op ty=kernel tt d o' F' op ty:=by
 cases op<;>first | (cases hp;done) | skip
 ·rename_i x
  have h1:=hF x (by simp [Op.operands])
  have h2:=ho x (by simp [Op.operands])
  simp only [kernel,←h1]
  generalize F x=z at h2
  split
  ·rename_i x
   rw [Hg (o':=o') fun g hg=>h2 g (by simpa [S.names,V.names] using hg)]
  ·rfl
 ·rename_i t x n
  have h1:=hF x (by simp [Op.operands])
  have h2:=ho x (by simp [Op.operands])
  simp only [kernel,←h1]
  generalize F x=z at h2
  split
  ·rename_i x _ _
   rw [Hg (o':=o') fun g hg=>h2 g (by simpa [S.names,V.names] using hg)]
  ·rfl
theorem xE {st:St} {o:Oper} {d:Nat} (hp:j_ o.op=true) {K:Eff→Prop} :
  gQ T tt d st o K↔(match kernel tt d st.o st.bC o.op o.type with
   |some r=>r.pre∧K { x:=r.dst r.val,aA:=r.aA r.val,new:=r.new }
   |none=>False):=by
 rw [oG (ni (.inr hp))]
 unfold iT
 cases hop:o.op<;>rw [hop] at hp<;>first | (cases hp;done) | skip
 all_goals
  simp only [bV,reduceCtorEq,false_and,exists_false,false_or,Bg,cond_false]
  generalize kernel tt d st.o st.bC _ o.type=z
  cases z<;>rfl
theorem RD {o:Nat→O} {F:Operand→S} {d:Nat} {op:Op} {ty:TypeId} {r:zJ} (hp:j_ op=true) (h:kernel tt d o F op ty=some r):r.aA r.val=[]:=by
 cases op<;>first | (cases hp;done) | skip
 all_goals
  simp only [kernel] at h
  split at h
  ·split at h
   ·simp only [Q0] at h;subst h;rfl
   ·cases h
  ·cases h
theorem yY {st:St} {o:Oper} {e:Eff} (hc:Can T tt N ops st o e) (hp:j_ o.op=true):e.aA=[]:=by
 have key :∀{d:Nat},(gQ T tt d st o fun e'=>e'.new.all (fun g=>!st.used g)=true∧e'=e)→e.aA=[]:=by
  intro d h
  have h:=(xE hp).1 h
  split at h
  ·rename_i r hr
   obtain ⟨_,_,rfl⟩:=h
   exact RD hp hr
  ·cases h
 unfold Can stepW at hc
 obtain ⟨_,hc⟩:=hc
 split at hc
 ·exact key hc
 ·split at hc
  ·rename_i b _
   cases b with
   |true=>exact key hc
   |false=>have hc:Eff.skip=e:=hc;rw [←hc];rfl
  ·cases hc
theorem Uw {st st':St} {o:Oper} {e:Eff} (hc:Can T tt N ops st o e) (hp:j_ o.op=true) (hs :∀t∈o.looksAt ops,st.s t=st'.s t) (ho :∀x∈o.op.operands.toList,∀g∈(st.bC x).names,kindOf (st.o g)=kindOf (st'.o g)) (hu :∀g∈e.new,st.used g=st'.used g):Can T tt N ops st' o e:=by
 have hx :∀x∈o.op.operands.toList,st.bC x=st'.bC x:=by
  intro x hm
  cases x with
  |tmp t=>exact hs t (Z2 _ (JS.2 ⟨_,hm,rfl⟩))
  |_=>rfl
 have hk:kernel tt (o.dst.getD 0) st.o st.bC o.op o.type=kernel tt (o.dst.getD 0) st'.o st'.bC o.op o.type:=
  Lm hp hx ho
 have eff:(gQ T tt (o.dst.getD 0) st o fun e'=>e'.new.all (fun g=>!st.used g)=true∧e'=e)→(gQ T tt (o.dst.getD 0) st' o fun e'=>e'.new.all (fun g=>!st'.used g)=true∧e'=e):=by
  intro h
  have h:=(xE hp).1 h
  refine (xE hp).2 ?_
  rw [←hk]
  split at h
  ·obtain ⟨q1,q2,rfl⟩:=h
   refine ⟨q1,?_,rfl⟩
   rw [X2] at q2 ⊢
   intro g hg
   rw [←hu g hg];exact q2 g hg
  ·cases h
 unfold Can stepW at *
 refine ⟨hc.1,?_⟩
 have hc:=hc.2
 cases hg:o.guard with
 |none=>rw [hg] at hc;exact eff hc
 |some p=>
  obtain ⟨j,want⟩:=p
  rw [hg] at hc
  simp only at hc ⊢
  have:guardOf ops st j want=guardOf ops st' j want:=by
   unfold guardOf
   cases hd:(ops[j]?).bind (·.dst) with
   |none=>rfl
   |some t=>
    simp only
    rw [hs t (WN _ (by simp [hg,hd]))]
  rw [←this]
  split at hc
  ·rename_i b hb
   cases b with
   |true=>exact eff hc
   |false=>exact hc
  ·cases hc
theorem Ux {st st':St} {o:Oper} {e:Eff} {g off n:Nat} (hc:Can T tt N ops st o e) (hs :∀t∈o.looksAt ops,st.s t=st'.s t) {t:TypeId} {x:Operand} {i:TI} (h1:o.op=.load t x) (h2:tt t=some i) (h3:i.size=n) (h4:st.bC x=.v (.one (.box g off)))
  (H:0<n→∀ws,st.o g=.box ws→Rng ws off n (st'.o g)) (hu :∀g∈e.new,st.used g=st'.used g):Can T tt N ops st' o e:=by
 have hx:st'.bC x=.v (.one (.box g off)):=by
  rw [←h4]
  cases x with
  |tmp t=>exact (hs t (Z2 _ (JS.2 ⟨.tmp t,by simp [h1,Op.operands],rfl⟩))).symm
  |_=>rfl
 have eff:(gQ T tt (o.dst.getD 0) st o fun e'=>e'.new.all (fun g=>!st.used g)=true∧e'=e)→(gQ T tt (o.dst.getD 0) st' o fun e'=>e'.new.all (fun g=>!st'.used g)=true∧e'=e):=by
  intro h
  obtain ⟨ws,ho,⟨q1,q2⟩,q3,rfl⟩:=(xC h1 h2 h4).1 h
  obtain ⟨wc,r1,r2,r3⟩:=H (by omega) ws ho
  refine (xC h1 h2 hx).2 ⟨wc,r1,⟨by omega,q2⟩,rfl,?_⟩
  have key:(wc.drop off).take i.size=(ws.drop off).take i.size:=by
   refine K1 fun k => ?_
   rw [XX,XX]
   split
   ·rw [ZS,ZS]
    exact r3 _ (by omega) (by omega)
   ·rfl
  rw [key]
 unfold Can stepW at *
 refine ⟨hc.1,?_⟩
 have hc:=hc.2
 cases hg:o.guard with
 |none=>rw [hg] at hc;exact eff hc
 |some p=>
  obtain ⟨j,want⟩:=p
  rw [hg] at hc
  simp only at hc ⊢
  have:guardOf ops st j want=guardOf ops st' j want:=by
   unfold guardOf
   cases hd:(ops[j]?).bind (·.dst) with
   |none=>rfl
   |some t=>
    simp only
    rw [hs t (WN _ (by simp [hg,hd]))]
  rw [←this]
  split at hc
  ·rename_i b hb
   cases b with
   |true=>exact eff hc
   |false=>exact hc
  ·cases hc
theorem Zx {st st':St} {o:Oper} {e:Eff} {g off:Nat} (hc:Can T tt N ops st o e) (hs :∀t∈o.looksAt ops,st.s t=st'.s t) {t:TypeId} {x:Operand} {i:TI} {m:P} {a0 i0:Bool} {sz:Nat} {ak:List (Nat×Nat)} {l:List (List P)} {hole:Option (Nat×Nat×Nat)} (h1:o.op=.load t x) (h2:tt t=some i) (h4:st.bC x=.v (.one (.ep g m off)))
  (h5:st.o g=.ay a0 i0 sz ak l hole) (h6:gI ak off i.size=[]) (H:(st'.o g).core=(st.o g).core) (hu :∀g∈e.new,st.used g=st'.used g):Can T tt N ops st' o e:=by
 have hx:st'.bC x=.v (.one (.ep g m off)):=by
  rw [←h4]
  cases x with
  |tmp t=>exact (hs t (Z2 _ (JS.2 ⟨.tmp t,by simp [h1,Op.operands],rfl⟩))).symm
  |_=>rfl
 have eff:(gQ T tt (o.dst.getD 0) st o fun e'=>e'.new.all (fun g=>!st.used g)=true∧e'=e)→(gQ T tt (o.dst.getD 0) st' o fun e'=>e'.new.all (fun g=>!st'.used g)=true∧e'=e):=by
  intro h
  obtain ⟨q1,_,rfl⟩:=(Eh h1 h2 h4 h5 h6).1 h
  rw [h5] at H
  obtain ⟨eP,h5'⟩ :∃eP,st'.o g=.ay a0 i0 sz ak l eP:=by
   cases ho:st'.o g with
   |ay a i2 Y9 abM l2 ae0=>
    rw [ho] at H
    simp only [O.core,Q0,Q1] at H
    obtain ⟨rfl,rfl,rfl,rfl,rfl⟩:=H
    exact ⟨_,rfl⟩
   |_=>rw [ho] at H;cases H
  exact (Eh h1 h2 hx h5' h6).2 ⟨q1,rfl,rfl⟩
 unfold Can stepW at *
 refine ⟨hc.1,?_⟩
 have hc:=hc.2
 cases hg:o.guard with
 |none=>rw [hg] at hc;exact eff hc
 |some p=>
  obtain ⟨j,want⟩:=p
  rw [hg] at hc
  simp only at hc ⊢
  have:guardOf ops st j want=guardOf ops st' j want:=by
   unfold guardOf
   cases hd:(ops[j]?).bind (·.dst) with
   |none=>rfl
   |some t=>
    simp only
    rw [hs t (WN _ (by simp [hg,hd]))]
  rw [←this]
  split at hc
  ·rename_i b hb
   cases b with
   |true=>exact eff hc
   |false=>exact hc
  ·cases hc
theorem RF (hT :∀f sp,T f=some sp→Sound Pg (f % 1000000) sp) (htt:fP Pg tt) {es:Nat→Eff} {fs:List pK} (hfree:Py ops fs=true)
  (hcan :∀i,i<ops.size→∃o,ops[i]?=some o∧Can T tt N ops (SD ops es st (fun _=>true) i) o (es i)∧fs[i]?=some { rd:=pJ T (SD ops es st (fun _=>true) i) o,wr:=(es i).aA.map (·.1),new:=(es i).new,ld:=Gi tt (SD ops es st (fun _=>true) i) o,kp:=Jd (SD ops es st (fun _=>true) i) o (es i),pk:=j_ o.op,kd:=N7 (SD ops es st (fun _=>true) i) (es i) })
  (hQ :∀a' w',Good E N aY sU (SD ops es st (fun _=>true) ops.size) a' w'→Q .normal a' w') :
  ∀(fuel:Nat) (listed:Array Bool) (a:Act) (w:World),listed.size=ops.size→Down ops (fun k=>listed.getD k false)→(List.range ops.size).countP (fun k=>!listed.getD k false)≤fuel→
   Good E N aY sU (SD ops es st (fun k=>listed.getD k false) ops.size) a w→wpAny Pg .any ops Q fuel listed a w:=by
 have hf :∀j,j<ops.size→(lI ops.toList []).getD j 0<2 ^ j∧∀i,i<j→((lI ops.toList []).getD j 0).testBit i=true∨∃x y fx fy,ops[i]?=some x∧ops[j]?=some y∧fs[i]?=some fx∧fs[j]?=some fy∧Apart ops x y fx fy:=by
  intro j hj
  have:=(X2.1 hfree) j (US.2 hj)
  simp only [Qf,decide_eq_true_eq,X2,US,VV] at this
  refine ⟨this.1,fun i hi => ?_⟩
  rcases this.2 i hi with h | h
  ·exact .inl h
  ·right
   split at h
   ·rename_i x y fx fy h1 h2 h3 h4
    exact ⟨x,y,fx,fy,h1,h2,h3,h4,N8 h⟩
   ·cases h
 have done :∀(listed:Array Bool),listed.size=ops.size→Down ops (fun k=>listed.getD k false)→Region.ready .any ops listed=[]→∀k,k<ops.size→listed.getD k false=true:=by
  intro listed hsz hD hr k
  induction k using Nat.strongRecOn with
  |_ k ih=>
   intro hk
   obtain ⟨o,ho,_,_⟩:=hcan k hk
   by_cases hl:listed.getD k false=true
   ·exact hl
   ·exfalso
    have:k∈Region.ready .any ops listed:=mem_ready.2 ⟨by
     have hl:listed.getD k false=false:=by simpa using hl
     rw [W2] at hl ⊢
     rw [K3 (by omega)] at hl ⊢
     exact hl,o,ho,fun e he hb=>ih e.on (Ld ho (hf k hk).1 he hb) (by have:=Ld ho (hf k hk).1 he hb;omega)⟩
    rw [hr] at this;cases this
 have final :∀(listed:Array Bool) (a:Act) (w:World),listed.size=ops.size→Down ops (fun k=>listed.getD k false)→Region.ready .any ops listed=[]→Good E N aY sU (SD ops es st (fun k=>listed.getD k false) ops.size) a w→Q .normal a w:=by
  intro listed a w hsz hD hr hg
  have h:=done listed hsz hD hr
  rw [zZ (D':=fun _=>true) fun k hk=>h k hk] at hg
  exact hQ a w hg
 intro fuel
 induction fuel with
 |zero=>
  intro listed a w hsz hD hcnt hg
  have hr:Region.ready .any ops listed=[]:=by
   cases hr:Region.ready .any ops listed with
   |nil=>rfl
   |cons k ks=>
    exfalso
    have hk:k∈Region.ready .any ops listed:=by rw [hr];simp
    obtain ⟨h1,o,ho,_⟩:=mem_ready.1 hk
    have hlt:=(Wt.1 ho).1
    have:0<(List.range ops.size).countP (fun k=>!listed.getD k false):=by
     rw [List.countP_pos_iff]
     refine ⟨k,US.2 hlt,?_⟩
     rw [W2] at h1 ⊢
     rw [K3 (by omega)] at h1 ⊢
     simpa using h1
    omega
  exact ⟨hr,final listed a w hsz hD hr hg⟩
 |succ fuel ih=>
  intro listed a w hsz hD hcnt hg
  refine ⟨fun hr=>final listed a w hsz hD hr hg,fun i hi => ?_⟩
  obtain ⟨hni,oi,hoi,hpre⟩:=mem_ready.1 hi
  have hlt:i<ops.size:=(Wt.1 hoi).1
  have hDi:listed.getD i false=false:=by
   rw [W2] at hni ⊢
   rw [K3 (by omega)] at hni ⊢
   exact hni
  obtain ⟨o,ho,hc,hfi⟩:=hcan i hlt
  rw [hoi] at ho;cases ho
  have hset :∀k,(listed.setIfInBounds i true).getD k false=if k=i then true else listed.getD k false:=by
   intro k
   by_cases e:k=i
   ·subst e
    rw [if_pos rfl,W2,Array.getElem?_setIfInBounds_self]
    simp [show k<listed.size by omega]
   ·rw [if_neg e,W2,Array.getElem?_setIfInBounds_ne (Ne.symm e),←W2]
  have hD':Down ops (fun k=>(listed.setIfInBounds i true).getD k false):=by
   intro j o' ho' hj e he hb
   simp only [hset] at hj ⊢
   by_cases ej:j=i
   ·subst ej
    rw [hoi] at ho';cases ho'
    have:=hpre e he hb
    rw [this];simp
   ·rw [if_neg ej] at hj
    have:=hD j o' ho' hj e he hb
    simp only at this
    rw [this];simp
  have hap :∀k,k<ops.size→k≠i→((k<i∧listed.getD k false=false)∨(i<k∧listed.getD k false=true))→∃y fy,ops[k]?=some y∧fs[k]?=some fy∧
    (∀t,y.dst=some t→t∉oi.looksAt ops)∧(∀t,oi.dst=some t→y.dst≠some t)∧((∀g∈fy.wr,g∉pJ T (SD ops es st (fun _=>true) i) oi)∨∃fi,fs[i]?=some fi∧BF fy fi=true)∧(∀g∈fy.wr,g∉(es i).aA.map (·.1))∧(∀g∈fy.new,g∉(es i).new)∧fy.wr=(es k).aA.map (·.1)∧fy.new=(es k).new:=by
   intro k hk hne hcase
   obtain ⟨y0,hy0,_,hfk⟩:=hcan k hk
   rcases hcase with ⟨hlt',hfalse⟩ | ⟨hlt',abN⟩
   ·rcases (hf i hlt).2 k hlt' with hb | ⟨x,y,fx,fy,h1,h2,h3,h4,ap⟩
    ·have:=uh hD' i hoi (by simp [hset]) k hb
     simp only [hset,if_neg hne] at this
     rw [hfalse] at this;cases this
    ·rw [hoi] at h2;cases h2
     rw [hfi] at h4;cases h4
     rw [hfk] at h3;cases h3
     exact ⟨x,_,h1,hfk,ap.dy,fun t e e'=>ap.dd t e' e,ap.wr.imp id (fun h=>⟨_,hfi,h⟩),ap.ww,ap.nn,rfl,rfl⟩
   ·rcases (hf k hk).2 i hlt' with hb | ⟨x,y,fx,fy,h1,h2,h3,h4,ap⟩
    ·have:=uh hD k hy0 abN i hb
     rw [hDi] at this;cases this
    ·rw [hoi] at h1;cases h1
     rw [hfi] at h3;cases h3
     rw [hfk] at h4;cases h4
     exact ⟨y,_,h2,hfk,ap.dx,ap.dd,ap.rw.imp id (fun h=>⟨_,hfi,h⟩),fun g hg hg'=>ap.ww g hg' hg,fun g hg hg'=>ap.nn g hg' hg,rfl,rfl⟩
  have Jf:SD ops es st (fun _=>true) i=SD ops es st (fun k=>decide (k<i)) ops.size:=by
   have :∀m,i+m≤ops.size→SD ops es st (fun k=>decide (k<i)) (i+m)=SD ops es st (fun _=>true) i:=by
    intro m
    induction m with
    |zero=>intro _;exact zZ fun k hk=>by simp [show k<i by omega]
    |succ m ih=>
     intro hm
     rw [←VC]
     simp only [SD,show ¬ (i+m<i) by omega,decide_false,Zs,if_false]
     exact ih (by omega)
   have:=this (ops.size-i) (by omega)
   rw [show i+(ops.size-i)=ops.size by omega] at this
   exact this.symm
  have hdiff :∀k,k<ops.size→decide (k<i)≠listed.getD k false→k≠i∧((k<i∧listed.getD k false=false)∨(i<k∧listed.getD k false=true)):=by
   intro k hk hne
   by_cases e:k=i
   ·subst e;rw [hDi] at hne;simp at hne
   ·refine ⟨e,?_⟩
    by_cases hki:k<i
    ·exact .inl ⟨hki,by simpa [hki] using hne⟩
    ·refine .inr ⟨by omega,?_⟩
     cases hl:listed.getD k false with
     |true=>rfl
     |false=>rw [hl] at hne;simp [hki] at hne
  have hdst :∀(k:Nat) (y:Oper),ops[k]?=some y→(ops[k]?).bind (·.dst)=y.dst:=fun k y h=>by rw [h];rfl
  have hc':Can T tt N ops (SD ops es st (fun k=>listed.getD k false) ops.size) oi (es i):=by
   have nO :∀t∈oi.looksAt ops,(SD ops es st (fun _=>true) i).s t=(SD ops es st (fun k=>listed.getD k false) ops.size).s t:=fun t ht=>by
    rw [Jf]
    refine Zv fun k hk hne => ?_
    obtain ⟨h1,h2⟩:=hdiff k hk hne
    obtain ⟨y,fy,h3,_,h4,_⟩:=hap k hk h1 h2
    rw [hdst k y h3]
    exact fun e=>h4 t e ht
   have Gz :∀g∈(es i).new,(SD ops es st (fun _=>true) i).used g=(SD ops es st (fun k=>listed.getD k false) ops.size).used g:=fun g hg=>by
    rw [Jf]
    refine Je fun k hk hne => ?_
    obtain ⟨h1,h2⟩:=hdiff k hk hne
    obtain ⟨y,fy,h3,_,_,_,_,_,h4,_,h5⟩:=hap k hk h1 h2
    rw [←h5]
    exact fun e=>h4 g e hg
   have travel :∀(g:Nat) (Pr:O→Prop),g∉(es i).aA.map (·.1)→(∀k,k<ops.size→k≠i→((k<i∧listed.getD k false=false)∨(i<k∧listed.getD k false=true))→g∈(es k).aA.map (·.1)→
     (Pr ((SD ops es st (fun _=>true) k).o g)↔Pr ((SD ops es st (fun _=>true) (k+1)).o g)))→Pr ((SD ops es st (fun _=>true) i).o g)→Pr ((SD ops es st (fun k=>listed.getD k false) ops.size).o g):=by
    intro g Pr hgi hkeep hP0
    have hstep :∀k,k<ops.size→(g∈(es k).aA.map (·.1)→(Pr ((SD ops es st (fun _=>true) k).o g)↔Pr ((SD ops es st (fun _=>true) (k+1)).o g)))→
      (Pr ((SD ops es st (fun _=>true) k).o g)↔Pr ((SD ops es st (fun _=>true) (k+1)).o g)):=by
     intro k hk hw
     by_cases hg:g∈(es k).aA.map (·.1)
     ·exact hw hg
     ·have:(SD ops es st (fun _=>true) (k+1)).o g=(SD ops es st (fun _=>true) k).o g:=by
       simp only [SD,if_true,uf,iK hg]
      rw [this]
    obtain ⟨m',hm',hlast,hafter⟩:=Lj (ops:=ops) (es:=es) (st:=st) (D:=fun k=>listed.getD k false) (g:=g) ops.size
    rw [hlast]
    rcases Nat.lt_or_ge i m' with him | him
    ·-- forward
     have :∀d,i+d≤m'→Pr ((SD ops es st (fun _=>true) (i+d)).o g):=by
      intro d
      induction d with
      |zero=>intro _;exact hP0
      |succ d ihd=>
       intro hd
       have hk:i+d<ops.size:=by
        rcases hafter with e | ⟨k1,e,h2,_⟩<;>omega
       rw [←VC]
       refine (hstep (i+d) hk (fun hg => ?_)).1 (ihd (by omega))
       by_cases e0:d=0
       ·exfalso
        subst e0
        exact hgi hg
       ·have hin:listed.getD (i+d) false=true:=by
         rcases hafter with e | ⟨k1,rfl,abO,hk1,hg1⟩
         ·omega
         ·by_cases e1:i+d=k1
          ·rw [e1];exact hk1
          ·obtain ⟨y1,hy1,_,hf1⟩:=hcan k1 abO
           rcases (hf k1 abO).2 (i+d) (by omega) with hb | ⟨x2,y2,fx,fy,h1,h2,h3,h4,ap⟩
           ·exact uh hD k1 hy1 hk1 _ hb
           ·exfalso
            obtain ⟨y0,_,_,hfk⟩:=hcan (i+d) hk
            rw [hfk] at h3;cases h3
            rw [hf1] at h4;cases h4
            exact ap.ww g hg hg1
        exact hkeep (i+d) hk (by omega) (.inr ⟨by omega,hin⟩) hg
     have:=this (m'-i) (by omega)
     rwa [show i+(m'-i)=m' by omega] at this
    ·-- backward
     have :∀d,d≤i-m'→Pr ((SD ops es st (fun _=>true) (i-d)).o g):=by
      intro d
      induction d with
      |zero=>intro _;exact hP0
      |succ d ihd=>
       intro hd
       have hk:i-(d+1)<ops.size:=by omega
       have e1:i-(d+1)+1=i-d:=by omega
       refine (hstep (i-(d+1)) hk (fun hg => ?_)).2 (by rw [e1];exact ihd (by omega))
       have hout:listed.getD (i-(d+1)) false=false:=by
        cases hl:listed.getD (i-(d+1)) false with
        |false=>rfl
        |true=>exact absurd hg (hm' (i-(d+1)) (by omega) hk hl)
       exact hkeep (i-(d+1)) hk (by omega) (.inl ⟨by omega,hout⟩) hg
     have:=this (i-m') (W4 _)
     rwa [show i-(i-m')=m' by omega] at this
   cases hld:Gi tt (SD ops es st (fun _=>true) i) oi with
   |none=>
    by_cases hpk:j_ oi.op=true
    ·refine Uw hc hpk nO (fun x0 hx0 g hg => ?_) Gz
     have hgf:g∈pJ T (SD ops es st (fun _=>true) i) oi:=by
      have hl:looks oi.op=true:=by cases hop:oi.op<;>rw [hop] at hpk<;>first | rfl | cases hpk
      refine Z2 _ ?_
      rw [ni (.inr hpk)]
      exact Z2 _ (by rw [hl];exact X1.2 ⟨x0,hx0,X1.2 ⟨g,hg,by simp⟩⟩)
     have adA:(g,0)∈Jd (SD ops es st (fun _=>true) i) oi (es i):=Z2 _ (by rw [hpk];exact QP.2 ⟨g,X1.2 ⟨x0,hx0,hg⟩,rfl⟩)
     refine (travel g (fun x=>kindOf ((SD ops es st (fun _=>true) i).o g)=kindOf x) (by rw [yY hc hpk];simp) (fun k hk hne hcase hgk => ?_) rfl)
     obtain ⟨y,fy,h3,hfk,_,_,h4,_,_,h5,_⟩:=hap k hk hne hcase
     rcases h4 with h4 | ⟨fi,Lp,hs⟩
     ·exfalso
      rw [←h5] at hgk
      exact h4 g hgk hgf
     ·rw [hfi] at Lp;cases Lp
      simp only [BF,hld,hpk,Bool.true_and,X2,VV,Wc,W7,decide_eq_true_eq,decide_eq_false_iff_not] at hs
      rw [h5] at hs
      rcases hs (g,0) adA with hs | hs
      ·exact absurd hgk hs
      ·obtain ⟨o',ho',_,Uy⟩:=hcan k hk
       rw [hfk] at Uy;cases Uy
       obtain ⟨x,q1,q2⟩:=Rz hs
       have:(SD ops es st (fun _=>true) (k+1)).o g=x:=by simp only [SD,if_true,uf,q1]
       rw [this,q2]
    ·refine Rw hc nO (fun g hg => ?_) Gz
     rw [Jf] at hg ⊢
     refine Zw fun k hk hne => ?_
     obtain ⟨h1,h2⟩:=hdiff k hk hne
     obtain ⟨y,fy,h3,_,_,_,h4,_,_,h5,_⟩:=hap k hk h1 h2
     rw [←h5]
     rcases h4 with h4 | ⟨fi,Lp,hs⟩
     ·rw [Jf] at h4
      exact fun e=>h4 g e hg
     ·rw [hfi] at Lp;cases Lp
      simp only [BF,hld,hpk,Bool.false_and] at hs
      cases hs
   |some q=>
    obtain ⟨g,off,n⟩:=q
    have YI :∀k,k<ops.size→k≠i→((k<i∧listed.getD k false=false)∨(i<k∧listed.getD k false=true))→g∈(es k).aA.map (·.1)→∃o',Can T tt N ops (SD ops es st (fun _=>true) k) o' (es k)∧
      ∀off',off≤off'→off'<off+n→(g,off')∈Jd (SD ops es st (fun _=>true) k) o' (es k):=by
     intro k hk hne hcase hg
     obtain ⟨y,fy,h3,hfk,_,_,h4,_,_,h5,_⟩:=hap k hk hne hcase
     rcases h4 with h4 | ⟨fi,Lp,hs⟩
     ·exfalso
      rw [←h5] at hg
      exact h4 g hg (Rx hld)
     ·rw [hfi] at Lp;cases Lp
      simp only [BF,hld,X2,US] at hs
      obtain ⟨o',ho',hck,Uy⟩:=hcan k hk
      rw [hfk] at Uy;cases Uy
      refine ⟨o',hck,fun off' h1' h2' => ?_⟩
      obtain ⟨p,hp,he⟩:=Kc.1 (hs (off'-off) (by omega))
      simp only [Qf] at he
      have e1:=Q4 he.1
      have e2:=Q4 he.2
      have:p=(g,off'):=Prod.ext e1 (by simp only;omega)
      rwa [this] at hp
    have KE :∀{k x},(es k).aA.lookup g=some x→(SD ops es st (fun _=>true) (k+1)).o g=x:=fun h=>by simp only [SD,if_true,uf,h]
    rcases xB hld with ⟨t,x,ti,h1,h2,h3,h4⟩ | ⟨⟨rfl,rfl⟩,t,x,ti,m,off',a0,i0,sz,ak,l,hole,h1,h2,h4,h5,h6⟩
    ·refine Ux hc nO h1 h2 h3 h4 (fun hn ws hws => ?_) Gz
     refine travel g (Rng ws off n) (by rw [Ll hc hld];simp) (fun k hk hne hcase hg => ?_) ⟨ws,hws,rfl,fun _ _ _=>rfl⟩
     obtain ⟨o',hck,hs⟩:=YI k hk hne hcase hg
     have YJ :∀{y:O},y.core≠none→¬ Rng ws off n y:=fun hy ⟨wc,e,_⟩=>by subst e;exact hy rfl
     rcases z_ hck (hs off (W4 _) (by omega)) with hp | ⟨wa,wb,q1,q2,q3,_⟩ | ⟨y,q1,q2,q3⟩
     ·rw [yY hck hp] at hg;cases hg
     ·simp only at q1 q2
      rw [KE q2,q1]
      have hall :∀off',off≤off'→off'<off+n→wa[off']?=wb[off']?:=fun off' a1 a2=>by
       rcases z_ hck (hs off' a1 a2) with hp | ⟨wa',wb',r1,r2,_,r4⟩ | ⟨y,r1,r2,r3⟩
       ·rw [yY hck hp] at hg;cases hg
       ·simp only at r1 r2;rw [q1] at r1;rw [q2] at r2;cases r1;cases r2;exact r4
       ·simp only at r3;rw [q1] at r3;exact absurd rfl r3
      constructor
      ·rintro ⟨wc,hc,hl,hr⟩
       cases hc
       exact ⟨wb,rfl,by omega,fun off' a1 a2=>by rw [←hall off' a1 a2];exact hr off' a1 a2⟩
      ·rintro ⟨wc,hc,hl,hr⟩
       cases hc
       exact ⟨wa,rfl,by omega,fun off' a1 a2=>by rw [hall off' a1 a2];exact hr off' a1 a2⟩
     ·simp only at q1 q2 q3
      rw [KE q1]
      exact ⟨fun h=>absurd h (YJ q3),fun h=>absurd h (YJ (by rw [q2];exact q3))⟩
    ·refine Zx hc nO h1 h2 h4 h5 h6 ?_ Gz
     refine travel g (fun y=>y.core=((SD ops es st (fun _=>true) i).o g).core) (by rw [Ll hc hld];simp) (fun k hk hne hcase hg => ?_) rfl
     obtain ⟨o',hck,hs⟩:=YI k hk hne hcase hg
     rcases z_ hck (hs _ (W4 _) (by omega)) with hp | ⟨wa,wb,q1,q2,q3,_⟩ | ⟨y,q1,q2,q3⟩
     ·rw [yY hck hp] at hg;cases hg
     ·simp only at q1 q2
      rw [KE q2,q1]
      exact ⟨fun h=>h,fun h=>h⟩
     ·simp only at q1 q2
      rw [KE q1,q2]
  have hins:SD ops es st (fun k=>(listed.setIfInBounds i true).getD k false) ops.size=(SD ops es st (fun k=>listed.getD k false) ops.size).eff oi.dst (es i):=by
   have hDs :∀k,(fun k=>(listed.setIfInBounds i true).getD k false) k=if k=i then true else listed.getD k false:=hset
   have hne :∀k,(fun k=>(listed.setIfInBounds i true).getD k false) k≠(fun k=>listed.getD k false) k→k=i:=by
    intro k h
    simp only [hset] at h
    by_cases e:k=i
    ·exact e
    ·rw [if_neg e] at h;exact absurd rfl h
   have Uz :∀k,i<k→k<ops.size→(fun k=>(listed.setIfInBounds i true).getD k false) k=true→listed.getD k false=true:=by
    intro k h1 h2 h3
    simp only [hset,if_neg (show k≠i by omega)] at h3
    exact h3
   refine St.ext' (fun t => ?_) (fun g => ?_) (fun g => ?_)
   ·rw [G9]
    by_cases hd:oi.dst=some t
    ·rw [if_pos hd]
     refine G_ (by simp [hset]) ((hdst i oi hoi).trans hd) hlt fun k h1 h2 h3 => ?_
     obtain ⟨y,fy,q1,_,_,q2,_⟩:=hap k h2 (by omega) (.inr ⟨h1,Uz k h1 h2 h3⟩)
     rw [hdst k y q1]
     exact q2 t hd
    ·rw [if_neg hd]
     refine Zv fun k hk hk' => ?_
     rw [hne k hk',hdst i oi hoi];exact hd
   ·rw [uf]
    cases hu:(es i).aA.lookup g with
    |some x=>
     refine He (by simp [hset]) hu hlt fun k h1 h2 h3 => ?_
     obtain ⟨y,fy,q1,_,_,_,_,q2,_,q3,_⟩:=hap k h2 (by omega) (.inr ⟨h1,Uz k h1 h2 h3⟩)
     rw [←q3]
     exact fun e=>q2 g e (QP.2 ⟨(g,x),iy hu,rfl⟩)
    |none=>
     refine Zw fun k hk hk' => ?_
     rw [hne k hk']
     intro hm
     obtain ⟨p,hp,rfl⟩:=QP.1 hm
     have :∀{l:List (Nat×O)},p∈l→l.lookup p.1≠none:=by
      intro l
      induction l with
      |nil=>intro h;cases h
      |cons q l ih=>
       intro h hn
       simp only [List.lookup] at hn
       split at hn
       ·cases hn
       ·rename_i hb
        rcases QQ.1 h with h | h
        ·subst h;simp at hb
        ·exact ih h hn
     exact this hp hu
   ·rw [qh]
    by_cases hn:g∈(es i).new
    ·rw [BG (by simp [hset]) hn hlt];simp [hn]
    ·have:(es i).new.contains g=false:=by simpa using hn
     rw [this,VM]
     refine Je fun k hk hk' => ?_
     rw [hne k hk'];exact hn
  refine D6 hT htt hoi hg hc' fun a' w' hg'=>ih _ a' w' (by simp [hsz]) hD' ?_ (by rw [hins];exact hg')
  have hlt2:(List.range ops.size).countP (fun k=>!(listed.setIfInBounds i true).getD k false)<(List.range ops.size).countP (fun k=>!listed.getD k false):=by
   have gen :∀l:List Nat,i∈l→l.countP (fun k=>!(listed.setIfInBounds i true).getD k false)<l.countP (fun k=>!listed.getD k false):=by
    intro l
    have hle :∀l:List Nat,l.countP (fun k=>!(listed.setIfInBounds i true).getD k false)≤l.countP (fun k=>!listed.getD k false):=fun l=>List.countP_mono_left fun k _ h=>by
     simp only [hset] at h
     by_cases e:k=i
     ·simp [e] at h
     ·simpa [e] using h
    induction l with
    |nil=>intro h;cases h
    |cons k l ihl=>
     intro h
     simp only [List.countP_cons]
     by_cases e:k=i
     ·subst e
      have h1:(!(listed.setIfInBounds k true).getD k false)=false:=by simp [hset]
      have h2:(!listed.getD k false)=true:=by simp [hDi]
      rw [h1,h2]
      exact Nat.lt_succ_of_le (hle l)
     ·have:=ihl (by rcases QQ.1 h with h | h;exact absurd h.symm e;exact h)
      have e1:(!(listed.setIfInBounds i true).getD k false)=(!listed.getD k false):=by rw [hset,if_neg e]
      rw [e1];omega
   exact gen _ (US.2 hlt)
  omega
theorem N9 (hT :∀f sp,T f=some sp→Sound Pg (f % 1000000) sp) (htt:fP Pg tt) {draw:Bool} {K:St→Prop} (h:oK T tt N ops draw st K) (hg:Good E N aY sU st a w)
  (hK :∀st' a' w',K st'→Good E N aY sU st' a' w'→Q .normal a' w'):(draw=false∧wpOps Pg ops Q (List.range ops.size) a w)∨(draw=true∧wpAny Pg .any ops Q ops.size (Array.replicate ops.size false) a { w with drawn:=w.drawn+1 }):=by
 cases draw with
 |false=>exact .inl ⟨rfl,yX hT htt hK _ h hg⟩
 |true=>
  have h:lU T tt N ops (List.range ops.size) st [] (fun st' fs=>Py ops fs=true∧K st'):=h
  rw [Ka] at h
  obtain ⟨es,fs,_,_,⟨h1,h2⟩,h3⟩:=BH (st:=st) ops.size 0 (fun _=>Eff.skip) [] rfl h
  rw [Wb] at h2
  refine .inr ⟨rfl,?_⟩
  refine RF hT htt h1 (fun i hi=>h3 i (by omega) (by omega)) (fun a' w' hg'=>hK _ a' w' h2 hg') ops.size _ a _ (by simp) ?_ ?_ ?_
  ·intro j o _ hj
   simp only [W2] at hj
   rw [Kn] at hj
   split at hj<;>cases hj
  ·refine Jn List.countP_le_length ?_
   simp
  ·obtain ⟨⟨gh,hR,CX⟩,hsz,hdf⟩:=hg
   have e:SD ops es st (fun k=>(Array.replicate ops.size false).getD k false) ops.size=st:=by
    have :∀n,SD ops es st (fun k=>(Array.replicate ops.size false).getD k false) n=st:=by
     intro n
     induction n with
     |zero=>rfl
     |succ n ih=>
      have:(Array.replicate ops.size false).getD n false=false:=by
       rw [W2,Kn];split<;>rfl
      simp only [SD,this,Zs,if_false];exact ih
    exact this _
   rw [e]
   exact ⟨⟨gh,hR.drew _,CX⟩,hsz,hdf⟩
theorem Jg (hT :∀f sp,T f=some sp→Sound Pg (f % 1000000) sp) (htt:fP Pg tt) (hm:Pg.follows .mixedOrders=true) {id:Nat} {draw:Bool} {K:St→Prop} (h:oK T tt N ops draw st K) (hg:Good E N aY sU st a w)
  (hK :∀st' a' w',K st'→Good E N aY sU st' a' w'→Q .normal a' w'):(Code.region id ops draw).wp Pg Q a w:=by
 rcases N9 hT htt h hg hK with ⟨e,h2⟩ | ⟨e,h2⟩
 ·rw [e];exact wp_region h2
 ·rw [e];exact wp_region_any hm h2
end
end Go.Fw

namespace Go.Fw
variable [dB]
def PD (gs:List Nat) (o:Nat→O):W→W
 |.own g=>if gs.contains g=true then match plainO o g with
  |some (a,i,sz,l)=>.p a i (P.eG sz l)
  |none=>.own g
  else .own g
 |.vw g lo hi=>if gs.contains g=true then match plainO o g with
  |some (a,i,sz,l)=>.p a i (P.eG sz ((l.take hi.nat).drop lo.nat))
  |none=>.vw g lo hi
  else .vw g lo hi
 |x=>x
def UA (gs:List Nat) (o:Nat→O):V→V
 |.one x=>.one (PD gs o x)
 |.agg xs=>.agg (xs.map (PD gs o))
def UC (gs:List Nat) (o:Nat→O):S→S
 |.v x=>.v (UA gs o x)
 |.jK xs=>.jK (xs.map (UA gs o))
 |.no=>.no
def Tv (gs:List Nat) (o:Nat→O) (g:Nat):O:=match o g with
 |.box ws=>.box (ws.map (PD gs o))
 |x=>if gs.contains g=true then (Fw.aH o g).2 else x
def dF (gs:List Nat) (st:St):St:={ s:=fun t=>UC gs st.o (st.s t),o:=fun g=>Tv gs st.o g,used:=st.used }
def W9 (o:Nat→O) (gs:List Nat):Bool:=gs.all fun g=>(plainO o g).isSome&&(o g).names.all fun d=>gs.contains d
theorem RG {o:Nat→O} {gs:List Nat} (h:W9 o gs=true):sV o gs:=fun g hg=>by
 have:=(X2.1 h) g hg
 simp only [Qf,X2,W7,decide_eq_true_eq] at this
 exact this
section
variable {E:Env} {st:St} {gh:Nat→Gh} {w:World} {val:Nat→Value}
theorem Aa {gs:List Nat} {o:Nat→O} {x:W} {g:Nat} (h:g∈(PD gs o x).names):g∈x.names:=by
 unfold PD at h
 split at h
 ·split at h
  ·split at h
   ·simp [W.names] at h
   ·exact h
  ·exact h
 ·split at h
  ·split at h
   ·simp [W.names] at h
   ·exact h
  ·exact h
 ·exact h
theorem Hl {gs:List Nat} {o:Nat→O} {x:V} {g:Nat} (h:g∈(UA gs o x).names):g∈x.names:=by
 cases x with
 |one x=>exact Aa h
 |agg xs=>
  simp only [UA,V.names,X1,QP] at h ⊢
  obtain ⟨_,⟨x,hx,rfl⟩,hg⟩:=h
  exact ⟨x,hx,Aa hg⟩
theorem RH {gs:List Nat} {o:Nat→O} {x:S} {g:Nat} (h:g∈(UC gs o x).names):g∈x.names:=by
 cases x with
 |v x=>exact Hl h
 |jK xs=>
  simp only [UC,S.names,X1,QP] at h ⊢
  obtain ⟨_,⟨x,hx,rfl⟩,hg⟩:=h
  exact ⟨x,hx,Hl hg⟩
 |no=>exact h
theorem Ei (gs:List Nat) (st:St) (g:Nat):((dF gs st).o g=(st.aA (gs.map (Fw.aH st.o)) []).o g∧∀ws,st.o g≠.box ws)∨
  ∃ws,st.o g=.box ws∧(st.aA (gs.map (Fw.aH st.o)) []).o g=.box ws∧(dF gs st).o g=.box (ws.map (PD gs st.o)):=by
 rw [dX]
 cases ho:st.o g with
 |box ws=>
  refine .inr ⟨ws,rfl,?_,by simp only [dF,Tv,ho]⟩
  split
  ·simp [Fw.aH,plainO,ho]
  ·rfl
 |_=>
  refine .inl ⟨?_,fun ws e=>by cases e⟩
  simp only [dF,Tv,ho]
  simp only [W7,decide_eq_true_eq]
theorem wK {gs:List Nat} {st:St} {g:Nat} (h:st.o g=.none):(dF gs st).o g=.none:=by
 simp only [dF,Tv,h]
 split
 ·simp [Fw.aH,plainO,h]
 ·rfl
theorem Rel.plain (h:Rel E st gh val w) (gs:List Nat) (hgs:sV st.o gs):Rel E (dF gs st) gh val w:=by
 have h1:=(h.freezes gs hgs).1
 have hss:(st.aA (gs.map (Fw.aH st.o)) []).s=st.s:=rfl
 have hun :∀g,(st.aA (gs.map (Fw.aH st.o)) []).used g=st.used g:=fun g=>by simp [St.aA]
 have key:=Ei gs st
 have hfr:=fun g=>dX (st:=st) gs g
 generalize hst1:st.aA (gs.map (Fw.aH st.o)) []=st1 at h1 hss hun key hfr
 have own :∀g,((dF gs st).o g).aX=(st1.o g).aX:=fun g=>by
  rcases key g with ⟨e,_⟩ | ⟨ws,_,e1,e2⟩
  ·rw [e]
  ·rw [e1,e2];rfl
 have dim :∀g,((dF gs st).o g).dim=(st1.o g).dim:=fun g=>by
  rcases key g with ⟨e,_⟩ | ⟨ws,_,e1,e2⟩
  ·rw [e]
  ·rw [e1,e2];rfl
 have inner :∀g,((dF gs st).o g).inner=(st1.o g).inner:=fun g=>by
  rcases key g with ⟨e,_⟩ | ⟨ws,_,e1,e2⟩
  ·rw [e]
  ·rw [e1,e2];rfl
 have isd :∀g,((dF gs st).o g).lg=(st1.o g).lg:=fun g=>by
  rcases key g with ⟨e,_⟩ | ⟨ws,_,e1,e2⟩
  ·rw [e]
  ·rw [e1,e2];rfl
 have adB :∀g ws,(dF gs st).o g=.box ws→∃ws',st1.o g=.box ws':=fun g ws hg=>by
  rcases key g with ⟨e,_⟩ | ⟨ws',_,e1,e2⟩
  ·rw [e] at hg;exact ⟨ws,hg⟩
  ·exact ⟨ws',e1⟩
 have oit :∀g s n,(dF gs st).o g=.it s n→st1.o g=.it s n:=fun g s n hg=>by
  rcases key g with ⟨e,_⟩ | ⟨ws',_,e1,e2⟩
  ·rw [e] at hg;exact hg
  ·rw [e2] at hg;cases hg
 have hok:E.ok (dF gs st) gh w=E.ok st1 gh w:=by funext a i b;simp only [Env.ok,own]
 have hp :∀{g a i sz l},gs.contains g=true→plainO st.o g=some (a,i,sz,l)→st1.o g=.arr true a i sz l:=fun {g a i sz l} hc hpl=>by
  rw [hfr,if_pos (by simpa using hc),ku hpl]
 have same :∀{x:W} {v:Value},dH E st1 gh w x v→dH E (dF gs st) gh w x v:=by
  intro x v r
  induction r with
  |p a i x v hx=>exact .p a i x v (by rw [hok];exact hx)
  |bM=>exact .bM
  |own g v hv hx=>exact .own g v hv fun sz len hg=>hx sz len (by rw [←dim];exact hg)
  |vw g lo hi v hv hx=>exact .vw g lo hi v hv fun sz len hg=>hx sz len (by rw [←dim];exact hg)
  |box g off v hv hx=>exact .box g off v hv fun ws hg=>by obtain ⟨ws',e⟩:=adB g ws hg;exact hx ws' e
  |ep g n off v hv hx=>exact .ep g n off v hv fun sz len hg=>hx sz len (by rw [←dim];exact hg)
  |sp a i row off b o hb hx=>exact .sp a i row off b o (by rw [hok];exact hb) (by rw [hok];exact hx)
  |gl g=>exact .gl g
  |kH g v hv hx=>exact .kH g v hv fun s n hg=>hx s n (oit g s n hg)
  |gd b x v hx ih=>exact .gd b x v ih
  |clo f caps vs hl hx ih=>exact .clo f caps vs hl ih
  |no v=>exact .no v
 have YK :∀{a i:Bool} {sz:Nat} {l:List (List P)} {G:Gh},gy E st1 gh w a i sz l G→gy E (dF gs st) gh w a i sz l G:=by
  intro a i sz l G r
  simpa only [gy,hok] using r
 have wd :∀{x:W} {v:Value},dH E st1 gh w x v→dH E (dF gs st) gh w (PD gs st.o x) v:=by
  intro x v r
  unfold PD
  split
  ·rename_i g
   split
   ·rename_i hc
    split
    ·rename_i a i sz l hpl
     have ho1:=hp hc hpl
     cases r with
     |own _ _ hv hx=>
      have hv:=hx _ _ (O.iQ ho1)
      have hO:=h1.aN g
      rw [ho1] at hO
      rw [hv]
      exact .p a i _ _ (by rw [hok];exact bD.eG hO)
    ·exact same r
   ·exact same r
  ·rename_i g lo hi
   split
   ·rename_i hc
    split
    ·rename_i a i sz l hpl
     have ho1:=hp hc hpl
     cases r with
     |vw _ _ _ _ hv hx=>
      obtain ⟨n,m,c,rfl,rfl,q1,q2,qc,he⟩:=hx _ _ (O.iQ ho1)
      have hO:=h1.aN g
      rw [ho1] at hO
      rw [he]
      have e1:(P.int .i64 (n:Int)).nat=n:=by simp [P.nat,P.num]
      have e2:(P.int .i64 (m:Int)).nat=m:=by simp [P.nat,P.num]
      rw [e1,e2]
      exact .p a i _ _ (by rw [hok];exact bD.eG ((bD.sub hO q1 q2).Yx (by simp;omega)))
    ·exact same r
   ·exact same r
  ·exact same r
 have wV :∀{x:V} {v:Value},nY E st1 gh w x v→nY E (dF gs st) gh w (UA gs st.o x) v:=by
  intro x v r
  cases r with
  |one x v r=>exact .one _ _ (wd r)
  |agg xs cs hl hv hr=>
   refine .agg _ cs (by simpa using hl) hv fun j x v hx hv => ?_
   simp only [Xs,ZD] at hx
   obtain ⟨y,hy,rfl⟩:=hx
   exact wd (hr j y v hy hv)
 refine ⟨fun t => ?_,fun g => ?_,?_,?_,?_,?_,h1.wb,h1.frame,h1.size,h1.os,h1.tape,h1.output,?_,?_,?_⟩
 ·have hs:=h1.slots t
  rw [hss] at hs
  show bP E _ gh w (UC gs st.o (st.s t)) (val t)
  cases hs':st.s t with
  |v x=>rw [hs'] at hs;cases hs with | v _ _ r=>exact .v _ _ (wV r)
  |jK xs=>
   rw [hs'] at hs
   generalize hval:val t=vt at hs
   cases hs with
   |jK _ vs hl hr=>
    refine .jK _ vs (by simpa using hl) fun j x v hx hv => ?_
    simp only [Xs,ZD] at hx
    obtain ⟨y,hy,rfl⟩:=hx
    exact wV (hr j y v hy hv)
  |no=>exact .no _
 ·have hO:=h1.aN g
  rcases key g with ⟨e,_⟩ | ⟨ws',_,e1,e2⟩
  ·rw [e]
   generalize st1.o g=x at hO
   cases x with
   |none=>trivial
   |box ws=>
    obtain ⟨ad,c,ty,a1,a2,a3,a4,a5⟩:=hO
    exact ⟨ad,c,ty,a1,a2,a3,a4,fun j x hx=>let ⟨v,b1,b2,b3⟩:=a5 j x hx;⟨v,b1,b2,same b3⟩⟩
   |arr fz a i sz l=>
    cases fz with
    |false=>exact YK hO
    |true=>simpa only [jX,hok] using hO
   |ay a i sz ak l hole=>
    rcases hO with hO | ⟨ad,c,ty,a1,a2,a3,a4,a5,a6,a7,a8⟩
    ·exact .inl hO
    ·refine .inr ⟨ad,c,ty,a1,a2,a3,a4,a5,a6,a7,fun n x hx j y hy => ?_⟩
     obtain ⟨v,hv,hr⟩:=a8 n x hx j y hy
     refine ⟨v,hv,?_⟩
     unfold fZ at *
     cases hcj:ak.lookup j with
     |none=>rw [hcj] at hr;exact (by rw [hok];exact hr:bD w (E.ok (dF gs st) gh w a i) y v)
     |some sz'=>
      rw [hcj] at hr
      simp only at *
      cases hh:eY hole n j with
      |some d=>rw [hh] at hr;exact ⟨hr.1,same hr.2⟩
      |none=>
       rw [hh] at hr
       obtain ⟨l',ao,k,q1,q2,q3,q4⟩:=hr
       exact ⟨l',ao,k,q1,q2,YK q3,q4⟩
   |it s n=>exact hO
  ·rw [e2]
   rw [e1] at hO
   obtain ⟨ad,c,ty,a1,a2,a3,a4,a5⟩:=hO
   refine ⟨ad,c,ty,a1,a2,a3,by simpa using a4,fun j x hx => ?_⟩
   simp only [Xs,ZD] at hx
   obtain ⟨y,hy,rfl⟩:=hx
   obtain ⟨v,b1,b2,b3⟩:=a5 j y hy
   exact ⟨v,b1,b2,wd b3⟩
 ·intro g g' b ha ha'
  rw [own] at ha ha'
  exact h1.inj g g' b ha ha'
 ·intro g b ha
  rw [own] at ha
  exact h1.wr g b ha
 ·intro g i b hg
  rw [inner] at hg
  exact h1.wi g i b hg
 ·intro g ho hd
  rw [own] at ho
  rw [isd] at hd
  exact h1.ns g ho hd
 ·intro t g hg
  exact h.us t g (RH hg)
 ·intro g g' hg
  rcases key g with ⟨e,_⟩ | ⟨ws',e0,e1,e2⟩
  ·rw [e] at hg
   have:=h1.uo g g' hg
   rw [hun] at this;exact this
  ·rw [e2] at hg
   simp only [O.names,X1,QP] at hg
   obtain ⟨_,⟨x,hx,rfl⟩,hg⟩:=hg
   exact h.uo g g' (by rw [e0];simp only [O.names,X1];exact ⟨x,hx,Aa hg⟩)
 ·intro g hg
  exact h.ul g fun e=>hg (wK e)
theorem UD {gs:List Nat} {w:World} {gh:Nat→Gh} {st:St} {E:Env} {a i:Bool} {b:Nat} (h:E.ok st gh w a i b):E.ok (dF gs st) gh w a i b:=by
 refine ⟨h.1,h.2.1,fun g ho had=>h.2.2 g ?_ had⟩
 rcases Ei gs st g with ⟨e,_⟩ | ⟨ws,e,_⟩
 ·rw [e,dX] at ho
  split at ho
  ·cases hp:plainO st.o g with
   |none=>simpa [Fw.aH,hp] using ho
   |some x=>obtain ⟨a,i,sz,l⟩:=x;rw [ku hp] at ho;cases ho
  ·exact ho
 ·rw [e];rfl
theorem Rel.norm (h:Rel E st gh val w) (hs gs:List Nat) (hgs:W9 (Fw.shuts hs st).o gs=true) :
  ∃aT,Rel E (dF gs (Fw.shuts hs st)) aT val w∧(∀x,(aT x).ad=(gh x).ad∧(aT x).cap=(gh x).cap)∧(∀a i b,E.ok st gh w a i b→E.ok (dF gs (Fw.shuts hs st)) aT w a i b)∧
   ∀g,st.o g=.none→(dF gs (Fw.shuts hs st)).o g=.none:=by
 obtain ⟨aT,h1,l1,e1⟩:=h.shuts hs
 exact ⟨aT,h1.plain gs (RG hgs),e1,fun a i b hb=>UD (l1.ok a i b hb).1,fun g hg=>wK (DF hs hg)⟩
end
end Go.Fw

namespace Go.Fw
open Go.RowKit
variable [dB]
def FR (ro:Option Nat):Fence:={ Fence.wide with round:=ro }
section
variable {Pg:Program} {ro:Option Nat} {n:Nat} {ops:Array Oper} {Q:Exit→Act→World→Prop}
theorem N_ {f:FuncId} {args:Array Value} {w:World} {R:Ending→World→Prop} (h:Calls Pg f args w R):CallsIn (FR ro) n Pg f args w R:=callsIn_wide.2 h
theorem RI {row:String} {args:Array Value} {w:World} {R:Value→World→Prop} (h:Rows Pg row args w R):RowsIn (FR ro) n Pg row args w R:=by
 intro c cs _
 obtain ⟨v,w',h1,h2⟩:=h c cs
 exact ⟨v,w',h1,stepsIn_wide.2 h2⟩
theorem adC {o:Oper} (ho :∀c,o.op≠.defer c) {a:Act} {w:World} {K K':Act→World→Prop} (hK :∀a w,K a w→K' a w) (h:o.wp Pg a w K Q):o.wpIn (FR ro) n Pg a w K' Q:=by
 refine ⟨fun _ _=>trivial,?_⟩
 rw [Oper.semAt_eq _ _ _ ho]
 unfold Oper.wp at h
 have hd:(FR ro).depth.isSome=true→1≤n:=fun e=>absurd e (by simp [FR,Fence.wide])
 generalize (execOp a.eval o).run Pg w=r at *
 cases r with
 |ok x w'=>
  cases x<;>simp only [Oper.upon] at h<;>simp only [Oper.uponIn]
  all_goals first
   |exact hK _ _ h
   |exact ⟨hd,N_ (Calls.mono h fun e w'' he=>by cases e<;>first | exact hK _ _ he | exact he)⟩
   |exact ⟨hd,RI (Rows.mono h fun v w'' he=>hK _ _ he)⟩
 |halt x w'=>cases x<;>simp only [Oper.upon] at h<;>simp only [Oper.uponIn]<;>exact h
theorem UE (ho :∀o∈ops.toList,∀c,o.op≠.defer c) (hlo:¬ LetsOut Q) {i:Nat} {a:Act} {w:World} {K K':Act→World→Prop} (hK :∀a w,K a w→K' a w) (h:wpOp Pg ops Q i K a w):wpOpIn (FR ro) n Pg ops Q i K' a w:=by
 unfold wpOp at h
 unfold wpOpIn
 cases hi:ops[i]? with
 |none=>rw [hi] at h;exact hK _ _ h
 |some o=>
  rw [hi] at h
  simp only at h ⊢
  split
  ·rename_i hw
   rw [if_pos hw] at h
   rcases h with h | h
   ·exact adC (ho o (by have:=(Wt.1 hi).2;rw [←this];simp)) hK h
   ·exact absurd h.2 hlo
  ·rename_i hw
   rw [if_neg hw] at h
   exact ⟨fun _ _=>trivial,hK _ _ h⟩
theorem abP (ho :∀o∈ops.toList,∀c,o.op≠.defer c) (hlo:¬ LetsOut Q) :∀(is:List Nat) (a:Act) (w:World),wpOps Pg ops Q is a w→wpOpsIn (FR ro) n Pg ops Q is a w
 | [],a,w,h=>h
 |i::is,a,w,h=>by
  rw [wpOps_cons] at h
  rw [wpOpsIn_cons]
  exact UE ho hlo (fun a w=>abP ho hlo is a w) h
theorem abQ {md:Region.Mode} (ho :∀o∈ops.toList,∀c,o.op≠.defer c) (hlo:¬ LetsOut Q) :∀(fuel:Nat) (listed:Array Bool) (a:Act) (w:World),wpAny Pg md ops Q fuel listed a w→wpAnyIn (FR ro) n Pg md ops Q fuel listed a w
 |0,listed,a,w,h=>h
 |fuel+1,listed,a,w,h=>⟨h.1,fun i hi=>UE ho hlo (fun a w=>abQ ho hlo fuel _ a w) (h.2 i hi)⟩
end
omit [dB] in
def P.lv:P→Value
 |.int k n=>.int k n
 |.bool b=>.bool b
 |.str s=>.string s
 |_=>undef
def P.lit:P→Bool
 |.int _ _=>true
 |.bool _=>true
 |.str _=>true
 |_=>false
theorem P.acZ {w:World} {ok:Nat→Prop} {x:P} (h:x.lit=true):bD w ok x x.lv:=by
 cases x<;>first | exact .int _ _ | exact .bool _ | exact .str _ | cases h
omit [dB] in
def UF (Pg:Program) (w:World) (S:List Nat) (rows:List (List P)) (v:Value):Prop:=
 ∃gf lb,v=.func (.func gf) #[] lb∧(∀(args:Array Value) (w:World),(callFunc gf args).run Pg w=.ok (.enter gf args) w)∧
  ∀(l:Nat) (J:Nat→List Nat→World→Prop) (W:World),(∀k D A,J k D A→∀b∈S,A.heap[b]?=w.heap[b]?)→(∀k D A B D',J k D A→yP A B→(∀b∈D',b∈D∨(A.heap.size≤b∧b<B.heap.size))→J k D' B)→
   (∀k row D A,rows[k]?=some row→J k D A→YieldAt Fence.wide 0 Pg l (row.map P.lv).toArray A fun e B=>e=.returned (.bool true)∧J (k+1) D B∧∀b∈D,B.heap[b]?=A.heap[b]?)→
   J 0 [] W→Calls Pg gf (#[.func (.yield l) #[] #[]]++lb) W fun e B=>(∃v,e=.returned v)∧∃D,J rows.length D B
section
variable {Pg:Program}
theorem abR {g:Operand} {ps:Array Tmp} {x y:Code} {Q:Exit→Act→World→Prop} {a:Act} {w:World} {S:List Nat} {rows:List (List P)} (hit:UF Pg w S rows (a.eval g)) (hlen :∀row∈rows,row.length=ps.size)
  (J:Nat→List Nat→World→Prop) (hS :∀k D A,J k D A→∀b∈S,A.heap[b]?=w.heap[b]?) (hgrow :∀k D A B D',J k D A→yP A B→(∀b∈D',b∈D∨(A.heap.size≤b∧b<B.heap.size))→J k D' B)
  (hturn :∀k D A b o o',w.heap.size≤b→b∉D→J k D A→A.heap[b]?=some o→quiet o=true→J k D (A.putObj b o')) (h0:J 0 [] w)
  (Zy :∀k row D A,rows[k]?=some row→J k D A→∀l,∃a₁,(∀(K:Act→World→Prop) W,K a₁ W→x.wpIn (FR (some l)) 0 Pg (Exit.then K (fun _ _ _=>False)) { tmps:=(ps.zip (row.map P.lv).toArray).foldl (fun t (p,v)=>t.setIfInBounds p v) a.tmps,defers:=[] } W)∧
   y.wpIn (FR (some l)) 0 Pg (fun e _ B=>e=.normal∧J (k+1) D B∧(∀b∈D,B.heap[b]?=A.heap[b]?)∧∀b o,A.heap[b]?=some o→quiet o=true→w.heap.size≤b→B.heap[b]?=some o) a₁ A)
  (hdone :∀D B D',w.heap.size≤D→J rows.length D' B→B.heap[D]?=some (.deferred (some []))→Q .normal { a with defers:={ target:=.collected D,args:=#[] }::a.defers } B) :
  (Code.rangeFunc g ps x y).wp Pg Q a w:=by
 obtain ⟨gf,lb,hg,eg,hseq⟩:=hit
 rw [←wpIn_wide (n:=1)]
 refine wpIn_rangeFunc ?_
 intro fn hfn
 obtain ⟨rec,hrec⟩ :∃rec:LoopState→Option Code→Loop,rec=fun st pe=>{ state:=st,pending:=pe,fn,tmps:=a.tmps,params:=ps,assign:=x,body:=y,defers:=w.heap.size }:=⟨_,rfl⟩
 obtain ⟨W1,hW1⟩ :∃W1,(w.alloc (.deferred (some []))).alloc (.loop (rec .ready none))=W1:=⟨_,rfl⟩
 have hL1:W1.heap[w.heap.size+1]?=some (.loop (rec .ready none)):=by
  rw [←hW1];have:=World.alloc_heap_new (w.alloc (.deferred (some []))) (.loop (rec .ready none));rwa [World.size_alloc] at this
 have hK1:W1.heap[w.heap.size]?=some (.deferred (some [])):=by
  rw [←hW1];exact (Below.heap_alloc _ _ _ (by simp)).trans (World.alloc_heap_new w _)
 have hJ1:J 0 [] W1:=by rw [←hW1];exact hgrow _ _ _ _ [] (hgrow _ _ _ _ [] h0 (yP.alloc _ _) (fun b hb=>by cases hb)) (yP.alloc _ _) (fun b hb=>by cases hb)
 refine ⟨w.heap.size+1,[{ target:=.collected w.heap.size,args:=#[] }],W1,{ target:=.fn (.func gf) lb,args:=#[.func (.yield (w.heap.size+1)) #[] #[]] },W1,gf,
  #[.func (.yield (w.heap.size+1)) #[] #[]]++lb,W1,?_,?_,fun _ _=>trivial,?_,fun _=>W4 _,?_⟩
 ·rw [←hW1,hrec];exact run_enterLoop_outer _ _ _ _ _
 ·simp only [resolve,hg]
  simp [go_sem]
 ·simp [invoke,go_sem,eg]
 refine callsIn_wide.2 (Calls.mono (hseq (w.heap.size+1)
   (fun k D A=>J k D A∧A.heap[w.heap.size+1]?=some (.loop (rec .ready none))∧A.heap[w.heap.size]?=some (.deferred (some []))∧∀b∈D,w.heap.size+1<b)
   W1 (fun k D A h=>hS k D A h.1) (fun k D A B D' h hg hD => ?_) ?_ ⟨hJ1,hL1,hK1,fun b hb=>by cases hb⟩) ?_)
 ·have lt :∀{i o},A.heap[i]?=some o→i<A.heap.size:=fun h=>(Wt.1 h).1
  refine ⟨hgrow k D A B D' h.1 hg hD,(hg.same _ (lt h.2.1)).trans h.2.1,(hg.same _ (lt h.2.2.1)).trans h.2.2.1,fun b hb => ?_⟩
  rcases hD b hb with hb | hb
  ·exact h.2.2.2 b hb
  ·exact Wg (lt h.2.1) hb.1
 ·rintro k row D A hrow ⟨hj,hl,hk,hD⟩
  have hy:=run_yield (P:=Pg) (args:=(row.map P.lv).toArray) hl (by rw [hrec];simpa using hlen row (QR hrow))
  rw [hrec] at hy
  have hlt:w.heap.size+1<A.heap.size:=(Wt.1 hl).1
  have hnD:w.heap.size+1∉D:=fun hm=>KM _ (hD _ hm)
  have abS :∀b∈D,b≠w.heap.size+1:=fun b hb e=>hnD (e▸hb)
  have hj2:J k D (A.putObj (w.heap.size+1) (.loop { rec .ready none with state:=.busy })):=hturn _ _ _ _ _ _ (by omega) hnD hj hl rfl
  obtain ⟨a₁,hx,hbody⟩:=Zy k row D _ hrow hj2 (w.heap.size+1)
  refine ⟨fn,_,x,y,hy,roundIn_of_wpIn hfn (hx _ _ ⟨_,run_beginRound hl (by rw [hrec]),wpIn_mono hbody ?_⟩)⟩
  rintro e a3 B ⟨rfl,hj3,hkD,hkeep⟩
  have hl2:(A.putObj (w.heap.size+1) (.loop { rec .ready none with state:=.busy })).heap[w.heap.size+1]?=some (.loop { rec .ready none with state:=.busy }):=World.putObj_heap_same hlt
  have hk2:(A.putObj (w.heap.size+1) (.loop { rec .ready none with state:=.busy })).heap[w.heap.size]?=some (.deferred (some [])):=(World.putObj_heap_other (by omega)).trans hk
  have hl3:=hkeep _ _ hl2 rfl (by omega)
  have hk3:=hkeep _ _ hk2 rfl (by omega)
  have hr:=run_endRound (P:=Pg) none hl3
  refine ⟨_,_,hr,rfl,⟨hturn _ _ _ _ _ _ (by omega) hnD hj3 hl3 rfl,?_,(World.putObj_heap_other (by omega)).trans hk3,hD⟩,fun b hb => ?_⟩
  ·rw [World.putObj_heap_same (Wt.1 hl3).1,hrec];rfl
  ·rw [World.putObj_heap_other (abS b hb),hkD b hb,World.putObj_heap_other (abS b hb)]
 ·rintro e B ⟨⟨v,rfl⟩,D,hj,hl,hk,hD⟩
  have hnD:w.heap.size+1∉D:=fun hm=>KM _ (hD _ hm)
  refine ⟨none,_,by have:=run_endLoop (P:=Pg) hl (by rw [hrec];simp);rw [hrec] at this;exact this,hdone _ _ D (W4 _) (hturn _ _ _ _ _ _ (by omega) hnD hj hl rfl) ((World.putObj_heap_other (by omega)).trans hk)⟩
end
end Go.Fw

namespace Go.Fw
open Go.RowKit
variable [dB]
structure yZ where
 n:St→Prop
 x:Nat→St→Prop
 r:St→Prop
def keeps (aY:List Nat) (j:Shape) (m:Ren):Bool:=aY.all fun g=>j.nms.contains g&&(match m.lookup g with
 |some (some g')=>Nat.beq g' g
 |_=>false)
inductive Back (aY:List Nat) (j:Shape) (st:St) (G:List P→Prop):Prop where
 |mk (hs gs:List Nat) (m:Ren) (vs:List P) (hgs:W9 (Fw.shuts hs st).o gs=true) (hm:keeps aY j m=true) (h:coerce j m (dF gs (Fw.shuts hs st))=some vs) (hG:G vs)
inductive YL (aY:List Nat) (body:St→yZ→Prop) (st:St) (K:yZ):Prop where
 |mk (j:Shape) (I:List P→Prop) (μ:List P→Nat) (h0:Back aY j st I) (round :∀us,I us→body (Fw.mk j us) { n:=fun st'=>Back aY j st' fun vs=>I vs∧μ vs<μ us,x:=K.x,r:=K.r })
inductive Wk (aY:List Nat) (K:St→Prop) (st:St):Prop where
 |now (h:K st)
 |back (j:Shape) (h:Back aY j st fun vs=>K (Fw.mk j vs))
def exec (T:Tab) (tt:TT) (N:Nat) (aY:List Nat):Code→St→yZ→Prop
 |.skip,st,K=>K.n st
 |.region _ ops draw,st,K=>oK T tt N ops draw st (Wk aY K.n)
 |.seq x y,st,K=>exec T tt N aY x st { n:=fun st'=>exec T tt N aY y st' K,x:=K.x,r:=K.r }
 |.cond c x y,st,K=>match st.bC c with
  |.v (.one (.p _ _ (.bool b)))=>bif b then exec T tt N aY x st { n:=Wk aY K.n,x:=K.x,r:=K.r } else exec T tt N aY y st { n:=Wk aY K.n,x:=K.x,r:=K.r }
  |_=>False
 |.block id c,st,K=>exec T tt N aY c st { n:=Wk aY K.n,x:=fun id' st'=>bif Nat.beq id' id then Wk aY K.n st' else K.x id' st',r:=K.r }
 |.loop c,st,K=>YL aY (exec T tt N aY c) st K
 |.exit id,st,K=>K.x id st
 |.ret,st,K=>K.r st
 |.label _,st,K=>K.n st
 |.scope c,st,K=>exec T tt N aY c st K
 |_,_,_=>False
structure Fit (Pg:Program):Prop where
 mixed:Pg.follows .mixedOrders=true
 sq :∀w S l v,dB.sq w S l v→UF Pg w S l v
section
variable {E:Env} {N:Nat} {aY:List Nat} {sU:Nat→Gh} {Pg:Program} {T:Tab} {tt:TT}
structure Knt (E:Env) (N:Nat) (aY:List Nat) (sU:Nat→Gh) (K:yZ) (Q:Exit→Act→World→Prop):Prop where
 n :∀st a w,K.n st→Good E N aY sU st a w→Q .normal a w
 x :∀id st a w,K.x id st→Good E N aY sU st a w→Q (.exit id) a w
 r :∀st a w,K.r st→Good E N aY sU st a w→Q .ret a w
theorem Back.good {j:Shape} {st:St} {G:List P→Prop} (h:Back aY j st G) {a:Act} {w:World} (hg:Good E N aY sU st a w) :∃vs,G vs∧Good E N aY sU (Fw.mk j vs) a w:=by
 obtain ⟨hs,gs,m,vs,hgs,hm,h,hG⟩:=h
 obtain ⟨⟨gh,hR,CX⟩,hsz,hdf⟩:=hg
 obtain ⟨aT,hR,e1,_,e3⟩:=hR.norm hs gs hgs
 have hr:=wG h
 refine ⟨vs,hG,⟨iI aT (DL j m),hR.Ud hr,fun g hg => ?_⟩,hsz,hdf⟩
 have:=(X2.1 hm) g hg
 simp only [Qf] at this
 obtain ⟨h1,h2⟩:=this
 refine ⟨h1,?_⟩
 have hF:DL j m g=some g:=by
  unfold DL
  rw [if_pos h1]
  split at h2
  ·rename_i g' hl
   rw [hl,Q4 h2];rfl
  ·cases h2
 have ho:=hr.aN g g hF
 rcases (CX g hg).2 with e | e
 ·have e:=e3 g e
  rw [e] at ho
  generalize (Fw.mk j vs).o g=z at ho
  cases ho;exact .inl rfl
 ·exact .inr (by simp only [iI,hF];exact ⟨(e1 g).1.trans e.1,(e1 g).2.trans e.2⟩)
theorem Wk.good {K:St→Prop} {st:St} (h:Wk aY K st) {a:Act} {w:World} (hg:Good E N aY sU st a w) :∃st',K st'∧Good E N aY sU st' a w:=by
 cases h with
 |now h=>exact ⟨st,h,hg⟩
 |back j h=>
  obtain ⟨vs,h1,h2⟩:=h.good hg
  exact ⟨_,h1,h2⟩
theorem Knt.wk {K:yZ} {Q:Exit→Act→World→Prop} (h:Knt E N aY sU K Q):Knt E N aY sU { n:=Wk aY K.n,x:=K.x,r:=K.r } Q:=
 ⟨fun st a w hk hg=>let ⟨st',h1,h2⟩:=hk.good hg;h.n st' a w h1 h2,h.x,h.r⟩
theorem UG {sp:wH} {st:St} {bI:List P} {kC:Nat→Gh} {rs:Nat→Value} {w':World} (hfin:Rel E st kC rs w') (Zz :∀g∈sp.aY,st.used g=true∧(st.o g=.none∨((kC g).ad=(sU g).ad∧(kC g).cap=(sU g).cap)))
  (hBk:Back sp.aY sp.aQ st fun vs=>vs=bI) :∃aT,Rel E (Fw.mk sp.aQ bI) aT rs w'∧∀g∈sp.aY,(aT g).ad=(sU g).ad∧(aT g).cap=(sU g).cap:=by
 obtain ⟨hs,gs,m,vs,hgs,hkm,hco,rfl⟩:=hBk
 obtain ⟨wB,hfin,e1,_,e3⟩:=hfin.norm hs gs hgs
 have hr:=wG hco
 refine ⟨iI wB (DL sp.aQ m),hfin.Ud hr,fun g hg => ?_⟩
 have:=(X2.1 hkm) g hg
 simp only [Qf] at this
 obtain ⟨h1,h2⟩:=this
 have hF:DL sp.aQ m g=some g:=by
  unfold DL
  rw [if_pos h1]
  split at h2
  ·rename_i g' hl
   rw [hl,Q4 h2];rfl
  ·cases h2
 have ho:=hr.aN g g hF
 have hbox:(Fw.mk sp.aQ vs).o g≠.none:=by
  have hm:g∈sp.aQ.aN.map (·.1):=by simpa [Shape.nms] using h1
  obtain ⟨x,hxx⟩:=rF (vs:=vs) (n:=(bJ vs 0 sp.aQ.slots).2) hm
  have e:(Fw.mk sp.aQ vs).o g=x:=by
   show (match (eF vs (bJ vs 0 sp.aQ.slots).2 sp.aQ.aN).1.lookup g with | some x=>x | none=>O.none)=x
   rw [hxx]
  obtain ⟨k,n',_,h2⟩:=jo hxx
  rw [e,h2]
  cases k<;>simp [pU]
 rcases (Zz g hg).2 with e | e
 ·exfalso
  have e:=e3 g e
  rw [e] at ho
  generalize (Fw.mk sp.aQ vs).o g=z at ho hbox
  cases ho;exact hbox rfl
 ·simp only [iI,hF];exact ⟨(e1 g).1.trans e.1,(e1 g).2.trans e.2⟩
theorem Oa (hT :∀f sp,T f=some sp→Sound Pg (f % 1000000) sp) (htt:fP Pg tt) (hm:Fit Pg) :∀(c:Code) {st:St} {K:yZ} {Q:Exit→Act→World→Prop} {a:Act} {w:World},
  exec T tt N aY c st K→Good E N aY sU st a w→Knt E N aY sU K Q→c.wp Pg Q a w:=by
 intro c
 induction c with
 |skip=>intro st K Q a w h hg hK;exact wp_skip (hK.n _ _ _ h hg)
 |region id ops draw=>intro st K Q a w h hg hK;exact Jg hT htt hm.mixed h hg fun st' a' w' q hg'=>hK.wk.n _ _ _ q hg'
 |seq x y PE ihy=>
  intro st K Q a w h hg hK
  refine wp_seq (PE h hg ⟨fun st' a' w' q hg'=>ihy q hg' hK,fun id st' a' w' q hg'=>hK.x _ _ _ _ q hg',fun st' a' w' q hg'=>hK.r _ _ _ q hg'⟩)
 |cond c x y PE ihy=>
  intro st K Q a w h hg hK
  simp only [exec] at h
  split at h
  ·rename_i a1 i1 b hc
   obtain ⟨gh,hR,_⟩:=hg.ex
   have hv:=nS hR c
   rw [hc] at hv
   have hv:=hv.dK.kK
   refine wp_cond_split hv (fun hb => ?_) (fun hb => ?_)
   ·subst hb;exact PE h hg hK.wk
   ·subst hb;exact ihy h hg hK.wk
  ·cases h
 |block id c ih=>
  intro st K Q a w h hg hK
  refine wp_block (ih h hg ⟨fun st' a' w' q hg'=>hK.wk.n _ _ _ q hg',fun id' st' a' w' q hg' => ?_,fun st' a' w' q hg'=>hK.r _ _ _ q hg'⟩)
  simp only [Exit.inBlock]
  by_cases e:id'=id
  ·subst e
   rw [if_pos rfl]
   have:Nat.beq id' id'=true:=by simp
   simp only [this] at q
   exact hK.wk.n _ _ _ q hg'
  ·rw [if_neg e]
   have:Nat.beq id' id=false:=by cases hb:Nat.beq id' id with | false=>rfl | true=>exact absurd (Q4 hb) e
   simp only [this] at q
   exact hK.x _ _ _ _ q hg'
 |loop c ih=>
  intro st K Q a w h hg hK
  obtain ⟨j,I,μ,h0,round⟩:=(show YL aY (exec T tt N aY c) st K from h)
  obtain ⟨us,hI,hg0⟩:=h0.good hg
  refine wp_loop_rounds (μ us+1) ?_
  have key :∀n us,I us→μ us<n→∀a w,Good E N aY sU (Fw.mk j us) a w→Code.rounds Pg c Q n a w:=by
   intro n
   induction n with
   |zero=>intro us _ h;omega
   |succ n ihn=>
    intro us hI hlt a w hg
    refine ih (round us hI) hg ⟨fun st' a' w' q hg' => ?_,fun id st' a' w' q hg'=>hK.x _ _ _ _ q hg',fun st' a' w' q hg'=>hK.r _ _ _ q hg'⟩
    obtain ⟨vs,⟨h1,h2⟩,h3⟩:=Back.good q hg'
    exact ihn vs h1 (by omega) _ _ h3
  exact key _ us hI (by omega) a w hg0
 |exit id=>intro st K Q a w h hg hK;exact wp_exit (hK.x _ _ _ _ h hg)
 |ret=>intro st K Q a w h hg hK;exact wp_ret (hK.r _ _ _ h hg)
 |label l=>intro st K Q a w h hg hK;exact wp_label (hK.n _ _ _ h hg)
 |scope c ih=>intro st K Q a w h hg hK;exact wp_scope_straight (ih h hg ⟨fun st' a' w' q hg'=>hK.n _ _ _ q hg',fun id st' a' w' q hg'=>hK.x _ _ _ _ q hg',fun st' a' w' q hg'=>hK.r _ _ _ q hg'⟩)
 |_=>intro st K Q a w h;exact absurd h (by simp [exec])
def RJ (tt:TT) (st:St):ResultVar→Option S
 |.tmp t=>some (st.s t)
 |.cell a t=>match tt t,st.s a with
  |some i,.v (.one (.box g off))=>match st.o g with
   |.box ws=>if off+i.size≤ws.length∧0<i.size then some (V.dN i.agg ((ws.drop off).take i.size)) else none
   |_=>none
  |_,_=>none
def BI (tt:TT) (st:St):List ResultVar→Option (List S)
 | []=>some []
 |r::rs=>match RJ tt st r,BI tt st rs with
  |some x,some xs=>some (x::xs)
  |_,_=>none
def Lr (xs:List S) (st:St):St:={ s:=fun k=>xs.getD k .no,o:=st.o,used:=st.used }
def Fin (tt:TT) (sp:wH) (ts:List ResultVar) (bI:List P) (st:St):Prop:=match BI tt st ts with
 |some xs=>Back sp.aY sp.aQ (Lr xs st) fun vs=>vs=bI
 |none=>False
def ZA (tt:TT) (sp:wH) (ts:List ResultVar) (bI:List P):yZ:={ n:=Fin tt sp ts bI,x:=fun _ _=>False,r:=Fin tt sp ts bI }
def Ac (tmps:Array Value) (r:ResultVar):Sem Value:=match r with
 |.tmp t=>pure (tmps.getD t undef)
 |.cell a t=>do loadVar t (←asAddr (tmps.getD a undef))
theorem Ob {fn:Func} {ts:List ResultVar} (hr:fn.results=ts.toArray) (tmps:Array Value):results fn tmps=(do
  let vs ←List.toArray <$> ts.mapM (Ac tmps)
  pure (if h:vs.size=1 then vs[0] else .tuple vs)):=by
 unfold results
 rw [hr,List.mapM_toArray]
 have :∀F:ResultVar→Sem Value,(∀r,F r=Ac tmps r)→ts.mapM F=ts.mapM (Ac tmps):=fun F hF=>by rw [funext hF]
 rw [this _ fun r=>by cases r<;>rfl]
theorem Oc (htt:fP Pg tt) {st:St} {gh:Nat→Gh} {a:Act} {w:World} (h:Rel E st gh (fun t=>a.tmps.getD t undef) w) {r:ResultVar} {x:S} (hx:RJ tt st r=some x) :
  ∃v,(Ac a.tmps r).run Pg w=.ok v w∧bP E st gh w x v∧∀g∈x.names,st.used g=true:=by
 cases r with
 |tmp t=>
  simp only [RJ,Q0] at hx
  subst hx
  exact ⟨_,rfl,h.slots t,h.us t⟩
 |cell ad t=>
  simp only [RJ] at hx
  split at hx
  ·rename_i i g off ht hs
   have rx:=h.slots ad;rw [hs] at rx
   split at hx
   ·rename_i ws hog
    split at hx
    ·rename_i hlt
     simp only [Q0] at hx;subst hx
     have hO:=h.aN g;rw [hog] at hO
     obtain ⟨ad',had,cs,hl,hone,hcell,hrep⟩:=vY.cells hO
     obtain ⟨afy,Iw,hv⟩:=(by cases rx.bU with | box _ _ _ _ hb=>exact hb ws hog :∃ad',(gh g).ad=some ad'∧a.tmps.getD ad undef=.pointer (some ⟨ad'.block,ad'.off+off,none⟩))
     rw [had] at Iw;cases Iw
     have hl':((cs.drop off).take i.size).length=i.size:=by simp;omega
     obtain ⟨v,hrun,hval⟩:=iR (Pg:=Pg) (w:=w) (htt _ _ ht) ad'.block (ad'.off+off) ((cs.drop off).take i.size) hl' (fun j u hu=>by
      have hj:j<i.size:=by have:=(Q3.1 hu).1;omega
      rw [XX,if_pos hj,ZS] at hu
      rw [VC];exact hcell _ _ hu) (fun _=>hlt.2)
     refine ⟨v,by simp only [Ac];rw [hv];simpa [asAddr] using hrun,jl (cs:=(cs.drop off).take i.size) (by simp;omega) (fun c hc=>hone c (Wo (W5 hc)))
      (fun j y u hy hu => ?_) v hval,fun g' hg' => ?_⟩
     ·have hj:j<i.size:=by have:=(Q3.1 hu).1;omega
      rw [XX,if_pos hj,ZS] at hy hu
      exact hrep _ _ _ hy hu
     ·obtain ⟨x,hx,hg'⟩:=iq hg'
      exact h.uo g g' (by rw [hog];simp only [O.names,X1];exact ⟨x,Wo (W5 hx),hg'⟩)
    ·cases hx
   ·cases hx
  ·cases hx
theorem BJ (htt:fP Pg tt) {st:St} {gh:Nat→Gh} {a:Act} {w:World} (h:Rel E st gh (fun t=>a.tmps.getD t undef) w) :∀{rs:List ResultVar} {xs:List S},BI tt st rs=some xs→
  ∃vs:List Value,(rs.mapM (Ac a.tmps)).run Pg w=.ok vs w∧vs.length=rs.length∧
   ∀k,bP E st gh w (xs.getD k .no) (vs.getD k undef)∧∀g∈(xs.getD k .no).names,st.used g=true
 | [],xs,hx=>by
  simp only [BI,Q0] at hx
  subst hx
  exact ⟨[],rfl,rfl,fun k=>⟨.no _,by simp [S.names]⟩⟩
 |r::rs,xs,hx=>by
  simp only [BI] at hx
  split at hx
  ·rename_i x xs h1 h2
   simp only [Q0] at hx
   subst hx
   obtain ⟨v,q1,q2,q3⟩:=Oc htt h h1
   obtain ⟨vs,p1,p2,p3⟩:=BJ htt h h2
   refine ⟨v::vs,?_,by simp [p2],fun k => ?_⟩
   ·rw [Ks,Sem.run_bind,q1]
    show Sem.run Pg _ w=_
    rw [Sem.run_bind,p1];rfl
   ·cases k with
    |zero=>exact ⟨q2,q3⟩
    |succ k=>simpa using p3 k
  ·cases hx
theorem Gj (htt:fP Pg tt) {st:St} {gh:Nat→Gh} {a:Act} {w:World} (h:Rel E st gh (fun t=>a.tmps.getD t undef) w) {fn:Func} {ts:List ResultVar} (hr:fn.results=ts.toArray) {xs:List S} (hx:BI tt st ts=some xs) :
  ∃vs:List Value,(results fn a.tmps).run Pg w=.ok (Q7 vs) w∧vs.length=ts.length∧∀k,bP E st gh w (xs.getD k .no) (vs.getD k undef)∧∀g∈(xs.getD k .no).names,st.used g=true:=by
 obtain ⟨vs,q1,q2,q3⟩:=BJ htt h hx
 refine ⟨vs,?_,q2,q3⟩
 rw [Ob hr,Sem.run_bind,Sem.run_map,q1]
 match vs with
 | []=>rfl
 | [v]=>rfl
 |v::u::vs=>simp [Q7]
theorem UH {f:FuncId} {fn:Func} {c:Code} {sp:Spec} (ts:List ResultVar) (hf:Pg.funcs[f]?=some fn) (hb:fn.body=some c) (hname:(fn.name == "runtime.NumGoroutine")=false) (hres:fn.results=ts.toArray)
  (hok:sp.sig.ok=true) (CX:(sp.sig.aY.all fun g=>sp.sig.pin.nms.contains g)=true) (hlk :∀ins bI,sp.R ins bI→∀g∈sp.sig.aY,((Fw.mk sp.sig.pin ins).o g).like ((Fw.mk sp.sig.aQ bI).o g)) (hn:sp.sig.aO≤fn.ntmps) (hnr:ts.length=sp.sig.dL)
  (hT :∀f sp,T f=some sp→Sound Pg (f % 1000000) sp) (htt:fP Pg tt) (hm:Fit Pg)
  (h :∀ins bI,sp.R ins bI→exec T tt fn.ntmps sp.sig.aY c (Fw.mk sp.sig.pin ins) (ZA tt sp.sig ts bI)):Sound Pg f sp:=by
 refine ⟨hok,fun args w => ?_,fun E w vals gh ins bI hR hB hw0 Zu hlen => ?_⟩
 ·have hname':¬ fn.name = "runtime.NumGoroutine" := by simpa using hname
  simp [callFunc,hf,hname',hb]
 ·have hsz:vals.toArray.size≤fn.ntmps:=by simp;omega
  refine callsIn_wide.1 (callsIn_of_wp_marks (n:=0) hf hb trivial (wpIn_wide.2 (Oa (E:=E) (N:=fn.ntmps) (aY:=sp.sig.aY) (sU:=gh) hT htt hm c (h ins bI hR) ⟨⟨gh,?_,fun g hg=>⟨?_,.inr ⟨rfl,rfl⟩⟩⟩,by simp;omega,Marks.nil rfl⟩ ?_)) rfl)
  ·have e:(fun t=>(vals.toArray++Array.replicate (fn.ntmps-vals.toArray.size) undef).getD t undef)=fun k=>vals.getD k undef:=by
    funext t
    rw [W2,Q6,Array.getElem?_append]
    split
    ·simp
    ·rename_i ht
     have ht:vals.length≤t:=by simpa using ht
     rw [WP ht,Kn]
     split<;>rfl
   rw [e];exact Zu
  ·exact (X2.1 CX) g hg
  ·have fin :∀st a w',Fin tt sp.sig ts bI st→Good E fn.ntmps sp.sig.aY gh st a w'→LeavesInM Fence.wide 0 Pg fn a.tmps (fun e w' =>∃(rs:List Value) (aT:Nat→Gh),rs.length=sp.sig.dL∧e=.returned (Q7 rs)∧Rel E (Fw.mk sp.sig.aQ bI) aT (fun k=>rs.getD k undef) w'∧∀g∈sp.sig.aY,((aT g).ad=(gh g).ad∧(aT g).cap=(gh g).cap)∧((Fw.mk sp.sig.pin ins).o g).like ((Fw.mk sp.sig.aQ bI).o g)) a.defers .returning w':=by
    intro st a w' hBk hg
    unfold Fin at hBk
    split at hBk
    rotate_left
    ·cases hBk
    rename_i xs hxs
    obtain ⟨⟨kC,hR1,Zz⟩,_,Ds,hd1,hd2,hd3⟩:=hg
    rw [hd1]
    clear hd1
    induction Ds generalizing w' with
    |nil=>
     obtain ⟨rs,hrun,hrl,hrs⟩:=Gj htt hR1 hres hxs
     refine ⟨_,hrun,rs,?_⟩
     have hfin:Rel E (Lr xs st) kC (fun k=>rs.getD k undef) w':=by
      refine ⟨fun k => ?_,fun g=>jX.congr (st:=st) (st':=Lr xs st) rfl (hR1.aN g),hR1.inj,hR1.wr,hR1.wi,hR1.ns,hR1.wb,hR1.frame,hR1.size,hR1.os,hR1.tape,hR1.output,fun k g hg=>(hrs k).2 g hg,hR1.uo,hR1.ul⟩
      exact bP.congr (st:=st) (st':=Lr xs st) rfl (hrs k).1
     obtain ⟨aT,r1,r2⟩:=UG hfin Zz hBk
     exact ⟨aT,by omega,rfl,r1,fun g hg=>⟨r2 g hg,hlk ins bI hR g hg⟩⟩
    |cons D Ds ih=>
     obtain ⟨h1,h2⟩:=hd3 D (by simp)
     have hnd:=Vn.1 hd2
     refine ⟨by simp,.inl ⟨D,_,rfl,run_takeDeferred h2,ih _ (hR1.turn h2 rfl h1 _) hnd.2 fun D' hD' => ?_⟩⟩
     obtain ⟨q1,q2⟩:=hd3 D' (by simp [hD'])
     exact ⟨q1,(World.putObj_heap_other (fun e:D'=D=>hnd.1 (by rw [←e];exact hD'))).trans q2⟩
   exact ⟨fun st a w' hk hg=>fin st a w' hk hg,fun id st a w' hk=>hk.elim,fun st a w' hk hg=>fin st a w' hk hg⟩
end
end Go.Fw

namespace Go.Fg
open Go.Fw
inductive Ty where
 |int (k:IntKind)
 |bool
 |str
 |sl (e:Ty)
 |prod (a b:Ty)
 |st (n:Nat)
 |opq
 |sq (e:Ty)
def UJ:(a b:IntKind)→Option (PLift (a=b))
 |.i8,.i8=>some ⟨rfl⟩
 |.i16,.i16=>some ⟨rfl⟩
 |.i32,.i32=>some ⟨rfl⟩
 |.i64,.i64=>some ⟨rfl⟩
 |.u8,.u8=>some ⟨rfl⟩
 |.u16,.u16=>some ⟨rfl⟩
 |.u32,.u32=>some ⟨rfl⟩
 |.u64,.u64=>some ⟨rfl⟩
 |_,_=>none
def UK (a b:Nat):Option (PLift (a=b)):=match h:Nat.beq a b with
 |true=>some ⟨Q4 h⟩
 |false=>none
def Ty.eq:(a b:Ty)→Option (PLift (a=b))
 |.int k,.int k'=>match UJ k k' with
  |some ⟨h⟩=>some ⟨h▸rfl⟩
  |none=>none
 |.bool,.bool=>some ⟨rfl⟩
 |.str,.str=>some ⟨rfl⟩
 |.opq,.opq=>some ⟨rfl⟩
 |.sl a,.sl b=>match Ty.eq a b with
  |some ⟨h⟩=>some ⟨h▸rfl⟩
  |none=>none
 |.sq a,.sq b=>match Ty.eq a b with
  |some ⟨h⟩=>some ⟨h▸rfl⟩
  |none=>none
 |.prod a b,.prod a' b'=>match Ty.eq a a',Ty.eq b b' with
  |some ⟨h⟩,some ⟨h'⟩=>some ⟨h▸h'▸rfl⟩
  |_,_=>none
 |.st n,.st m=>match UK n m with
  |some ⟨h⟩=>some ⟨h▸rfl⟩
  |none=>none
 |_,_=>none
def Ty.word:Ty→Bool
 |.prod _ _=>false
 |.st _=>false
 |_=>true
def Ty.flat:Ty→Bool
 |.int _=>true
 |.bool=>true
 |.str=>true
 |.opq=>true
 |_=>false
def D (C:Nat→Type):Ty→Type
 |.int _=>Int
 |.bool=>Bool
 |.str=>List UInt8
 |.sl e=>List (D C e)
 |.prod a b=>D C a×D C b
 |.st n=>C n
 |.opq=>Value
 |.sq e=>List (D C e)
structure TP (C:Nat→Type) where
 t:Ty
 x:D C t
def TP.get {C:Nat→Type} (t:Ty) (d:D C t) (ws:List (TP C)) (n:Nat):D C t:=match ws[n]? with
 |some w=>match Ty.eq w.t t with
  |some ⟨h⟩=>h▸w.x
  |none=>d
 |none=>d
theorem aS {C:Nat→Type} {ws:List (TP C)} {t:Ty} {ts:List Ty} (h:ws.map (·.t)=t::ts) :∃x ws',ws=⟨t,x⟩::ws'∧ws'.map (·.t)=ts:=by
 cases ws with
 |nil=>cases h
 |cons w ws=>
  obtain ⟨t',x⟩:=w
  simp only [Qt,List.cons.injEq] at h
  obtain ⟨rfl,h⟩:=h
  exact ⟨x,ws,rfl,h⟩
theorem cZ {C:Nat→Type} {ws:List (TP C)} (h:ws.map (·.t)=[]):ws=[]:=by simpa using h
def Ej {C:Nat→Type} (size:Ty→Nat) (jr:(t:Ty)→D C t→List P):(t:Ty)→D C t→P
 |.int k,x=>.int k x
 |.bool,b=>.bool b
 |.str,s=>.str ⟨s.toArray⟩
 |.sl e,l=>P.eG (size e) (List.map (jr e) l)
 |.opq,v=>.opq v
 |.sq e,l=>.seq (List.map (jr e) l)
 |.prod _ _,_=>default
 |.st _,_=>default
def lY {C:Nat→Type} (F:Nat→List Ty) (er:(n:Nat)→C n→List P) (size:Ty→Nat):(t:Ty)→D C t→List P
 |.int k,x=>[.int k x]
 |.bool,b=>[.bool b]
 |.str,s=>[.str ⟨s.toArray⟩]
 |.sl e,l=>[P.eG (size e) (List.map (lY F er size e) l)]
 |.opq,v=>[.opq v]
 |.sq e,l=>[.seq (List.map (lY F er size e) l)]
 |.prod a b,x=>lY F er size a x.1++lY F er size b x.2
 |.st n,x=>er n x
def gZ (F:Nat→List Ty):Ty→Nat
 |.prod a b=>gZ F a+gZ F b
 |.st n=>(F n).length
 |_=>1
class RE where
 C:Nat→Type
 F:Nat→List Ty
 dflt:(n:Nat)→C n
 un:(n:Nat)→C n→List (TP C)
 ro:(n:Nat)→List (TP C)→C n
 er:(n:Nat)→C n→List P
 Fwd :∀n,(F n).all Ty.word=true
 YM :∀n x,(un n x).map (·.t)=F n
 YN :∀n ws,ws.map (·.t)=F n→un n (ro n ws)=ws
 YO :∀n x,er n x=(un n x).map fun w=>Ej (gZ F) (lY F er (gZ F)) w.t w.x
 hd:Nat:=999999
 hdF:F hd=[]:=by rfl
 G:Nat→Option ((e:Ty)×List (D C e)):=fun _=>none
 Q:World→List Nat→List (List P)→Value→Prop:=fun _ _ _ _=>False
 ZB :∀{w w':World} {S:List Nat} {l:List (List P)} {v:Value},(∀b∈S,w'.heap[b]?=w.heap[b]?)→Q w S l v→Q w' S l v:=by intro _ _ _ _ _ _ h;exact h
section
variable [RE]
abbrev Dt (t:Ty):Type:=D RE.C t
abbrev Wd:=TP RE.C
def size:Ty→Nat:=gZ RE.F
def jr:(t:Ty)→Dt t→List P:=lY RE.F RE.er (gZ RE.F)
instance:dB:=⟨fun g=>(RE.G g).map fun x=>(size x.1,List.map (jr x.1) x.2),RE.Q,RE.ZB⟩
theorem YP (g:Nat):dB.gt g=(RE.G g).map fun x=>(size x.1,List.map (jr x.1) x.2):=rfl
def bQ (w:Wd):P:=Ej (gZ RE.F) (lY RE.F RE.er (gZ RE.F)) w.t w.x
def dflt:(t:Ty)→Dt t
 |.int _=>(0:Int)
 |.bool=>false
 |.str=>([]:List UInt8)
 |.sl e=>([]:List (Dt e))
 |.prod a b=>(dflt a,dflt b)
 |.st n=>RE.dflt n
 |.opq=>Value.nilFunc
 |.sq e=>([]:List (Dt e))
def TP.yt (t:Ty) (w:Wd):Option (Dt t):=match Ty.eq w.t t with
 |some ⟨h⟩=>some (h▸w.x)
 |none=>none
def TP.as (t:Ty) (w:Wd):Dt t:=match Ty.eq w.t t with
 |some ⟨h⟩=>h▸w.x
 |none=>dflt t
def dW:(t:Ty)→Dt t→List Wd
 |.prod a b,x=>dW a x.1++dW b x.2
 |.st n,x=>RE.un n x
 |.int k,x=>[⟨.int k,x⟩]
 |.bool,x=>[⟨.bool,x⟩]
 |.str,x=>[⟨.str,x⟩]
 |.sl e,x=>[⟨.sl e,x⟩]
 |.opq,x=>[⟨.opq,x⟩]
 |.sq e,x=>[⟨.sq e,x⟩]
def gW:Ty→List Ty
 |.prod a b=>gW a++gW b
 |.st n=>RE.F n
 |t=>[t]
def iW:(t:Ty)→List Wd→Dt t
 |.prod a b,ws=>(iW a (ws.take (size a)),iW b (ws.drop (size a)))
 |.st n,ws=>RE.ro n ws
 |.int k,ws=>match ws with
  |w::_=>w.as (.int k)
  | []=>dflt (.int k)
 |.bool,ws=>match ws with
  |w::_=>w.as .bool
  | []=>dflt .bool
 |.str,ws=>match ws with
  |w::_=>w.as .str
  | []=>dflt .str
 |.sl e,ws=>match ws with
  |w::_=>w.as (.sl e)
  | []=>dflt (.sl e)
 |.opq,ws=>match ws with
  |w::_=>w.as .opq
  | []=>dflt .opq
 |.sq e,ws=>match ws with
  |w::_=>w.as (.sq e)
  | []=>dflt (.sq e)
theorem Ty.eq_self :∀(t:Ty),∃h,Ty.eq t t=some ⟨h⟩:=by
 intro t
 induction t with
 |int k=>cases k<;>exact ⟨rfl,rfl⟩
 |bool=>exact ⟨rfl,rfl⟩
 |str=>exact ⟨rfl,rfl⟩
 |opq=>exact ⟨rfl,rfl⟩
 |sl e ih=>obtain ⟨h,ih⟩:=ih;exact ⟨rfl,by simp [Ty.eq,ih]⟩
 |sq e ih=>obtain ⟨h,ih⟩:=ih;exact ⟨rfl,by simp [Ty.eq,ih]⟩
 |prod a b iha ihb=>obtain ⟨h,iha⟩:=iha;obtain ⟨h',ihb⟩:=ihb;exact ⟨rfl,by simp [Ty.eq,iha,ihb]⟩
 |st n=>
  refine ⟨rfl,?_⟩
  have:UK n n=some ⟨rfl⟩:=by
   unfold UK
   split
   ·rfl
   ·rename_i h;simp at h
  simp [Ty.eq,this]
theorem oL (t:Ty) (x:Dt t):TP.as t ⟨t,x⟩=x:=by
 obtain ⟨h,e⟩:=Ty.eq_self t
 simp [TP.as,e]
theorem sF {t:Ty} {w:Wd} (h:w.t=t):(⟨t,w.as t⟩:Wd)=w:=by
 obtain ⟨t',x⟩:=w
 simp only at h;subst h
 rw [oL]
theorem eU {t:Ty} {w:Wd} {x:Dt t} (h:w.yt t=some x):w=⟨t,x⟩:=by
 obtain ⟨t',y⟩:=w
 unfold TP.yt at h
 split at h
 ·rename_i e he
  simp only at e
  subst e
  simp only [Q0] at h
  subst h;rfl
 ·cases h
theorem ZC {t:Ty} {w:Wd} {x:Dt t} (h:w.yt t=some x):w.t=t:=by rw [eU h]
theorem iL :∀(t:Ty),(gW t).length=size t
 |.prod a b=>by
  have h1:=iL a
  have h2:=iL b
  simp only [size] at h1 h2
  simp [gW,size,gZ,h1,h2]
 |.st n=>by simp [gW,size,gZ]
 |.int k=>rfl
 |.bool=>rfl
 |.str=>rfl
 |.sl e=>rfl
 |.opq=>rfl
 |.sq e=>rfl
theorem qj :∀(t:Ty) (x:Dt t),(dW t x).map (·.t)=gW t
 |.prod a b,x=>by simp [dW,gW,qj a,qj b]
 |.st n,x=>by simp [dW,gW];exact RE.YM n x
 |.int k,x=>rfl
 |.bool,x=>rfl
 |.str,x=>rfl
 |.sl e,x=>rfl
 |.opq,x=>rfl
 |.sq e,x=>rfl
theorem ny (t:Ty) (x:Dt t):(dW t x).length=size t:=by
 rw [←iL,←qj t x,W0]
theorem fA :∀(t:Ty) (x:Dt t),jr t x=(dW t x).map bQ
 |.prod a b,x=>by
  show jr a x.1++jr b x.2=_
  rw [fA a x.1,fA b x.2];simp [dW]
 |.st n,x=>RE.YO n x
 |.int k,x=>rfl
 |.bool,x=>rfl
 |.str,x=>rfl
 |.sl e,x=>rfl
 |.opq,x=>rfl
 |.sq e,x=>rfl
theorem Ls (t:Ty) (x:Dt t):(jr t x).length=size t:=by rw [fA,W0,ny]
theorem Ad {ws:List Wd} {t:Ty} (h:ws.map (·.t)=[t]) :∃w,ws=[w]∧w.t=t:=by
 match ws with
 | []=>cases h
 | [w]=>exact ⟨w,rfl,by simpa using h⟩
 |w::u::ws=>simp at h
theorem Em :∀(t:Ty) (ws:List Wd),ws.map (·.t)=gW t→dW t (iW t ws)=ws
 |.prod a b,ws,h=>by
  have h1:(ws.take (size a)).map (·.t)=gW a:=by rw [Wm,h];simp [gW,←iL]
  have h2:(ws.drop (size a)).map (·.t)=gW b:=by rw [W8,h];simp [gW,←iL]
  show dW a (iW a (ws.take (size a)))++dW b (iW b (ws.drop (size a)))=ws
  rw [Em a _ h1,Em b _ h2,Uq]
 |.st n,ws,h=>RE.YN n ws h
 |.int k,ws,h=>by
  obtain ⟨w,rfl,hw⟩:=Ad (t:=(.int k)) h
  show [(⟨.int k,w.as (.int k)⟩:Wd)]=[w]
  rw [sF hw]
 |.bool,ws,h=>by
  obtain ⟨w,rfl,hw⟩:=Ad (t:=.bool) h
  show [(⟨.bool,w.as .bool⟩:Wd)]=[w]
  rw [sF hw]
 |.str,ws,h=>by
  obtain ⟨w,rfl,hw⟩:=Ad (t:=.str) h
  show [(⟨.str,w.as .str⟩:Wd)]=[w]
  rw [sF hw]
 |.sl e,ws,h=>by
  obtain ⟨w,rfl,hw⟩:=Ad (t:=(.sl e)) h
  show [(⟨.sl e,w.as (.sl e)⟩:Wd)]=[w]
  rw [sF hw]
 |.opq,ws,h=>by
  obtain ⟨w,rfl,hw⟩:=Ad (t:=.opq) h
  show [(⟨.opq,w.as .opq⟩:Wd)]=[w]
  rw [sF hw]
 |.sq e,ws,h=>by
  obtain ⟨w,rfl,hw⟩:=Ad (t:=(.sq e)) h
  show [(⟨.sq e,w.as (.sq e)⟩:Wd)]=[w]
  rw [sF hw]
theorem oM {t:Ty} {ws:List Wd} (h:ws.map (·.t)=gW t):jr t (iW t ws)=ws.map bQ:=by rw [fA,Em t ws h]
def aB (e:Ty) (l:List (Dt e)):List (List P):=List.map (jr e) l
theorem Jh (e:Ty) (l:List (Dt e)):bQ ⟨.sl e,l⟩=P.eG (size e) (aB e l):=rfl
theorem jF (e:Ty) (l:List (Dt e)):(bQ ⟨.sl e,l⟩).list=aB e l:=by rw [Jh,P.lq]
theorem RN {w:Wd} (h:w.t.flat=true):(bQ w).flat=true:=by
 obtain ⟨t,x⟩:=w
 cases t<;>simp [Ty.flat] at h<;>rfl
end
end Go.Fg

namespace Go.Fg
open Go.Fw
section
variable [RE]
inductive TW where
 |p (a i:Bool) (w:Wd)
 |bM
 |own (g:Nat)
 |vw (g:Nat) (lo hi:Int)
 |box (g off:Nat)
 |ep (g:Nat) (n:Int) (off:Nat)
 |sp (a i:Bool) (t:Ty) (x:Dt t) (off:Nat)
 |clo (f:FuncId) (caps:List TW)
 |gl (g:Nat)
 |kH (g:Nat)
 |no
inductive TV where
 |one (x:TW)
 |agg (xs:List TW)
inductive TS where
 |v (x:TV)
 |jK (xs:List TV)
 |no
inductive TO where
 |none
 |box (ws:List TW)
 |arr (fz a i:Bool) (e:Ty) (l:List (Dt e))
 |it (s:List UInt8) (n:Int)
 |ay (a i:Bool) (e:Ty) (ak:List (Nat×Ty)) (l:List (Dt e)) (hole:Option (Nat×Nat×Nat))
mutual
def bf:TW→W
 |.p a i w=>.p a i (bQ w)
 |.bM=>.bM
 |.own g=>.own g
 |.vw g lo hi=>.vw g (.int .i64 lo) (.int .i64 hi)
 |.box g off=>.box g off
 |.ep g n off=>.ep g (.int .i64 n) off
 |.sp a i t x off=>.sp a i (jr t x) off
 |.clo f caps=>.clo f (kQ caps)
 |.gl g=>.gl g
 |.kH g=>.kH g
 |.no=>.no
def kQ:List TW→List W
 | []=>[]
 |x::xs=>bf x::kQ xs
end
theorem vg :∀(l:List TW),kQ l=l.map bf
 | []=>rfl
 |x::xs=>by simp [kQ,vg xs]
def iF:TV→V
 |.one x=>.one (bf x)
 |.agg xs=>.agg (xs.map bf)
def aP:TS→S
 |.v x=>.v (iF x)
 |.jK xs=>.jK (xs.map iF)
 |.no=>.no
def fM (ak:List (Nat×Ty)):List (Nat×Nat):=ak.map fun c=>(c.1,size c.2)
def cu:TO→O
 |.none=>.none
 |.box ws=>.box (ws.map bf)
 |.arr fz a i e l=>.arr fz a i (size e) (aB e l)
 |.it s n=>.it (.str ⟨s.toArray⟩) (.int .i64 n)
 |.ay a i e ak l hole=>.ay a i (size e) (fM ak) (aB e l) hole
def iC {α:Type} (d:α):List (Nat×α)→Nat→α
 | [],_=>d
 |(k,v)::r,t=>bif Nat.beq t k then v else iC d r t
def uj {α:Type} (k:Nat) (v:α):List (Nat×α)→List (Nat×α)
 | []=>[(k,v)]
 |(k',v')::r=>bif Nat.beq k k' then (k,v)::r else (k',v')::uj k v r
def dM (g:Nat):List Nat→Bool
 | []=>false
 |x::xs=>Nat.beq g x||dM g xs
structure gU where
 s:List (Nat×TS)
 o:List (Nat×TO)
 u:List Nat
def gU.gs (st:gU) (t:Nat):TS:=iC .no st.s t
def gU.go (st:gU) (g:Nat):TO:=iC .none st.o g
def aI (st:gU):St:={ s:=fun t=>aP (st.gs t),o:=fun g=>cu (st.go g),used:=fun g=>dM g st.u }
def aZ (o:Nat→TO):Nat→O:=fun g=>cu (o g)
def gq (k:IntKind) (x:Int):Wd:=⟨.int k,x⟩
def gB (x:Bool):Wd:=⟨.bool,x⟩
def Lu (x:List UInt8):Wd:=⟨.str,x⟩
def ql (e:Ty) (x:List (Dt e)):Wd:=⟨.sl e,x⟩
def adD (x:Value):Wd:=⟨.opq,x⟩
def RP:Value→TW
 |.int k n=>.p false false (gq k n)
 |.bool b=>.p false false (gB b)
 |.string s=>.p false false (Lu s.data.toList)
 |.slice none 0 0=>.bM
 |v=>.p false false (adD v)
def Oe:Value→TS
 |.agg cs=>bif cs.toList.all Value.oneCell' then .v (.agg (cs.toList.map RP)) else .no
 |.tuple _=>.no
 |.func (.func f) ⟨[]⟩ ⟨[]⟩=>.v (.one (.clo f []))
 |v=>bif v.oneCell' then .v (.one (RP v)) else .no
def gU.bC (st:gU):Operand→TS
 |.tmp t=>st.gs t
 |.const v=>Oe v
 |.func f=>.v (.one (.clo f []))
 |.global g=>match RE.G g with
  |some _=>.v (.one (.gl g))
  |none=>.no
structure nZ where
 pre:Bool
 t:Ty
 val:Dt t
 dst:Dt t→TS
 aA:Dt t→List (Nat×TO)
 new:List Nat
def nZ.pure (x:TS):nZ:={ pre:=true,t:=.bool,val:=false,dst:=fun _=>x,aA:=fun _=>[],new:=[] }
def PG (w:Wd):TS:=.v (.one (.p false false w))
def nZ.calc (pre:Bool) (t:Ty) (x:Dt t):nZ:={ pre,t,val:=x,dst:=fun z=>PG ⟨t,z⟩,aA:=fun _=>[],new:=[] }
structure TA where
 a:Bool
 i:Bool
 e:Ty
 l:List (Dt e)
structure TH where
 a:Bool
 i:Bool
 e:Ty
 ak:List (Nat×Ty)
 l:List (Dt e)
def ZE (a b:Ty):Bool:=match Ty.eq a b with
 |some _=>true
 |none=>false
def qm (c:Nat):List (Nat×Ty)→Option Ty
 | []=>none
 |(k,t)::r=>bif Nat.beq c k then some t else qm c r
def RQ (e:Ty) (ak:List (Nat×Ty)) (c:Nat) (e':Ty):Bool:=(match qm c ak with
 |some t=>ZE t e'
 |none=>false)&&(match (gW e)[c]? with
 |some (.sl t)=>ZE t e'
 |_=>false)
def Gl (e:Ty) (whole:Bool) (x:Dt e) (off:Nat) (ps:List Wd):Dt e:=match whole with
 |true=>iW e ps
 |false=>iW e (aF (dW e x) off ps)
def putRow (e:Ty) (l:List (Dt e)) (n c:Nat) (w:Wd):List (Dt e):=List.set l n (Gl e (Nat.beq 1 (size e)) (l.getD n (dflt e)) c [w])
def kR (o:Nat→TO) (g:Nat):Option TA:=match o g with
 |.arr _ a i e l=>some ⟨a,i,e,l⟩
 |.ay a i e ak l hole=>match hole with
  |none=>some ⟨a,i,e,l⟩
  |some (n,c,d)=>match o d with
   |.arr _ a' i' e' l'=>match RQ e ak c e' with
    |true=>some ⟨a||a',i||i',e,putRow e l n c (ql e' l')⟩
    |false=>none
   |_=>none
 |_=>none
def gu:TO→List Nat
 |.ay _ _ _ _ _ hole=>match hole with
  |some (_,_,d)=>[d]
  |none=>[]
 |_=>[]
def Gm (o:Nat→TO) (g:Nat):Option (Ty×Nat):=match o g with
 |.arr _ _ _ e l=>some (e,l.length)
 |.ay _ _ e _ l _=>some (e,l.length)
 |_=>none
def TW.toP (o:Nat→TO) (t:Ty):TW→Option (Dt t×Bool×Bool×List Nat)
 |.p a i w=>match w.yt t with
  |some x=>some (x,a,i,[])
  |none=>none
 |.bM=>match t with
  |.sl e=>some (([]:List (Dt e)),false,false,[])
  |_=>none
 |.own g=>match kR o g with
  |some ⟨a,i,e,l⟩=>match (ql e l).yt t with
   |some x=>some (x,a,i,gu (o g)++[g])
   |none=>none
  |none=>none
 |.vw g lo hi=>match kR o g with
  |some ⟨a,i,e,l⟩=>match (ql e ((l.take hi.toNat).drop lo.toNat)).yt t with
   |some x=>some (x,a,i,gu (o g)++[g])
   |none=>none
  |none=>none
 |_=>none
def nT (o:Nat→TO):List Ty→List TW→Option (List Wd×Bool×Bool×List Nat)
 | [],[]=>some ([],false,false,[])
 |t::ts,x::xs=>match x.toP o t,nT o ts xs with
  |some (y,a,i,gs),some (ys,a',i',gs')=>some (⟨t,y⟩::ys,a||a',i||i',gs++gs')
  |_,_=>none
 |_,_=>none
def TV.words:TV→List TW
 |.one x=>[x]
 |.agg xs=>xs
def jG (o:Nat→TO) (g:Nat):Nat×TO:=
 (g,match kR o g with
  |some ⟨a,i,e,l⟩=>.arr true a i e l
  |none=>o g)
def TV.dN (agg:Bool) (ws:List TW):TS:=match agg with
 |true=>.v (.agg ws)
 |false=>match ws with
  | [x]=>.v (.one x)
  |_=>.no
def TW.solid:TW→Bool
 |.no=>false
 |_=>true
def TV.solid:TV→Bool
 |.one x=>x.solid
 |.agg _=>true
def y7 (place:Nat→Option (Nat×Nat)) (ws:List TW):List (Nat×TS)→Option (List TW)
 | []=>some ws
 |(n,.v x)::rest=>match place n with
  |some (off,size)=>bif Nat.beq x.words.length size&&Nat.ble (off+size) ws.length&&x.solid then y7 place (aF ws off x.words) rest else none
  |none=>none
 |_=>none
def TW.rows (o:Nat→TO) (e:Ty):TW→Option (List (Dt e)×Bool×Bool)
 |.p a i w=>match w.yt (.sl e) with
  |some l=>some (l,a,i)
  |none=>none
 |.bM=>some ([],false,false)
 |.own g=>match o g with
  |.arr _ a i e' l=>match (ql e' l).yt (.sl e) with
   |some l=>some (l,a,i)
   |none=>none
  |_=>none
 |.vw g lo hi=>match o g with
  |.arr _ a i e' l=>match (ql e' ((l.take hi.toNat).drop lo.toNat)).yt (.sl e) with
   |some l=>some (l,a,i)
   |none=>none
  |_=>none
 |_=>none
def LC (o:Nat→TO):TW→Option Int
 |.p _ _ ⟨.sl e,l⟩=>some (List.length (α:=Dt e) l)
 |.bM=>some 0
 |.own g=>match Gm o g with
  |some (_,n)=>some n
  |none=>none
 |.vw g lo hi=>match Gm o g with
  |some _=>some (hi.toNat-lo.toNat:Nat)
  |none=>none
 |_=>none
def TW.live (o:Nat→TO):TW→Bool
 |.box g _=>match o g with
  |.box _=>true
  |_=>false
 |.ep g _ _=>match Gm o g with
  |some _=>true
  |none=>false
 |.sp _ _ _ _ _=>true
 |_=>false
def TW.shift (n:Nat):TW→TW
 |.box g off=>.box g (off+n)
 |.ep g k off=>.ep g k (off+n)
 |.sp a i t x off=>.sp a i t x (off+n)
 |x=>x
def jH (dflt:Int):Option TS→Option Int
 |none=>some dflt
 |some (.v (.one (.p _ _ ⟨.int .i64,x⟩)))=>some x
 |_=>none
def ZF (n:Int):Int:=0-n
def Wy (a b:Int):Bool:=decide (a=b)
def inB (n:Int) (len:Nat):Bool:=decide (0≤n)&&decide (n<len)
def Gn (lo hi:Int) (len:Nat):Bool:=decide (0≤lo)&&decide (lo≤hi)&&decide (hi≤(len:Int))
def En (bytes:Nat) (n c:Int):Bool:=decide (0≤n)&&decide (n≤c)&&decide (bytes*c≤281474976710656)&&decide (c≤9223372036854775807)
def strOf (l:List Int):List UInt8:=l.map fun n=>UInt8.ofNat n.toNat
def abT {α:Type} (lo hi:Int) (z:α) (l:List α):List α:=List.take lo.toNat l++List.replicate (hi.toNat-lo.toNat) z++List.drop (lo.toNat+(List.replicate (hi.toNat-lo.toNat) z).length) l
def ZG (s:List UInt8):List Int:=s.map fun b=>(b.toNat:Int)
def UL (a b:Int):Int:=if b<a then b else a
def RS (a b:Int):Int:=if b>a then b else a
def Og (op:BinOp) (k k':IntKind) (a b:Int):Option (Bool×Wd):=
 match op with
 |.shl=>some (decide (0≤b),gq k (k.wrap (a*2 ^ min b.toNat k.bits)))
 |.shr=>some (decide (0≤b),gq k (a.fdiv (2 ^ min b.toNat k.bits)))
 |_=>match UJ k k' with
  |none=>none
  |some _=>match op with
   |.add=>some (true,gq k (k.wrap (a+b)))
   |.sub=>some (true,gq k (k.wrap (a-b)))
   |.mul=>some (true,gq k (k.wrap (a*b)))
   |.quo=>some (!(decide (b=0)),gq k (k.wrap (a.tdiv b)))
   |.rem=>some (!(decide (b=0)),gq k (a.tmod b))
   |.and=>some (true,gq k (bits .and k a b))
   |.or=>some (true,gq k (bits .or k a b))
   |.xor=>some (true,gq k (bits .xor k a b))
   |.andNot=>some (true,gq k (bits .andNot k a b))
   |.eql=>some (true,gB (decide (a=b)))
   |.neq=>some (true,gB (!(decide (a=b))))
   |.lss=>some (true,gB (decide (a<b)))
   |.leq=>some (true,gB (decide (a≤b)))
   |.gtr=>some (true,gB (decide (b<a)))
   |.geq=>some (true,gB (decide (b≤a)))
   |_=>none
def UM (n m:Nat):Bool:=Nat.ble n (9223372036854775807-m)&&Nat.ble m 9223372036854775807
theorem RU {n m:Nat}:UM n m=true↔n+m≤9223372036854775807:=by
 unfold UM
 rw [Qf,Nat.ble_eq,Nat.ble_eq]
 omega
def Oh (op:BinOp) (a b:List UInt8):Option (Bool×Wd):=
 match op with
 |.add=>some (UM a.length b.length,Lu (a++b))
 |.eql=>some (true,gB (a==b))
 |.neq=>some (true,gB (!(a==b)))
 |.lss=>some (true,gB (Op.bytesLess a b))
 |.leq=>some (true,gB (Op.bytesLess a b||a==b))
 |.gtr=>some (true,gB (!(Op.bytesLess a b||a==b)))
 |.geq=>some (true,gB (!Op.bytesLess a b))
 |_=>none
def Ji (op:BinOp) (a b:Bool):Option (Bool×Wd):=
 match op with
 |.eql=>some (true,gB (a==b))
 |.neq=>some (true,gB (a != b))
 |_=>none
def abU (k:TK) (op:BinOp) (x y:Wd):Option (Bool×Wd):=
 match k,x,y with
 |.int _,⟨.int k,a⟩,⟨.int k',b⟩=>Og op k k' a b
 |.str,⟨.str,a⟩,⟨.str,b⟩=>Oh op a b
 |.bool,⟨.bool,a⟩,⟨.bool,b⟩=>Ji op a b
 |_,_,_=>none
def unT (op:UnOp) (x:Wd):Option Wd:=
 match op,x with
 |.neg,⟨.int k,n⟩=>some (gq k (k.wrap (ZF n)))
 |.not,⟨.bool,b⟩=>some (gB (!b))
 |_,_=>none
def YQ (k k':IntKind) (m n:Int):Option Bool:=
 match UJ k k' with
 |some _=>some (decide (m=n))
 |none=>none
def eqStr (a b:List UInt8):Option Bool:=some (a==b)
def abV (a b:Bool):Option Bool:=some (a==b)
def ZH (k:TK) (x y:Wd):Option Bool:=
 match k,x,y with
 |.int _,⟨.int a,m⟩,⟨.int b,n⟩=>YQ a b m n
 |.str,⟨.str,a⟩,⟨.str,b⟩=>eqStr a b
 |.bool,⟨.bool,a⟩,⟨.bool,b⟩=>abV a b
 |_,_,_=>none
def CB (tt:TT):Nat→List (Nat×TypeId)→List TW→List TW→Option Bool
 |_,[],[],[]=>some true
 |n,(off,t)::fs,.p _ _ x::xs,.p _ _ y::ys=>match tt t with
  |some i=>bif Nat.beq off n&&i.k.flat&&Nat.beq i.size 1 then match ZH i.k x y,CB tt (n+1) fs xs ys with
   |some b,some c=>some (b&&c)
   |_,_=>none
   else none
  |none=>none
 |_,_,_,_=>none
def nZ.lJ (c:Bool×Wd):nZ:=.calc c.1 c.2.t c.2.x
def UN:Wd→Value→Bool
 |⟨.int k,n⟩,.int k' n'=>(match UJ k k' with | some _=>true | none=>false)&&Wy n n'
 |⟨.bool,b⟩,.bool b'=>BEq.beq (α:=Bool) b b'
 |⟨.str,s⟩,.string s'=>List.isEmpty (α:=UInt8) s&&s'.data.toList.isEmpty
 |⟨.sl e,l⟩,.slice none 0 0=>List.isEmpty (α:=Dt e) l
 |_,_=>false
def pO:List Wd→List Value→Bool
 | [],[]=>true
 |w::ws,v::vs=>UN w v&&pO ws vs
 |_,_=>false
def YR (a i:Bool) (ws:List Wd):List TW:=ws.map (TW.p a i)
def Jj (tt:TT) (ety:TypeId→Option Ty) (d:Nat) (o:Nat→TO) (sT:TypeId) (s x:TW):Option nZ:=
 match tt sT with
 |some { k:=.slice e,.. }=>match tt e,ety e with
  |some ie,some et=>bif Nat.beq ie.bytes 0||!Nat.beq (size et) ie.size then none else match x.rows o et with
   |none=>none
   |some (new,a',i')=>
    let res (pre:Bool) (old:List (Dt et)) (a i:Bool) (kill:List (Nat×TO)):nZ:=
     { pre:=pre&&decide ((old.length+new.length)*ie.bytes≤140737488355328),t:=.sl et,val:=List.append old new,dst:=fun _=>.v (.one (.own d)),aA:=fun y=>kill++[(d,.arr false (a||a') (i||i') et y)],new:=[d] }
    match s with
    |.bM=>some (res true [] false false [])
    |.own g=>match o g with
     |.arr false a i e' l=>match (ql e' l).yt (.sl et) with
      |some l=>bif Nat.beq g d then none else some (res true l a i [(g,.none)])
      |none=>none
     |_=>none
    |.vw g lo hi=>match o g with
     |.arr false a i e' l=>match (ql e' (l.take hi.toNat)).yt (.sl et) with
      |some l=>bif Nat.beq g d then none else some (res (decide (lo=0)) l a i [(g,.none)])
      |none=>none
     |_=>none
    |_=>none
  |_,_=>none
 |_=>none
def y8 (e:Ty):Nat→List Wd→List (Dt e)
 |0,_=>[]
 |n+1,l=>iW e (l.take (size e))::y8 e n (l.drop (size e))
def Eo {α:Type} (l:List α):Nat→List α
 |0=>[]
 |n+1=>l++Eo l n
def PI (tt:TT) (o:Nat→TO) (t:TypeId) (x h m:TS):Option nZ:=
 match tt t,x,h,m with
 |some { k:=.slice e,.. },.v (.one (.own g)),.v (.one (.p _ _ ⟨.int .i64,h⟩)),.v (.one (.p _ _ ⟨.int .i64,m⟩))=>match tt e,o g with
  |some ie,.arr false _ _ e' l=>bif Nat.beq (size e') ie.size then some { pre:=Gn h m l.length,t:=.bool,val:=false,dst:=fun _=>.v (.one (.vw g 0 h)),aA:=fun _=>[],new:=[] } else none
  |_,_=>none
 |some { k:=.slice e,.. },.v (.one .bM),.v (.one (.p _ _ ⟨.int .i64,h⟩)),.v (.one (.p _ _ ⟨.int .i64,m⟩))=>match tt e with
  |some _=>some { pre:=Gn h m 0,t:=.bool,val:=false,dst:=fun _=>.v (.one .bM),aA:=fun _=>[],new:=[] }
  |none=>none
 |_,_,_,_=>none
def UO (tt:TT) (o:Nat→TO) (t:TypeId) (x:TS):Option nZ:=
 match tt t,x with
 |some { k:=.slice e,.. },.v (.one (.vw g lo hi))=>match tt e,o g with
  |some ie,.arr false a i et l=>bif Nat.beq (size et) ie.size&&Nat.blt 0 ie.size then match nT o (gW et) (ie.zero.map RP) with
   |some (ps,false,false,[])=>some { pre:=Nat.blt lo.toNat hi.toNat,t:=.sl et,val:=abT lo hi (iW et ps) l,dst:=fun _=>.no,aA:=fun y=>[(g,.arr false a i et y)],new:=[] }
   |_=>none
   else none
  |_,_=>none
 |_,_=>none
def b_ (tt:TT) (ety:TypeId→Option Ty) (d:Nat) (o:Nat→TO) (f:Operand→TS) (op:Op) (ty:TypeId):Option nZ:=
 match op with
 |.move x | .assign x=>match f x with
  |.no=>none
  |s=>some (.pure s)
 |.pick c x y=>match f c with
  |.v (.one (.p _ _ ⟨.bool,b⟩))=>match f x,f y with
   |.v (.one (.p a i w)),.v (.one (.p a' i' w'))=>match w'.yt w.t with
    |some z=>some { pre:=true,t:=w.t,val:=bif b then w.x else z,dst:=fun z=>.v (.one (.p (a||a') (i||i') ⟨w.t,z⟩)),aA:=fun _=>[],new:=[] }
    |none=>none
   |x,y=>match (bif b then x else y) with
    |.no=>none
    |s=>some (.pure s)
  |_=>none
 |.alloc t=>match tt t with
  |some i=>some { pre:=true,t:=.bool,val:=false,dst:=fun _=>.v (.one (.box d 0)),aA:=fun _=>[(d,.box (i.zero.map RP))],new:=[d] }
  |none=>none
 |.box t x=>match tt t,f x with
  |some i,.v x=>bif Nat.beq x.words.length i.size&&x.solid then some { pre:=true,t:=.bool,val:=false,dst:=fun _=>.v (.one (.box d 0)),aA:=fun _=>[(d,.box x.words)],new:=[d] } else none
  |_,_=>none
 |.build t parts=>match tt t with
  |some i=>bif i.known tt then match y7 (placeOf tt t) (i.zero.map RP) (parts.toList.map fun p=>(p.1,f p.2)) with
   |some ws=>some (.pure (.v (.agg ws)))
   |none=>none
   else none
  |none=>none
 |.buildSlice t n parts=>match tt t with
  |some { k:=.slice e,.. }=>match tt e,ety e with
   |some ie,some et=>match y7 (fun m=>if m<n then some (m*ie.size,ie.size) else none) (Eo (ie.zero.map RP) n) (parts.toList.map fun p=>(p.1,f p.2)) with
    |some ws=>match nT o (Eo (gW et) n) ws with
     |some (ps,a,i,gs)=>bif Nat.ble (n+n*ie.size) 16777216&&Nat.beq (size et) ie.size then
       some { pre:=true,t:=.sl et,val:=y8 et n ps,dst:=fun _=>.v (.one (.own d)),aA:=fun y=>gs.map (jG o)++[(d,.arr false a i et y)],new:=[d] } else none
     |none=>none
    |none=>none
   |_,_=>none
  |_=>none
 |.load t x=>match tt t,f x with
  |some i,.v (.one (.box g off))=>match o g with
   |.box ws=>bif Nat.ble (off+i.size) ws.length&&Nat.blt 0 i.size then some (.pure (TV.dN i.agg ((ws.drop off).take i.size))) else none
   |_=>none
  |some i,.v (.one (.ep g n off))=>match o g with
   |.arr _ a i' e l=>bif Nat.ble (off+i.size) (size e)&&Nat.blt 0 i.size&&pO (((dW e (dflt e)).drop off).take i.size) i.zero then
     some { pre:=true,t:=e,val:=l.getD n.toNat (dflt e),dst:=fun z=>TV.dN i.agg (YR a i' (((dW e z).drop off).take i.size)),aA:=fun _=>[],new:=[] } else none
   |_=>none
  |some i,.v (.one (.sp a i' e x off))=>bif Nat.blt 0 i.size&&Nat.ble (off+i.size) (size e) then
    some (.pure (TV.dN i.agg (YR a i' (((dW e x).drop off).take i.size)))) else none
  |_,_=>none
 |.store t x y=>match tt t,f x,f y with
  |some i,.v (.one (.box g off)),.v y=>match o g with
   |.box ws=>bif Nat.ble (off+i.size) ws.length&&Nat.beq y.words.length i.size&&y.solid then
     some { pre:=true,t:=.bool,val:=false,dst:=fun _=>.no,aA:=fun _=>[(g,.box (aF ws off y.words))],new:=[] } else none
   |_=>none
  |some i,.v (.one (.ep g n off)),.v y=>match o g with
   |.arr false a i' e l=>match nT o (((gW e).drop off).take i.size) y.words with
    |some (ps,a',Y7,gs)=>bif Nat.ble (off+i.size) (size e)&&Nat.beq y.words.length i.size&&y.solid&&!dM g gs then
     some { pre:=true,t:=.sl e,val:=List.set l n.toNat (Gl e (Nat.beq i.size (size e)) (l.getD n.toNat (dflt e)) off ps),dst:=fun _=>.no,aA:=fun z=>gs.map (jG o)++[(g,.arr false (a||a') (i'||Y7) e z)],new:=[] } else none
    |none=>none
   |_=>none
  |_,_,_=>none
 |.nilCheck x=>match f x with
  |.v (.one x)=>bif x.live o then some (.pure (.v (.one x))) else none
  |_=>none
 |.binOp op t x y _=>match f x,f y with
  |.v (.one (.p _ _ x)),.v (.one (.p _ _ y))=>match tt t with
   |some i=>match abU i.k op x y with
    |some c=>some (.lJ c)
    |none=>none
   |none=>none
  |.v (.agg xs),.v (.agg ys)=>match tt t with
   |some i=>match CB tt 0 i.k.parts xs ys,WG op with
    |some b,some true=>bif i.eq then some (.lJ (true,gB b)) else none
    |some b,some false=>bif i.eq then some (.lJ (true,gB (!b))) else none
    |_,_=>none
   |none=>none
  |_,_=>none
 |.unOp op _ x=>match f x with
  |.v (.one (.p _ _ x))=>match unT op x with
   |some c=>some (.lJ (true,c))
   |none=>none
  |_=>none
 |.convert s t x=>match tt s,tt t,f x with
  |some { k:=.int _,.. },some { k:=.int k,.. },.v (.one (.p _ _ ⟨.int _,x⟩))=>some (.calc true (.int k) (k.wrap x))
  |some { k:=.slice e,.. },some { k:=.str,.. },.v (.one x)=>match tt e with
   |some { k:=.int .u8,.. }=>match x.rows o (.int .u8) with
    |some (l,_,_)=>some (.calc true .str (strOf l))
    |none=>none
   |_=>none
  |some { k:=.str,.. },some { k:=.slice e,.. },.v (.one (.p _ _ ⟨.str,x⟩))=>match tt e with
   |some { k:=.int .u8,.. }=>some (.calc true (.sl (.int .u8)) (ZG x))
   |_=>none
  |_,_,_=>none
 |.makeSlice t n c=>match tt t,f n,f c with
  |some { k:=.slice e,.. },.v (.one (.p _ _ ⟨.int .i64,n⟩)),.v (.one (.p _ _ ⟨.int .i64,c⟩))=>match tt e,ety e with
   |some ie,some et=>match nT o (gW et) (ie.zero.map RP) with
    |some (ps,false,false,[])=>bif Nat.blt 0 ie.size&&Nat.beq (size et) ie.size then
     some { pre:=En ie.bytes n c,t:=.sl et,val:=List.replicate (Int.toNat n) (iW et ps),dst:=fun _=>.v (.one (.own d)),aA:=fun y=>[(d,.arr false false false et y)],new:=[d] } else none
    |_=>none
   |_,_=>none
  |_,_,_=>none
 |.slice t x lo hi none=>match tt t,f x with
  |some { k:=.slice e,.. },.v (.one x)=>match tt e,ety e,LC o x with
   |some ie,some et,some len=>match jH 0 (lo.map f),jH len (hi.map f) with
    |some lo,some hi=>match x with
     |.own g=>match Gm o g with
      |some (e',l)=>bif Nat.beq (size e') ie.size then
        some { pre:=Gn lo hi l,t:=.bool,val:=false,dst:=fun _=>.v (.one (.vw g lo hi)),aA:=fun _=>[],new:=[] } else none
      |none=>none
     |.p a i w=>match w.yt (.sl et) with
      |some l=>bif Nat.beq (size et) ie.size then some { pre:=Gn lo hi (List.length (α:=Dt et) l),t:=.sl et,val:=List.drop lo.toNat (List.take (α:=Dt et) hi.toNat l),dst:=fun z=>.v (.one (.p a i ⟨.sl et,z⟩)),aA:=fun _=>[],new:=[] } else none
      |none=>none
     |.bM=>some { pre:=decide (lo=0)&&decide (hi=0),t:=.bool,val:=false,dst:=fun _=>.v (.one .bM),aA:=fun _=>[],new:=[] }
     |_=>none
    |_,_=>none
   |_,_,_=>none
  |some { k:=.str,.. },.v (.one (.p _ _ ⟨.str,y⟩))=>match jH 0 (lo.map f),jH (List.length (α:=UInt8) y) (hi.map f) with
   |some lo,some hi=>some (.calc (Gn lo hi (List.length (α:=UInt8) y)) .str (List.drop lo.toNat (List.take (α:=UInt8) hi.toNat y)))
   |_,_=>none
  |_,_=>none
 |.slice t x none (some hi) (some mx)=>PI tt o t (f x) (f hi) (f mx)
 |.fieldAddr t x n=>match tt t,placeOf tt t n,f x with
  |some { k:=.struct _,.. },some (off',sz'),.v (.one x)=>bif Nat.blt 0 sz'&&x.live o then some (.pure (.v (.one (x.shift off')))) else none
  |_,_,_=>none
 |.field t x n=>match tt t,f x with
  |some { k:=.struct fs,.. },.v (.agg ws)=>match fs[n]? with
   |some (off,u)=>match tt u with
    |some iu=>bif Nat.ble (off+iu.size) ws.length&&Nat.blt 0 iu.size then some (.pure (TV.dN iu.agg ((ws.drop off).take iu.size))) else none
    |none=>none
   |none=>none
  |_,_=>none
 |.indexAddr t x ix=>match tt t,f x,f ix with
  |some { k:=.slice e,.. },.v (.one x),.v (.one (.p _ _ ⟨.int _,n⟩))=>match tt e,ety e,x with
   |some ie,some et,.own g=>match Gm o g with
    |some (e',l)=>bif Nat.beq (size e') ie.size then
      some { pre:=inB n l,t:=.bool,val:=false,dst:=fun _=>.v (.one (.ep g (Int.toNat n:Nat) 0)),aA:=fun _=>[],new:=[] } else none
    |none=>none
   |some ie,some et,.vw g lo hi=>match Gm o g with
    |some (e',_)=>bif Nat.beq (size e') ie.size then
      some { pre:=inB n (hi.toNat-lo.toNat),t:=.bool,val:=false,dst:=fun _=>.v (.one (.ep g (lo.toNat+Int.toNat n:Nat) 0)),aA:=fun _=>[],new:=[] } else none
    |none=>none
   |some ie,some et,.p a i w=>match w.yt (.sl et) with
    |some l=>bif Nat.beq (size et) ie.size then some { pre:=inB n (List.length (α:=Dt et) l),t:=et,val:=List.getD (α:=Dt et) l (Int.toNat n) (dflt et),dst:=fun z=>.v (.one (.sp a i et z 0)),aA:=fun _=>[],new:=[] } else none
    |none=>none
   |_,_,_=>none
  |some { k:=.arr m e,.. },.v (.one (.gl g)),.v (.one (.p _ _ ⟨.int _,n⟩))=>match tt e,RE.G g with
   |some ie,some ⟨et,l⟩=>bif Nat.beq (size et) ie.size&&Nat.beq (List.length (α:=Dt et) l) m then some { pre:=inB n m,t:=et,val:=List.getD (α:=Dt et) l (Int.toNat n) (dflt et),dst:=fun z=>.v (.one (.sp false false et z 0)),aA:=fun _=>[],new:=[] } else none
   |_,_=>none
  |some { k:=.arr m e,.. },.v (.one x),.v (.one (.p _ _ ⟨.int _,n⟩))=>match tt e with
   |some ie=>bif inB n m&&x.live o then some (.pure (.v (.one (x.shift (Int.toNat n*ie.size))))) else none
   |none=>none
  |_,_,_=>none
 |.index t x ix=>match tt t,f x,f ix with
  |some { k:=.str,.. },.v (.one (.p _ _ ⟨.str,s⟩)),.v (.one (.p _ _ ⟨.int _,n⟩))=>
    some (.calc (inB n (List.length (α:=UInt8) s)) (.int .u8) ((List.getD (α:=UInt8) s (Int.toNat n) 0).toNat:Int))
  |_,_,_=>none
 |.range t x=>match tt t,f x with
  |some { k:=.str,.. },.v (.one (.p _ _ ⟨.str,s⟩))=>some { pre:=true,t:=.str,val:=s,dst:=fun _=>.v (.one (.kH d)),aA:=fun z=>[(d,.it z 0)],new:=[d] }
  |_,_=>none
 |.extract t n=>match f t with
  |.jK xs=>match xs[n]? with
   |some x=>some (.pure (.v x))
   |none=>none
  |_=>none
 |.makeFunc (.func g) first caps=>bif Nat.beq first.size 0 then
   match caps.toList.mapM (fun x=>match f x with | .v (.one w)=>some w | _=>none) with
   |some ws=>some (.pure (.v (.one (.clo g ws))))
   |none=>none
   else none
 |.call { callee:=.builtin .len,args,argTypes }=>match args.toList,argTypes.toList with
  | [x],[t]=>match tt t,f x with
   |some { k:=.slice _,.. },.v (.one x)=>match LC o x with
    |some n=>some (.calc true (.int .i64) n)
    |none=>none
   |some { k:=.str,.. },.v (.one (.p _ _ ⟨.str,s⟩))=>some (.calc true (.int .i64) (List.length (α:=UInt8) s:Int))
   |_,_=>none
  |_,_=>none
 |.call { callee:=.builtin .append,args,argTypes }=>match args.toList,argTypes.toList with
  | [s,x],sT::xT::_=>match tt xT,f s,f x with
   |some { k:=.slice _,.. },.v (.one s),.v (.one x)=>Jj tt ety d o sT s x
   |_,_,_=>none
  |_,_=>none
 |.call { callee:=.builtin .clear,args,argTypes }=>match args.toList,argTypes.toList with
  | [x],t::_=>UO tt o t (f x)
  |_,_=>none
 |.call { callee:=.builtin .min,args,.. }=>match args.toList with
  | [x,y]=>match f x,f y with
   |.v (.one (.p _ _ ⟨.int k,x⟩)),.v (.one (.p _ _ ⟨.int _,y⟩))=>some (.calc true (.int k) (UL x y))
   |_,_=>none
  | [x,y,z]=>match f x,f y,f z with
   |.v (.one (.p _ _ ⟨.int k,x⟩)),.v (.one (.p _ _ ⟨.int _,y⟩)),.v (.one (.p _ _ ⟨.int _,z⟩))=>some (.calc true (.int k) (UL (UL x y) z))
   |_,_,_=>none
  |_=>none
 |.call { callee:=.builtin .max,args,.. }=>match args.toList with
  | [x,y]=>match f x,f y with
   |.v (.one (.p _ _ ⟨.int k,x⟩)),.v (.one (.p _ _ ⟨.int _,y⟩))=>some (.calc true (.int k) (RS x y))
   |_,_=>none
  | [x,y,z]=>match f x,f y,f z with
   |.v (.one (.p _ _ ⟨.int k,x⟩)),.v (.one (.p _ _ ⟨.int _,y⟩)),.v (.one (.p _ _ ⟨.int _,z⟩))=>some (.calc true (.int k) (RS (RS x y) z))
   |_,_,_=>none
  |_=>none
 |_=>none
end
end Go.Fg

namespace Go.Fg
open Go.Fw
section
variable [RE] {o:Nat→TO} {tt:TT} {ety:TypeId→Option Ty}
theorem dQ (e:Ty) (l:List (Dt e)):(aB e l).length=l.length:=by simp [aB]
theorem oN (e:Ty) (l:List (Dt e)) (lo hi:Int):((aB e l).take (P.nat (.int .i64 hi))).drop (P.nat (.int .i64 lo))=aB e ((l.take hi.toNat).drop lo.toNat):=by
 simp [aB,P.nat,P.num,Wm,W8]
theorem mW (e:Ty) (l:List (Dt e)) (hi:Int):(aB e l).take (P.nat (.int .i64 hi))=aB e (l.take hi.toNat):=by
 simp [aB,P.nat,P.num,Wm]
theorem fB {g:Nat} {fz a i:Bool} {e:Ty} {l:List (Dt e)} (h:o g=.arr fz a i e l):aZ o g=.arr fz a i (size e) (aB e l):=by simp [aZ,h,cu]
theorem lK {g:Nat} {ws:List TW} (h:o g=.box ws):aZ o g=.box (ws.map bf):=by simp [aZ,h,cu]
theorem lZ {g n:Nat} {e:Ty} (h:Gm o g=some (e,n)):(aZ o g).dim=some (size e,n):=by
 unfold Gm at h
 unfold aZ
 cases ho:o g with
 |arr fz a i e l=>rw [ho] at h;cases h;simp [cu,O.dim,aB]
 |ay a i e ak l hole=>rw [ho] at h;cases h;simp [cu,O.dim,aB]
 |_=>rw [ho] at h;cases h
theorem um {a b:Ty} (h:ZE a b=true):a=b:=by
 unfold ZE at h
 split at h
 ·rename_i p _;exact p.down
 ·cases h
theorem Ae {c:Nat} :∀{ak:List (Nat×Ty)} {t:Ty},qm c ak=some t→(fM ak).lookup c=some (size t)
 | [],t,h=>by cases h
 |(k,u)::r,t,h=>by
  simp only [qm] at h
  simp only [fM,Qt,List.lookup]
  by_cases e:c=k
  ·subst e
   have:Nat.beq c c=true:=by simp
   rw [this] at h
   simp only [cond_true,Q0] at h;subst h
   simp
  ·have e1:Nat.beq c k=false:=by cases hb:Nat.beq c k with | false=>rfl | true=>exact absurd (Q4 hb) e
   have e2:(c==k)=false:=by simpa using e
   rw [e1] at h
   rw [e2]
   exact Ae h
theorem Ep {c:Nat} :∀{ak:List (Nat×Ty)},qm c ak=none→(fM ak).lookup c=none
 | [],h=>rfl
 |(k,u)::r,h=>by
  simp only [qm] at h
  simp only [fM,Qt,List.lookup]
  by_cases e:c=k
  ·subst e
   have:Nat.beq c c=true:=by simp
   rw [this] at h;cases h
  ·have e1:Nat.beq c k=false:=by cases hb:Nat.beq c k with | false=>rfl | true=>exact absurd (Q4 hb) e
   have e2:(c==k)=false:=by simpa using e
   rw [e1] at h
   rw [e2]
   exact Ep h
theorem qo {e e':Ty} {ak:List (Nat×Ty)} {c:Nat} (h:RQ e ak c e'=true):(fM ak).lookup c=some (size e')∧(gW e)[c]?=some (.sl e')∧c<size e:=by
 simp only [RQ,Qf] at h
 obtain ⟨h1,h2⟩:=h
 have k1:qm c ak=some e':=by
  split at h1
  ·rename_i t ht;rw [ht,um h1]
  ·cases h1
 have k2:(gW e)[c]?=some (.sl e'):=by
  split at h2
  ·rename_i t ht;rw [ht,um h2]
  ·cases h2
 exact ⟨Ae k1,k2,by have:=(Q3.1 k2).1;rwa [iL] at this⟩
theorem wL {α β:Type} (f:α→β) (l:List α) (off:Nat) (new:List α):(aF l off new).map f=aF (l.map f) off (new.map f):=by
 simp [aF,Wm,W8]
theorem UQ {e:Ty} {x:Dt e} {off:Nat} {ps:List Wd} (hty:ps.map (·.t)=((gW e).drop off).take ps.length) (hlt:off+ps.length≤size e):jr e (Gl e (Nat.beq ps.length (size e)) x off ps)=aF (jr e x) off (ps.map bQ):=by
 have hty':(aF (dW e x) off ps).map (·.t)=gW e:=by
  have e0:gW e=(gW e).take off++(((gW e).drop off).take ps.length++(gW e).drop (off+ps.length)):=by
   rw [←List.drop_drop,Uq,Uq]
  simp only [aF,XS,Wm,W8,qj,hty,W6]
  exact e0.symm
 unfold Gl
 cases hc:Nat.beq ps.length (size e) with
 |true=>
  have hc:=Q4 hc
  have h0:off=0:=by omega
  subst h0
  have e2:aF (dW e x) 0 ps=ps:=by
   simp only [aF,List.take_zero,K8,Wb]
   rw [List.drop_of_length_le (by rw [ny];omega),Kj]
  have e3:aF (jr e x) 0 (ps.map bQ)=ps.map bQ:=by rw [fA,←wL,e2]
  rw [e2] at hty'
  rw [e3]
  exact oM hty'
 |false=>
  simp only
  rw [oM hty',wL,←fA]
theorem BK {e:Ty} {l:List (Dt e)} {n off:Nat} {ps:List Wd} (hty:ps.map (·.t)=((gW e).drop off).take ps.length) (hlt:off+ps.length≤size e) :
  aB e (List.set l n (Gl e (Nat.beq ps.length (size e)) (l.getD n (dflt e)) off ps))=(aB e l).set n (aF ((aB e l).getD n []) off (ps.map bQ)):=by
 have e0 :∀x,aB e (List.set l n x)=(aB e l).set n (jr e x):=fun x=>by simp [aB,List.map_set]
 rw [e0]
 by_cases hn:n<l.length
 ·have e1:(aB e l).getD n []=jr e (l.getD n (dflt e)):=by simp [aB,Q6,hn]
  rw [e1,UQ hty hlt]
 ·have e1 :∀z,(aB e l).set n z=aB e l:=fun z=>List.set_eq_of_length_le (by rw [dQ];omega)
  rw [e1,e1]
theorem xG {e e':Ty} {l:List (Dt e)} {n c:Nat} {l':List (Dt e')} (hc:(gW e)[c]?=some (.sl e')):aB e (putRow e l n c (ql e' l'))=gV (aB e l) n c (P.eG (size e') (aB e' l')):=by
 have hlt:c<size e:=by have:=(Q3.1 hc).1;rwa [iL] at this
 have:=BK (e:=e) (l:=l) (n:=n) (off:=c) (ps:=[ql e' l']) (by
  show [Ty.sl e']=((gW e).drop c).take 1
  have hlt':c<(gW e).length:=by rw [iL];exact hlt
  rw [List.drop_eq_getElem_cons hlt']
  rw [Q2 hlt'] at hc
  simp only [Q0] at hc
  rw [hc];rfl) (by simp only [List.length_singleton];omega)
 exact this
theorem lM {g:Nat} {a i:Bool} {e:Ty} {l:List (Dt e)} (h:kR o g=some ⟨a,i,e,l⟩):plainO (aZ o) g=some (a,i,size e,aB e l)∧(aZ o g).names=gu (o g):=by
 unfold kR at h
 cases ho:o g with
 |arr fz a' i' e' l'=>
  rw [ho] at h;cases h
  have:=fB ho
  exact ⟨by simp [plainO,this],by rw [this];rfl⟩
 |ay a0 i0 e0 ak l0 hole=>
  rw [ho] at h
  have hg:aZ o g=.ay a0 i0 (size e0) (fM ak) (aB e0 l0) hole:=by simp [aZ,ho,cu]
  rcases hole with _ | ⟨n,c,d⟩
  ·cases h
   exact ⟨by simp [plainO,hg],by rw [hg];rfl⟩
  ·simp only at h
   cases hd:o d with
   |arr fz a' i' e' l'=>
    rw [hd] at h
    simp only at h
    split at h
    ·rename_i hc
     cases h
     obtain ⟨k1,k2,k3⟩:=qo hc
     refine ⟨?_,by rw [hg];rfl⟩
     simp only [plainO,hg,fB hd]
     rw [if_pos ⟨k1,k3⟩,xG k2]
    ·cases h
   |_=>rw [hd] at h;cases h
 |_=>rw [ho] at h;cases h
theorem lN {e:Ty} {l:List (Dt e)} {t:Ty} {x:Dt t} (h:(ql e l).yt t=some x) :∃h:Ty.sl e=t,x=h▸l:=by
 have:=eU h
 unfold ql at this
 cases this
 exact ⟨rfl,rfl⟩
theorem Jk {t:Ty} {x:TW} {y:Dt t} {a i:Bool} {gs:List Nat} (h:x.toP o t=some (y,a,i,gs)):(bf x).toP (aZ o)=some (bQ ⟨t,y⟩,a,i,gs):=by
 cases x with
 |p a' i' w=>
  simp only [TW.toP] at h
  split at h
  ·rename_i x hx
   simp only [Q0,Q1] at h
   obtain ⟨rfl,rfl,rfl,rfl⟩:=h
   rw [eU hx];rfl
  ·cases h
 |bM=>
  simp only [TW.toP] at h
  split at h
  ·simp only [Q0,Q1] at h
   obtain ⟨rfl,rfl,rfl,rfl⟩:=h
   rfl
  ·cases h
 |own g=>
  simp only [TW.toP] at h
  split at h
  ·rename_i a' i' e l hg
   split at h
   ·rename_i z hz
    simp only [Q0,Q1] at h
    obtain ⟨rfl,rfl,rfl,rfl⟩:=h
    rw [←eU hz]
    obtain ⟨k1,k2⟩:=lM hg
    simp only [bf,W.toP,k1,k2];rfl
   ·cases h
  ·cases h
 |vw g lo hi=>
  simp only [TW.toP] at h
  split at h
  ·rename_i a' i' e l hg
   split at h
   ·rename_i z hz
    simp only [Q0,Q1] at h
    obtain ⟨rfl,rfl,rfl,rfl⟩:=h
    rw [←eU hz]
    obtain ⟨k1,k2⟩:=lM hg
    simp only [bf,W.toP,k1,k2,oN];rfl
   ·cases h
  ·cases h
 |_=>simp [TW.toP] at h
theorem uq :∀{ts:List Ty} {xs:List TW} {ys:List Wd} {a i:Bool} {gs:List Nat},nT o ts xs=some (ys,a,i,gs)→oV (aZ o) (xs.map bf)=some (ys.map bQ,a,i,gs)∧ys.map (·.t)=ts
 | [],[],ys,a,i,gs,h=>by
  simp only [nT,Q0,Q1] at h
  obtain ⟨rfl,rfl,rfl,rfl⟩:=h
  exact ⟨rfl,rfl⟩
 | [],x::xs,ys,a,i,gs,h=>by simp [nT] at h
 |t::ts,[],ys,a,i,gs,h=>by simp [nT] at h
 |t::ts,x::xs,ys,a,i,gs,h=>by
  simp only [nT] at h
  split at h
  ·rename_i h1 h2
   simp only [Q0,Q1] at h
   obtain ⟨rfl,rfl,rfl,rfl⟩:=h
   obtain ⟨k1,k2⟩:=uq h2
   refine ⟨?_,by simp only [Qt,k2]⟩
   simp only [Qt,oV,Jk h1,k1]
  ·cases h
def fH (l:List (Nat×TO)):List (Nat×O):=l.map fun p=>(p.1,cu p.2)
def Pl (o:Nat→TO) (gs:List Nat):Prop :=∀g∈gs,∃p,kR o g=some p
theorem Pl.append {a b:List Nat} (h:Pl o a) (h':Pl o b):Pl o (a++b):=fun g hg=>by
 rcases Z1.1 hg with x | x
 ·exact h g x
 ·exact h' g x
theorem Pl.nil:Pl o []:=fun g hg=>by cases hg
theorem Ho {g:Nat} {p:TA} (h:kR o g=some p):Pl o (gu (o g)++[g]):=by
 refine Pl.append (fun d hd => ?_) (fun g' hg'=>by rw [ZZ] at hg';subst hg';exact ⟨p,h⟩)
 unfold kR at h
 cases ho:o g with
 |ay a i e ak l hole=>
  rw [ho] at h hd
  rcases hole with _ | ⟨n,c,d'⟩
  ·cases hd
  ·simp only [gu,ZZ] at hd
   subst hd
   simp only at h
   cases hod:o d with
   |arr fz a' i' e' l'=>exact ⟨⟨a',i',e',l'⟩,by simp only [kR,hod]⟩
   |_=>rw [hod] at h;cases h
 |_=>rw [ho] at hd;cases hd
theorem Oi {t:Ty} {x:TW} {y:Dt t} {a i:Bool} {gs:List Nat} (h:x.toP o t=some (y,a,i,gs)):Pl o gs:=by
 cases x with
 |p a' i' w=>
  simp only [TW.toP] at h
  split at h
  ·simp only [Q0,Q1] at h;obtain ⟨_,_,_,rfl⟩:=h;exact Pl.nil
  ·cases h
 |bM=>
  simp only [TW.toP] at h
  split at h
  ·simp only [Q0,Q1] at h;obtain ⟨_,_,_,rfl⟩:=h;exact Pl.nil
  ·cases h
 |own g=>
  simp only [TW.toP] at h
  split at h
  ·rename_i hg
   split at h
   ·simp only [Q0,Q1] at h;obtain ⟨_,_,_,rfl⟩:=h;exact Ho hg
   ·cases h
  ·cases h
 |vw g lo hi=>
  simp only [TW.toP] at h
  split at h
  ·rename_i hg
   split at h
   ·simp only [Q0,Q1] at h;obtain ⟨_,_,_,rfl⟩:=h;exact Ho hg
   ·cases h
  ·cases h
 |_=>simp [TW.toP] at h
theorem Jl :∀{ts:List Ty} {xs:List TW} {ys:List Wd} {a i:Bool} {gs:List Nat},nT o ts xs=some (ys,a,i,gs)→Pl o gs
 | [],[],ys,a,i,gs,h=>by simp only [nT,Q0,Q1] at h;obtain ⟨_,_,_,rfl⟩:=h;exact Pl.nil
 | [],x::xs,ys,a,i,gs,h=>by simp [nT] at h
 |t::ts,[],ys,a,i,gs,h=>by simp [nT] at h
 |t::ts,x::xs,ys,a,i,gs,h=>by
  simp only [nT] at h
  split at h
  ·rename_i h1 h2
   simp only [Q0,Q1] at h
   obtain ⟨_,_,_,rfl⟩:=h
   exact (Oi h1).append (Jl h2)
  ·cases h
theorem Es {g:Nat} (h :∃p,kR o g=some p):Fw.aH (aZ o) g=((jG o g).1,cu (jG o g).2):=by
 obtain ⟨⟨a,i,e,l⟩,hp⟩:=h
 simp only [Fw.aH,jG,hp,(lM hp).1];rfl
theorem l7 {gs:List Nat} (h:Pl o gs):gs.map (Fw.aH (aZ o))=fH (gs.map (jG o)):=by
 simp only [fH,WK]
 exact Z0 fun g hg=>Es (h g hg)
theorem qp (x:TV):(iF x).words=x.words.map bf:=by cases x<;>rfl
theorem qw (x:TV) (h:x.solid=true):(iF x).solid=true:=by
 cases x with
 |one x=>cases x<;>first | rfl | (simp [TV.solid,TW.solid] at h)
 |agg xs=>rfl
theorem jv (agg:Bool) (ws:List TW):aP (TV.dN agg ws)=V.dN agg (ws.map bf):=by
 cases agg with
 |true=>rfl
 |false=>
  match ws with
  | []=>rfl
  | [x]=>rfl
  |x::y::ws=>rfl
theorem mX {α β:Type} (f:α→β) (l:List α) (off:Nat) (new:List α):(aF l off new).map f=aF (l.map f) off (new.map f):=by
 simp [aF,Wm,W8]
theorem y9 {place:Nat→Option (Nat×Nat)} :∀{ps:List (Nat×TS)} {ws r:List TW},y7 place ws ps=some r→jO place (ws.map bf) (ps.map fun p=>(p.1,aP p.2))=some (r.map bf)
 | [],ws,r,h=>by simp only [y7,Q0] at h;subst h;rfl
 |(n,.v x)::ps,ws,r,h=>by
  simp only [y7] at h
  split at h
  ·rename_i off size hp
   cases hb:(Nat.beq x.words.length size&&Nat.ble (off+size) ws.length&&x.solid) with
   |false=>rw [hb] at h;cases h
   |true=>
    rw [hb,cond_true] at h
    simp only [Qf] at hb
    have h1:=Q4 hb.1.1
    have h2:=Z6 hb.1.2
    have ih:=y9 h
    rw [mX] at ih
    simp only [Qt,aP,jO,hp,qp,W0]
    rw [if_pos ⟨h1,h2,qw x hb.2⟩]
    exact ih
  ·cases h
 |(n,.jK xs)::ps,ws,r,h=>by simp [y7] at h
 |(n,.no)::ps,ws,r,h=>by simp [y7] at h
theorem W_ (sz:Nat) (l:List (List P)):(P.eG sz l).Ns sz:=by cases l<;>simp [P.eG,P.Ns]
theorem Et (e:Ty) (l:List (Dt e)):(bQ ⟨.sl e,l⟩).Ns (size e):=W_ _ _
theorem LD {e:Ty} {x:TW} {l:List (Dt e)} {a i:Bool} (h:x.rows o e=some (l,a,i)) :∃ask,(bf x).rows (aZ o) (size e)=some (ask,aB e l,a,i)∧ask:=by
 cases x with
 |p a' i' w=>
  simp only [TW.rows] at h
  split at h
  ·rename_i y hy
   simp only [Q0,Q1] at h
   obtain ⟨rfl,rfl,rfl⟩:=h
   rw [eU hy]
   exact ⟨(bQ ⟨.sl e,l⟩).Ns (size e),by simp only [bf,W.rows,jF],Et _ _⟩
  ·cases h
 |bM=>
  simp only [TW.rows,Q0,Q1] at h
  obtain ⟨rfl,rfl,rfl⟩:=h
  exact ⟨_,rfl,trivial⟩
 |own g=>
  simp only [TW.rows] at h
  split at h
  ·rename_i fz a' i' e' l' hg
   split at h
   ·rename_i z hz
    simp only [Q0,Q1] at h
    obtain ⟨rfl,rfl,rfl⟩:=h
    obtain ⟨he,hz⟩:=lN hz
    cases he
    subst hz
    exact ⟨True,by simp only [bf,W.rows,fB hg,if_true],trivial⟩
   ·cases h
  ·cases h
 |vw g lo hi=>
  simp only [TW.rows] at h
  split at h
  ·rename_i fz a' i' e' l' hg
   split at h
   ·rename_i z hz
    simp only [Q0,Q1] at h
    obtain ⟨rfl,rfl,rfl⟩:=h
    obtain ⟨he,hz⟩:=lN hz
    cases he
    subst hz
    exact ⟨True,by simp only [bf,W.rows,fB hg,if_true,oN],trivial⟩
   ·cases h
  ·cases h
 |_=>simp [TW.rows] at h
theorem Oj (sz:Nat) (l:List (List P)):(P.eG sz l).isSlice:=by cases l<;>simp [P.eG,P.isSlice]
theorem ZI (sz:Nat) (l:List (List P)):(P.eG sz l).len=.int .i64 l.length:=by cases l<;>rfl
theorem Xa (e:Ty) (l:List (Dt e)):(bQ ⟨.sl e,l⟩).len=.int .i64 l.length:=by rw [Jh,ZI,dQ]
theorem PK {x:TW} {n:Int} (h:LC o x=some n) :∃ask,lenOf (aZ o) (bf x)=some (ask,.int .i64 n)∧ask:=by
 cases x with
 |p a i w=>
  obtain ⟨t,x⟩:=w
  cases t<;>simp only [LC] at h<;>try (cases h;done)
  rename_i e
  simp only [Q0] at h;subst h
  refine ⟨(bQ ⟨.sl e,x⟩).isSlice,?_,Oj _ _⟩
  have e1:(bQ ⟨.sl e,x⟩).len=.int .i64 (List.length (α:=Dt e) x):=Xa e x
  simp only [bf,lenOf]
  rw [e1]
 |bM=>simp only [LC,Q0] at h;subst h;exact ⟨_,rfl,trivial⟩
 |own g=>
  simp only [LC] at h
  split at h
  ·rename_i hg
   simp only [Q0] at h;subst h
   exact ⟨True,by simp only [bf,lenOf,lZ hg],trivial⟩
  ·cases h
 |vw g lo hi=>
  simp only [LC] at h
  split at h
  ·rename_i hg
   simp only [Q0] at h;subst h
   rename_i x
   obtain ⟨e,n⟩:=x
   exact ⟨True,by simp only [bf,lenOf,lZ hg,P.nat,P.num],trivial⟩
  ·cases h
 |_=>simp [LC] at h
theorem Eu {x:TW} (h:x.live o=true):(bf x).live (aZ o)=true:=by
 cases x with
 |box g off=>
  simp only [TW.live] at h
  split at h
  ·rename_i hg;simp only [bf,W.live,lK hg]
  ·cases h
 |ep g n off=>
  simp only [TW.live] at h
  split at h
  ·rename_i x hg
   obtain ⟨e,n⟩:=x
   simp only [bf,W.live,lZ hg];rfl
  ·cases h
 |sp=>rfl
 |_=>simp [TW.live] at h
theorem Hq (n:Nat) (x:TW):bf (x.shift n)=(bf x).shift n:=by cases x<;>simp [TW.shift,bf,W.shift]
theorem UR (v:Value):bf (RP v)=cv v:=by
 unfold RP
 split
 ·rfl
 ·rfl
 ·rfl
 ·rfl
 ·rename_i x h1 h2 h3 h4
  show W.p false false (P.opq v)=cv v
  unfold cv
  split
  ·exact (h1 _ _ rfl).elim
  ·exact (h2 _ rfl).elim
  ·exact (h3 _ rfl).elim
  ·exact (h4 rfl).elim
  ·rfl
theorem oO (l:List Value):(l.map RP).map bf=l.map cv:=by
 rw [WK];exact Z0 fun v _=>UR v
theorem RV (v:Value):aP (Oe v)=qL v:=by
 unfold Oe
 split
 ·rename_i cs
  unfold qL
  have e:(cs.toList.map RP).map bf=cs.toList.map cv:=oO _
  cases h:cs.toList.all Value.oneCell'
  ·simp only [h,cond_false,Zs,if_false];rfl
  ·simp only [h,cond_true,if_true,aP,iF,e]
 ·rfl
 ·simp only [aP,iF,bf,kQ];rfl
 ·rename_i x h1 h2 h3
  have e:qL v=if v.oneCell'=true then .v (.one (cv v)) else .no:=by
   unfold qL
   split
   ·exact (h1 _ rfl).elim
   ·exact (h2 _ rfl).elim
   ·exact (h3 _ rfl).elim
   ·rfl
  rw [e]
  cases h:v.oneCell'
  ·simp only [cond_false,Zs,if_false];rfl
  ·simp only [cond_true,if_true,aP,iF,UR]
theorem jw (st:gU) (x:Operand):(aI st).bC x=aP (st.bC x):=by
 cases x with
 |tmp t=>rfl
 |const v=>exact (RV v).symm
 |func f=>simp [St.bC,gU.bC,aP,iF,bf,kQ]
 |global g=>
  simp only [Fw.St.bC,gU.bC,YP]
  cases RE.G g<;>rfl
end
end Go.Fg

namespace Go.Fg
open Go.Fw
section
variable [RE] {o:Nat→TO} {tt:TT} {ety:TypeId→Option Ty} {d:Nat} {f:Operand→TS} {ty:TypeId}
structure dR (r:nZ) (r':zJ):Prop where
 pre:r.pre=true→r'.pre
 dst:r'.dst r'.val=aP (r.dst r.val)
 aA:r'.aA r'.val=fH (r.aA r.val)
 new:r'.new=r.new
def eX (tt:TT) (ety:TypeId→Option Ty) (d:Nat) (o:Nat→TO) (f:Operand→TS) (op:Op) (ty:TypeId):Prop:=
 ∀r,b_ tt ety d o f op ty=some r→∃r',kernel tt d (aZ o) (fun x=>aP (f x)) op ty=some r'∧dR r r'
def abW (r:nZ) (r':zJ):Prop:=(r.pre=true→dR r r')∧r'.new=r.new
theorem dR.toC {r:nZ} {r':zJ} (h:dR r r'):abW r r':=⟨fun _=>h,h.new⟩
def UU (tt:TT) (ety:TypeId→Option Ty) (d:Nat) (o:Nat→TO) (f:Operand→TS) (op:Op) (ty:TypeId):Prop:=
 ∀r,b_ tt ety d o f op ty=some r→∃r',kernel tt d (aZ o) (fun x=>aP (f x)) op ty=some r'∧abW r r'
theorem eX.toC {tt:TT} {ety:TypeId→Option Ty} {d:Nat} {o:Nat→TO} {f:Operand→TS} {op:Op} {ty:TypeId} (h:eX tt ety d o f op ty):UU tt ety d o f op ty:=fun r hr=>
 let ⟨r',h1,h2⟩:=h r hr
 ⟨r',h1,h2.toC⟩
theorem dR.pure (x:TS):dR (.pure x) (.pure (aP x)):=⟨fun _=>trivial,rfl,rfl,rfl⟩
theorem Jm {x:TS} (h:aP x=.no):x=.no:=by cases x<;>first | rfl | cases h
theorem Xb (x:Operand):eX tt ety d o f (.move x) ty:=by
 intro r h
 simp only [b_] at h
 split at h
 ·cases h
 ·rename_i s hs
  simp only [Q0] at h;subst h
  refine ⟨.pure (aP (f x)),?_,dR.pure _⟩
  simp only [kernel]
  split
  ·rename_i e;exact (hs (Jm e)).elim
  ·rfl
theorem RX (x:Operand):eX tt ety d o f (.assign x) ty:=by
 intro r h
 simp only [b_] at h
 split at h
 ·cases h
 ·rename_i s hs
  simp only [Q0] at h;subst h
  refine ⟨.pure (aP (f x)),?_,dR.pure _⟩
  simp only [kernel]
  split
  ·rename_i e;exact (hs (Jm e)).elim
  ·rfl
theorem UW {x:TS} {a i:Bool} {y:P} (h:aP x=.v (.one (.p a i y))) :∃w,x=.v (.one (.p a i w))∧bQ w=y:=by
 cases x with
 |v x=>cases x with
  |one x=>cases x<;>simp [aP,iF,bf] at h<;>exact ⟨_,by rw [h.1,h.2.1],h.2.2⟩
  |agg xs=>cases h
 |_=>cases h
theorem Xc (c x y:Operand):eX tt ety d o f (.pick c x y) ty:=by
 intro r h
 simp only [b_] at h
 split at h
 ·rename_i a0 i0 b hc
  change Bool at b
  have hc':aP (f c)=.v (.one (.p a0 i0 (.bool b))):=by rw [hc];rfl
  split at h
  ·rename_i a i w a' i' w' hx hy
   split at h
   ·rename_i z hz
    simp only [Q0] at h;subst h
    have hx':aP (f x)=.v (.one (.p a i (bQ w))):=by rw [hx];rfl
    have hy':aP (f y)=.v (.one (.p a' i' (bQ w'))):=by rw [hy];rfl
    simp only [kernel,hc',hx',hy']
    refine ⟨_,rfl,⟨fun _=>trivial,?_,rfl,rfl⟩⟩
    have e:=eU hz
    rw [e]
    cases b<;>rfl
   ·cases h
  ·rename_i hno
   have eb:(bif b then aP (f x) else aP (f y))=aP (bif b then f x else f y):=by cases b<;>rfl
   split at h
   ·cases h
   ·rename_i s hs
    simp only [Q0] at h;subst h
    refine ⟨.pure (aP (bif b then f x else f y)),?_,dR.pure _⟩
    simp only [kernel,hc']
    split
    ·rename_i a1 i1 x1 a2 i2 y1 h1 h2
     obtain ⟨w1,e1,_⟩:=UW h1
     obtain ⟨w2,e2,_⟩:=UW h2
     exact (hno _ _ _ _ _ _ e1 e2).elim
    ·rw [eb]
     split
     ·rename_i e;exact (hs (Jm e)).elim
     ·rfl
 ·cases h
theorem aW {α:Type} {b:Bool} {x:Option α} {y:α} (h:(bif b then x else none)=some y):b=true∧x=some y:=by
 cases b
 ·cases h
 ·exact ⟨rfl,h⟩
theorem UY (t:TypeId):eX tt ety d o f (.alloc t) ty:=by
 intro r h
 simp only [b_] at h
 split at h
 ·rename_i i hi
  simp only [Q0] at h;subst h
  simp only [kernel,hi]
  refine ⟨_,rfl,⟨fun _=>trivial,rfl,?_,rfl⟩⟩
  simp only [fH,Qt,UB,cu,oO]
 ·cases h
theorem ZJ (t:TypeId) (x:Operand):eX tt ety d o f (.box t x) ty:=by
 intro r h
 simp only [b_] at h
 split at h
 ·rename_i i x' hi hx
  obtain ⟨hb,h⟩:=aW h
  simp only [Q0] at h;subst h
  simp only [Qf] at hb
  simp only [kernel,hi,hx,aP,qp,W0]
  rw [if_pos ⟨Q4 hb.1,qw _ hb.2⟩]
  exact ⟨_,rfl,⟨fun _=>trivial,rfl,rfl,rfl⟩⟩
 ·cases h
theorem Af (ps:List (Nat×Operand)):(ps.map fun p=>(p.1,aP (f p.2)))=(ps.map fun p=>(p.1,f p.2)).map fun p=>(p.1,aP p.2):=by
 rw [WK];rfl
theorem UZ (t:TypeId) (ps:Array (Nat×Operand)):eX tt ety d o f (.build t ps) ty:=by
 intro r h
 simp only [b_] at h
 split at h
 ·rename_i i hi
  obtain ⟨hb,h⟩:=aW h
  split at h
  ·rename_i ws hw
   simp only [Q0] at h;subst h
   have:=y9 hw
   rw [oO] at this
   simp only [kernel,hi,hb,if_true,Af,this]
   exact ⟨_,rfl,dR.pure _⟩
  ·cases h
 ·cases h
theorem Ew {α β:Type} (g:α→β) (l:List α) :∀n,(Eo l n).map g=dV (l.map g) n
 |0=>rfl
 |n+1=>by simp [Eo,dV,Ew g l n]
theorem xH (e:Ty) :∀(n:Nat) (ws:List Wd),ws.map (·.t)=Eo (gW e) n→aB e (y8 e n ws)=chunks (size e) n (ws.map bQ)
 |0,ws,h=>rfl
 |n+1,ws,h=>by
  have h1:(ws.take (size e)).map (·.t)=gW e:=by
   rw [Wm,h,Eo,←iL,J1]
  have h2:(ws.drop (size e)).map (·.t)=Eo (gW e) n:=by
   rw [W8,h,Eo,←iL,V0]
  simp only [y8,aB,Qt,chunks]
  rw [oM h1,Wm]
  congr 1
  rw [←W8]
  exact xH e n _ h2
theorem jy (a b:List (Nat×TO)):fH (a++b)=fH a++fH b:=by simp [fH]
theorem Gp (t:TypeId) (n:Nat) (ps:Array (Nat×Operand)):eX tt ety d o f (.buildSlice t n ps) ty:=by
 intro r h
 simp only [b_] at h
 split at h
 ·rename_i e i1 i2 i3 ht
  split at h
  ·rename_i ie et he het
   split at h
   ·rename_i ws hw
    split at h
    ·rename_i qs a i gs hp
     obtain ⟨hb,h⟩:=aW h
     simp only [Q0] at h;subst h
     simp only [Qf] at hb
     have hsz:=Q4 hb.2
     have:=y9 hw
     rw [Ew,oO] at this
     obtain ⟨k1,k2⟩:=uq hp
     simp only [kernel,ht,he,Af,this,k1]
     rw [if_pos (Z6 hb.1)]
     refine ⟨_,rfl,⟨fun _=>trivial,rfl,?_,rfl⟩⟩
     simp only [jy,←l7 (Jl hp)]
     congr 1
     simp only [P.list,fH,Qt,UB,cu,xH et n qs k2,hsz]
    ·cases h
   ·cases h
  ·cases h
 ·cases h
end
end Go.Fg

namespace Go.Fg
open Go.Fw
section
variable [RE] {o:Nat→TO} {tt:TT} {ety:TypeId→Option Ty} {d:Nat} {f:Operand→TS} {ty:TypeId}
theorem fO {a b:Bool} (h:(a&&b)=true):a=true∧b=true:=by simpa using h
theorem Xd (a i:Bool) (ws:List Wd):(YR a i ws).map bf=ws.map fun w=>W.p a i (bQ w):=by
 simp only [YR,WK];rfl
theorem uw (e:Ty) (x:Dt e) (a i:Bool) (off n:Nat) (h:off+n≤size e) (df:Nat→P) :
  ((List.range n).map fun j=>W.p a i ((jr e x).getD (off+j) (df j)))=(YR a i (((dW e x).drop off).take n)).map bf:=by
 rw [Xd,fA]
 apply K1
 intro j
 simp only [Xs,XX,ZS]
 by_cases hj:j<n
 ·have hlt:off+j<(dW e x).length:=by rw [ny];omega
  rw [K6 hj,if_pos hj]
  simp [Q6,Q2 hlt]
 ·rw [WP (by simp;omega),if_neg hj];rfl
theorem Ey {n:Nat} (h:Nat.blt 0 n=true):0<n:=Z6 h
theorem U0 {w:Wd} {v:Value} (h:UN w v=true):bQ w=J4 [v] 0:=by
 unfold UN at h
 split at h
 ·rename_i k n k' n'
  change Int at n
  simp only [Qf,Wy,decide_eq_true_eq] at h
  obtain ⟨h1,h2⟩:=h
  cases hk:UJ k k' with
  |none=>rw [hk] at h1;cases h1
  |some p=>have e:=p.down;subst e;subst h2;rfl
 ·rename_i b b'
  change Bool at b
  have h:b=b':=LawfulBEq.eq_of_beq h
  subst h;rfl
 ·rename_i s s'
  change List UInt8 at s
  simp only [Qf,List.isEmpty_iff] at h
  obtain ⟨h1,h2⟩:=h
  subst h1
  obtain ⟨⟨l⟩⟩:=s'
  simp only at h2
  subst h2
  rfl
 ·rename_i e l
  change List (Dt e) at l
  have hl:l=[]:=by simpa using h
  subst hl;rfl
 ·cases h
theorem Ag :∀{ws:List Wd} {vs:List Value},pO ws vs=true→∀j,(ws.map bQ)[j]?=if j<vs.length then some (J4 vs j) else none
 | [],[],h,j=>by simp
 |w::ws,[],h,j=>by simp [pO] at h
 | [],v::vs,h,j=>by simp [pO] at h
 |w::ws,v::vs,h,j=>by
  obtain ⟨h1,h2⟩:=fO h
  cases j with
  |zero=>simp only [Qt,UV,Kb,Nat.zero_lt_succ,if_true,U0 h1];rfl
  |succ j=>
   have:=Ag h2 j
   simp only [Qt,V1,Kb,this,Nat.succ_lt_succ_iff]
   rfl
theorem Jo (e:Ty) (l:List (Dt e)) (n off size':Nat) (z:List Value) (h:off+size'≤size e) (hz:pO (((dW e (dflt e)).drop off).take size') z=true) (a i:Bool) :
  ((List.range size').map fun j=>W.p a i (((aB e l).getD n []).getD (off+j) (J4 z j)))=(YR a i (((dW e (l.getD n (dflt e))).drop off).take size')).map bf:=by
 by_cases hn:n<l.length
 ·have e1:(aB e l).getD n []=jr e (l.getD n (dflt e)):=by simp [aB,Q6,hn]
  rw [e1]
  exact uw e _ a i off size' h _
 ·have e1:(aB e l).getD n []=[]:=by simp [aB,Q6,WP (Kd hn)]
  have e2:l.getD n (dflt e)=dflt e:=by simp [Q6,WP (Kd hn)]
  rw [e1,e2,←uw e _ a i off size' h (J4 z)]
  refine Z0 fun j hj => ?_
  have hj:j<size':=US.1 hj
  have:=Ag hz j
  rw [Wm,W8,XX,if_pos hj,ZS,←fA] at this
  have hlen:off+j<(jr e (dflt e)).length:=by rw [Ls];omega
  rw [Q6,Q6,this]
  split
  ·rfl
  ·rfl
theorem Xe (t:TypeId) (x:Operand):eX tt ety d o f (.load t x) ty:=by
 intro r h
 simp only [b_] at h
 split at h
 ·rename_i i g off ht hx
  have hx':aP (f x)=.v (.one (.box g off)):=by rw [hx];rfl
  split at h
  ·rename_i ws hg
   obtain ⟨hb,h⟩:=aW h
   simp only [Q0] at h;subst h
   obtain ⟨h1,h2⟩:=fO hb
   simp only [kernel,ht,hx',lK hg,W0]
   rw [if_pos ⟨Z6 h1,Ey h2⟩]
   refine ⟨_,rfl,?_⟩
   have:=dR.pure (TV.dN i.agg ((ws.drop off).take i.size))
   rw [jv,Wm,W8] at this
   exact this
  ·cases h
 ·rename_i i g n off ht hx
  have hx':aP (f x)=.v (.one (.ep g (.int .i64 n) off)):=by rw [hx];rfl
  split at h
  ·rename_i fz a i' e l hg
   obtain ⟨hb,h⟩:=aW h
   simp only [Q0] at h;subst h
   obtain ⟨hb,h3⟩:=fO hb
   obtain ⟨h1,h2⟩:=fO hb
   have h1:=Z6 h1
   simp only [kernel,ht,hx',fB hg]
   rw [if_pos ⟨h1,Ey h2⟩]
   refine ⟨_,rfl,⟨fun _=>trivial,?_,rfl,rfl⟩⟩
   simp only [zJ.pure,jv]
   congr 1
   have en:(P.int .i64 n).nat=n.toNat:=rfl
   rw [en]
   exact Jo e l n.toNat off i.size i.zero h1 h3 a i'
  ·cases h
 ·rename_i i a i' e x' off ht hx
  have hx':aP (f x)=.v (.one (.sp a i' (jr e x') off)):=by rw [hx];rfl
  obtain ⟨hb,h⟩:=aW h
  simp only [Q0] at h;subst h
  obtain ⟨h1,h2⟩:=fO hb
  have h2:=Z6 h2
  simp only [kernel,ht,hx']
  rw [if_pos (Ey h1)]
  refine ⟨_,rfl,⟨fun _=>by rw [Ls];exact h2,?_,rfl,rfl⟩⟩
  simp only [nZ.pure,jv]
  congr 1
  exact uw e x' a i' off i.size h2 fun _=>default
 ·cases h
theorem aV (g:Nat) :∀(l:List Nat),dM g l=l.contains g
 | []=>rfl
 |x::xs=>by
  simp only [dM,List.contains_cons,aV g xs]
  congr 1
  rw [Bool.eq_iff_iff];simp
theorem Xf (e:Ty) (l:List (Dt e)) (n:Nat) (x:Dt e):aB e (l.set n x)=(aB e l).set n (jr e x):=by simp [aB,List.map_set]
theorem U1 (t:TypeId) (x y:Operand):eX tt ety d o f (.store t x y) ty:=by
 intro r h
 simp only [b_] at h
 split at h
 ·rename_i i g off y' ht hx hy
  have hx':aP (f x)=.v (.one (.box g off)):=by rw [hx];rfl
  have hy':aP (f y)=.v (iF y'):=by rw [hy];rfl
  split at h
  ·rename_i ws hg
   obtain ⟨hb,h⟩:=aW h
   simp only [Q0] at h;subst h
   obtain ⟨hb,h3⟩:=fO hb
   obtain ⟨h1,h2⟩:=fO hb
   simp only [kernel,ht,hx',hy',lK hg,W0,qp]
   rw [if_pos ⟨Z6 h1,Q4 h2,qw _ h3⟩]
   refine ⟨_,rfl,⟨fun _=>trivial,rfl,?_,rfl⟩⟩
   simp only [fH,Qt,UB,cu,mX]
  ·cases h
 ·rename_i i g n off y' ht hx hy
  have hx':aP (f x)=.v (.one (.ep g (.int .i64 n) off)):=by rw [hx];rfl
  have hy':aP (f y)=.v (iF y'):=by rw [hy];rfl
  split at h
  ·rename_i a i' e l hg
   split at h
   ·rename_i ps a' Y7 gs hp
    obtain ⟨hb,h⟩:=aW h
    simp only [Q0] at h;subst h
    obtain ⟨hb,h4⟩:=fO hb
    obtain ⟨hb,h3⟩:=fO hb
    obtain ⟨h1,h2⟩:=fO hb
    have h1:=Z6 h1
    have h2:=Q4 h2
    obtain ⟨k1,k2⟩:=uq hp
    have hl:ps.length=i.size:=by
     have:=congrArg List.length k2
     simp [iL] at this
     omega
    simp only [kernel,ht,hx',hy',fB hg,qp,k1,W0]
    rw [if_pos ⟨h1,hl,h2,qw _ h3,by simpa [aV] using h4⟩]
    refine ⟨_,rfl,⟨fun _=>trivial,rfl,?_,rfl⟩⟩
    simp only [jy,←l7 (Jl hp)]
    congr 1
    simp only [P.list,fH,Qt,UB,cu,Xf]
    have en:(P.int .i64 n).nat=n.toNat:=rfl
    rw [en]
    by_cases hn:n.toNat<l.length
    ·have e1:(aB e l).getD n.toNat []=jr e (l.getD n.toNat (dflt e)):=by simp [aB,Q6,hn]
     have hty:(aF (dW e (l.getD n.toNat (dflt e))) off ps).map (·.t)=gW e:=by
      have e0:gW e=(gW e).take off++(((gW e).drop off).take i.size++(gW e).drop (off+i.size)):=by
       rw [←List.drop_drop,Uq,Uq]
      simp only [aF,XS,Wm,W8,qj,k2,hl,W6]
      exact e0.symm
     have key:jr e (Gl e (Nat.beq i.size (size e)) (l.getD n.toNat (dflt e)) off ps)=aF ((aB e l).getD n.toNat []) off (ps.map bQ):=by
      rw [e1]
      unfold Gl
      cases hc:Nat.beq i.size (size e) with
      |true=>
       have hc:=Q4 hc
       have h0:off=0:=by omega
       subst h0
       have e2:aF (dW e (l.getD n.toNat (dflt e))) 0 ps=ps:=by
        simp only [aF,List.take_zero,K8,Wb]
        rw [List.drop_of_length_le (by rw [ny];omega),Kj]
       have e3:aF (jr e (l.getD n.toNat (dflt e))) 0 (ps.map bQ)=ps.map bQ:=by
        rw [fA,←mX,e2]
       rw [e2] at hty
       rw [e3]
       exact oM hty
      |false=>
       simp only
       rw [oM hty,mX,←fA]
     rw [key]
    ·have e1 :∀z,(aB e l).set n.toNat z=aB e l:=fun z=>List.set_eq_of_length_le (by rw [dQ];omega)
     rw [e1,e1]
   ·cases h
  ·cases h
 ·cases h
theorem LG (x:Operand):eX tt ety d o f (.nilCheck x) ty:=by
 intro r h
 simp only [b_] at h
 split at h
 ·rename_i x' hx
  obtain ⟨hb,h⟩:=aW h
  simp only [Q0] at h;subst h
  have hx':aP (f x)=.v (.one (bf x')):=by rw [hx];rfl
  simp only [kernel,hx']
  rw [if_pos (Eu hb)]
  exact ⟨_,rfl,dR.pure _⟩
 ·cases h
theorem Ol {op:BinOp} {k k':IntKind} {a b:Int} {c:Bool×Wd} (h:Og op k k' a b=some c):(c.1=true→P.J3 op (.int k a) (.int k' b))∧P.bin op (.int k a) (.int k' b)=bQ c.2:=by
 unfold Og at h
 cases op<;>simp only at h
 case shl=>simp only [Q0] at h;subst h;exact ⟨fun h=>(by simpa using h:0≤b),rfl⟩
 case shr=>simp only [Q0] at h;subst h;exact ⟨fun h=>(by simpa using h:0≤b),rfl⟩
 all_goals
  split at h
  ·cases h
  ·rename_i p hp
   obtain ⟨e⟩:=p
   subst e
   simp only [Q0] at h
   first
    |(cases h;done)
    |(
      
      subst h
      refine ⟨fun h => ?_,?_⟩
      ·first
       |exact rfl
       |(simp at h;exact ⟨rfl,h⟩)
      ·first
       |rfl
       |(simp only [P.bin,gB,abX];congr 1))
theorem RY (a b:List UInt8):(⟨a.toArray⟩++⟨b.toArray⟩:ByteArray)=⟨(a++b).toArray⟩:=by
 apply ByteArray.ext;simp [ByteArray.data_append]
theorem Ah (a:List UInt8):(⟨a.toArray⟩:ByteArray).toList=a:=by rw [ByteArray.toList_eq]
theorem Om {op:BinOp} {a b:List UInt8} {c:Bool×Wd} (h:Oh op a b=some c):(c.1=true→P.J3 op (.str ⟨a.toArray⟩) (.str ⟨b.toArray⟩))∧P.bin op (.str ⟨a.toArray⟩) (.str ⟨b.toArray⟩)=bQ c.2:=by
 unfold Oh at h
 cases op<;>simp only [Q0] at h<;>try (cases h;done)
 all_goals subst h
 case add=>
  refine ⟨fun h => ?_,?_⟩
  ·simp only [RU] at h
   show a.toArray.size+b.toArray.size≤_
   simp only [K2];omega
  ·simp only [P.bin,RY];rfl
 all_goals exact ⟨fun _=>trivial,by simp only [P.bin,Ah];rfl⟩
theorem LH {op:BinOp} {a b:Bool} {c:Bool×Wd} (h:Ji op a b=some c):(c.1=true→P.Io op (.bool a) (.bool b))∧P.bin op (.bool a) (.bool b)=bQ c.2:=by
 unfold Ji at h
 cases op<;>simp only [Q0] at h<;>try (cases h;done)
 all_goals subst h
 ·exact ⟨fun _=>.inl rfl,rfl⟩
 ·exact ⟨fun _=>.inr rfl,rfl⟩
theorem dR.lJ {c:Bool×Wd} {pre:Prop} {x:P} (h:c.1=true→pre) (hx:x=bQ c.2):dR (.lJ c) (.calc pre x):=by
 subst hx
 obtain ⟨c1,t,y⟩:=c
 exact ⟨h,rfl,rfl,rfl⟩
theorem Xg (a b:List UInt8):P.Y5 (.str ⟨a.toArray⟩) (.str ⟨b.toArray⟩)=(a==b):=by
 show ((⟨a.toArray⟩:ByteArray)==⟨b.toArray⟩)=_
 rw [beq_toListBytes,Ah,Ah]
theorem U2 {k:TK} {x y:Wd} {b:Bool} (h:ZH k x y=some b):O4 k (bQ x) (bQ y)∧P.Y5 (bQ x) (bQ y)=b:=by
 unfold ZH at h
 split at h
 ·unfold YQ at h
  split at h
  ·rename_i p hp
   obtain ⟨e⟩:=p
   subst e
   simp only [Q0] at h;subst h
   exact ⟨rfl,rfl⟩
  ·cases h
 ·rename_i a b'
  simp only [eqStr,Q0] at h;subst h
  exact ⟨trivial,Xg a b'⟩
 ·simp only [abV,Q0] at h;subst h
  exact ⟨trivial,rfl⟩
 ·cases h
theorem LJ {tt:TT} :∀(fs:List (Nat×TypeId)) (n:Nat) (xs ys:List TW) (b:Bool),CB tt n fs xs ys=some b→∃c,kJ tt n fs (xs.map bf) (ys.map bf)=some c∧c.1∧c.2=b
 | [],n,[],[],b,h=>by
  simp only [CB,Q0] at h;subst h
  exact ⟨(True,true),rfl,trivial,rfl⟩
 |(off,t)::fs,n,x::xs,y::ys,b,h=>by
  cases x with
  |p a1 i1 x=>cases y with
   |p a2 i2 y=>
    simp only [CB] at h
    split at h
    ·rename_i i hi
     cases hb:(Nat.beq off n&&i.k.flat&&Nat.beq i.size 1) with
     |false=>rw [hb] at h;cases h
     |true=>
      rw [hb] at h
      simp only [cond_true] at h
      split at h
      ·rename_i b1 b2 h1 h2
       simp only [Q0] at h;subst h
       obtain ⟨c,e1,e2,e3⟩:=LJ fs (n+1) xs ys b2 h2
       obtain ⟨q1,q2⟩:=U2 h1
       simp only [Qf] at hb
       have hoff:off=n∧i.k.flat=true∧i.size=1:=⟨Q4 hb.1.1,hb.1.2,Q4 hb.2⟩
       refine ⟨(O4 i.k (bQ x) (bQ y)∧c.1,P.Y5 (bQ x) (bQ y)&&c.2),?_,⟨q1,e2⟩,by rw [q2,e3]⟩
       simp only [Qt,bf,kJ,hi]
       rw [if_pos hoff,e1]
      ·cases h
    ·cases h
   |_=>simp [CB] at h
  |_=>simp [CB] at h
 | [],n,_::_,_,b,h=>by simp [CB] at h
 | [],n,[],_::_,b,h=>by simp [CB] at h
 |_::_,n,[],_,b,h=>by simp [CB] at h
 |_::_,n,x::xs,[],b,h=>by cases x<;>simp [CB] at h
theorem U3 (op:BinOp) (t:TypeId) (x y:Operand) (u:TypeId):eX tt ety d o f (.binOp op t x y u) ty:=by
 intro r h
 simp only [b_] at h
 split at h
 ·rename_i a1 i1 x' a2 i2 y' hx hy
  have hx':aP (f x)=.v (.one (.p a1 i1 (bQ x'))):=by rw [hx];rfl
  have hy':aP (f y)=.v (.one (.p a2 i2 (bQ y'))):=by rw [hy];rfl
  split at h
  ·rename_i i ht
   split at h
   ·rename_i c hc
    simp only [Q0] at h;subst h
    obtain ⟨ik,isz,ib,iz⟩:=i
    simp only at hc
    unfold abU at hc
    split at hc
    ·obtain ⟨k1,k2⟩:=Ol hc
     simp only [kernel,hx',hy',ht]
     exact ⟨_,rfl,dR.lJ k1 k2⟩
    ·obtain ⟨k1,k2⟩:=Om hc
     simp only [kernel,hx',hy',ht]
     exact ⟨_,rfl,dR.lJ k1 k2⟩
    ·obtain ⟨k1,k2⟩:=LH hc
     simp only [kernel,hx',hy',ht]
     exact ⟨_,rfl,dR.lJ k1 k2⟩
    ·cases hc
   ·cases h
  ·cases h
 ·rename_i xs ys hx hy
  have hx':aP (f x)=.v (.agg (xs.map bf)):=by rw [hx];rfl
  have hy':aP (f y)=.v (.agg (ys.map bf)):=by rw [hy];rfl
  split at h
  ·rename_i i ht
   have key :∀{b q:Bool} {v:Bool},CB tt 0 i.k.parts xs ys=some b→WG op=some q→i.eq=true→v=(b==q)→∃r',kernel tt d (aZ o) (fun a=>aP (f a)) (.binOp op t x y u) ty=some r'∧dR (.lJ (true,gB v)) r':=by
    intro b q v h1 h2 h3 h4
    obtain ⟨c,e1,e2,e3⟩:=LJ _ _ _ _ _ h1
    simp only [kernel,hx',hy',ht,e1,h2]
    rw [if_pos h3]
    exact ⟨_,rfl,dR.lJ (fun _=>e2) (by rw [e3,h4];rfl)⟩
   split at h
   ·rename_i b h1 h2
    cases h3:i.eq with
    |false=>rw [h3] at h;cases h
    |true=>
     rw [h3] at h
     simp only [cond_true,Q0] at h;subst h
     exact key (v:=b) h1 h2 h3 (by cases b<;>rfl)
   ·rename_i b h1 h2
    cases h3:i.eq with
    |false=>rw [h3] at h;cases h
    |true=>
     rw [h3] at h
     simp only [cond_true,Q0] at h;subst h
     exact key (v:=!b) h1 h2 h3 (by cases b<;>rfl)
   ·cases h
  ·cases h
 ·cases h
theorem Xh (op:UnOp) (t:TypeId) (x:Operand):eX tt ety d o f (.unOp op t x) ty:=by
 intro r h
 simp only [b_] at h
 split at h
 ·rename_i a1 i1 x' hx
  have hx':aP (f x)=.v (.one (.p a1 i1 (bQ x'))):=by rw [hx];rfl
  split at h
  ·rename_i c hc
   simp only [Q0] at h;subst h
   simp only [kernel,hx']
   unfold unT at hc
   split at hc
   ·simp only [Q0] at hc;subst hc
    exact ⟨_,rfl,dR.lJ (fun _=>trivial) rfl⟩
   ·simp only [Q0] at hc;subst hc
    exact ⟨_,rfl,dR.lJ (fun _=>trivial) rfl⟩
   ·cases hc
  ·cases h
 ·cases h
theorem Oo (s t:TypeId) (x:Operand):eX tt ety d o f (.convert s t x) ty:=by
 intro r h
 simp only [b_] at h
 split at h
 ·rename_i k0 s0 b0 z0 k s1 b1 z1 a1 i1 k2 x' hs ht hx
  have hx':aP (f x)=.v (.one (.p a1 i1 (.int k2 x'))):=by rw [hx];rfl
  simp only [Q0] at h;subst h
  simp only [kernel,hs,ht,hx']
  exact ⟨_,rfl,⟨fun _=>trivial,rfl,rfl,rfl⟩⟩
 ·rename_i e s0 b0 z0 s1 b1 z1 x' hs ht hx
  have hx':aP (f x)=.v (.one (bf x')):=by rw [hx];rfl
  split at h
  ·rename_i s2 b2 z2 he
   split at h
   ·rename_i l a1 i1 hr
    simp only [Q0] at h;subst h
    obtain ⟨ask,hr',hask⟩:=LD hr
    have hr':(bf x').rows (aZ o) 1=some (ask,aB (.int .u8) l,a1,i1):=hr'
    simp only [kernel,hs,ht,hx',he,hr']
    refine ⟨_,rfl,⟨fun _=>⟨hask,fun r hr => ?_⟩,?_,rfl,rfl⟩⟩
    ·simp only [aB,QP] at hr
     obtain ⟨n,_,rfl⟩:=hr
     exact ⟨n,rfl⟩
    ·have e:Dk (aB (.int .u8) l)=bQ ⟨.str,strOf l⟩:=by
      show P.str _=P.str _
      congr 2
      simp only [aB,WK,strOf]
      congr 1
     show S.v (V.one (W.p false false (Dk (aB (.int .u8) l))))=_
     rw [e];rfl
   ·cases h
  ·cases h
 ·rename_i s0 b0 z0 e s1 b1 z1 a1 i1 x' hs ht hx
  change List UInt8 at x'
  have hx':aP (f x)=.v (.one (.p a1 i1 (.str ⟨x'.toArray⟩))):=by rw [hx];rfl
  split at h
  ·rename_i s2 b2 z2 he
   simp only [Q0] at h;subst h
   simp only [kernel,hs,ht,hx',he]
   refine ⟨_,rfl,⟨fun _=>trivial,?_,rfl,rfl⟩⟩
   have e:Ip (.str ⟨x'.toArray⟩)=bQ ⟨.sl (.int .u8),ZG x'⟩:=by
    show P.eG 1 _=P.eG 1 _
    have key :∀l:List UInt8,(l.map fun b=>[P.int .u8 (b.toNat:Int)])=aB (.int .u8) (ZG l):=by
     intro l
     induction l with
     |nil=>rfl
     |cons a l ih=>exact congrArg (List.cons _) ih
    exact congrArg (P.eG 1) (key x')
   show S.v (V.one (W.p false false (Ip (.str ⟨x'.toArray⟩))))=_
   rw [e];rfl
  ·cases h
 ·cases h
end
end Go.Fg

namespace Go.Fg
open Go.Fw
section
variable [RE] {o:Nat→TO} {tt:TT} {ety:TypeId→Option Ty} {d:Nat} {f:Operand→TS} {ty:TypeId}
theorem uy {k:IntKind} {n:Int} {m:Nat} (h:inB n m=true):inRange (.int k n) m:=by
 simp only [inB,Qf,decide_eq_true_eq] at h;exact h
theorem Jp (t:TypeId) (n c:Operand):eX tt ety d o f (.makeSlice t n c) ty:=by
 intro r h
 simp only [b_] at h
 split at h
 ·rename_i e i1 i2 i3 a1 j1 n' a2 j2 c' ht hn hc
  change Int at n';change Int at c'
  have hn':aP (f n)=.v (.one (.p a1 j1 (.int .i64 n'))):=by rw [hn];rfl
  have hc':aP (f c)=.v (.one (.p a2 j2 (.int .i64 c'))):=by rw [hc];rfl
  split at h
  ·rename_i ie et he het
   split at h
   ·rename_i ps hp
    obtain ⟨hb,h⟩:=aW h
    simp only [Q0] at h;subst h
    obtain ⟨h1,h2⟩:=fO hb
    obtain ⟨k1,k2⟩:=uq hp
    have hsz:=Q4 h2
    rw [oO] at k1
    simp only [kernel,ht,hn',hc',he,k1]
    rw [if_pos (Ey h1)]
    refine ⟨_,rfl,⟨fun hp => ?_,rfl,?_,rfl⟩⟩
    ·simp only [En,Qf,decide_eq_true_eq] at hp
     obtain ⟨⟨⟨p1,p2⟩,p3⟩,p4⟩:=hp
     refine ⟨n'.toNat,c'.toNat,by rw [VS p1],by rw [VS (by omega)],by omega,?_,by omega⟩
     have e:((ie.bytes*c'.toNat:Nat):Int)=ie.bytes*c':=by rw [Int.natCast_mul,VS (by omega)]
     omega
    ·simp only [P.list,fH,Qt,UB,cu,hsz]
     have en:(P.int .i64 n').nat=n'.toNat:=rfl
     rw [en]
     simp only [aB,List.map_replicate]
     rw [oM k2]
   ·cases h
  ·cases h
 ·cases h
theorem jI {df:Int} {lo:Option Operand} {m:Int} (h:jH df (lo.map f)=some m):jP (.int .i64 df) (lo.map fun x=>aP (f x))=some (.int .i64 m):=by
 cases lo with
 |none=>simp only [Jx,jH,Q0] at h;subst h;rfl
 |some x=>
  simp only [YY] at h ⊢
  unfold jH at h
  split at h
  ·rename_i hh;cases hh
  ·rename_i hh
   simp only [Q0] at hh
   cases h
   rw [hh];rfl
  ·cases h
theorem qx {lo hi:Int} {len:Nat} (h:Gn lo hi len=true) :∃m k:Nat,P.int .i64 lo=.int .i64 m∧P.int .i64 hi=.int .i64 k∧m≤k∧k≤len:=by
 simp only [Gn,Qf,decide_eq_true_eq] at h
 exact ⟨lo.toNat,hi.toNat,by rw [VS (by omega)],by rw [VS (by omega)],by omega,by omega⟩
theorem Oq (y:List UInt8) (a b:Nat):(⟨y.toArray⟩:ByteArray).extract a b=⟨((y.take b).drop a).toArray⟩:=by
 apply ByteArray.ext
 simp [ByteArray.data_extract,List.drop_take]
theorem RZ (t:TypeId) (x hi mx:Operand):eX tt ety d o f (.slice t x none (some hi) (some mx)) ty:=by
 intro r h
 simp only [b_] at h
 unfold PI at h
 split at h
 ·rename_i e i1 i2 i3 g a1 j1 h' a2 j2 m' ht hx hh hm
  change Int at h';change Int at m'
  have hx':aP (f x)=.v (.one (.own g)):=by rw [hx];rfl
  have hh':aP (f hi)=.v (.one (.p a1 j1 (.int .i64 h'))):=by rw [hh];rfl
  have hm':aP (f mx)=.v (.one (.p a2 j2 (.int .i64 m'))):=by rw [hm];rfl
  split at h
  ·rename_i ie a i e' l he hg
   obtain ⟨hb,h⟩:=aW h
   simp only [Q0] at h;subst h
   have hg':aZ o g=.arr false a i (size e') (aB e' l):=by unfold aZ;rw [hg];rfl
   simp only [kernel,yB,ht,hx',hh',hm',he,hg']
   rw [if_pos (Q4 hb)]
   refine ⟨_,rfl,⟨fun hp => ?_,rfl,rfl,rfl⟩⟩
   obtain ⟨k,j,q1,q2,q3,q4⟩:=qx hp
   exact ⟨k,j,q1,q2,q3,by rw [dQ];exact q4⟩
  ·cases h
 ·rename_i e i1 i2 i3 a1 j1 h' a2 j2 m' ht hx hh hm
  change Int at h';change Int at m'
  have hx':aP (f x)=.v (.one .bM):=by rw [hx];rfl
  have hh':aP (f hi)=.v (.one (.p a1 j1 (.int .i64 h'))):=by rw [hh];rfl
  have hm':aP (f mx)=.v (.one (.p a2 j2 (.int .i64 m'))):=by rw [hm];rfl
  split at h
  ·rename_i ie he
   simp only [Q0] at h;subst h
   simp only [kernel,yB,ht,hx',hh',hm',he]
   refine ⟨_,rfl,⟨fun hp => ?_,rfl,rfl,rfl⟩⟩
   obtain ⟨k,j,q1,q2,q3,q4⟩:=qx hp
   have hj:j=0:=by omega
   have hk:k=0:=by omega
   subst hj;subst hk
   exact ⟨q1,q2⟩
  ·cases h
 ·cases h
theorem U4 (args:Array Operand) (ts:Array TypeId):eX tt ety d o f (.call { callee:=.builtin .clear,args:=args,argTypes:=ts }) ty:=by
 intro r h
 simp only [b_] at h
 split at h
 ·rename_i x t tl ha hts
  unfold UO at h
  split at h
  ·rename_i e i1 i2 i3 g lo hi ht hx
   change Int at lo;change Int at hi
   have hx':aP (f x)=.v (.one (.vw g (.int .i64 lo) (.int .i64 hi))):=by rw [hx];rfl
   split at h
   ·rename_i ie a i et l he hg
    obtain ⟨hb,h⟩:=aW h
    split at h
    ·rename_i ps hp
     simp only [Q0] at h;subst h
     obtain ⟨h1,h2⟩:=fO hb
     obtain ⟨k1,k2⟩:=uq hp
     have hsz:=Q4 h1
     rw [oO] at k1
     have hg':aZ o g=.arr false a i (size et) (aB et l):=by unfold aZ;rw [hg];rfl
     simp only [kernel,ha,hts,Iq,ht,hx',he,hg',k1]
     rw [if_pos ⟨hsz,by rw [hsz];exact Ey h2⟩]
     refine ⟨_,rfl,⟨fun hp=>Z6 hp,rfl,?_,rfl⟩⟩
     simp only [P.list,fH,Qt,UB,cu]
     have e1:(P.int .i64 lo).nat=lo.toNat:=rfl
     have e2:(P.int .i64 hi).nat=hi.toNat:=rfl
     rw [e1,e2]
     simp only [aB,abT,aF,XS,Wm,W8,List.map_replicate,K0]
     rw [oM k2]
    ·cases h
   ·cases h
  ·cases h
 ·cases h
theorem U5 (t:TypeId) (x:Operand) (lo hi:Option Operand):eX tt ety d o f (.slice t x lo hi none) ty:=by
 intro r h
 simp only [b_] at h
 split at h
 ·rename_i e i1 i2 i3 x' ht hx
  have hx':aP (f x)=.v (.one (bf x')):=by rw [hx];rfl
  split at h
  ·rename_i ie et len he het hlen
   split at h
   ·rename_i lo' hi' hlo hhi
    obtain ⟨ask,hl,hask⟩:=PK hlen
    have Dw:=jI hlo
    have qQ:=jI hhi
    have en0:jh 0=P.int .i64 0:=rfl
    simp only [kernel,ht,hx',he,hl,en0,Dw,qQ]
    split at h
    ·rename_i g
     split at h
     ·rename_i e' l hg
      obtain ⟨hb,h⟩:=aW h
      simp only [Q0] at h;subst h
      simp only [bf,lZ hg]
      rw [if_pos (Q4 hb)]
      refine ⟨_,rfl,⟨fun hp => ?_,rfl,rfl,rfl⟩⟩
      exact qx hp
     ·cases h
    ·rename_i a i w
     split at h
     ·rename_i l hl'
      change List (Dt et) at l
      obtain ⟨hb,h⟩:=aW h
      simp only [Q0] at h;subst h
      have hsz:=Q4 hb
      simp only [bf]
      refine ⟨_,rfl,⟨fun hp=>⟨hask,?_,?_⟩,?_,rfl,rfl⟩⟩
      ·rw [eU hl',←hsz];exact Et _ _
      ·rw [eU hl',jF,dQ];exact qx hp
      ·rw [eU hl']
       show S.v (V.one (W.p a i (P.sub ie.size (P.int .i64 lo').nat (P.int .i64 hi').nat (bQ ⟨.sl et,l⟩))))=S.v (V.one (W.p a i (bQ ⟨.sl et,List.drop lo'.toNat (List.take hi'.toNat l)⟩)))
       rw [P.sub,jF,oN,←hsz];rfl
     ·cases h
    ·simp only [Q0] at h;subst h
     simp only [bf]
     refine ⟨_,rfl,⟨fun hp => ?_,rfl,rfl,rfl⟩⟩
     obtain ⟨h1,h2⟩:=fO hp
     have h1:lo'=0:=by simpa using h1
     have h2:hi'=0:=by simpa using h2
     subst h1;subst h2;exact ⟨rfl,rfl⟩
    ·cases h
   ·cases h
  ·cases h
 ·rename_i s0 b0 z0 a1 i1 y ht hx
  have hx':aP (f x)=.v (.one (.p a1 i1 (.str ⟨y.toArray⟩))):=by rw [hx];rfl
  change List UInt8 at y
  split at h
  ·rename_i lo' hi' hlo hhi
   simp only [Q0] at h;subst h
   have Dw:=jI hlo
   have qQ:=jI hhi
   have en0:jh 0=P.int .i64 0:=rfl
   have el:(P.str ⟨y.toArray⟩).len=P.int .i64 (y.length:Nat):=by show P.int .i64 (y.toArray.size:Nat)=_;simp
   simp only [kernel,ht,hx',en0,el,Dw,qQ]
   refine ⟨_,rfl,⟨fun hp=>⟨trivial,?_⟩,?_,rfl,rfl⟩⟩
   ·have:=qx hp
    simpa [P.bytes,ByteArray.size] using this
   ·show S.v (V.one (W.p false false (P.str ((⟨y.toArray⟩:ByteArray).extract lo'.toNat hi'.toNat))))=S.v (V.one (W.p false false (P.str ⟨(List.drop lo'.toNat (List.take hi'.toNat y)).toArray⟩)))
    rw [Oq]
  ·cases h
 ·cases h
theorem Jq (t:TypeId) (x:Operand) (n:Nat):eX tt ety d o f (.fieldAddr t x n) ty:=by
 intro r h
 simp only [b_] at h
 split at h
 ·rename_i fs i1 i2 i3 off' sz' x' ht hp hx
  have hx':aP (f x)=.v (.one (bf x')):=by rw [hx];rfl
  obtain ⟨hb,h⟩:=aW h
  simp only [Q0] at h;subst h
  obtain ⟨h1,h2⟩:=fO hb
  simp only [kernel,ht,hp,hx']
  rw [if_pos ⟨Ey h1,Eu h2⟩]
  refine ⟨_,rfl,?_⟩
  have:=dR.pure (.v (.one (x'.shift off')))
  simpa only [aP,iF,Hq] using this
 ·cases h
theorem U6 (t:TypeId) (x:Operand) (n:Nat):eX tt ety d o f (.field t x n) ty:=by
 intro r h
 simp only [b_] at h
 split at h
 ·rename_i fs i1 i2 i3 ws ht hx
  have hx':aP (f x)=.v (.agg (ws.map bf)):=by rw [hx];rfl
  split at h
  ·rename_i off u hf
   split at h
   ·rename_i iu hu
    obtain ⟨hb,h⟩:=aW h
    simp only [Q0] at h;subst h
    obtain ⟨h1,h2⟩:=fO hb
    simp only [kernel,ht,hx',hf,hu,W0]
    rw [if_pos ⟨Z6 h1,Ey h2⟩]
    refine ⟨_,rfl,?_⟩
    have:=dR.pure (TV.dN iu.agg ((ws.drop off).take iu.size))
    rw [jv,Wm,W8] at this
    exact this
   ·cases h
  ·cases h
 ·cases h
theorem Jr (t:TypeId) (x ix:Operand):UU tt ety d o f (.indexAddr t x ix) ty:=by
 intro r h
 simp only [b_] at h
 split at h
 ·rename_i e i1 i2 i3 x' a1 j1 k n ht hx hn
  change Int at n
  have hx':aP (f x)=.v (.one (bf x')):=by rw [hx];rfl
  have hn':aP (f ix)=.v (.one (.p a1 j1 (.int k n))):=by rw [hn];rfl
  have en:(P.int k n).nat=n.toNat:=rfl
  split at h
  ·rename_i ie et g he het
   split at h
   ·rename_i e' l hg
    obtain ⟨hb,h⟩:=aW h
    simp only [Q0] at h;subst h
    simp only [kernel,ht,hx',hn',he,bf,lZ hg]
    rw [if_pos (Q4 hb)]
    refine ⟨_,rfl,dR.toC ⟨fun hp => ?_,rfl,rfl,rfl⟩⟩
    exact uy (k:=k) hp
   ·cases h
  ·rename_i ie et g lo hi he het
   split at h
   ·rename_i e' l hg
    obtain ⟨hb,h⟩:=aW h
    simp only [Q0] at h;subst h
    simp only [kernel,ht,hx',hn',he,bf,lZ hg]
    rw [if_pos (Q4 hb)]
    exact ⟨_,rfl,dR.toC ⟨fun hp=>uy (k:=k) hp,rfl,rfl,rfl⟩⟩
   ·cases h
  ·rename_i ie et a i w he het
   split at h
   ·rename_i l hl
    change List (Dt et) at l
    obtain ⟨hb,h⟩:=aW h
    simp only [Q0] at h;subst h
    have hsz:=Q4 hb
    simp only [kernel,ht,hx',hn',he,bf]
    refine ⟨_,rfl,⟨fun hp=>⟨fun _=>⟨?_,?_⟩,?_,rfl,rfl⟩,rfl⟩⟩
    ·rw [eU hl,←hsz];exact Et _ _
    ·rw [eU hl,jF,dQ];exact uy (k:=k) hp
    ·have hlt:n.toNat<l.length:=by
      have hp:inB n l.length=true:=hp
      simp only [inB,Qf,decide_eq_true_eq] at hp;omega
     rw [eU hl]
     show S.v (V.one (W.sp a i ((bQ ⟨.sl et,l⟩).list.getD (P.int k n).nat []) 0))=S.v (V.one (W.sp a i (jr et (List.getD l n.toNat (dflt et))) 0))
     rw [jF,en]
     simp [aB,Q6,hlt]
   ·cases h
  ·cases h
 ·rename_i m e i1 i2 i3 g a1 j1 k n ht hx hn
  change Int at n
  have hx':aP (f x)=.v (.one (.gl g)):=by rw [hx];rfl
  have hn':aP (f ix)=.v (.one (.p a1 j1 (.int k n))):=by rw [hn];rfl
  split at h
  ·rename_i ie et l he hg
   obtain ⟨hb,h⟩:=aW h
   simp only [Q0] at h;subst h
   obtain ⟨h1,h2⟩:=fO hb
   have h1:=Q4 h1
   have h2:=Q4 h2
   simp only [kernel,ht,hx',hn',he,YP,hg,YY]
   rw [if_pos ⟨h1,by rw [W0];exact h2⟩]
   refine ⟨_,rfl,⟨fun hp=>⟨fun _=>uy (k:=k) hp,?_,rfl,rfl⟩,rfl⟩⟩
   have hlt:n.toNat<l.length:=by
    have hp:inB n m=true:=hp
    simp only [inB,Qf,decide_eq_true_eq] at hp;omega
   show S.v (V.one (W.sp false false ((List.map (jr et) l).getD (P.int k n).nat []) 0))=S.v (V.one (W.sp false false (jr et (List.getD l n.toNat (dflt et))) 0))
   have en:(P.int k n).nat=n.toNat:=rfl
   rw [en]
   simp [Q6,hlt]
  ·cases h
 ·rename_i m e i1 i2 i3 x' a1 j1 k n hng ht hx hn
  change Int at n
  have hx':aP (f x)=.v (.one (bf x')):=by rw [hx];rfl
  have hn':aP (f ix)=.v (.one (.p a1 j1 (.int k n))):=by rw [hn];rfl
  split at h
  ·rename_i ie he
   obtain ⟨hb,h⟩:=aW h
   simp only [Q0] at h;subst h
   obtain ⟨h1,h2⟩:=fO hb
   simp only [inB,Qf,decide_eq_true_eq] at h1
   have hl:=Eu h2
   have key :∃r',kernel tt d (aZ o) (fun x=>aP (f x)) (.indexAddr t x ix) ty=some r'∧r'=.pure (.v (.one ((bf x').shift (n.toNat*ie.size)))):=by
    cases x'<;>first
     |(cases h2;done)
     |(
       simp only [bf] at hx' hl ⊢
       simp only [kernel,ht,hx',hn',he]
       rw [if_pos ⟨h1.1,h1.2,hl⟩]
       exact ⟨_,rfl,rfl⟩)
   obtain ⟨r',e1,rfl⟩:=key
   refine ⟨_,e1,dR.toC ?_⟩
   have:=dR.pure (.v (.one (x'.shift (n.toNat*ie.size))))
   simpa only [aP,iF,Hq] using this
  ·cases h
 ·cases h
theorem U7 (t:TypeId) (x ix:Operand):eX tt ety d o f (.index t x ix) ty:=by
 intro r h
 simp only [b_] at h
 split at h
 ·rename_i i1 i2 i3 a1 j1 s a2 j2 k n ht hx hn
  change List UInt8 at s;change Int at n
  have hx':aP (f x)=.v (.one (.p a1 j1 (.str ⟨s.toArray⟩))):=by rw [hx];rfl
  have hn':aP (f ix)=.v (.one (.p a2 j2 (.int k n))):=by rw [hn];rfl
  simp only [Q0] at h;subst h
  simp only [kernel,ht,hx',hn']
  refine ⟨_,rfl,⟨fun hp=>⟨trivial,?_⟩,?_,rfl,rfl⟩⟩
  ·have:(P.str ⟨s.toArray⟩).bytes.size=s.length:=by show s.toArray.size=_;simp
   rw [this];exact uy (k:=k) hp
  ·have:(s.toArray.getD n.toNat 0)=s.getD n.toNat 0:=by simp [W2,Q6]
   simp only [P.Yu,this];rfl
 ·cases h
theorem U8 (t:TypeId) (x:Operand):eX tt ety d o f (.range t x) ty:=by
 intro r h
 simp only [b_] at h
 split at h
 ·rename_i i1 i2 i3 a1 j1 s ht hx
  change List UInt8 at s
  have hx':aP (f x)=.v (.one (.p a1 j1 (.str ⟨s.toArray⟩))):=by rw [hx];rfl
  simp only [Q0] at h;subst h
  simp only [kernel,ht,hx']
  exact ⟨_,rfl,⟨fun _=>trivial,rfl,rfl,rfl⟩⟩
 ·cases h
theorem Ot (t:Operand) (n:Nat):eX tt ety d o f (.extract t n) ty:=by
 intro r h
 simp only [b_] at h
 split at h
 ·rename_i xs hx
  have hx':aP (f t)=.jK (xs.map iF):=by rw [hx];rfl
  split at h
  ·rename_i x hn
   simp only [Q0] at h;subst h
   simp only [kernel,hx',Xs,hn,YY]
   exact ⟨_,rfl,dR.pure _⟩
  ·cases h
 ·cases h
theorem LK {F:Operand→Option TW} {G:Operand→Option W} (hFG :∀x w,F x=some w→G x=some (bf w)) :∀{xs:List Operand} {ws:List TW},xs.mapM F=some ws→xs.mapM G=some (ws.map bf)
 | [],ws,h=>by simp at h;subst h;rfl
 |x::xs,ws,h=>by
  simp only [Ks,Option.bind_eq_bind,Option.bind_eq_some_iff] at h ⊢
  obtain ⟨w,hw,ws',hws,h⟩:=h
  cases h
  exact ⟨bf w,hFG x w hw,ws'.map bf,LK hFG hws,rfl⟩
theorem LM (g:FuncId) (first caps:Array Operand):eX tt ety d o f (.makeFunc (.func g) first caps) ty:=by
 intro r h
 simp only [b_] at h
 obtain ⟨hb,h⟩:=aW h
 split at h
 ·rename_i ws hw
  simp only [Q0] at h;subst h
  simp only [kernel]
  rw [if_pos (Q4 hb)]
  have key :∀{G:Operand→Option W},(∀x,G x=match aP (f x) with | .v (.one w)=>some w | _=>none)→caps.toList.mapM G=some (ws.map bf):=by
   intro G hG
   refine LK (fun x w hx => ?_) hw
   rw [hG]
   split at hx
   ·rename_i hf;cases hx;rw [hf];rfl
   ·cases hx
  split
  ·rename_i ws' hw'
   have e:=hw'.symm.trans (key fun x=>rfl)
   simp only [Q0] at e;subst e
   refine ⟨_,rfl,?_⟩
   have:=dR.pure (.v (.one (.clo g ws)))
   simpa only [aP,iF,bf,vg] using this
  ·rename_i hw'
   exact nomatch hw'.symm.trans (key fun x=>rfl)
 ·cases h
theorem ZK (args:Array Operand) (ts:Array TypeId):eX tt ety d o f (.call { callee:=.builtin .len,args:=args,argTypes:=ts }) ty:=by
 intro r h
 simp only [b_] at h
 split at h
 ·rename_i x t ha hts
  split at h
  ·rename_i e i1 i2 i3 x' ht hx
   have hx':aP (f x)=.v (.one (bf x')):=by rw [hx];rfl
   split at h
   ·rename_i n hn
    simp only [Q0] at h;subst h
    obtain ⟨ask,hl,hask⟩:=PK hn
    simp only [kernel,ha,hts,ht,hx',hl]
    exact ⟨_,rfl,⟨fun _=>hask,rfl,rfl,rfl⟩⟩
   ·cases h
  ·rename_i i1 i2 i3 a1 j1 s ht hx
   change List UInt8 at s
   have hx':aP (f x)=.v (.one (.p a1 j1 (.str ⟨s.toArray⟩))):=by rw [hx];rfl
   simp only [Q0] at h;subst h
   simp only [kernel,ha,hts,ht,hx']
   refine ⟨_,rfl,⟨fun _=>trivial,?_,rfl,rfl⟩⟩
   have:(P.str ⟨s.toArray⟩).len=.int .i64 s.length:=by show P.int .i64 (s.toArray.size:Nat)=_;simp
   simp only [this];rfl
  ·cases h
 ·cases h
theorem ZL (args:Array Operand) (ts:Array TypeId):eX tt ety d o f (.call { callee:=.builtin .min,args:=args,argTypes:=ts }) ty:=by
 intro r h
 simp only [b_] at h
 split at h
 ·rename_i x y ha
  split at h
  ·rename_i a1 j1 k x' a2 j2 k2 y' hx hy
   have hx':aP (f x)=.v (.one (.p a1 j1 (.int k x'))):=by rw [hx];rfl
   have hy':aP (f y)=.v (.one (.p a2 j2 (.int k2 y'))):=by rw [hy];rfl
   simp only [Q0] at h;subst h
   simp only [kernel,ha,hx',hy']
   exact ⟨_,rfl,⟨fun _=>⟨trivial,trivial⟩,rfl,rfl,rfl⟩⟩
  ·cases h
 ·rename_i x y z ha
  split at h
  ·rename_i a1 j1 k x' a2 j2 k2 y' a3 j3 k3 z' hx hy hz
   have hx':aP (f x)=.v (.one (.p a1 j1 (.int k x'))):=by rw [hx];rfl
   have hy':aP (f y)=.v (.one (.p a2 j2 (.int k2 y'))):=by rw [hy];rfl
   have hz':aP (f z)=.v (.one (.p a3 j3 (.int k3 z'))):=by rw [hz];rfl
   simp only [Q0] at h;subst h
   simp only [kernel,ha,hx',hy',hz']
   exact ⟨_,rfl,⟨fun _=>⟨trivial,trivial,trivial⟩,rfl,rfl,rfl⟩⟩
  ·cases h
 ·cases h
theorem ZM (args:Array Operand) (ts:Array TypeId):eX tt ety d o f (.call { callee:=.builtin .max,args:=args,argTypes:=ts }) ty:=by
 intro r h
 simp only [b_] at h
 split at h
 ·rename_i x y ha
  split at h
  ·rename_i a1 j1 k x' a2 j2 k2 y' hx hy
   have hx':aP (f x)=.v (.one (.p a1 j1 (.int k x'))):=by rw [hx];rfl
   have hy':aP (f y)=.v (.one (.p a2 j2 (.int k2 y'))):=by rw [hy];rfl
   simp only [Q0] at h;subst h
   simp only [kernel,ha,hx',hy']
   exact ⟨_,rfl,⟨fun _=>⟨trivial,trivial⟩,rfl,rfl,rfl⟩⟩
  ·cases h
 ·rename_i x y z ha
  split at h
  ·rename_i a1 j1 k x' a2 j2 k2 y' a3 j3 k3 z' hx hy hz
   have hx':aP (f x)=.v (.one (.p a1 j1 (.int k x'))):=by rw [hx];rfl
   have hy':aP (f y)=.v (.one (.p a2 j2 (.int k2 y'))):=by rw [hy];rfl
   have hz':aP (f z)=.v (.one (.p a3 j3 (.int k3 z'))):=by rw [hz];rfl
   simp only [Q0] at h;subst h
   simp only [kernel,ha,hx',hy',hz']
   exact ⟨_,rfl,⟨fun _=>⟨trivial,trivial,trivial⟩,rfl,rfl,rfl⟩⟩
  ·cases h
 ·cases h
theorem uz (e:Ty) (a b:List (Dt e)):aB e (a++b)=aB e a++aB e b:=by simp [aB]
theorem Ou {sT:TypeId} {s x:TW} {r:nZ} (h:Jj tt ety d o sT s x=some r) :∃r',qM tt d (aZ o) sT (bf s) (bf x)=some r'∧dR r r':=by
 simp only [Jj] at h
 split at h
 ·rename_i e i1 i2 i3 ht
  split at h
  ·rename_i ie et he het
   cases hb:(Nat.beq ie.bytes 0||!Nat.beq (size et) ie.size) with
   |true=>rw [hb] at h;cases h
   |false=>
    rw [hb,cond_false] at h
    simp only [Vc,Bool.not_eq_false'] at hb
    have hsz:=Q4 hb.2
    have hb0:¬ ie.bytes=0:=fun e=>by rw [e] at hb;cases hb.1
    split at h
    ·cases h
    ·rename_i new a' i' hrow
     obtain ⟨ask,hr,hask⟩:=LD hrow
     rw [hsz] at hr
     simp only [qM,ht,he,if_neg hb0,hr]
     have key :∀(pre:Bool) (pre':Prop) (old:List (Dt et)) (a i:Bool) (kill:List (Nat×TO)),(pre=true→pre')→
       dR { pre:=pre&&decide ((old.length+new.length)*ie.bytes≤140737488355328),t:=.sl et,val:=List.append old new,dst:=fun _=>.v (.one (.own d)),aA:=fun y=>kill++[(d,.arr false (a||a') (i||i') et y)],new:=[d] }
        (.mk (ask∧pre'∧((aB et old).length+(aB et new).length)*ie.bytes≤140737488355328) (.sl ie.size (aB et old++aB et new)) (fun _=>.v (.one (.own d)))
         (fun y=>fH kill++[(d,.arr false (a||a') (i||i') ie.size y.list)]) [d]):=by
      intro pre pre' old a i kill hpre
      refine ⟨fun hp => ?_,rfl,?_,rfl⟩
      ·obtain ⟨h1,h2⟩:=fO hp
       refine ⟨hask,hpre h1,?_⟩
       rw [dQ,dQ]
       simpa using h2
      ·simp only [jy]
       congr 1
       simp only [P.list,fH,Qt,UB,cu,hsz]
       rw [←uz];rfl
     split at h
     ·simp only [Q0] at h;subst h
      exact ⟨_,rfl,key true True [] false false [] fun _=>trivial⟩
     ·rename_i g
      split at h
      ·rename_i a i e' l hg
       split at h
       ·rename_i l' hl
        cases hgd:Nat.beq g d with
        |true=>rw [hgd] at h;cases h
        |false=>
         rw [hgd,cond_false] at h
         simp only [Q0] at h;subst h
         obtain ⟨ee,hl⟩:=lN hl
         cases ee
         subst hl
         simp only [bf,fB hg]
         rw [if_pos ⟨hsz,fun e=>by subst e;simp at hgd⟩]
         exact ⟨_,rfl,key true True _ a i [(g,.none)] fun _=>trivial⟩
       ·cases h
      ·cases h
     ·rename_i g lo hi
      split at h
      ·rename_i a i e' l hg
       split at h
       ·rename_i l' hl
        cases hgd:Nat.beq g d with
        |true=>rw [hgd] at h;cases h
        |false=>
         rw [hgd,cond_false] at h
         simp only [Q0] at h;subst h
         obtain ⟨ee,hl⟩:=lN hl
         cases ee
         subst hl
         simp only [bf,fB hg,mW]
         rw [if_pos ⟨hsz,fun e=>by subst e;simp at hgd⟩]
         refine ⟨_,rfl,key (decide (lo=0)) (P.int .i64 lo=jh 0) (l.take hi.toNat) a i [(g,.none)] fun h => ?_⟩
         have h:lo=0:=by simpa using h
         subst h;rfl
       ·cases h
      ·cases h
     ·cases h
  ·cases h
 ·cases h
theorem R_ (args:Array Operand) (ts:Array TypeId):eX tt ety d o f (.call { callee:=.builtin .append,args:=args,argTypes:=ts }) ty:=by
 intro r h
 simp only [b_] at h
 split at h
 ·rename_i s x sT xT rest ha hts
  split at h
  ·rename_i e i1 i2 i3 s' x' ht hs hx
   have hs':aP (f s)=.v (.one (bf s')):=by rw [hs];rfl
   have hx':aP (f x)=.v (.one (bf x')):=by rw [hx];rfl
   simp only [kernel,ha,hts,ht,hs',hx']
   exact Ou h
  ·cases h
 ·cases h
theorem Ov (op:Op):UU tt ety d o f op ty:=by
 cases op
 case move x=>exact eX.toC (Xb x)
 case assign x=>exact eX.toC (RX x)
 case pick c x y=>exact eX.toC (Xc c x y)
 case alloc t=>exact eX.toC (UY t)
 case box t x=>exact eX.toC (ZJ t x)
 case build t ps=>exact eX.toC (UZ t ps)
 case buildSlice t n ps=>exact eX.toC (Gp t n ps)
 case load t x=>exact eX.toC (Xe t x)
 case store t x y=>exact eX.toC (U1 t x y)
 case nilCheck x=>exact eX.toC (LG x)
 case binOp op t x y u=>exact eX.toC (U3 op t x y u)
 case unOp op t x=>exact eX.toC (Xh op t x)
 case convert s t x=>exact eX.toC (Oo s t x)
 case makeSlice t n c=>exact eX.toC (Jp t n c)
 case slice t x lo hi mx=>
  cases mx with
  |none=>exact eX.toC (U5 t x lo hi)
  |some m=>cases lo with
   |some l=>intro r h;simp [b_] at h
   |none=>cases hi with
    |none=>intro r h;simp [b_] at h
    |some hi=>exact eX.toC (RZ t x hi m)
 case fieldAddr t x n=>exact eX.toC (Jq t x n)
 case field t x n=>exact eX.toC (U6 t x n)
 case indexAddr t x ix=>exact Jr t x ix
 case index t x ix=>exact eX.toC (U7 t x ix)
 case range t x=>exact eX.toC (U8 t x)
 case extract t n=>exact eX.toC (Ot t n)
 case makeFunc fn first caps=>
  cases fn
  case func g=>exact eX.toC (LM g first caps)
  all_goals (intro r h;simp [b_] at h)
 case call c=>
  obtain ⟨callee,args,ts⟩:=c
  cases callee
  case builtin b=>
   cases b
   case len=>exact eX.toC (ZK args ts)
   case append=>exact eX.toC (R_ args ts)
   case clear=>exact eX.toC (U4 args ts)
   case min=>exact eX.toC (ZL args ts)
   case max=>exact eX.toC (ZM args ts)
   all_goals (intro r h;simp [b_] at h)
  all_goals (intro r h;simp [b_] at h)
 all_goals (intro r h;simp [b_] at h)
end
end Go.Fg

namespace Go.Fg
open Go.Fw
section
variable [RE]
def wdF:Wd:=⟨.bool,false⟩
def placesOf:Ty→List Nat
 |.prod (.st c) r=>c::placesOf r
 |_=>[]
def Ox (et:Ty):List Nat→List (Nat×Ty)
 | []=>[]
 |c::cs=>match (gW et)[c]? with
  |some (.sl t)=>(c,t)::Ox et cs
  |_=>Ox et cs
def U9 (ety:TypeId→Option Ty) (e:TypeId) (et:Ty):List (Nat×Ty):=match ety (1000000+e) with
 |some t=>Ox et (placesOf t)
 |none=>[]
def vk (ak:List (Nat×Ty)) (off n:Nat):List (Nat×Ty):=match ak with
 | []=>[]
 |(c,t)::r=>match Nat.ble off c&&Nat.blt c (off+n) with
  |true=>(c,t)::vk r off n
  |false=>vk r off n
def sG (o:Nat→TO) (g:Nat):Option TH:=match o g with
 |.ay a i e ak l hole=>match hole with
  |none=>some ⟨a,i,e,ak,l⟩
  |some (n,c,d)=>match o d with
   |.arr false a' i' e' l'=>match RQ e ak c e' with
    |true=>some ⟨a||a',i||i',e,ak,putRow e l n c (ql e' l')⟩
    |false=>none
   |_=>none
 |_=>none
def abY:TO→Bool
 |.arr fz _ _ _ _=>!fz
 |_=>false
def jA:List Nat→List (Nat×TO)
 | []=>[]
 |g::gs=>(g,.none)::jA gs
def cellT (e:Ty) (x:Dt e) (c:Nat) (e':Ty):List (Dt e'):=((dW e x).getD c wdF).as (.sl e')
def Js (o:Nat→TO) (col:Nat→Option Ty):Nat→List Ty→List TW→Option (List Wd×Bool×Bool×List Nat×List (Nat×Nat))
 |_,[],[]=>some ([],false,false,[],[])
 |j,t::ts,x::xs=>match Js o col (j+1) ts xs with
  |none=>none
  |some (ys,a',i',gs',es)=>match col j with
   |none=>match x.toP o t with
    |some (y,a,i,gs)=>some (⟨t,y⟩::ys,a||a',i||i',gs++gs',es)
    |none=>none
   |some s=>match ZE t (.sl s) with
    |true=>match x with
     |.bM=>some (ql s []::ys,a',i',gs',es)
     |.own e=>match o e with
      |.arr false a i s' l=>match (ql s' l).yt (.sl s) with
       |some l=>some (ql s l::ys,a||a',i||i',gs',(j,e)::es)
       |none=>none
      |_=>none
     |_=>none
    |false=>none
 |_,_,_=>none
def BL:List (Nat×Ty)→List (Nat×Ty)→Bool
 | [],[]=>true
 |(c,t)::r,(c',t')::r'=>Nat.beq c c'&&ZE t t'&&BL r r'
 |_,_=>false
def LP (o:Nat→TO) (et:Ty) (ak:List (Nat×Ty)):TW→Option (Bool×Bool×Bool×List (Dt et)×List Nat)
 |.bM=>some (true,false,false,[],[])
 |.own g=>match sG o g with
  |some ⟨a,i,e,fD,l⟩=>match (ql e l).yt (.sl et),BL fD ak with
   |some l,true=>some (true,a,i,l,g::gu (o g))
   |_,_=>none
  |none=>none
 |.vw g lo hi=>match sG o g with
  |some ⟨a,i,e,fD,l⟩=>match (ql e (l.take hi.toNat)).yt (.sl et),BL fD ak with
   |some l,true=>some (decide (lo=0),a,i,l,g::gu (o g))
   |_,_=>none
  |none=>none
 |_=>none
def rH:Ty:=.st RE.hd
def Si (n:Nat):List (Dt rH):=List.replicate n (dflt rH)
def Jt (tt:TT) (o:Nat→TO) (f:Operand→TS) (t:TypeId) (x:Operand):Option nZ:=match tt t,f x with
 |some i,.v (.one (.ep g n off))=>match sG o g with
  |some ⟨a,i',e,ak,l⟩=>match qm off ak with
   |some e'=>bif RQ e ak off e'&&(Nat.beq i.size 1&&!i.agg)&&pO (((dW e (dflt e)).drop off).take i.size) i.zero then
     some { pre:=true,t:=.sl rH,val:=Si (List.length (α:=Dt e') (cellT e (l.getD n.toNat (dflt e)) off e')),dst:=fun z=>.v (.one (.p false false ⟨.sl rH,z⟩)),aA:=fun _=>[],new:=[] } else none
   |none=>none
  |none=>none
 |_,_=>none
def g_ (tt:TT) (ety:TypeId→Option Ty) (d:Nat) (o:Nat→TO) (f:Operand→TS) (op:Op) (ty:TypeId):Option nZ:=
 match op with
 |.load t x=>match ety (3000000+d) with
  |some _=>Jt tt o f t x
  |none=>match tt t,f x with
  |some i,.v (.one (.ep g n off))=>match o g with
   |.ay a0 i0 e0 jd l0 _=>bif Nat.ble (off+i.size) (size e0)&&Nat.blt 0 i.size&&pO (((dW e0 (dflt e0)).drop off).take i.size) i.zero then
     match vk jd off i.size with
     | []=>some { pre:=true,t:=e0,val:=l0.getD n.toNat (dflt e0),dst:=fun z=>TV.dN i.agg (YR a0 i0 (((dW e0 z).drop off).take i.size)),aA:=fun _=>[],new:=[] }
     | [(c,e')]=>match sG o g with
      |some ⟨a,i',e,ak,l⟩=>match RQ e ak c e'&&Nat.ble (off+i.size) (size e)&&pO (((dW e (dflt e)).drop off).take i.size) i.zero with
       |true=>some { pre:=true,t:=.sl e,val:=l,dst:=fun (y:List (Dt e))=>TV.dN i.agg ((YR a i' (((dW e (y.getD n.toNat (dflt e))).drop off).take i.size)).set (c-off) (.own d)),aA:=fun (y:List (Dt e))=>(g,.ay a i' e ak y (some (n.toNat,c,d)))::(d,.arr false a i' e' (cellT e (y.getD n.toNat (dflt e)) c e'))::jA (gu (o g)),new:=[d] }
       |false=>none
      |none=>none
     |_=>none
     else none
   |_=>none
  |_,_=>none
 |.store t x y=>match tt t,f x,f y with
  |some i,.v (.one (.ep g n off)),.v y=>match o g with
   |.ay a0 i0 e0 ak l0 hole=>match Js o (fun j=>qm j ak) off (((gW e0).drop off).take i.size) y.words with
    |some (ps,a',i',gs,es)=>bif Nat.ble (off+i.size) (size e0)&&Nat.beq y.words.length i.size&&y.solid&&!dM g gs&&o9 (es.map (·.2))&&zS (es.map (·.2)) gs then
      let res (pre:Bool) (a i1:Bool) (e:Ty) (l:List (Dt e)) (eP:Option (Nat×Nat×Nat)) (ks:List Nat):nZ:=
       { pre,t:=.sl e,val:=List.set l n.toNat (Gl e (Nat.beq i.size (size e)) (l.getD n.toNat (dflt e)) off ps),dst:=fun _=>.no,aA:=fun z=>(g,.ay (a||a') (i1||i') e ak z eP)::jA (es.map (·.2))++jA ks++gs.map (jG o),new:=[] }
      match vk ak off i.size with
      | []=>some (res true a0 i0 e0 l0 hole [])
      |_::_=>match hole with
       |none=>some (res true a0 i0 e0 l0 none [])
       |some (n0,c0,d0)=>match sG o g with
        |some ⟨a,i1,e,fD,l⟩=>match !dM d0 (es.map (·.2))&&!dM d0 gs with
         |true=>match ZE e e0 with
          |true=>some (res true a i1 e l none [d0])
          |false=>none
         |false=>bif Nat.ble off c0&&Nat.blt c0 (off+i.size) then some (res (Nat.beq n0 n.toNat) a0 i0 e0 l0 none []) else none
        |none=>match abY (o d0) with
         |true=>none
         |false=>bif Nat.ble off c0&&Nat.blt c0 (off+i.size) then some (res (Nat.beq n0 n.toNat) a0 i0 e0 l0 none []) else none
      else none
    |none=>none
   |_=>none
  |_,_,_=>none
 |.buildSlice t n parts=>match tt t with
  |some { k:=.slice e,.. }=>match tt e,ety e with
   |some ie,some et=>match U9 ety e et with
    | []=>none
    |wE::zV=>match y7 (fun m=>if m<n then some (m*ie.size,ie.size) else none) (Eo (ie.zero.map RP) n) (parts.toList.map fun p=>(p.1,f p.2)) with
     |some ws=>match Js o (fun j=>qm (j % ie.size) (wE::zV)) 0 (Eo (gW et) n) ws with
      |some (ps,a,i,gs,es)=>bif Nat.ble (n+n*ie.size) 16777216&&Nat.beq (size et) ie.size&&o9 (es.map (·.2))&&zS (es.map (·.2)) gs then
        some { pre:=true,t:=.sl et,val:=y8 et n ps,dst:=fun _=>.v (.one (.own d)),aA:=fun y=>(d,.ay a i et (wE::zV) y none)::jA (es.map (·.2))++gs.map (jG o),new:=[d] } else none
      |none=>none
     |none=>none
   |_,_=>none
  |_=>none
 |.makeSlice t n c=>match tt t,f n,f c with
  |some { k:=.slice e,.. },.v (.one (.p _ _ ⟨.int .i64,n⟩)),.v (.one (.p _ _ ⟨.int .i64,c⟩))=>match tt e,ety e with
   |some ie,some et=>match U9 ety e et with
    | []=>none
    |wE::zV=>match Js o (fun j=>qm j (wE::zV)) 0 (gW et) (ie.zero.map RP) with
     |some (ps,false,false,[],[])=>bif Nat.blt 0 ie.size&&Nat.beq (size et) ie.size then
      some { pre:=En ie.bytes n c,t:=.sl et,val:=List.replicate (Int.toNat n) (iW et ps),dst:=fun _=>.v (.one (.own d)),aA:=fun y=>[(d,.ay false false et (wE::zV) y none)],new:=[d] } else none
     |_=>none
   |_,_=>none
  |_,_,_=>none
 |.call { callee:=.builtin .append,args,argTypes }=>match args.toList,argTypes.toList with
  | [s,x],sT::xT::_=>match tt sT,tt xT,f s,f x with
   |some { k:=.slice e,.. },some { k:=.slice _,.. },.v (.one s),.v (.one (.own g2))=>match tt e,sG o g2 with
    |some ie,some ⟨a2,i2,et,ak,new⟩=>match LP o et ak s with
     |some (pre,a,i,old,ks)=>bif !Nat.beq ie.bytes 0&&Nat.beq (size et) ie.size&&o9 (ks++g2::gu (o g2)) then
       some { pre:=pre&&decide ((old.length+new.length)*ie.bytes≤140737488355328),t:=.sl et,val:=List.append old new,dst:=fun _=>.v (.one (.own d)),aA:=fun y=>(d,.ay (a||a2) (i||i2) et ak y none)::jA (ks++g2::gu (o g2)),new:=[d] } else none
     |none=>none
    |_,_=>none
   |_,_,_,_=>none
  |_,_=>none
 |.slice t x none hi none=>match ety 2000000 with
  |none=>none
  |some _=>match tt t,f x with
   |some { k:=.slice e,.. },.v (.one (.own g))=>match tt e,o g with
    |some ie,.arr false a i et l=>bif Nat.beq (size et) ie.size then match jH (List.length (α:=Dt et) l) (hi.map f) with
     |some hi=>some { pre:=decide (0≤hi)&&decide (hi≤(List.length (α:=Dt et) l:Int)),t:=.sl et,val:=List.take (α:=Dt et) hi.toNat l,dst:=fun _=>.v (.one (.own d)),aA:=fun y=>[(d,.arr false a i et y),(g,.none)],new:=[d] }
     |none=>none
     else none
    |some ie,.ay a i et ak l none=>bif Nat.beq (size et) ie.size then match jH (List.length (α:=Dt et) l) (hi.map f) with
     |some hi=>some { pre:=decide (0≤hi)&&decide (hi≤(List.length (α:=Dt et) l:Int)),t:=.sl et,val:=List.take (α:=Dt et) hi.toNat l,dst:=fun _=>.v (.one (.own d)),aA:=fun y=>[(d,.ay a i et ak y none),(g,.none)],new:=[d] }
     |none=>none
     else none
    |_,_=>none
   |_,_=>none
 |_=>none
section
variable {o:Nat→TO} {tt:TT} {ety:TypeId→Option Ty} {d:Nat} {f:Operand→TS} {ty:TypeId}
theorem nU (off n:Nat) :∀(ak:List (Nat×Ty)),gI (fM ak) off n=fM (vk ak off n)
 | []=>rfl
 |(c,t)::r=>by
  have ih:=nU off n r
  simp only [gI,fM,Qt,KV,vk] at ih ⊢
  cases hb:(Nat.ble off c&&Nat.blt c (off+n)) with
  |true=>simp only [if_true,Qt,ih]
  |false=>simp only [Zs,if_false,ih]
theorem Ai (c:Nat) (ak:List (Nat×Ty)):(fM ak).lookup c=(qm c ak).map size:=by
 cases h:qm c ak with
 |none=>exact Ep h
 |some t=>exact Ae h
theorem nC (g:Nat) (x:TO) (r:List (Nat×TO)):fH ((g,x)::r)=(g,cu x)::fH r:=rfl
theorem nD :∀(gs:List Nat),fH (jA gs)=kills gs
 | []=>rfl
 |g::gs=>by
  show (g,O.none)::fH (jA gs)=(g,O.none)::kills gs
  rw [nD gs]
theorem nG {g:Nat} {a i:Bool} {e:Ty} {ak:List (Nat×Ty)} {l:List (Dt e)} (h:sG o g=some ⟨a,i,e,ak,l⟩):gJ (aZ o) g=some (a,i,size e,fM ak,aB e l)∧(aZ o g).hn=gu (o g):=by
 unfold sG at h
 cases ho:o g with
 |ay a0 i0 e0 jd l0 hole=>
  rw [ho] at h
  have hg:aZ o g=.ay a0 i0 (size e0) (fM jd) (aB e0 l0) hole:=by simp [aZ,ho,cu]
  rcases hole with _ | ⟨n,c,d⟩
  ·cases h
   exact ⟨by simp [gJ,hg],by rw [hg];rfl⟩
  ·simp only at h
   cases hd:o d with
   |arr fz a' i' e' l'=>
    rw [hd] at h
    cases fz with
    |true=>cases h
    |false=>
     simp only at h
     split at h
     ·rename_i hc
      cases h
      obtain ⟨k1,k2,k3⟩:=qo hc
      refine ⟨?_,by rw [hg];rfl⟩
      simp only [gJ,hg,fB hd]
      rw [if_pos ⟨k1,k3⟩,xG k2]
     ·cases h
   |_=>rw [hd] at h;cases h
 |_=>rw [ho] at h;cases h
theorem Oy {g n c d0:Nat} {a0 i0:Bool} {e0:Ty} {ak:List (Nat×Ty)} {l0:List (Dt e0)} (hog:o g=.ay a0 i0 e0 ak l0 (some (n,c,d0))) (h:abY (o d0)=false):gJ (aZ o) g=none:=by
 have hg:aZ o g=.ay a0 i0 (size e0) (fM ak) (aB e0 l0) (some (n,c,d0)):=by simp [aZ,hog,cu]
 simp only [gJ,hg]
 cases hd:o d0 with
 |arr fz a i e l=>
  rw [hd] at h
  cases fz with
  |true=>simp [aZ,hd,cu]
  |false=>cases h
 |_=>simp [aZ,hd,cu]
theorem LQ {e e':Ty} {x:Dt e} {c:Nat} (hc:(gW e)[c]?=some (.sl e')):(jr e x)[c]?=some (bQ ⟨.sl e',cellT e x c e'⟩):=by
 rw [fA,Xs]
 have hlt:c<(dW e x).length:=by rw [ny,←iL];exact (Q3.1 hc).1
 rw [Q2 hlt,YY]
 have ht:((dW e x)[c]).t=.sl e':=by
  have:=qj e x
  have h2:=congrArg (fun l=>l[c]?) this
  simp only [Xs,Q2 hlt,YY,hc,Q0] at h2
  exact h2
 have hg:(dW e x).getD c wdF=(dW e x)[c]:=by rw [Q6,Q2 hlt];rfl
 unfold cellT
 rw [hg,sF ht]
theorem zf {col:Nat→Option Ty} {col':Nat→Option Nat} (WM :∀j,col' j=(col j).map size) :∀{ts:List Ty} {xs:List TW} {j:Nat} {ys:List Wd} {a i:Bool} {gs:List Nat} {es:List (Nat×Nat)},Js o col j ts xs=some (ys,a,i,gs,es)→
  JZ (aZ o) col' j (xs.map bf)=some (ys.map bQ,a,i,gs,es)∧ys.map (·.t)=ts∧Pl o gs
 | [],[],j,ys,a,i,gs,es,h=>by
  simp only [Js,Q0,Q1] at h
  obtain ⟨rfl,rfl,rfl,rfl,rfl⟩:=h
  exact ⟨rfl,rfl,Pl.nil⟩
 | [],x::xs,j,ys,a,i,gs,es,h=>by simp [Js] at h
 |t::ts,[],j,ys,a,i,gs,es,h=>by simp [Js] at h
 |t::ts,x::xs,j,ys,a,i,gs,es,h=>by
  simp only [Js] at h
  split at h
  ·cases h
  ·rename_i ys' a' i' gs' es' h2
   obtain ⟨k1,k2,k3⟩:=zf WM h2
   simp only [Qt,JZ,k1,WM j]
   cases hc:col j with
   |none=>
    rw [hc] at h
    simp only at h
    split at h
    ·rename_i h1
     simp only [Q0,Q1] at h
     obtain ⟨rfl,rfl,rfl,rfl,rfl⟩:=h
     refine ⟨by simp only [Jx,Jk h1,Qt],by simp only [Qt,k2],(Oi h1).append k3⟩
    ·cases h
   |some s=>
    rw [hc] at h
    simp only at h
    split at h
    ·rename_i hts
     have hts:=um hts
     split at h
     ·simp only [Q0,Q1] at h
      obtain ⟨rfl,rfl,rfl,rfl,rfl⟩:=h
      exact ⟨by simp only [YY,bf,Qt];rfl,by simp only [Qt,k2,hts];rfl,k3⟩
     ·rename_i e
      split at h
      ·rename_i a1 i1 s' l hoe
       split at h
       ·rename_i l1 hl
        simp only [Q0,Q1] at h
        obtain ⟨rfl,rfl,rfl,rfl,rfl⟩:=h
        obtain ⟨he,hl⟩:=lN hl
        cases he
        subst hl
        refine ⟨?_,by simp only [Qt,k2,hts];rfl,k3⟩
        simp only [YY,bf,fB hoe,if_true,Qt]
        rfl
       ·cases h
      ·cases h
     ·cases h
    ·cases h
def Ez (tt:TT) (ety:TypeId→Option Ty) (d:Nat) (o:Nat→TO) (f:Operand→TS) (op:Op) (ty:TypeId):Prop:=
 ∀r,g_ tt ety d o f op ty=some r→∃dc r',bV tt dc d (aZ o) (fun x=>aP (f x)) op ty=some r'∧dR r r'
theorem Hr {i:TI} {e e':Ty} {l:List (Dt e)} {n off c:Nat} (hz:pO (((dW e (dflt e)).drop off).take i.size) i.zero=true) (c2:(gW e)[c]?=some (.sl e')) (hc1:off≤c) (hc2:c<off+i.size) :
  (((aB e l).getD n []).getD c default).list=aB e' (cellT e (l.getD n (dflt e)) c e'):=by
 by_cases hn:n<l.length
 ·have e1:(aB e l).getD n []=jr e (l.getD n (dflt e)):=by simp [aB,Q6,hn]
  rw [e1,Q6,LQ c2]
  exact jF _ _
 ·have e1:(aB e l).getD n []=[]:=by simp [aB,Q6,WP (Kd hn)]
  have e2:l.getD n (dflt e)=dflt e:=by simp [Q6,WP (Kd hn)]
  rw [e1,e2]
  have hz':=Ag hz (c-off)
  rw [Wm,W8,XX,if_pos (by omega),ZS,←fA] at hz'
  have e3:off+(c-off)=c:=by omega
  rw [e3,LQ c2] at hz'
  split at hz'
  ·simp only [Q0] at hz'
   have hl:=congrArg P.list hz'
   rw [jF] at hl
   rw [hl]
   have:(J4 i.zero (c-off)).list=[]:=by
    have hsl :∃sz l,J4 i.zero (c-off)=P.eG sz l:=⟨_,_,hz'.symm⟩
    unfold J4 at hsl ⊢
    split<;>rfl
   rw [this];rfl
  ·cases hz'
theorem Xi (n:Nat):bQ ⟨.sl rH,Si n⟩=hdr (List.replicate n ([]:List P)):=by
 have e0 :∀x,jr rH x=[]:=fun x=>by
  have h1:=ny rH x
  have h2:size rH=0:=by simp [rH,size,gZ,RE.hdF]
  rw [h2] at h1
  rw [fA,We h1];rfl
 rw [Jh]
 have e1:aB rH (Si n)=List.replicate n []:=by
  have :∀(n:Nat),List.map (jr rH) (Si n)=List.replicate n []:=fun n=>by
   induction n with
   |zero=>rfl
   |succ n ih=>
    have e1:jr rH (dflt rH)=[]:=e0 _
    show jr rH (dflt rH)::List.map (jr rH) (Si n)=[]::List.replicate n []
    rw [ih,e1]
  exact this n
 have e2:size rH=0:=by simp [rH,size,gZ,RE.hdF]
 rw [e1,e2]
 unfold hdr
 rw [K0]
 cases n<;>rfl
theorem Oz {t:TypeId} {x:Operand} {r:nZ} (h:Jt tt o f t x=some r) :∃r',o_ tt (aZ o) (fun x=>aP (f x)) t x=some r'∧dR r r':=by
 unfold Jt at h
 split at h
 ·rename_i i g n off ht hx
  have hx':aP (f x)=.v (.one (.ep g (.int .i64 n) off)):=by rw [hx];rfl
  have en:(P.int .i64 n).nat=n.toNat:=rfl
  split at h
  ·rename_i a i' e ak l hh
   split at h
   ·rename_i e' hca
    obtain ⟨hb,h⟩:=aW h
    obtain ⟨hb,hz⟩:=fO hb
    obtain ⟨hcb,hb⟩:=fO hb
    obtain ⟨h1,h2⟩:=fO hb
    have h1:=Q4 h1
    have h2:i.agg=false:=by simpa using h2
    simp only [Q0] at h;subst h
    obtain ⟨k1,k2⟩:=nG hh
    obtain ⟨c1,c2,c3⟩:=qo hcb
    unfold o_
    simp only [ht,hx',k1,c1]
    rw [if_pos ⟨c3,h1,h2⟩]
    refine ⟨_,rfl,⟨fun _=>trivial,?_,rfl,rfl⟩⟩
    have key:(((aB e l).getD (P.int .i64 n).nat []).getD off default).list=aB e' (cellT e (l.getD n.toNat (dflt e)) off e'):=by
     rw [en];exact Hr hz c2 (W4 _) (by omega)
    show S.v (.one (.p false false (hdr (((aB e l).getD (P.int .i64 n).nat []).getD off default).list)))=S.v (.one (.p false false (bQ ⟨.sl rH,Si _⟩)))
    rw [Xi,key]
    unfold hdr
    rw [dQ,K0]
   ·cases h
  ·cases h
 ·cases h
theorem U_ (t:TypeId) (x:Operand):Ez tt ety d o f (.load t x) ty:=by
 intro r h
 simp only [g_] at h
 split at h
 ·obtain ⟨r',h1,h2⟩:=Oz h
  exact ⟨[(0,0)],r',h1,h2⟩
 split at h
 ·rename_i i g n off ht hx
  have hx':aP (f x)=.v (.one (.ep g (.int .i64 n) off)):=by rw [hx];rfl
  have en:(P.int .i64 n).nat=n.toNat:=rfl
  split at h
  ·rename_i a0 i0 e0 jd l0 hole hog
   have hg:aZ o g=.ay a0 i0 (size e0) (fM jd) (aB e0 l0) hole:=by simp [aZ,hog,cu]
   obtain ⟨hb,h⟩:=aW h
   obtain ⟨hb,h3⟩:=fO hb
   obtain ⟨h1,h2⟩:=fO hb
   have h1:=Z6 h1
   split at h
   ·rename_i hci
    simp only [Q0] at h;subst h
    refine ⟨[],?_⟩
    simp only [bV,KA,cond_false,ht,hx',hg]
    rw [if_pos ⟨h1,Ey h2⟩]
    have WA:gI (fM jd) off i.size=[]:=by rw [nU,hci];rfl
    simp only [WA]
    refine ⟨_,rfl,⟨fun _=>trivial,?_,rfl,rfl⟩⟩
    simp only [zJ.pure,jv]
    congr 1
    rw [en]
    exact Jo e0 l0 n.toNat off i.size i.zero h1 h3 a0 i0
   ·rename_i c e' hci
    split at h
    ·rename_i a i' e ak l hh
     split at h
     ·rename_i hcc
      obtain ⟨hcc,hz⟩:=fO hcc
      obtain ⟨hcb,hle⟩:=fO hcc
      have hle:=Z6 hle
      simp only [Q0] at h;subst h
      obtain ⟨k1,k2⟩:=nG hh
      obtain ⟨c1,c2,c3⟩:=qo hcb
      have hcin:off≤c∧c<off+i.size:=by
       have hm:(c,size e')∈gI (fM jd) off i.size:=by rw [nU,hci];simp [fM]
       have:=(K9.1 hm).2
       simp only [Qf,Nat.ble_eq,Nat.blt_eq] at this
       exact this
      refine ⟨[],?_⟩
      simp only [bV,KA,cond_false,ht,hx',hg]
      rw [if_pos ⟨h1,Ey h2⟩]
      rw [hg] at k2
      have WA:gI (fM jd) off i.size=[(c,size e')]:=by rw [nU,hci];rfl
      simp only [WA,k1]
      refine ⟨_,rfl,⟨fun _=>trivial,?_,?_,rfl⟩⟩
      ·simp only [jv]
       congr 1
       rw [en]
       have key:=Jo e l n.toNat off i.size i.zero hle hz a i'
       simp only [P.list]
       rw [List.map_set,←key]
       apply K1
       intro j
       rw [JN]
       simp only [Xs,W0,List.length_range]
       by_cases hj:j<i.size
       ·rw [K6 hj]
        by_cases hjc:c-off=j
        ·rw [if_pos hjc,if_pos (by omega)]
         have:Nat.beq (off+j) c=true:=by simp;omega
         simp only [YY,this,if_true];rfl
        ·rw [if_neg hjc]
         have:Nat.beq (off+j) c=false:=by
          cases hb:Nat.beq (off+j) c with
          |false=>rfl
          |true=>have:=Q4 hb;omega
         simp only [YY,this,Zs,if_false]
       ·rw [WP (by simp;omega),if_neg (by omega)]
        rfl
      ·have key:(((aB e l).getD n.toNat []).getD c default).list=aB e' (cellT e (l.getD n.toNat (dflt e)) c e'):=Hr hz c2 hcin.1 hcin.2
       show (g,O.ay a i' (size e) (fM ak) (aB e l) (some ((P.int .i64 n).nat,c,d)))::(d,O.arr false a i' (size e') ((((aB e l).getD (P.int .i64 n).nat []).getD c default).list))::kills _=fH (_::_::jA _)
       rw [nC,nC,nD,k2,en,key];rfl
     ·cases h
    ·cases h
   ·cases h
  ·cases h
 ·cases h
theorem EC {g:Nat} {l:List Nat}:(!dM g l)=true→l.contains g=false:=by
 intro h;rw [aV] at h;simpa using h
theorem lQ :∀{a b:List (Nat×Ty)},BL a b=true→a=b
 | [],[],_=>rfl
 | [],_::_,h=>by cases h
 |_::_,[],h=>by cases h
 |(c,t)::r,(c',t')::r',h=>by
  simp only [BL,Qf] at h
  rw [Q4 h.1.1,um h.1.2,lQ h.2]
theorem Sj (t:TypeId) (x y:Operand):Ez tt ety d o f (.store t x y) ty:=by
 intro r h
 simp only [g_] at h
 split at h
 ·rename_i i g n off y' ht hx hy
  have hx':aP (f x)=.v (.one (.ep g (.int .i64 n) off)):=by rw [hx];rfl
  have hy':aP (f y)=.v (iF y'):=by rw [hy];rfl
  have en:(P.int .i64 n).nat=n.toNat:=rfl
  split at h
  ·rename_i a0 i0 e0 ak l0 hole hog
   have hg:aZ o g=.ay a0 i0 (size e0) (fM ak) (aB e0 l0) hole:=by simp [aZ,hog,cu]
   split at h
   ·rename_i ps a' i' gs es hD
    obtain ⟨hb,h⟩:=aW h
    obtain ⟨hb,h6⟩:=fO hb
    obtain ⟨hb,h5⟩:=fO hb
    obtain ⟨hb,h4⟩:=fO hb
    obtain ⟨hb,h3⟩:=fO hb
    obtain ⟨h1,h2⟩:=fO hb
    have h1:=Z6 h1
    have h2:=Q4 h2
    obtain ⟨k1,k2,k3⟩:=zf (col':=fun j=>(fM ak).lookup j) (fun j=>Ai j ak) hD
    have hl:ps.length=i.size:=by
     have:=congrArg List.length k2
     simp [iL] at this
     omega
    have hgl:gs.contains g=false:=EC h4
    have hcnd:off+i.size≤size e0∧(y'.words.map bf).length=i.size∧(iF y').solid=true∧gs.contains g=false∧o9 (es.map (·.2))=true∧zS (es.map (·.2)) gs=true:=
     ⟨h1,by rw [W0];exact h2,qw _ h3,hgl,h5,h6⟩
    have key :∀(pre:Bool) (pre':Prop) (a i1:Bool) (e:Ty) (l:List (Dt e)) (eP:Option (Nat×Nat×Nat)) (ks:List Nat),e=e0→(pre=true→pre')→
      dR { pre,t:=.sl e,val:=List.set l n.toNat (Gl e (Nat.beq i.size (size e)) (l.getD n.toNat (dflt e)) off ps),dst:=fun _=>.no,aA:=fun z=>(g,.ay (a||a') (i1||i') e ak z eP)::jA (es.map (·.2))++jA ks++gs.map (jG o),new:=[] }
       (.mk pre' (.sl (size e0) ((aB e l).set (P.int .i64 n).nat (aF ((aB e l).getD (P.int .i64 n).nat []) off (ps.map bQ)))) (fun _=>.no)
        (fun z=>(g,.ay (a||a') (i1||i') (size e0) (fM ak) z.list eP)::kills (es.map (·.2))++kills ks++gs.map (Fw.aH (aZ o))) []):=by
     intro pre pre' a i1 e l eP ks he hpre
     subst he
     refine ⟨hpre,rfl,?_,rfl⟩
     show (g,O.ay (a||a') (i1||i') (size e) (fM ak) ((aB e l).set (P.int .i64 n).nat (aF ((aB e l).getD (P.int .i64 n).nat []) off (ps.map bQ))) eP)::kills (es.map (·.2))++kills ks++gs.map (Fw.aH (aZ o))=fH ((_::jA _)++jA _++_)
     rw [jy,jy,nC,nD,nD,l7 k3,en]
     have hp:=BK (e:=e) (l:=l) (n:=n.toNat) (off:=off) (ps:=ps) (by rw [hl];exact k2) (by omega)
     rw [hl] at hp
     rw [←hp];rfl
    have WA:=nU off i.size ak
    have hk:bV tt [] d (aZ o) (fun x=>aP (f x)) (.store t x y) ty=bV tt [] d (aZ o) (fun x=>aP (f x)) (.store t x y) ty:=rfl
    refine ⟨[],?_⟩
    simp only [bV,ht,hx',hy',hg,qp,k1]
    rw [if_pos hcnd]
    split at h
    ·rename_i hci
     simp only [Q0] at h;subst h
     have WA:gI (fM ak) off i.size=[]:=by rw [WA,hci];rfl
     simp only [WA]
     exact ⟨_,rfl,key true True a0 i0 e0 l0 hole [] rfl fun _=>trivial⟩
    ·rename_i c0 cs hci
     have WA:gI (fM ak) off i.size=(c0.1,size c0.2)::fM cs:=by rw [WA,hci];rfl
     simp only [WA]
     split at h
     ·simp only [Q0] at h;subst h
      exact ⟨_,rfl,key true True a0 i0 e0 l0 none [] rfl fun _=>trivial⟩
     ·rename_i n0 c1 d0 _
      have over :∀(r:nZ),(bif Nat.ble off c1&&Nat.blt c1 (off+i.size) then some
         ({ pre:=Nat.beq n0 n.toNat,t:=.sl e0,val:=List.set l0 n.toNat (Gl e0 (Nat.beq i.size (size e0)) (l0.getD n.toNat (dflt e0)) off ps),dst:=fun _=>.no,aA:=fun z=>(g,.ay (a0||a') (i0||i') e0 ak z none)::jA (es.map (·.2))++jA []++gs.map (jG o),new:=[] }:nZ) else none)=some r→
        (off≤c1∧c1<off+i.size)∧dR r (.mk (n0=(P.int .i64 n).nat) (.sl (size e0) ((aB e0 l0).set (P.int .i64 n).nat (aF ((aB e0 l0).getD (P.int .i64 n).nat []) off (ps.map bQ)))) (fun _=>.no)
         (fun z=>(g,.ay (a0||a') (i0||i') (size e0) (fM ak) z.list none)::kills (es.map (·.2))++kills []++gs.map (Fw.aH (aZ o))) []):=by
       intro r hr
       obtain ⟨hb,hr⟩:=aW hr
       simp only [Q0] at hr;subst hr
       obtain ⟨q1,q2⟩:=fO hb
       exact ⟨⟨Z6 q1,Z6 q2⟩,key _ _ a0 i0 e0 l0 none [] rfl fun hp=>by rw [en];exact Q4 hp⟩
      split at h
      ·rename_i a i1 e fD l hh
       obtain ⟨j1,j2⟩:=nG hh
       simp only [j1]
       split at h
       ·rename_i hcc
        obtain ⟨q1,q2⟩:=fO hcc
        split at h
        ·rename_i hty
         simp only [Q0] at h;subst h
         rw [if_pos ⟨EC q1,EC q2⟩]
         exact ⟨_,rfl,key true True a i1 e l none [d0] (um hty) fun _=>trivial⟩
        ·cases h
       ·rename_i hcc
        obtain ⟨q1,q2⟩:=over r h
        rw [if_neg (by
         rintro ⟨z1,z2⟩
         rw [←aV] at z1 z2
         rw [z1,z2] at hcc;cases hcc),if_pos q1]
        exact ⟨_,rfl,q2⟩
      ·split at h
       ·cases h
       ·rename_i har
        obtain ⟨q1,q2⟩:=over r h
        simp only [Oy hog har]
        rw [if_pos q1]
        exact ⟨_,rfl,q2⟩
   ·cases h
  ·cases h
 ·cases h
theorem Gq (t:TypeId) (n c:Operand):Ez tt ety d o f (.makeSlice t n c) ty:=by
 intro r h
 simp only [g_] at h
 split at h
 ·rename_i e i1 i2 i3 a1 j1 n' a2 j2 c' ht hn hc
  change Int at n';change Int at c'
  have hn':aP (f n)=.v (.one (.p a1 j1 (.int .i64 n'))):=by rw [hn];rfl
  have hc':aP (f c)=.v (.one (.p a2 j2 (.int .i64 c'))):=by rw [hc];rfl
  split at h
  ·rename_i ie et he het
   split at h
   ·cases h
   ·rename_i wE zV hdc
    split at h
    ·rename_i ps hp
     obtain ⟨hb,h⟩:=aW h
     simp only [Q0] at h;subst h
     obtain ⟨h1,h2⟩:=fO hb
     have hsz:=Q4 h2
     obtain ⟨k1,k2,_⟩:=zf (col':=fun j=>(fM (wE::zV)).lookup j) (fun j=>Ai j (wE::zV)) hp
     rw [oO] at k1
     refine ⟨fM (wE::zV),?_⟩
     have ZN:fM (wE::zV)=(wE.1,size wE.2)::fM zV:=rfl
     simp only [bV,ht,hn',hc',ZN,he]
     rw [ZN] at k1
     simp only [k1]
     rw [if_pos (Ey h1)]
     refine ⟨_,rfl,⟨fun hp => ?_,rfl,?_,rfl⟩⟩
     ·have hp:En ie.bytes n' c'=true:=hp
      simp only [En,Qf,decide_eq_true_eq] at hp
      obtain ⟨⟨⟨q1,q2⟩,q3⟩,q4⟩:=hp
      exact ⟨n'.toNat,c'.toNat,by congr 1;omega,by congr 1;omega,by omega,by
       have:((ie.bytes*c'.toNat:Nat):Int)≤281474976710656:=by
        rw [Int.natCast_mul,VS (by omega)];exact q3
       omega,by omega⟩
     ·show [(d,O.ay false false ie.size ((wE.1,size wE.2)::fM zV) (List.replicate (P.int .i64 n').nat (ps.map bQ)) none)]=fH [(d,_)]
      have en:(P.int .i64 n').nat=n'.toNat:=rfl
      rw [nC,en]
      simp only [cu,ZN,hsz,aB,List.map_replicate,oM k2];rfl
    ·cases h
  ·cases h
 ·cases h
theorem ED (t:TypeId) (n:Nat) (ps:Array (Nat×Operand)):Ez tt ety d o f (.buildSlice t n ps) ty:=by
 intro r h
 simp only [g_] at h
 split at h
 ·rename_i e i1 i2 i3 ht
  split at h
  ·rename_i ie et he het
   split at h
   ·cases h
   ·rename_i wE zV hdc
    split at h
    ·rename_i ws hw
     split at h
     ·rename_i qs a i gs es hp
      obtain ⟨hb,h⟩:=aW h
      simp only [Q0] at h;subst h
      obtain ⟨hb,h4⟩:=fO hb
      obtain ⟨hb,h3⟩:=fO hb
      obtain ⟨h1,h2⟩:=fO hb
      have hsz:=Q4 h2
      have:=y9 hw
      rw [Ew,oO] at this
      have ZN:fM (wE::zV)=(wE.1,size wE.2)::fM zV:=rfl
      obtain ⟨k1,k2,k3⟩:=zf (col':=fun j=>((wE.1,size wE.2)::fM zV).lookup (j % ie.size)) (fun j=>by rw [←ZN];exact Ai (j % ie.size) (wE::zV)) hp
      refine ⟨fM (wE::zV),?_⟩
      simp only [bV,ht,ZN,he,Af,this,k1]
      rw [if_pos ⟨Z6 h1,h3,h4⟩]
      refine ⟨_,rfl,⟨fun _=>trivial,rfl,?_,rfl⟩⟩
      show (d,O.ay a i ie.size ((wE.1,size wE.2)::fM zV) (chunks ie.size n (qs.map bQ)) none)::kills (es.map (·.2))++gs.map (Fw.aH (aZ o))=fH ((_::jA _)++_)
      rw [jy,nC,nD,l7 k3]
      have e1:=xH et n qs k2
      rw [hsz] at e1
      simp only [cu,ZN,hsz]
      rw [←e1]
     ·cases h
    ·cases h
  ·cases h
 ·cases h
theorem OA (args:Array Operand) (ts:Array TypeId):Ez tt ety d o f (.call { callee:=.builtin .append,args:=args,argTypes:=ts }) ty:=by
 intro r h
 simp only [g_] at h
 split at h
 ·rename_i s x sT xT rest ha hts
  split at h
  ·rename_i e i1 i2 i3 e' j1 j2 j3 s' g2 hsT hxT hs hx
   have hs':aP (f s)=.v (.one (bf s')):=by rw [hs];rfl
   have hx':aP (f x)=.v (.one (.own g2)):=by rw [hx];rfl
   split at h
   ·rename_i ie a2 i2' et ak new he hh
    obtain ⟨j1',j2'⟩:=nG hh
    split at h
    ·rename_i pre a i old ks hbase
     obtain ⟨hb,h⟩:=aW h
     simp only [Q0] at h;subst h
     obtain ⟨hb,h3⟩:=fO hb
     obtain ⟨h1,h2⟩:=fO hb
     have hsz:=Q4 h2
     have hb0:ie.bytes≠0:=fun e=>by rw [e] at h1;cases h1
     have hB :∃ask src,baseD (aZ o) (bf s')=some (ask,a,i,aB et old,ks,src)∧(src=none∨src=some (size et,fM ak))∧(pre=true→ask):=by
      cases s' with
      |bM=>
       simp only [LP,Q0,Q1] at hbase
       obtain ⟨rfl,rfl,rfl,rfl,rfl⟩:=hbase
       exact ⟨True,none,rfl,.inl rfl,fun _=>trivial⟩
      |own g=>
       simp only [LP] at hbase
       split at hbase
       ·rename_i a1 i1 e1 fD l hg
        obtain ⟨q1,q2⟩:=nG hg
        split at hbase
        ·rename_i l1 hl hc
         simp only [Q0,Q1] at hbase
         obtain ⟨rfl,rfl,rfl,rfl,rfl⟩:=hbase
         obtain ⟨ee,hl⟩:=lN hl
         cases ee
         subst hl
         have:=lQ hc
         subst this
         exact ⟨True,some (size et,fM fD),by simp only [bf,baseD,q1,q2],.inr rfl,fun _=>trivial⟩
        ·cases hbase
       ·cases hbase
      |vw g lo hi=>
       simp only [LP] at hbase
       split at hbase
       ·rename_i a1 i1 e1 fD l hg
        obtain ⟨q1,q2⟩:=nG hg
        split at hbase
        ·rename_i l1 hl hc
         simp only [Q0,Q1] at hbase
         obtain ⟨rfl,rfl,rfl,rfl,rfl⟩:=hbase
         obtain ⟨ee,hl⟩:=lN hl
         cases ee
         subst hl
         have:=lQ hc
         subst this
         refine ⟨P.int .i64 lo=jh 0,some (size et,fM fD),by simp only [bf,baseD,q1,q2,mW],.inr rfl,fun h => ?_⟩
         have h:lo=0:=by simpa using h
         subst h;rfl
        ·cases hbase
       ·cases hbase
      |_=>simp [LP] at hbase
     obtain ⟨ask,src,q1,q2,q3⟩:=hB
     refine ⟨[],?_⟩
     simp only [bV,ha,hts,hsT,hxT,hs',hx',he,q1,j1']
     rw [if_pos ⟨hb0,hsz,q2,by rw [j2'];exact h3⟩]
     refine ⟨_,rfl,⟨fun hp => ?_,rfl,?_,rfl⟩⟩
     ·obtain ⟨p1,p2⟩:=fO hp
      refine ⟨q3 p1,?_⟩
      rw [dQ,dQ]
      simpa using p2
     ·show (d,O.ay (a||a2) (i||i2') (size et) (fM ak) (aB et old++aB et new) none)::kills (ks++g2::(aZ o g2).hn)=fH (_::jA _)
      rw [nC,nD,j2',←uz];rfl
    ·cases h
   ·cases h
  ·cases h
 ·cases h
theorem Sl (t:TypeId) (x:Operand) (lo hi mx:Option Operand):Ez tt ety d o f (.slice t x lo hi mx) ty:=by
 intro r h
 cases lo with
 |some _=>simp [g_] at h
 |none=>
 cases mx with
 |some _=>simp [g_] at h
 |none=>
 simp only [g_] at h
 split at h
 ·cases h
 ·split at h
  ·rename_i e i1 i2 i3 g ht hx
   have hx':aP (f x)=.v (.one (.own g)):=by rw [hx];rfl
   split at h
   ·rename_i ie a i et l he hg
    change List (Dt et) at l
    obtain ⟨hb,h⟩:=aW h
    split at h
    ·rename_i hi' hhi
     simp only [Q0] at h;subst h
     have qQ:=jI hhi
     have hg':aZ o g=.arr false a i (size et) (aB et l):=fB hg
     refine ⟨[],?_⟩
     have en:jh (aB et l).length=P.int .i64 (List.length (α:=Dt et) l:Int):=by rw [dQ];rfl
     simp only [bV,ht,hx',he,hg']
     rw [if_pos (Q4 hb)]
     simp only [en,qQ]
     refine ⟨_,rfl,⟨fun hp => ?_,rfl,?_,rfl⟩⟩
     ·obtain ⟨h1,h2⟩:=fO hp
      have h1:=of_decide_eq_true h1
      have h2:=of_decide_eq_true h2
      exact ⟨hi'.toNat,by rw [VS h1],by rw [dQ];omega⟩
     ·show [(d,O.arr false a i (size et) ((aB et l).take (P.nat (.int .i64 hi')))),(g,O.none)]=[(d,O.arr false a i (size et) (aB et (List.take hi'.toNat l))),(g,O.none)]
      rw [mW]
    ·cases h
   ·rename_i ie a i et ak l he hg
    change List (Dt et) at l
    obtain ⟨hb,h⟩:=aW h
    split at h
    ·rename_i hi' hhi
     simp only [Q0] at h;subst h
     have qQ:=jI hhi
     have hg':aZ o g=.ay a i (size et) (fM ak) (aB et l) none:=by simp [aZ,hg,cu]
     refine ⟨[],?_⟩
     have en:jh (aB et l).length=P.int .i64 (List.length (α:=Dt et) l:Int):=by rw [dQ];rfl
     simp only [bV,ht,hx',he,hg']
     rw [if_pos (Q4 hb)]
     simp only [en,qQ]
     refine ⟨_,rfl,⟨fun hp => ?_,rfl,?_,rfl⟩⟩
     ·obtain ⟨h1,h2⟩:=fO hp
      have h1:=of_decide_eq_true h1
      have h2:=of_decide_eq_true h2
      exact ⟨hi'.toNat,by rw [VS h1],by rw [dQ];omega⟩
     ·show [(d,O.ay a i (size et) (fM ak) ((aB et l).take (P.nat (.int .i64 hi'))) none),(g,O.none)]=[(d,O.ay a i (size et) (fM ak) (aB et (List.take hi'.toNat l)) none),(g,O.none)]
      rw [mW]
    ·cases h
   ·cases h
  ·cases h
theorem LU (op:Op):Ez tt ety d o f op ty:=by
 cases op
 case load t x=>exact U_ t x
 case store t x y=>exact Sj t x y
 case buildSlice t n ps=>exact ED t n ps
 case makeSlice t n c=>exact Gq t n c
 case slice t x lo hi mx=>exact Sl t x lo hi mx
 case call c=>
  obtain ⟨callee,args,ts⟩:=c
  cases callee
  case builtin b=>
   cases b
   case append=>exact OA args ts
   all_goals (intro r h;simp [g_] at h)
  all_goals (intro r h;simp [g_] at h)
 all_goals (intro r h;simp [g_] at h)
end
end
end Go.Fg

namespace Go.Fg
open Go.Fw
inductive Prog:Type→Type 1 where
 |ret {R:Type} (r:R):Prog R
 |stuck {R:Type} (n:Nat):Prog R
 |cond {R:Type} (b:Bool) (x y:Prog R):Prog R
 |chk {R:Type} (b:Bool) (x:Prog R):Prog R
 |any {R:Type} (x y:Prog R):Prog R
 |let_ {A R:Type} (x:A) (k:A→Prog R):Prog R
 |join {A R:Type} (x:Prog A) (k:A→Prog R):Prog R
 |BM {A R:Type} (x:Prog (A ⊕ R)) (k:A→Prog R):Prog R
 |loop {A R:Type} (a:A) (body:A→Prog (A ⊕ R)):Prog R
 |call {A B R:Type} (n:Nat) (f:A→Option B) (a:A) (k:B→Prog R):Prog R
def Prog.map:{R R':Type}→(R→R')→Prog R→Prog R'
 |_,_,f,.ret r=>.ret (f r)
 |_,_,_,.stuck n=>.stuck n
 |_,_,f,.cond b x y=>.cond b (x.map f) (y.map f)
 |_,_,f,.chk b x=>.chk b (x.map f)
 |_,_,f,.any x y=>.any (x.map f) (y.map f)
 |_,_,f,.let_ x k=>.let_ x fun z=>(k z).map f
 |_,_,f,.join x k=>.join x fun z=>(k z).map f
 |_,_,f,.BM x k=>.BM (x.map (Sum.map id f)) fun z=>(k z).map f
 |_,_,f,.loop a body=>.loop a fun z=>(body z).map (Sum.map id f)
 |_,_,f,.call n g a k=>.call n g a fun z=>(k z).map f
def iY {A R:Type} (body:A→Option (A ⊕ R)):Nat→A→Option R
 |0,_=>none
 |n+1,a=>(body a).bind fun
  |.inl a'=>iY body n a'
  |.inr r=>some r
open Classical in
noncomputable def BN {A R:Type} (body:A→Option (A ⊕ R)) (a:A):Option R:=
 if h :∃n r,iY body n a=some r then iY body (Classical.choose h) a else none
open Classical in
noncomputable def both {R:Type} (x y:Option R):Option R:=if x=y then x else none
def ck {R:Type} (b:Bool) (x:Option R):Option R:=bif b then x else none
def fQ {A R:Type} (x:Option (A ⊕ R)) (k:A→Option R):Option R:=x.bind fun
 |.inl z=>k z
 |.inr r=>some r
def jW (x:Int):Int:=IntKind.i64.wrap x
noncomputable def Prog.run:{R:Type}→Prog R→Option R
 |_,.ret r=>some r
 |_,.stuck _=>none
 |_,.cond b x y=>bif b then x.run else y.run
 |_,.chk b x=>ck b x.run
 |_,.any x y=>both x.run y.run
 |_,.let_ x k=>(k x).run
 |_,.join x k=>x.run.bind fun z=>(k z).run
 |_,.BM x k=>fQ x.run fun z=>(k z).run
 |_,.loop a body=>BN (fun z=>(body z).run) a
 |_,.call _ g a k=>(g a).bind fun z=>(k z).run
section
variable [RE]
inductive jT where
 |p (a i:Bool) (t:Ty)
 |bM
 |own (g:Nat)
 |box (g off:Nat)
 |fn (f:FuncId) (gs:List Nat)
 |kH (g:Nat)
 |no
 |vw (g:Nat)
 |ep (g off:Nat)
inductive lS where
 |one (x:jT)
 |agg (xs:List jT)
inductive kY where
 |box (ws:List jT)
 |arr (fz a i:Bool) (e:Ty)
 |it
 |ay (a i:Bool) (e:Ty) (ak:List (Nat×Ty))
structure Ju where
 slots:List (Nat×lS)
 aN:List (Nat×kY)
def jT.er:jT→WS
 |.p a i _=>.p a i
 |.bM=>.bM
 |.own g=>.own g
 |.box g off=>.box g off
 |.fn f gs=>.fn f gs
 |.kH g=>.kH g
 |.no=>.no
 |.vw g=>.vw g
 |.ep g off=>.ep g off
def lS.er:lS→SS
 |.one x=>.one x.er
 |.agg xs=>.agg (xs.map jT.er)
def kY.er:kY→OS
 |.box ws=>.box (ws.map jT.er)
 |.arr fz a i e=>.arr fz a i (size e)
 |.it=>.it
 |.ay a i e ak=>.ay a i (size e) (fM ak)
def Ju.er (j:Ju):Shape:=⟨j.slots.map fun p=>(p.1,p.2.er),j.aN.map fun p=>(p.1,p.2.er)⟩
def jT.tys:jT→List Ty
 |.p _ _ t=>[t]
 |.vw _=>[.int .i64,.int .i64]
 |.ep _ _=>[.int .i64]
 |_=>[]
def lS.tys:lS→List Ty
 |.one x=>x.tys
 |.agg xs=>xs.flatMap jT.tys
def kY.tys:kY→List Ty
 |.box ws=>ws.flatMap jT.tys
 |.arr _ _ _ e=>[.sl e]
 |.it=>[.str,.int .i64]
 |.ay _ _ e _=>[.sl e]
def Ju.tys (j:Ju):List Ty:=j.slots.flatMap (fun p=>p.2.tys)++j.aN.flatMap fun p=>p.2.tys
def Tup:List Ty→Type
 | []=>Unit
 | [t]=>Dt t
 |t::u::ts=>Dt t×Tup (u::ts)
def Tup.kX:(ts:List Ty)→Tup ts→List Wd
 | [],_=>[]
 | [t],x=>[⟨t,x⟩]
 |t::u::ts,x=>⟨t,x.1⟩::Tup.kX (u::ts) x.2
def Tup.ofL:(ts:List Ty)→List Wd→Option (Tup ts)
 | [],[]=>some ()
 | [t],[w]=>w.yt t
 |t::u::ts,w::ws=>match w.yt t,Tup.ofL (u::ts) ws with
  |some x,some xs=>some (x,xs)
  |_,_=>none
 |_,_=>none
def CY (m:Ren):List Nat→List TW→Bool
 | [],[]=>true
 |g'::gs,.box g off::cs=>decide (m.lookup g'=some (some g))&&(Nat.beq off 0&&CY m gs cs)
 |_,_=>false
def Aj:List Nat→List TW
 | []=>[]
 |g::gs=>.box g 0::Aj gs
def Ak (m:Ren):jT→TW→Option (List Wd)
 |.p a i t,.p a' i' w=>match w.yt t with
  |some _=>bif (imp a' a&&imp i' i)||w.t.flat then some [w] else none
  |none=>none
 |.p _ _ t,.bM=>match t with
  |.sl e=>some [ql e []]
  |_=>none
 |.bM,.bM=>some []
 |.own g',.own g=>if m.lookup g'=some (some g) then some [] else none
 |.own g',.bM=>if m.lookup g'=some none then some [] else none
 |.box g' off,.box g off'=>if m.lookup g'=some (some g)∧off=off' then some [] else none
 |.fn f gs,.clo f' caps=>bif Nat.beq f f'&&CY m gs caps then some [] else none
 |.kH g',.kH g=>if m.lookup g'=some (some g) then some [] else none
 |.no,_=>some []
 |.vw g',.vw g lo hi=>if m.lookup g'=some (some g) then some [gq .i64 lo,gq .i64 hi] else none
 |.ep g' off,.ep g n off'=>if m.lookup g'=some (some g)∧off=off' then some [gq .i64 n] else none
 |_,_=>none
def uD (m:Ren):List jT→List TW→Option (List Wd)
 | [],[]=>some []
 |k::ks,x::xs=>match Ak m k x,uD m ks xs with
  |some u,some v=>some (u++v)
  |_,_=>none
 |_,_=>none
def Xj (m:Ren):lS→TS→Option (List Wd)
 |.one k,.v (.one x)=>Ak m k x
 |.agg ks,.v (.agg xs)=>uD m ks xs
 |_,_=>none
def OB (m:Ren):kY→TO→Option (List Wd)
 |.box ks,.box xs=>uD m ks xs
 |.arr fz a i e,.arr fz' a' i' e' l=>match (ql e' l).yt (.sl e) with
  |some l=>if fz=fz'∧(imp a' a&&imp i' i)=true then some [ql e l] else none
  |none=>none
 |.it,.it s n=>some [Lu s,gq .i64 n]
 |.ay a i e ak,.ay a' i' e' fD l hole=>match hole,(ql e' l).yt (.sl e),BL ak fD with
  |none,some l,true=>if (imp a' a&&imp i' i)=true then some [ql e l] else none
  |_,_,_=>none
 |_,_=>none
def kT (m:Ren) (s:Nat→TS):List (Nat×lS)→Option (List Wd)
 | []=>some []
 |(t,k)::rest=>match Xj m k (s t),kT m s rest with
  |some u,some v=>some (u++v)
  |_,_=>none
def mY (m:Ren) (o:Nat→TO):List (Nat×kY)→Option (List Wd)
 | []=>some []
 |(g',k)::rest=>match (match m.lookup g' with
   |some (some g)=>OB m k (o g)
   |some none=>(match k with
    |.arr false _ _ e=>some [ql e []]
    |.ay _ _ e _=>some [ql e []]
    |_=>none)
   |none=>none),mY m o rest with
  |some u,some v=>some (u++v)
  |_,_=>none
def zh (j:Ju) (m:Ren) (st:gU):Option (List Wd):=
 match j.er.ok&&YA j.er m with
 |true=>match kT m st.gs j.slots,mY m st.go j.aN with
  |some u,some v=>some (u++v)
  |_,_=>none
 |false=>none
def xI:Wd:=⟨.bool,false⟩
def xJ (vs:List Wd) (n:Nat):jT→TW×Nat
 |.p a i _=>(.p a i (vs.getD n xI),n+1)
 |.bM=>(.bM,n)
 |.own g=>(.own g,n)
 |.box g off=>(.box g off,n)
 |.fn f gs=>(.clo f (Aj gs),n)
 |.kH g=>(.kH g,n)
 |.no=>(.no,n)
 |.vw g=>(.vw g ((vs.getD n xI).as (.int .i64)) ((vs.getD (n+1) xI).as (.int .i64)),n+2)
 |.ep g off=>(.ep g ((vs.getD n xI).as (.int .i64)) off,n+1)
def qy (vs:List Wd):Nat→List jT→List TW×Nat
 |n,[]=>([],n)
 |n,k::ks=>((xJ vs n k).1::(qy vs (xJ vs n k).2 ks).1,(qy vs (xJ vs n k).2 ks).2)
def CG (vs:List Wd) (n:Nat):lS→TS×Nat
 |.one k=>(.v (.one (xJ vs n k).1),(xJ vs n k).2)
 |.agg ks=>(.v (.agg (qy vs n ks).1),(qy vs n ks).2)
def Am (vs:List Wd) (n:Nat):kY→TO×Nat
 |.box ks=>(.box (qy vs n ks).1,(qy vs n ks).2)
 |.arr fz a i e=>(.arr fz a i e ((vs.getD n xI).as (.sl e)),n+1)
 |.it=>(.it ((vs.getD n xI).as .str) ((vs.getD (n+1) xI).as (.int .i64)),n+2)
 |.ay a i e ak=>(.ay a i e ak ((vs.getD n xI).as (.sl e)) none,n+1)
def dY (vs:List Wd):Nat→List (Nat×lS)→List (Nat×TS)×Nat
 |n,[]=>([],n)
 |n,(t,k)::rest=>((t,(CG vs n k).1)::(dY vs (CG vs n k).2 rest).1,(dY vs (CG vs n k).2 rest).2)
def iH (vs:List Wd):Nat→List (Nat×kY)→List (Nat×TO)×Nat
 |n,[]=>([],n)
 |n,(g,k)::rest=>((g,(Am vs n k).1)::(iH vs (Am vs n k).2 rest).1,(iH vs (Am vs n k).2 rest).2)
def mkT (j:Ju) (vs:List Wd):gU:=
 { s:=(dY vs 0 j.slots).1,o:=(iH vs (dY vs 0 j.slots).2 j.aN).1,u:=j.aN.map (·.1) }
def PL:List Nat→List TW→Ren
 |g'::gs,.box g _::cs=>(g',some g)::PL gs cs
 |_,_=>[]
def abZ:jT→TW→Ren
 |.own g',.own g=>[(g',some g)]
 |.own g',.bM=>[(g',none)]
 |.box g' _,.box g _=>[(g',some g)]
 |.kH g',.kH g=>[(g',some g)]
 |.fn _ gs,.clo _ caps=>PL gs caps
 |.vw g',.vw g _ _=>[(g',some g)]
 |.ep g' _,.ep g _ _=>[(g',some g)]
 |_,_=>[]
def Va:List jT→List TW→Ren
 |k::ks,x::xs=>abZ k x++Va ks xs
 |_,_=>[]
def adE:lS→TS→Ren
 |.one k,.v (.one x)=>abZ k x
 |.agg ks,.v (.agg xs)=>Va ks xs
 |_,_=>[]
def LV (s:Nat→TS):List (Nat×lS)→Ren
 | []=>[]
 |(t,k)::r=>adE k (s t)++LV s r
def CZ (m:Ren) (o:Nat→TO):List (Nat×kY)→Ren
 | []=>[]
 |(g',.box ks)::r=>(match m.lookup g' with
  |some (some g)=>match o g with
   |.box ws=>Va ks ws
   |_=>[]
  |_=>[])++CZ m o r
 |_::r=>CZ m o r
def derive (aY:List Nat) (j:Ju) (st:gU):Ren:=
 let m0:=aY.map (fun g=>(g,some g))++LV st.gs j.slots
 let m1:=m0++CZ m0 st.go j.aN
 m1++CZ m1 st.go j.aN
structure dU where
 aO:Nat
 pin:Ju
 aQ:Ju
 dL:Nat
 aY:List Nat
 aU:List Nat
 kept:List Nat:=[]
def dU.er (s:dU):wH:={ aO:=s.aO,pin:=s.pin.er,aQ:=s.aQ.er,dL:=s.dL,aY:=s.aY,aU:=s.aU }
open Classical in
noncomputable def ckE {A R:Type} (x y:A) (r:Option R):Option R:=if x=y then r else none
noncomputable def zi {R:Type} (a b:Nat→TO) (r:R):List Nat→Option R
 | []=>some r
 |g::gs=>match a g,b g with
  |.arr false _ _ e l,.arr false _ _ e' l'=>match (ql e' l').yt (.sl e) with
   |some l''=>ckE (A:=List (Dt e)) l'' l (zi a b r gs)
   |none=>none
  |.ay _ _ e ak l none,.ay _ _ e' fD l' none=>match (ql e' l').yt (.sl e),BL ak fD with
   |some l'',true=>ckE (A:=List (Dt e)) l'' l (zi a b r gs)
   |_,_=>none
  |_,_=>none
structure bT where
 sig:dU
 f:Tup sig.pin.tys→Option (Tup sig.aQ.tys)
noncomputable def bT.ff (s:bT):Tup s.sig.pin.tys→Option (Tup s.sig.aQ.tys):=match s.sig.kept with
 | []=>s.f
 |g::gs=>fun x=>(s.f x).bind fun y=>zi (mkT s.sig.pin (Tup.kX s.sig.pin.tys x)).go (mkT s.sig.aQ (Tup.kX s.sig.aQ.tys y)).go y (g::gs)
abbrev dw:=FuncId→Option bT
structure CJ where
 ins:List Wd
 A:Bool×Bool
 I:Bool×Bool
 qK:List Nat
 ren:List (Nat×Nat)
def l9:List Nat→List TW→Option (List (Nat×Nat))
 | [],[]=>some []
 |g'::gs,.box g off::cs=>bif Nat.beq off 0 then match l9 gs cs with
  |some r=>some ((g',g)::r)
  |none=>none
  else none
 |_,_=>none
def Ht (o:Nat→TO):jT→TW→Option (List Wd×(Bool×Bool)×List Nat×List (Nat×Nat))
 |.p _ _ t,x=>match x.toP o t with
  |some (y,a,i,gs)=>some ([⟨t,y⟩],(a,i),gs,[])
  |none=>none
 |.own g',.own g=>some ([],(false,false),[],[(g',g)])
 |.box g' off',.box g off=>bif Nat.beq off' 0&&Nat.beq off 0 then some ([],(false,false),[],[(g',g)]) else none
 |.fn f gs,.clo f' caps=>bif Nat.beq f f' then match l9 gs caps with
  |some r=>some ([],(false,false),[],r)
  |none=>none
  else none
 |_,_=>none
def mQ (o:Nat→TO):List jT→List TW→Option (List Wd×(Bool×Bool)×List Nat×List (Nat×Nat))
 | [],[]=>some ([],(false,false),[],[])
 |k::ks,x::xs=>match Ht o k x,mQ o ks xs with
  |some (u,c,g,r),some (u',c',g',r')=>some (u++u',sN c c',g++g',r++r')
  |_,_=>none
 |_,_=>none
def PN (o:Nat→TO):lS→TS→Option (List Wd×(Bool×Bool)×List Nat×List (Nat×Nat))
 |.one k,.v (.one x)=>Ht o k x
 |.agg ks,.v (.agg xs)=>mQ o ks xs
 |_,_=>none
def kF (o:Nat→TO) (args:List TS):List (Nat×lS)→Option (List Wd×(Bool×Bool)×List Nat×List (Nat×Nat))
 | []=>some ([],(false,false),[],[])
 |(t,k)::rest=>match PN o k (args.getD t .no),kF o args rest with
  |some (u,c,g,r),some (u',c',g',r')=>some (u++u',sN c c',g++g',r++r')
  |_,_=>none
def ZO:jT→TW→Option (List Wd×(Bool×Bool)×List (Nat×Nat))
 |.p _ _ t,.p a i w=>match w.yt t with
  |some x=>some ([⟨t,x⟩],(a,i),[])
  |none=>none
 |.p _ _ t,.bM=>match t with
  |.sl e=>some ([ql e []],(false,false),[])
  |_=>none
 |.own g',.own g=>some ([],(false,false),[(g',g)])
 |.box g' off',.box g off=>bif Nat.beq off' 0&&Nat.beq off 0 then some ([],(false,false),[(g',g)]) else none
 |.fn f gs,.clo f' caps=>bif Nat.beq f f' then match l9 gs caps with
  |some r=>some ([],(false,false),r)
  |none=>none
  else none
 |_,_=>none
def EF:List jT→List TW→Option (List Wd×(Bool×Bool)×List (Nat×Nat))
 | [],[]=>some ([],(false,false),[])
 |k::ks,x::xs=>match ZO k x,EF ks xs with
  |some (u,c,r),some (u',c',r')=>some (u++u',sN c c',r++r')
  |_,_=>none
 |_,_=>none
def rJ (o:Nat→TO):List (Nat×Nat)→List (Nat×kY)→Option (List Wd×(Bool×Bool)×List (Nat×Nat))
 |ren,[]=>some ([],(false,false),ren)
 |ren,(g',k)::rest=>match ren.lookup g' with
  |some g=>match k,o g with
   |.box ks,.box ws=>match EF ks ws with
    |some (u,c,r)=>match rJ o (ren++r) rest with
     |some (u',c',r')=>some (u++u',sN c c',r')
     |none=>none
    |none=>none
   |.arr _ _ _ e,.arr false a i e' l=>match (ql e' l).yt (.sl e) with
    |some l=>match rJ o ren rest with
     |some (u',c',r')=>some (ql e l::u',sN (a,i) c',r')
     |none=>none
    |none=>none
   |.ay _ _ e ak,.ay a i e' fD l hole=>match hole,(ql e' l).yt (.sl e),BL ak fD with
    |none,some l,true=>match rJ o ren rest with
     |some (u',c',r')=>some (ql e l::u',sN (a,i) c',r')
     |none=>none
    |_,_,_=>none
   |_,_=>none
  |none=>none
def vC (s:dU) (o:Nat→TO) (args:List TS):Option CJ:=
 match kF o args s.pin.slots with
 |some (u,A,gs,r)=>match rJ o r s.pin.aN with
  |some (u',I,r')=>some { ins:=u++u',A,I,qK:=gs,ren:=iJ r' }
  |none=>none
 |none=>none
def CJ.er (c:CJ):GU:={ ins:=c.ins.map bQ,A:=c.A,I:=c.I,qK:=c.qK,ren:=c.ren }
def uF (f:Nat→Nat):List TW→List TW
 | []=>[]
 |.box g off::r=>.box (f g) off::uF f r
 |_::r=>.no::uF f r
def Sm (A I:Bool×Bool) (f:Nat→Nat):TW→TW
 |.p a i x=>.p (nP A I a i).1 (nP A I a i).2 x
 |.bM=>.bM
 |.own g=>.own (f g)
 |.box g off=>.box (f g) off
 |.clo fn caps=>.clo fn (uF f caps)
 |_=>.no
def ZP (A I:Bool×Bool) (f:Nat→Nat):TV→TV
 |.one x=>.one (Sm A I f x)
 |.agg xs=>.agg (xs.map (Sm A I f))
def Vb (A I:Bool×Bool) (f:Nat→Nat):TS→TV
 |.v x=>ZP A I f x
 |_=>.one .no
def Jv (A I:Bool×Bool) (f:Nat→Nat):TO→TO
 |.none=>.none
 |.box ws=>.box (ws.map (Sm A I f))
 |.arr fz a i e l=>.arr fz (nP A I a i).1 (nP A I a i).2 e l
 |.it s n=>.it s n
 |.ay a i e ak l _=>.ay (nP A I a i).1 (nP A I a i).2 e ak l none
structure h_ where
 x:TS
 aA:List (Nat×TO)
 new:List Nat
def h_.er (e:h_):Eff:={ x:=aP e.x,aA:=fH e.aA,new:=e.new }
def Vd (vs:List TV):TS:=match vs with
 | [x]=>.v x
 |xs=>.jK xs
def qA (s:dU) (d:Nat) (o:Nat→TO) (c:CJ) (bI:List Wd):h_:=
 let x:=mkT s.aQ bI
 let f:=callName d s.er c.ren
 { x:=Vd ((List.range s.dL).map fun k=>Vb c.A c.I f (x.gs k)),aA:=(bif s.er.jR then c.qK.map (jG o) else [])++c.ren.map (fun p=>(p.2,bif s.aY.contains p.1 then Jv c.A c.I f (x.go p.1) else .none))++s.aU.map (fun g=>(f g,Jv c.A c.I f (x.go g))),new:=s.aU.map f }
def ZQ:Bool→Bool→Bool
 |true,true=>true
 |false,false=>true
 |_,_=>false
def OC:TO→Option (Bool×Bool)
 |.arr fz a i _ _=>match fz with
  |true=>none
  |false=>some (a,i)
 |.ay a i _ _ _ hole=>match hole with
  |none=>some (a,i)
  |some _=>none
 |_=>none
def zk (s:dU) (o f:Nat→TO):List (Nat×Nat)→List Nat
 | []=>[]
 |(g',g)::r=>match dM g' s.kept&&s.aY.contains g',OC (o g),OC (f g') with
  |true,some (a,i),some (a',i')=>match ZQ a a'&&ZQ i i' with
   |true=>g::zk s o f r
   |false=>zk s o f r
  |_,_,_=>zk s o f r
def Hu (same:List Nat):List (Nat×TO)→List (Nat×TO)
 | []=>[]
 |(g,x)::r=>match dM g same with
  |true=>Hu same r
  |false=>(g,x)::Hu same r
def vF (s:dU) (d:Nat) (o:Nat→TO) (c:CJ) (bI:List Wd):h_:=match s.kept with
 | []=>qA s d o c bI
 |_::_=>
  let e:=qA s d o c bI
  { e with aA:=Hu (zk s o (fun g'=>Jv c.A c.I (callName d s.er c.ren) ((mkT s.aQ bI).go g')) c.ren) e.aA }
def h_.skip:h_:={ x:=.jK [],aA:=[],new:=[] }
def zl (l:List (Nat×TO)):List (Nat×TO)→List (Nat×TO)
 | []=>l
 |(g,x)::r=>uj g x (zl l r)
structure iG where
 st:gU
 ds:List Nat
 od:List Nat
def gU.put (st:gU) (dst:Option Tmp) (x:TS):gU:=match dst with
 |some t=>{ st with s:=uj t x st.s }
 |none=>st
def iG.eff (q:iG) (dst:Option Tmp) (e:h_):iG:=
 { st:={ s:=(q.st.put dst e.x).s,o:=zl q.st.o e.aA,u:=e.new++q.st.u },ds:=(match dst with | some t=>t::q.ds | none=>q.ds),od:=e.aA.map (·.1)++q.od }
def Ve {β:Type 1} (b:Bool) (k:Bool→β):β:=match b with
 |true=>k true
 |false=>k false
def Jw {β:Type 1}:Ty→(Ty→β)→β
 |.int .i8,k=>k (.int .i8)
 |.int .i16,k=>k (.int .i16)
 |.int .i32,k=>k (.int .i32)
 |.int .i64,k=>k (.int .i64)
 |.int .u8,k=>k (.int .u8)
 |.int .u16,k=>k (.int .u16)
 |.int .u32,k=>k (.int .u32)
 |.int .u64,k=>k (.int .u64)
 |.bool,k=>k .bool
 |.str,k=>k .str
 |.sl e,k=>Jw e fun e=>k (.sl e)
 |.prod a b,k=>Jw a fun a=>Jw b fun b=>k (.prod a b)
 |.st n,k=>k (.st n)
 |.opq,k=>k .opq
 |.sq e,k=>Jw e fun e=>k (.sq e)
def frW {β:Type 1}:TW→(TW→β)→β
 |.p a i ⟨t,x⟩,k=>Ve a fun a=>Ve i fun i=>k (.p a i ⟨t,x⟩)
 |.bM,k=>k .bM
 |.own g,k=>k (.own g)
 |.vw g lo hi,k=>k (.vw g lo hi)
 |.box g off,k=>k (.box g off)
 |.ep g n off,k=>k (.ep g n off)
 |.sp a i t x off,k=>Ve a fun a=>Ve i fun i=>k (.sp a i t x off)
 |.clo f caps,k=>k (.clo f caps)
 |.gl g,k=>k (.gl g)
 |.kH g,k=>k (.kH g)
 |.no,k=>k .no
def Vf {β:Type 1}:List TW→(List TW→β)→β
 | [],k=>k []
 |x::xs,k=>frW x fun x=>Vf xs fun xs=>k (x::xs)
def frV {β:Type 1}:TV→(TV→β)→β
 |.one x,k=>frW x fun x=>k (.one x)
 |.agg xs,k=>Vf xs fun xs=>k (.agg xs)
def Xk {β:Type 1}:List TV→(List TV→β)→β
 | [],k=>k []
 |x::xs,k=>frV x fun x=>Xk xs fun xs=>k (x::xs)
def frS {β:Type 1}:TS→(TS→β)→β
 |.v x,k=>frV x fun x=>k (.v x)
 |.jK xs,k=>Xk xs fun xs=>k (.jK xs)
 |.no,k=>k .no
def frC {β:Type 1}:List (Nat×Ty)→(List (Nat×Ty)→β)→β
 | [],k=>k []
 |(c,t)::r,k=>Jw t fun t=>frC r fun r=>k ((c,t)::r)
def frH {β:Type 1}:Option (Nat×Nat×Nat)→(Option (Nat×Nat×Nat)→β)→β
 |none,k=>k none
 |some (n,c,d),k=>k (some (n,c,d))
def frO {β:Type 1}:TO→(TO→β)→β
 |.none,k=>k .none
 |.box ws,k=>Vf ws fun ws=>k (.box ws)
 |.arr fz a i e l,k=>Ve fz fun fz=>Ve a fun a=>Ve i fun i=>k (.arr fz a i e l)
 |.it s n,k=>k (.it s n)
 |.ay a i e ak l hole,k=>Ve a fun a=>Ve i fun i=>frC ak fun ak=>frH hole fun hole=>k (.ay a i e ak l hole)
def Xl {β:Type 1}:List (Nat×TS)→(List (Nat×TS)→β)→β
 | [],k=>k []
 |(t,x)::r,k=>frS x fun x=>Xl r fun r=>k ((t,x)::r)
def Xm {β:Type 1}:List (Nat×TO)→(List (Nat×TO)→β)→β
 | [],k=>k []
 |(t,x)::r,k=>frO x fun x=>Xm r fun r=>k ((t,x)::r)
def Gs {β:Type 1}:List Nat→(List Nat→β)→β
 | [],k=>k []
 |x::r,k=>Gs r fun r=>k (x::r)
def frX {β:Type 1} (q:iG) (k:iG→β):β:=
 Xl q.st.s fun s=>Xm q.st.o fun o=>Gs q.st.u fun u=>Gs q.ds fun ds=>Gs q.od fun od=>k ⟨⟨s,o,u⟩,ds,od⟩
def Vg:TS→Option Nat
 |.v (.one (.clo g _))=>some g
 |_=>none
def EG:List TS→Option Nat
 | []=>none
 |x::l=>match Vg x with
  |some g=>some g
  |none=>EG l
def Ap (fn:Nat) (l:List TS):Nat:=match EG l with
 |some g=>fn+1000000*(g+1)
 |none=>fn
def PO (T:dw) (fn:Nat) (l:List TS):Option bT:=match Nat.blt fn 1000000 with
 |true=>match T (Ap fn l) with
  |some sp=>some sp
  |none=>T fn
 |false=>none
def pkT (T:dw) (fn:Nat) (l:List TS):Nat:=match T (Ap fn l) with
 |some _=>Ap fn l
 |none=>fn
def uG:List TW→List Nat
 | []=>[]
 |.box g _::r=>g::uG r
 |x::r=>(bf x).names++uG r
def W.namesT:TW→List Nat
 |.own g | .vw g _ _ | .box g _ | .ep g _ _ | .kH g=>[g]
 |.clo _ caps=>uG caps
 |_=>[]
def V.namesT:TV→List Nat
 |.one x=>W.namesT x
 |.agg xs=>xs.flatMap W.namesT
def S.namesT:TS→List Nat
 |.v x=>V.namesT x
 |.jK xs=>xs.flatMap V.namesT
 |.no=>[]
def LW:TO→Option Nat
 |.ay _ _ _ _ _ hole=>match hole with
  |some (_,_,d)=>some d
  |none=>none
 |_=>none
def Aq:TO→List Nat
 |.box ws=>ws.flatMap W.namesT
 |_=>[]
def zn (o:Nat→TO):Nat→List Nat→List Nat
 |0,gs=>gs
 |n+1,gs=>gs++zn o n (gs.flatMap fun g=>Aq (o g))
def vG (st:gU) (o:Oper):List Nat:=match o.op with
 |.call { callee:=.value _,args,.. }=>args.toList.flatMap fun x=>S.namesT (st.bC x)
 |.slice _ x _ _ _=>S.namesT (st.bC x)
 |_=>[]
def C9 (st:gU) (o:Oper):List Nat:=zn st.go 2 (vG st o)
def C_ (st:gU) (o:Oper):List Nat:=(C9 st o).filter fun g=>match gu (st.go g) with
 | []=>false
 |d::_=>!dM d (vG st o)
def EH:List Nat→gU→Option gU
 | [],st=>some st
 |g::gs,st=>match LW (st.go g),sG st.go g with
  |some d,some ⟨a,i,e,ak,l⟩=>EH gs { st with o:=zl st.o [(g,.ay a i e ak l none),(d,.none)] }
  |_,_=>none
def OD (hs:List Nat) (st st1:gU):List (Nat×TO):=hs.flatMap fun g=>(g,st1.go g)::(gu (st.go g)).map fun d=>(d,st1.go d)
noncomputable def PS {R:Type} (T:dw) (tt:TT) (ety:TypeId→Option Ty) (d:Nat) (st:gU) (o:Oper) (K:h_→Prog R):Prog R:=
 match o.op with
 |.call { callee:=.value f,args,.. }=>match st.bC f with
  |.v (.one (.clo fn caps))=>match PO T fn (args.toList.map st.bC) with
   |some sp=>match vC sp.sig st.go ((args.toList.map st.bC)++caps.map fun x=>TS.v (.one x)) with
    |some c=>match c.er.fine sp.sig.er&&Nat.beq (args.size+caps.length) sp.sig.aO with
     |true=>match Tup.ofL sp.sig.pin.tys c.ins with
      |some x=>match sp.sig.er.ok with
       |true=>.call (pkT T fn (args.toList.map st.bC)) sp.ff x fun y=>K (vF sp.sig d st.go c (Tup.kX sp.sig.aQ.tys y))
       |false=>.stuck 17
      |none=>.stuck 11
     |false=>.stuck 12
    |none=>.stuck 13
   |none=>.stuck 14
  |_=>.stuck 15
 |op=>match g_ tt ety d st.go st.bC op o.type with
  |some r=>.chk r.pre (.let_ r.val fun z=>K { x:=r.dst z,aA:=r.aA z,new:=r.new })
  |none=>match b_ tt ety d st.go st.bC op o.type with
   |some r=>.chk r.pre (.let_ r.val fun z=>K { x:=r.dst z,aA:=r.aA z,new:=r.new })
   |none=>.stuck 16
noncomputable def Sr {R:Type} (T:dw) (tt:TT) (ety:TypeId→Option Ty) (d:Nat) (st:gU) (o:Oper) (K:h_→Prog R):Prog R:=
 match C_ st o with
 | []=>PS T tt ety d st o K
 |g::gs=>match EH (g::gs) st with
  |some st1=>PS T tt ety d st1 o fun e=>K { x:=e.x,aA:=e.aA++OD (g::gs) st st1,new:=e.new }
  |none=>.stuck 18
def xK (u:List Nat):List Nat→Bool
 | []=>true
 |g::gs=>!dM g u&&xK u gs
def OE (ops:Array Oper) (st:gU) (j:Nat):Option (Tmp×Option (Bool×Bool×Bool)):=
 match (ops[j]?).bind (·.dst) with
 |some t=>match st.gs t with
  |.v (.one (.p a i ⟨.bool,b⟩))=>some (t,some (a,i,b))
  |.jK []=>some (t,none)
  |_=>none
 |none=>none
def PU (N:Nat):Option Tmp→Bool
 |some d=>Nat.blt d N
 |none=>true
def iG.know (q:iG) (t:Tmp) (a i b:Bool):iG:={ q with st:={ q.st with s:=uj t (.v (.one (.p a i (gB b)))) q.st.s } }
def iG.LX (q:iG) (t:Tmp) (a i:Bool) (k:IntKind) (n:Int):iG:={ q with st:={ q.st with s:=uj t (.v (.one (.p a i (gq k n)))) q.st.s } }
def Vh (tt:TT) (st:gU) (t:TypeId) (x:Operand) (j:Tmp):Option (Bool×Bool×IntKind×Int×Nat):=
 match tt t with
 |some { k:=.arr n _,.. }=>match st.bC x with
  |.v (.one (.box _ _))=>match st.gs j with
   |.v (.one (.p a i ⟨.int k,v⟩))=>bif Nat.ble n 4 then some (a,i,k,v,n) else none
   |_=>none
  |.v (.one (.ep _ _ _))=>match st.gs j with
   |.v (.one (.p a i ⟨.int k,v⟩))=>bif Nat.ble n 4 then some (a,i,k,v,n) else none
   |_=>none
  |.v (.one (.sp _ _ _ _ _))=>match st.gs j with
   |.v (.one (.p a i ⟨.int k,v⟩))=>bif Nat.ble n 4 then some (a,i,k,v,n) else none
   |_=>none
  |_=>none
 |_=>none
def ZR (tt:TT) (st:gU) (o:Oper):Option (Tmp×Bool×Bool×IntKind×Int×Nat):=
 match o.op with
 |.indexAddr t x (.tmp j)=>match Vh tt st t x j with
  |some r=>some (j,r)
  |none=>none
 |_=>none
def PV {R:Type} (v:Int) (k:Int→Prog R):Nat→Nat→Prog R
 |_,0=>.stuck 24
 |m,1=>.chk (Wy v (Int.ofNat m)) (k (Int.ofNat m))
 |m,n+2=>.cond (Wy v (Int.ofNat m)) (k (Int.ofNat m)) (PV v k (m+1) (n+1))
noncomputable def stepT {R:Type} (T:dw) (tt:TT) (ety:TypeId→Option Ty) (N:Nat) (ops:Array Oper) (o:Oper) (q:iG) (K:iG→h_→Prog R):Prog R:=
 match PU N o.dst with
 |false=>.stuck 20
 |true=>match o.guard with
  |none=>match ZR tt q.st o with
   |none=>Sr T tt ety (o.dst.getD 0) q.st o fun e=>match xK q.st.u e.new with
    |true=>K q e
    |false=>.stuck 21
   |some (t,a,i,k,v,n)=>PV v (fun z=>frX (q.LX t a i k z) fun q=>Sr T tt ety (o.dst.getD 0) q.st o fun e=>match xK q.st.u e.new with
    |true=>K q e
    |false=>.stuck 21) 0 n
  |some (j,want)=>match OE ops q.st j with
   |none=>.stuck 22
   |some (t,none)=>K q h_.skip
   |some (t,some (a,i,b))=>
    let on (q:iG):Prog R:=Sr T tt ety (o.dst.getD 0) q.st o fun e=>match xK q.st.u e.new with
     |true=>K q e
     |false=>.stuck 21
    .cond b (frX (q.know t a i true) fun q=>bif want then on q else K q h_.skip) (frX (q.know t a i false) fun q=>bif want then K q h_.skip else on q)
inductive Jy where
 |yes
 |no
 |may (empty:Bool)
def EI (o:Nat→TO):TS→Option Jy
 |.v (.one (.p _ _ ⟨.sl e,l⟩))=>some (.may (List.isEmpty (α:=Dt e) l))
 |.v (.one (.own g))=>match o g with
  |.arr _ _ _ _ l=>some (.may l.isEmpty)
  |.ay _ _ _ _ l _=>some (.may l.isEmpty)
  |_=>none
 |.v (.one .bM)=>some .yes
 |_=>none
def EJ (o:Nat→TO):TS→Option Jy
 |.v (.one (.box g _))=>match o g with
  |.box _=>some .no
  |_=>none
 |.v (.one (.p _ _ ⟨.opq,.pointer none⟩))=>some .yes
 |_=>none
def Jz (o:Nat→TO) (x:TS) (k:TK) (c:Value):Option Jy:=
 match k,c with
 |.slice _,.slice none 0 0=>EI o x
 |.ptr,.pointer none=>EJ o x
 |_,_=>none
def ZT (tt:TT) (st:gU) (o:Oper):Option (Bool×Jy):=
 match o.guard with
 |some _=>none
 |none=>match o.op with
  |.binOp op t x (.const c) _=>match tt t with
   |some i=>match op,Jz st.go (st.bC x) i.k c with
    |.eql,some p=>some (true,p)
    |.neq,some p=>some (false,p)
    |_,_=>none
   |none=>none
  |_=>none
def Xn (s:List UInt8) (n:Int):Bool:=decide (n.toNat<s.length)
def ZU (s:List UInt8) (n:Int):Int:=((Utf8.decode ⟨s.toArray⟩ n.toNat).1:Nat)
def Sv (s:List UInt8) (n:Int):Int:=((n.toNat+(Utf8.decode ⟨s.toArray⟩ n.toNat).2:Nat):Int)
def LY (n:Int):Int:=((n.toNat:Nat):Int)
def Vj (st:gU) (o:Oper):Option (Nat×List UInt8×Int):=
 match o.guard with
 |some _=>none
 |none=>match o.op with
  |.next x true=>match st.bC x with
   |.v (.one (.kH g))=>match st.go g with
    |.it s n=>some (g,s,n)
    |_=>none
   |_=>none
  |_=>none
def JA (g:Nat) (s:List UInt8) (n:Int):h_:={ x:=.jK [.one (.p false false (gB true)),.one (.p false false (gq .i64 (LY n))),.one (.p false false (gq .i32 (ZU s n)))],aA:=[(g,.it s (Sv s n))],new:=[] }
def OG:h_:={ x:=.jK [.one (.p false false (gB false))],aA:=[],new:=[] }
def nV (b:Bool):h_:={ x:=PG (gB b),aA:=[],new:=[] }
noncomputable def OH {R:Type} (T:dw) (tt:TT) (ety:TypeId→Option Ty) (N:Nat) (ops:Array Oper) (o:Oper) (q:iG) (K:iG→h_→Prog R):Prog R:=
 match ZT tt q.st o with
 |some (pos,c)=>match PU N o.dst with
  |false=>.stuck 23
  |true=>match c with
   |.yes=>K q (nV pos)
   |.no=>K q (nV (!pos))
   |.may e=>.cond e (.any (K q (nV true)) (K q (nV false))) (K q (nV (!pos)))
 |none=>match Vj q.st o with
  |some (g,s,n)=>match PU N o.dst with
   |false=>.stuck 23
   |true=>.cond (Xn s n) (K q (JA g s n)) (K q OG)
  |none=>stepT T tt ety N ops o q K
noncomputable def runT {R:Type} (T:dw) (tt:TT) (ety:TypeId→Option Ty) (N:Nat) (ops:Array Oper):List Oper→iG→(iG→Prog R)→Prog R
 | [],q,K=>K q
 |o::os,q,K=>OH T tt ety N ops o q fun q e=>frX (q.eff o.dst e) fun q=>runT T tt ety N ops os q K
def PW (args:List TS):List (Nat×lS)→Bool
 | []=>false
 |(t,_)::rest=>match args.getD t .no with
  |.no=>true
  |.jK _=>true
  |_=>PW args rest
def OI (T:dw) (st:gU) (o:Oper):Option (List Nat):=
 match o.op with
 |.call { callee:=.value f,args,.. }=>match st.bC f with
  |.v (.one (.clo fn caps))=>match PO T fn (args.toList.map st.bC) with
   |some sp=>match vC sp.sig st.go ((args.toList.map st.bC)++caps.map fun x=>TS.v (.one x)) with
    |some c=>some (c.ren.map (·.2))
    |none=>bif PW ((args.toList.map st.bC)++caps.map fun x=>TS.v (.one x)) sp.sig.pin.slots then some [] else none
   |none=>some []
  |_=>some []
 |_=>some []
def OJ (T:dw) (st:gU) (o:Oper):Option (List Nat):=match OI T st o with
 |some r=>some ((bif looks o.op then (o.op.operands.toList.flatMap fun x=>(S.namesT (st.bC x)).flatMap fun g=>g::gu (st.go g)) else [])++r)
 |none=>none
def Vk (T:dw) (st:gU) (o:Oper):Option (List Nat):=match EH (C_ st o) st with
 |some st1=>match OJ T st1 o with
  |some l=>some (l++(C9 st o).flatMap fun g=>g::gu (st.go g))
  |none=>none
 |none=>none
def Xo {β:Type 1}:List (Nat×Nat)→(List (Nat×Nat)→β)→β
 | [],k=>k []
 |(a,b)::r,k=>Xo r fun r=>k ((a,b)::r)
def frF {β:Type 1} (f:pK) (k:pK→β):β:=Gs f.rd fun rd=>Gs f.wr fun wr=>Gs f.new fun new=>frH f.ld fun ld=>Xo f.kp fun kp=>Ve f.pk fun pk=>Gs f.kd fun kd=>k ⟨rd,wr,new,ld,kp,pk,kd⟩
def Vl:TW→TW→Bool
 |.own g,.own g'=>Nat.beq g g'
 |.box g off,.box g' off'=>Nat.beq g g'&&Nat.beq off off'
 |_,_=>false
def Ar (g:Nat):Nat→List TW→List TW→Option (List (Nat×Nat))
 |_,[],[]=>some []
 |j,x::xs,y::ys=>match Ar g (j+1) xs ys with
  |some r=>some (match Vl x y with
   |true=>(g,j)::r
   |false=>r)
  |none=>none
 |_,_,_=>none
def OL (g:Nat):TO→Option TO→List (Nat×Nat)
 |.box ws,some (.box ws')=>match Ar g 0 ws ws' with
  |some r=>r
  |none=>[]
 |_,_=>[]
def Vm (g:Nat):TO→Option TO→List (Nat×Nat)
 |.ay _ _ _ _ _ hole,some (.ay _ _ _ _ _ _)=>match hole with
  |none=>[(g,5000000)]
  |some _=>[]
 |_,_=>[]
def kpT (st:gU) (o:Oper) (aA:List (Nat×TO)):List (Nat×Nat):=(bif j_ o.op then (o.op.operands.toList.flatMap fun x=>S.namesT (st.bC x)).map fun g=>(g,0) else []) ++
 (aA.map (·.1)).flatMap fun g=>OL g (st.go g) (aA.lookup g)++bif D_ o.op then Vm g (st.go g) (aA.lookup g) else []
def Vo:TO→Nat
 |.box _=>1
 |.arr _ _ _ _ _=>2
 |.ay _ _ _ _ _ _=>2
 |.it _ _=>3
 |.none=>0
def kdT (st:gU) (aA:List (Nat×TO)):List Nat:=(aA.map (·.1)).filterMap fun g=>match aA.lookup g with
 |some x=>bif Nat.beq (Vo x) (Vo (st.go g)) then some g else none
 |none=>none
def ldT (tt:TT) (st:gU) (o:Oper):Option (Nat×Nat×Nat):=match o.op with
 |.load t x=>match tt t,st.bC x with
  |some i,.v (.one (.box g off))=>some (g,off,i.size)
  |some i,.v (.one (.ep g _ off))=>match st.go g with
   |.ay _ _ _ ak _ _=>bif (gI (fM ak) off i.size).isEmpty then some (g,5000000,1) else none
   |_=>none
  |_,_=>none
 |_=>none
noncomputable def runNT {R:Type} (T:dw) (tt:TT) (ety:TypeId→Option Ty) (N:Nat) (ops:Array Oper):List Oper→iG→List pK→(iG→List pK→Prog R)→Prog R
 | [],q,fs,K=>K q fs
 |o::os,q,fs,K=>match Vk T q.st o with
  |none=>.stuck 25
  |some rd=>stepT T tt ety N ops o q fun q' e=>frF { rd,wr:=e.aA.map (·.1),new:=e.new,ld:=ldT tt q.st o,kp:=kpT q.st o e.aA,pk:=j_ o.op,kd:=kdT q.st e.aA } fun ft=>frX (q'.eff o.dst e) fun q=>runNT T tt ety N ops os q (fs++[ft]) K
noncomputable def rM {R:Type} (T:dw) (tt:TT) (ety:TypeId→Option Ty) (N:Nat) (ops:Array Oper) (draw:Bool) (q:iG) (K:iG→Prog R):Prog R:=
 match draw with
 |false=>runT T tt ety N ops ops.toList q K
 |true=>runNT T tt ety N ops ops.toList q [] fun q fs=>match Py ops fs with
  |true=>K q
  |false=>.stuck 24
inductive Md where
 |keep
 |sl (k:lS)
inductive Mo where
 |keep
 |ob (k:kY)
structure JT where
 slots:List (Nat×Md)
 aN:List (Nat×Mo)
def zo:List TW→Option (List Nat)
 | []=>some []
 |.box g off::cs=>bif Nat.beq off 0 then match zo cs with
  |some gs=>some (g::gs)
  |none=>none
  else none
 |_=>none
def LZ:TW→Option (jT×List Wd)
 |.p a i w=>some (.p a i w.t,[w])
 |.bM=>some (.bM,[])
 |.own g=>some (.own g,[])
 |.box g off=>some (.box g off,[])
 |.clo f caps=>match zo caps with
  |some gs=>some (.fn f gs,[])
  |none=>none
 |.kH g=>some (.kH g,[])
 |.vw g lo hi=>some (.vw g,[gq .i64 lo,gq .i64 hi])
 |.ep g n off=>some (.ep g off,[gq .i64 n])
 |_=>none
def sH:List TW→Option (List jT×List Wd)
 | []=>some ([],[])
 |x::xs=>match LZ x,sH xs with
  |some (k,u),some (ks,us)=>some (k::ks,u++us)
  |_,_=>none
def JB:TS→Option (lS×List Wd)
 |.v (.one x)=>match LZ x with
  |some (k,u)=>some (.one k,u)
  |none=>none
 |.v (.agg xs)=>match sH xs with
  |some (ks,u)=>some (.agg ks,u)
  |none=>none
 |_=>none
def sQ:TO→Option (kY×List Wd)
 |.box ws=>match sH ws with
  |some (ks,u)=>some (.box ks,u)
  |none=>none
 |.arr fz a i e l=>some (.arr fz a i e,[ql e l])
 |.it s n=>some (.it,[Lu s,gq .i64 n])
 |.ay a i e ak l hole=>match hole with
  |none=>some (.ay a i e ak,[ql e l])
  |some _=>none
 |.none=>none
def xM (s:Nat→TS):List (Nat×Md)→Option (List (Nat×lS×Option (List Wd)))
 | []=>some []
 |(t,.keep)::r=>match JB (s t),xM s r with
  |some (k,u),some l=>some ((t,k,some u)::l)
  |_,_=>none
 |(t,.sl k)::r=>match xM s r with
  |some l=>some ((t,k,none)::l)
  |none=>none
def EK (o:Nat→TO):List (Nat×Mo)→Option (List (Nat×kY×Option (List Wd)))
 | []=>some []
 |(t,.keep)::r=>match sQ (o t),EK o r with
  |some (k,u),some l=>some ((t,k,some u)::l)
  |_,_=>none
 |(t,.ob k)::r=>match EK o r with
  |some l=>some ((t,k,none)::l)
  |none=>none
structure JF where
 slots:List (Nat×lS×Option (List Wd))
 aN:List (Nat×kY×Option (List Wd))
def JF.sh (j:JF):Ju:=⟨j.slots.map fun p=>(p.1,p.2.1),j.aN.map fun p=>(p.1,p.2.1)⟩
def iE:List (Nat×lS×Option (List Wd))→List Ty
 | []=>[]
 |(_,k,none)::r=>k.tys++iE r
 |(_,_,some _)::r=>iE r
def mg:List (Nat×kY×Option (List Wd))→List Ty
 | []=>[]
 |(_,k,none)::r=>k.tys++mg r
 |(_,_,some _)::r=>mg r
def JF.tys (j:JF):List Ty:=iE j.slots++mg j.aN
def jU:List (Nat×lS×Option (List Wd))→List Wd→List Wd×List Wd
 | [],ws=>([],ws)
 |(_,k,none)::r,ws=>(ws.take k.tys.length++(jU r (ws.drop k.tys.length)).1,(jU r (ws.drop k.tys.length)).2)
 |(_,_,some u)::r,ws=>(u++(jU r ws).1,(jU r ws).2)
def nX:List (Nat×kY×Option (List Wd))→List Wd→List Wd×List Wd
 | [],ws=>([],ws)
 |(_,k,none)::r,ws=>(ws.take k.tys.length++(nX r (ws.drop k.tys.length)).1,(nX r (ws.drop k.tys.length)).2)
 |(_,_,some u)::r,ws=>(u++(nX r ws).1,(nX r ws).2)
def JF.pay (j:JF) (ws:List Wd):List Wd:=(jU j.slots ws).1++(nX j.aN (jU j.slots ws).2).1
def JC:List (Nat×lS×Option (List Wd))→List Wd→List Wd×List Wd
 | [],ws=>([],ws)
 |(_,k,none)::r,ws=>(ws.take k.tys.length++(JC r (ws.drop k.tys.length)).1,(JC r (ws.drop k.tys.length)).2)
 |(_,k,some u)::r,ws=>((JC r (ws.drop u.length)).1,(JC r (ws.drop u.length)).2)
def L6:List (Nat×kY×Option (List Wd))→List Wd→List Wd×List Wd
 | [],ws=>([],ws)
 |(_,k,none)::r,ws=>(ws.take k.tys.length++(L6 r (ws.drop k.tys.length)).1,(L6 r (ws.drop k.tys.length)).2)
 |(_,k,some u)::r,ws=>((L6 r (ws.drop u.length)).1,(L6 r (ws.drop u.length)).2)
def JF.ext (j:JF) (ws:List Wd):List Wd:=(JC j.slots ws).1++(L6 j.aN (JC j.slots ws).2).1
def hasK {α:Type} (t:Nat):List (Nat×α)→Bool
 | []=>false
 |(k,_)::r=>Nat.beq t k||hasK t r
def L8 (s:List (Nat×TS)) (ds:List Nat):List (Nat×lS×Option (List Wd))→Bool
 | []=>true
 |(t,_,some _)::r=>hasK t s&&!dM t ds&&L8 s ds r
 |(_,_,none)::r=>L8 s ds r
def L9 (s:List (Nat×TO)) (ds:List Nat):List (Nat×kY×Option (List Wd))→Bool
 | []=>true
 |(t,_,some _)::r=>hasK t s&&!dM t ds&&L9 s ds r
 |(_,_,none)::r=>L9 s ds r
def keysB (aY:List Nat) (j:Ju) (m:Ren):Bool:=keeps aY j.er m
def Hw:List (Nat×kY×Option (List Wd))→Ren
 | []=>[]
 |(t,_,some _)::r=>(t,some t)::Hw r
 |(_,_,none)::r=>Hw r
def Vp (gs:List Nat) (o:Nat→TO):TW→TW
 |.own g=>bif dM g gs then match kR o g with
  |some ⟨a,i,e,l⟩=>.p a i (ql e l)
  |none=>.own g
  else .own g
 |.vw g lo hi=>bif dM g gs then match kR o g with
  |some ⟨a,i,e,l⟩=>.p a i (ql e ((l.take hi.toNat).drop lo.toNat))
  |none=>.vw g lo hi
  else .vw g lo hi
 |x=>x
def Xp (gs:List Nat) (o:Nat→TO):TV→TV
 |.one x=>.one (Vp gs o x)
 |.agg xs=>.agg (xs.map (Vp gs o))
def Xq (gs:List Nat) (o:Nat→TO):TS→TS
 |.v x=>.v (Xp gs o x)
 |.jK xs=>.jK (xs.map (Xp gs o))
 |.no=>.no
def tpO (gs:List Nat) (o:Nat→TO) (g:Nat):TO→TO
 |.none=>.none
 |.box ws=>.box (ws.map (Vp gs o))
 |.arr fz a i e l=>.arr (fz||dM g gs) a i e l
 |.it s n=>.it s n
 |.ay a i e ak l hole=>bif dM g gs then (jG o g).2 else .ay a i e ak l hole
def Gt (gs:List Nat) (st:gU):gU:=match gs with
 | []=>st
 |g::r=>{ s:=st.s.map fun p=>(p.1,Xq (g::r) st.go p.2),o:=st.o.map fun p=>(p.1,tpO (g::r) st.go p.1 p.2),u:=st.u }
def plB (o:Nat→TO) (g:Nat):Bool:=match kR o g with
 |some _=>true
 |none=>false
def ZV (o:Nat→TO) (gs:List Nat):Bool:=gs.all fun g=>plB o g&&(gu (o g)).all fun d=>dM d gs
def kU (keep:List Nat):List Nat→gU→List Nat×gU
 | [],st=>([],st)
 |g::gs,st=>match LW (st.go g),sG st.go g with
  |some d,some ⟨a,i,e,ak,l⟩=>match !dM g keep&&!dM d keep with
   |true=>let r:=kU keep gs { st with o:=zl st.o [(g,.ay a i e ak l none),(d,.none)] }
    (g::r.1,r.2)
   |false=>kU keep gs st
  |_,_=>kU keep gs st
def JD:List (Nat×TO)→List Nat
 | []=>[]
 |(g,x)::r=>match LW x with
  |some _=>g::JD r
  |none=>JD r
def wM:List (Nat×kY×Option (List Wd))→List Nat
 | []=>[]
 |(t,_,some _)::r=>t::wM r
 |(_,_,none)::r=>wM r
def fzW (o:Nat→TO):jT→TW→List Nat
 |.p _ _ _,.own g=>bif plB o g then gu (o g)++[g] else []
 |.p _ _ _,.vw g _ _=>bif plB o g then gu (o g)++[g] else []
 |_,_=>[]
def ZW (o:Nat→TO):List jT→List TW→List Nat
 |k::ks,x::xs=>fzW o k x++ZW o ks xs
 |_,_=>[]
def fzS (o:Nat→TO):lS→TS→List Nat
 |.one k,.v (.one x)=>fzW o k x
 |.agg ks,.v (.agg xs)=>ZW o ks xs
 |_,_=>[]
def PX (st:gU):List (Nat×lS)→List Nat
 | []=>[]
 |(t,k)::r=>fzS st.go k (st.gs t)++PX st r
def OM (m:Ren) (st:gU):List (Nat×kY)→List Nat
 | []=>[]
 |(g',.box ks)::r=>(match m.lookup g' with
  |some (some g)=>match st.go g with
   |.box ws=>ZW st.go ks ws
   |_=>[]
  |_=>[])++OM m st r
 |_::r=>OM m st r
def ZX (aY:List Nat) (j:Ju) (st:gU):List Nat:=PX st j.slots++OM (derive aY j st) st j.aN
def OO (gs:List Nat) (x:TS):Bool:=(S.namesT x).all fun g=>!dM g gs
def EL (gs:List Nat) (g:Nat):TO→Bool
 |.none=>true
 |.box ws=>(ws.flatMap W.namesT).all fun g=>!dM g gs
 |.arr _ _ _ _ _=>!dM g gs
 |.it _ _=>true
 |.ay _ _ _ _ _ _=>!dM g gs
def Vq (gs:List Nat) (s:Nat→TS):List (Nat×lS×Option (List Wd))→Bool
 | []=>true
 |(t,_,some _)::r=>OO gs (s t)&&Vq gs s r
 |(_,_,none)::r=>Vq gs s r
def Vr (gs:List Nat) (o:Nat→TO):List (Nat×kY×Option (List Wd))→Bool
 | []=>true
 |(t,_,some _)::r=>EL gs t (o t)&&Vr gs o r
 |(_,_,none)::r=>Vr gs o r
def sJ {R:Type} (aY:List Nat) (j:JF) (q:iG) (K:Tup j.tys→Prog R):Prog R:=
 let st0:=(kU (wM j.aN) (JD q.st.o) q.st).2
 let gs:=ZX aY j.sh st0
 let st:=Gt gs st0
 let m:=Hw j.aN++derive aY j.sh st
 match L8 q.st.s q.ds j.slots&&L9 q.st.o q.od j.aN&&keysB aY j.sh m&&ZV st0.go gs&&Vq gs st0.gs j.slots&&Vr gs st0.go j.aN with
 |false=>.stuck 30
 |true=>match zh j.sh m st with
  |none=>.stuck 31
  |some vs=>match Tup.ofL j.tys (j.ext vs) with
   |none=>.stuck 32
   |some x=>K x
def uH (j:JF) (x:Tup j.tys):gU:=mkT j.sh (j.pay (Tup.kX j.tys x))
def newS:List (Nat×lS×Option (List Wd))→List Nat
 | []=>[]
 |(t,_,none)::r=>t::newS r
 |(_,_,some _)::r=>newS r
def qB:List (Nat×kY×Option (List Wd))→List Nat
 | []=>[]
 |(t,_,none)::r=>t::qB r
 |(_,_,some _)::r=>qB r
def iG.fresh (q:iG):iG:={ q with ds:=[],od:=[] }
def iG.since (q' q:iG):iG:={ q' with ds:=q'.ds++q.ds,od:=q'.od++q.od }
structure TK (R:Type) where
 n:iG→Prog R
 x:Nat→iG→Prog R
 r:iG→Prog R
inductive jJ where
 |nil
 |seq (a b:jJ)
 |meet (early:Bool) (j:JT) (a:jJ)
 |loop (j:JT) (a:jJ)
 |range (j:JT) (sg:dU) (a:jJ)
def jJ.fst:jJ→jJ
 |.seq a _=>a
 |_=>.nil
def jJ.snd:jJ→jJ
 |.seq _ b=>b
 |_=>.nil
def Vs (nw:List Nat):List (Nat×lS×Option (List Wd))→Bool
 | []=>true
 |(t,_,some _)::r=>!dM t nw&&Vs nw r
 |(_,_,none)::r=>Vs nw r
def Vt (nw:List Nat):List (Nat×kY×Option (List Wd))→Bool
 | []=>true
 |(t,_,some _)::r=>!dM t nw&&Vt nw r
 |(_,_,none)::r=>Vt nw r
def jOf (st:gU) (j:JT):Option JF:=match xM st.gs j.slots,EK st.go j.aN with
 |some s,some o=>match Vs (newS s) s&&Vt (qB o) o with
  |true=>some ⟨s,o⟩
  |false=>none
 |_,_=>none
def ZY (c:Operand) (a i b:Bool) (q:iG):iG:=match c with
 |.tmp t=>q.know t a i b
 |_=>q
def PY {R:Type} (c:Operand) (q:iG) (x y:iG→Prog R):Prog R:=match q.st.bC c with
 |.v (.one (.p a i ⟨.bool,b⟩))=>.cond b (frX (ZY c a i true q) x) (frX (ZY c a i false q) y)
 |_=>.stuck 50
def Hy {R:Type} (aY:List Nat) (early:Bool) (jt:JT) (here:Nat→Bool) (q:iG) (inner:(R':Type)→iG→TK R'→Prog R') (K:TK R):Prog R:=
 match jOf q.st jt with
 |none=>.stuck 40
 |some j=>match early with
  |false=>.join (inner (Tup j.tys) q.fresh { n:=fun q'=>sJ aY j q' .ret,x:=fun id q'=>bif here id then sJ aY j q' .ret else .stuck 41,r:=fun _=>.stuck 42 })
    fun x=>frX ⟨uH j x,newS j.slots++q.ds,qB j.aN++q.od⟩ K.n
  |true=>.BM (inner (Tup j.tys ⊕ R) q.fresh { n:=fun q'=>sJ aY j q' fun x=>.ret (.inl x),x:=fun id q'=>bif here id then sJ aY j q' (fun x=>.ret (.inl x)) else (K.x id (q'.since q)).map .inr,r:=fun q'=>(K.r (q'.since q)).map .inr })
    fun x=>frX ⟨uH j x,newS j.slots++q.ds,qB j.aN++q.od⟩ K.n
noncomputable def kV (T:dw) (tt:TT) (ety:TypeId→Option Ty) (N:Nat) (aY:List Nat):Code→(R:Type)→jJ→iG→TK R→Prog R
 |.skip,R,_,q,K=>K.n q
 |.region _ ops draw,R,a,q,K=>match a with
  |.meet e j _=>Hy aY e j (fun _=>false) q (fun _ q K=>rM T tt ety N ops draw q K.n) K
  |_=>rM T tt ety N ops draw q K.n
 |.seq x y,R,a,q,K=>kV T tt ety N aY x R a.fst q { n:=fun q'=>kV T tt ety N aY y R a.snd q' K,x:=K.x,r:=K.r }
 |.cond c x y,R,a,q,K=>match a with
  |.meet e j a=>Hy aY e j (fun _=>false) q (fun R q K=>PY c q (fun q=>kV T tt ety N aY x R a.fst q K) fun q=>kV T tt ety N aY y R a.snd q K) K
  |a=>PY c q (fun q=>kV T tt ety N aY x R a.fst q K) fun q=>kV T tt ety N aY y R a.snd q K
 |.block id c,R,a,q,K=>match a with
  |.meet e j a=>Hy aY e j (Nat.beq id) q (fun R q K=>kV T tt ety N aY c R a q K) K
  |a=>kV T tt ety N aY c R a.fst q { n:=K.n,x:=fun id' q'=>bif Nat.beq id' id then K.n q' else K.x id' q',r:=K.r }
 |.loop c,R,a,q,K=>match a with
  |.loop jt a=>match jOf q.st jt with
   |none=>.stuck 43
   |some j=>sJ aY j q.fresh fun x=>.loop x fun x=>
     frX ⟨uH j x,[],[]⟩ fun q'=>kV T tt ety N aY c (Tup j.tys ⊕ R) a q'
      { n:=fun q'=>sJ aY j q' fun x=>.ret (.inl x),x:=fun id q'=>(K.x id (q'.since ⟨q'.st,newS j.slots++q.ds,qB j.aN++q.od⟩)).map .inr,r:=fun q'=>(K.r (q'.since ⟨q'.st,newS j.slots++q.ds,qB j.aN++q.od⟩)).map .inr }
  |_=>.stuck 44
 |.exit id,R,_,q,K=>K.x id q
 |.ret,R,_,q,K=>K.r q
 |.label _,R,_,q,K=>K.n q
 |.scope c,R,a,q,K=>kV T tt ety N aY c R a q K
 |_,R,_,_,_=>.stuck 45
def PZ (tt:TT) (st:gU):ResultVar→Option TS
 |.tmp t=>some (st.gs t)
 |.cell a t=>match tt t,st.gs a with
  |some i,.v (.one (.box g off))=>match st.go g with
   |.box ws=>bif Nat.ble (off+i.size) ws.length&&Nat.blt 0 i.size then some (TV.dN i.agg ((ws.drop off).take i.size)) else none
   |_=>none
  |_,_=>none
def EM (tt:TT) (st:gU):List ResultVar→Option (List TS)
 | []=>some []
 |r::rs=>match PZ tt st r,EM tt st rs with
  |some x,some xs=>some (x::xs)
  |_,_=>none
def OQ (n:Nat):List TS→List (Nat×TS)
 | []=>[]
 |x::xs=>(n,x)::OQ (n+1) xs
def Xr (tt:TT) (sp:dU) (ts:List ResultVar) (q:iG):Prog (Tup sp.aQ.tys):=
 match EM tt q.st ts with
 |none=>.stuck 60
 |some xs=>
  let st0:gU:=(kU [] (JD q.st.o) { s:=OQ 0 xs,o:=q.st.o,u:=q.st.u }).2
  let gs:=ZX sp.aY sp.aQ st0
  let st:=Gt gs st0
  let m:=derive sp.aY sp.aQ st
  match keysB sp.aY sp.aQ m&&ZV st0.go gs with
  |false=>.stuck 61
  |true=>match zh sp.aQ m st with
   |none=>.stuck 62
   |some vs=>match Tup.ofL sp.aQ.tys vs with
    |none=>.stuck 63
    |some x=>.ret x
inductive LkC where
 |yes
 |no
 |len (n m:Nat)
def L_:TO→TO→LkC
 |.box _,.box _=>.yes
 |.arr _ _ _ e l,.arr _ _ _ e' l'=>bif Nat.beq (size e) (size e') then .len (List.length (α:=Dt e) l) (List.length (α:=Dt e') l') else .no
 |.ay _ _ e _ l _,.ay _ _ e' _ l' _=>bif Nat.beq (size e) (size e') then .len (List.length (α:=Dt e) l) (List.length (α:=Dt e') l') else .no
 |_,_=>.no
def xO {R:Type} (a b:Nat→TO) (K:Prog R):List Nat→Prog R
 | []=>K
 |g::gs=>match L_ (a g) (b g) with
  |.yes=>xO a b K gs
  |.no=>.stuck 90
  |.len n m=>.chk (decide (n=m)) (xO a b K gs)
noncomputable def tfun (T:dw) (tt:TT) (ety:TypeId→Option Ty) (N:Nat) (sp:dU) (ts:List ResultVar) (c:Code) (a:jJ) (x:Tup sp.pin.tys):Prog (Tup sp.aQ.tys):=
 frX ⟨mkT sp.pin (Tup.kX sp.pin.tys x),[],[]⟩ fun q=>kV T tt ety N sp.aY c (Tup sp.aQ.tys) a q { n:=Xr tt sp ts,x:=fun _ _=>.stuck 64,r:=Xr tt sp ts }
noncomputable def P5 (T:dw) (tt:TT) (ety:TypeId→Option Ty) (N:Nat) (sp:dU) (ts:List ResultVar) (c:Code) (a:jJ) (x:Tup sp.pin.tys):Prog (Tup sp.aQ.tys):=
 match sp.er.Zj with
 |true=>tfun T tt ety N sp ts c a x
 |false=>.join (tfun T tt ety N sp ts c a x) fun y=>xO (mkT sp.pin (Tup.kX sp.pin.tys x)).go (mkT sp.aQ (Tup.kX sp.aQ.tys y)).go (.ret y) sp.aY
end
end Go.Fg

namespace Go.Fg
open Go.Fw
theorem Dc (a b:Nat):(a==b)=Nat.beq a b:=by rw [Bool.eq_iff_iff];simp
theorem uI {α:Type} (d:α) :∀(l:List (Nat×α)) (t:Nat),iC d l t=match l.lookup t with | some x=>x | none=>d
 | [],t=>rfl
 |(k,v)::r,t=>by
  simp only [iC,List.lookup,Dc]
  cases h:Nat.beq t k with
  |true=>rfl
  |false=>exact uI d r t
theorem nH {α:Type} (d:α) (k:Nat) (v:α) :∀(l:List (Nat×α)) (t:Nat),iC d (uj k v l) t=bif Nat.beq t k then v else iC d l t
 | [],t=>rfl
 |(k',v')::r,t=>by
  simp only [uj]
  cases h:Nat.beq k k' with
  |true=>
   simp only [cond_true,iC]
   have:k=k':=Q4 h
   subst this
   cases Nat.beq t k<;>rfl
  |false=>
   simp only [cond_false,iC,nH d k v r t]
   cases h1:Nat.beq t k' with
   |true=>
    have:t=k':=Q4 h1
    subst this
    have:Nat.beq t k=false:=by
     cases h2:Nat.beq t k with
     |false=>rfl
     |true=>have:=Q4 h2;subst this;simp at h
    rw [this];rfl
   |false=>rfl
theorem mD {α β:Type} (g:α→β) (t:Nat) :∀(l:List (Nat×α)),(l.map fun p=>(p.1,g p.2)).lookup t=(l.lookup t).map g
 | []=>rfl
 |(k,v)::r=>by
  simp only [Qt,List.lookup]
  cases t==k with
  |true=>rfl
  |false=>exact mD g t r
section
variable [RE] {β:Type 1}
theorem JE (b:Bool) (k:Bool→β):Ve b k=k b:=by cases b<;>rfl
theorem Vu (x:TW) (k:TW→β):frW x k=k x:=by
 cases x with
 |p a i w=>obtain ⟨t,x⟩:=w;simp only [frW,JE]
 |sp a i t x off=>simp only [frW,JE]
 |_=>rfl
theorem JG :∀(x:List TW) (k:List TW→β),Vf x k=k x
 | [],k=>rfl
 |x::xs,k=>by simp only [Vf,Vu,JG xs]
theorem Vx (x:TV) (k:TV→β):frV x k=k x:=by cases x<;>simp only [frV,Vu,JG]
theorem P6 :∀(x:List TV) (k:List TV→β),Xk x k=k x
 | [],k=>rfl
 |x::xs,k=>by simp only [Xk,Vx,P6 xs]
theorem Z4 (x:TS) (k:TS→β):frS x k=k x:=by cases x<;>simp only [frS,Vx,P6]
theorem zq :∀(t:Ty) (k:Ty→β),Jw t k=k t
 |.int ik,k=>by cases ik<;>rfl
 |.bool,k=>rfl
 |.str,k=>rfl
 |.sl e,k=>by simp only [Jw,zq e]
 |.prod a b,k=>by simp only [Jw,zq a,zq b]
 |.st n,k=>rfl
 |.opq,k=>rfl
 |.sq e,k=>by simp only [Jw,zq e]
theorem Vy :∀(x:List (Nat×Ty)) (k:List (Nat×Ty)→β),frC x k=k x
 | [],k=>rfl
 |(c,t)::xs,k=>by simp only [frC,zq,Vy xs]
theorem Vz (x:Option (Nat×Nat×Nat)) (k:Option (Nat×Nat×Nat)→β):frH x k=k x:=by
 cases x with
 |none=>rfl
 |some p=>obtain ⟨n,c,d⟩:=p;rfl
theorem Z5 (x:TO) (k:TO→β):frO x k=k x:=by cases x<;>simp only [frO,JG,JE,Vy,Vz]
theorem P7 :∀(x:List (Nat×TS)) (k:List (Nat×TS)→β),Xl x k=k x
 | [],k=>rfl
 |(t,x)::xs,k=>by simp only [Xl,Z4,P7 xs]
theorem P8 :∀(x:List (Nat×TO)) (k:List (Nat×TO)→β),Xm x k=k x
 | [],k=>rfl
 |(t,x)::xs,k=>by simp only [Xm,Z5,P8 xs]
theorem JH :∀(x:List Nat) (k:List Nat→β),Gs x k=k x
 | [],k=>rfl
 |x::xs,k=>by simp only [Gs,JH xs]
theorem pR (q:iG) (k:iG→β):frX q k=k q:=by
 obtain ⟨⟨s,o,u⟩,ds,od⟩:=q
 simp only [frX,P7,P8,JH]
theorem Xt (l:List (Nat×Nat)) (k:List (Nat×Nat)→β):Xo l k=k l:=by
 induction l generalizing k with
 |nil=>rfl
 |cons p r ih=>obtain ⟨a,b⟩:=p;simp only [Xo,ih]
theorem Z7 (f:pK) (k:pK→β):frF f k=k f:=by simp only [frF,JH,Vz,Xt,JE]
end
section
variable [RE]
theorem qC (vs:List Wd) (n:Nat):bQ (vs.getD n xI)=(vs.map bQ).getD n default:=by
 simp only [Q6,Xs]
 cases vs[n]?<;>rfl
theorem zu (vs:List Wd) (n:Nat) (k:jT):(xJ vs n k).2=n+k.tys.length:=by cases k<;>simp [xJ,jT.tys]
def rO (vs:List Wd) (n:Nat) (ts:List Ty):Prop :=∀(k:Nat) t,ts[k]?=some t→∃w,vs[n+k]?=some w∧w.t=t
theorem rO.left {vs:List Wd} {n:Nat} {a b:List Ty} (h:rO vs n (a++b)):rO vs n a:=fun k t hk=>h k t (by rw [Wl (Q3.1 hk).1];exact hk)
theorem rO.right {vs:List Wd} {n:Nat} {a b:List Ty} (h:rO vs n (a++b)):rO vs (n+a.length) b:=fun k t hk=>by
 obtain ⟨w,h1,h2⟩:=h (a.length+k) t (by rw [Wf (by omega)];simpa using hk)
 exact ⟨w,by rw [←h1];congr 1;omega,h2⟩
theorem rO.of {vs:List Wd} {ts:List Ty} (h:vs.map (·.t)=ts):rO vs 0 ts:=fun k t hk=>by
 rw [←h,Xs,ZD] at hk
 obtain ⟨w,h1,h2⟩:=hk
 exact ⟨w,by simpa using h1,h2⟩
theorem rO.get {vs:List Wd} {n k:Nat} {t:Ty} {ts:List Ty} (h:rO vs n ts) (hk:ts[k]?=some t):bQ (vs.getD (n+k) xI)=bQ ⟨t,(vs.getD (n+k) xI).as t⟩:=by
 obtain ⟨w,h1,h2⟩:=h k t hk
 have e1:vs.getD (n+k) xI=w:=by rw [Q6,h1];rfl
 rw [e1,sF h2]
theorem Hz :∀(gs:List Nat),kQ (Aj gs)=d_ gs
 | []=>rfl
 |g::gs=>by simp only [Aj,kQ,bf,d_,Hz gs]
theorem P9 {vs:List Wd} {n:Nat} {k:jT} (h:rO vs n k.tys):m_ (vs.map bQ) n k.er=(bf (xJ vs n k).1,(xJ vs n k).2):=by
 cases k with
 |vw g=>
  have h0:=h.get (k:=0) (t:=.int .i64) rfl
  have h1:=h.get (k:=1) (t:=.int .i64) rfl
  simp only [jT.er,m_,xJ,bf,←qC]
  rw [V2] at h0
  rw [h0,h1];rfl
 |ep g off=>
  have h0:=h.get (k:=0) (t:=.int .i64) rfl
  simp only [jT.er,m_,xJ,bf,←qC]
  rw [V2] at h0
  rw [h0];rfl
 |fn f gs=>simp only [jT.er,m_,xJ,bf,Hz]
 |_=>simp only [jT.er,m_,xJ,bf,kQ,qC]
theorem Au (vs:List Wd) :∀(n:Nat) (ks:List jT),(qy vs n ks).2=n+(ks.flatMap jT.tys).length
 |n,[]=>rfl
 |n,k::ks=>by simp only [qy,Au vs,zu,Ys,W3];omega
theorem EN {vs:List Wd} :∀{n:Nat} {ks:List jT},rO vs n (ks.flatMap jT.tys)→jm (vs.map bQ) n (ks.map jT.er)=((qy vs n ks).1.map bf,(qy vs n ks).2)
 |n,[],_=>rfl
 |n,k::ks,h=>by
  rw [Ys] at h
  have h2:=h.right
  simp only [Qt,jm,qy,P9 h.left,zu]
  rw [EN h2]
theorem zx (vs:List Wd) (n:Nat) (k:lS):(CG vs n k).2=n+k.tys.length:=by
 cases k<;>simp only [CG,lS.tys,zu,Au]
theorem Xu {vs:List Wd} {n:Nat} {k:lS} (h:rO vs n k.tys):mkS (vs.map bQ) n k.er=(aP (CG vs n k).1,(CG vs n k).2):=by
 cases k with
 |one k=>simp only [lS.er,mkS,CG,aP,iF,P9 h]
 |agg ks=>simp only [lS.er,mkS,CG,aP,iF,EN h]
theorem BO {vs:List Wd} :∀{n:Nat} {l:List (Nat×lS)},rO vs n (l.flatMap fun p=>p.2.tys)→bJ (vs.map bQ) n (l.map fun p=>(p.1,p.2.er))=((dY vs n l).1.map fun p=>(p.1,aP p.2),(dY vs n l).2)
 |n,[],_=>rfl
 |n,(t,k)::l,h=>by
  rw [Ys] at h
  have h2:=h.right
  simp only [Qt,bJ,dY,Xu h.left,zx]
  rw [BO h2]
theorem rP (vs:List Wd) :∀(n:Nat) (l:List (Nat×lS)),(dY vs n l).2=n+(l.flatMap fun p=>p.2.tys).length
 |n,[]=>rfl
 |n,(t,k)::l=>by simp only [dY,rP vs,zx,Ys,W3];omega
theorem Xv {vs:List Wd} {n:Nat} {k:kY} (h:rO vs n k.tys):pU (vs.map bQ) n k.er=(cu (Am vs n k).1,(Am vs n k).2):=by
 cases k with
 |box ws=>simp only [kY.er,pU,Am,cu,EN h]
 |arr fz a i e=>
  obtain ⟨w,h1,h2⟩:=h 0 (.sl e) rfl
  have e1:(vs.getD n xI)=w:=by simp only [Q6];rw [show vs[n]?=some w from h1];rfl
  simp only [kY.er,pU,Am,cu,←qC,e1]
  have e2:=sF h2
  have e3:(bQ w).list=aB e (w.as (.sl e)):=by
   conv=>lhs;rw [←e2]
   exact jF e _
  rw [e3]
 |it=>
  obtain ⟨w1,h1,h2⟩:=h 0 .str rfl
  obtain ⟨w2,h3,h4⟩:=h 1 (.int .i64) rfl
  have e1:(vs.getD n xI)=w1:=by simp only [Q6];rw [show vs[n]?=some w1 from h1];rfl
  have e2:(vs.getD (n+1) xI)=w2:=by simp only [Q6];rw [show vs[n+1]?=some w2 from h3];rfl
  simp only [kY.er,pU,Am,cu,←qC,e1,e2]
  have a1:=sF h2
  have a2:=sF h4
  conv=>lhs;rw [←a1,←a2]
  rfl
 |ay a i e ak=>
  obtain ⟨w,h1,h2⟩:=h 0 (.sl e) rfl
  have e1:(vs.getD n xI)=w:=by simp only [Q6];rw [show vs[n]?=some w from h1];rfl
  simp only [kY.er,pU,Am,cu,←qC,e1]
  have e2:=sF h2
  have e3:(bQ w).list=aB e (w.as (.sl e)):=by
   conv=>lhs;rw [←e2]
   exact jF e _
  rw [e3]
theorem EO (vs:List Wd) (n:Nat) (k:kY):(Am vs n k).2=n+k.tys.length:=by cases k<;>simp only [Am,kY.tys,Au]<;>rfl
theorem EP {vs:List Wd} :∀{n:Nat} {l:List (Nat×kY)},rO vs n (l.flatMap fun p=>p.2.tys)→eF (vs.map bQ) n (l.map fun p=>(p.1,p.2.er))=((iH vs n l).1.map fun p=>(p.1,cu p.2),(iH vs n l).2)
 |n,[],_=>rfl
 |n,(g,k)::l,h=>by
  rw [Ys] at h
  simp only [Qt,eF,iH,Xv h.left,EO]
  rw [EP h.right]
theorem uJ {j:Ju} {vs:List Wd} (h:vs.map (·.t)=j.tys):aI (mkT j vs)=mk j.er (vs.map bQ):=by
 have hs:=BO (vs:=vs) (n:=0) (l:=j.slots) (by
  have:=(rO.of h)
  unfold Ju.tys at this
  exact this.left)
 have h2:rO vs (dY vs 0 j.slots).2 (j.aN.flatMap fun p=>p.2.tys):=by
  have:=(rO.of h)
  unfold Ju.tys at this
  have:=this.right
  rw [rP];exact this
 have ho:=EP h2
 have e1:(bJ (vs.map bQ) 0 j.er.slots)=_:=hs
 have e2:eF (vs.map bQ) (dY vs 0 j.slots).2 j.er.aN=_:=ho
 unfold Fw.mk
 rw [e1]
 simp only [e2]
 refine St.ext' (fun t => ?_) (fun g => ?_) fun g => ?_
 ·simp only [aI,gU.gs,mkT,uI,mD]
  cases (dY vs 0 j.slots).1.lookup t<;>rfl
 ·simp only [aI,gU.go,mkT,uI,mD]
  cases (iH vs (dY vs 0 j.slots).2 j.aN).1.lookup g<;>rfl
 ·simp only [aI,mkT,aV,Shape.nms,Ju.er,WK];rfl
variable {m:Ren}
theorem zy {a:Bool} {α:Type} {x y:α} (h:(bif a then some x else none)=some y):a=true∧x=y:=by
 cases a
 ·cases h
 ·exact ⟨rfl,by simpa using h⟩
theorem ER :∀{gs:List Nat} {caps:List TW},CY m gs caps=pz m gs (kQ caps)
 | [],[]=>rfl
 | [],c::cs=>by cases c<;>rfl
 |g::gs,[]=>rfl
 |g::gs,c::cs=>by
  cases c<;>first | (simp only [CY,kQ,bf,pz,ER (gs:=gs) (caps:=cs)];done) | rfl
theorem P_ {k:jT} {x:TW} {us:List Wd} (h:Ak m k x=some us):FU m k.er (bf x)=some (us.map bQ)∧us.map (·.t)=k.tys:=by
 cases k<;>cases x<;>try simp only [Ak,reduceCtorEq] at h
 case p.p a i t a' i' w=>
  split at h
  ·rename_i z hz
   obtain ⟨h1,rfl⟩:=zy h
   have hc:((imp a' a&&imp i' i)||(bQ w).flat)=true:=by
    simp only [VV] at h1 ⊢
    exact h1.imp id RN
   refine ⟨?_,by simp [jT.tys,ZC hz]⟩
   show (if ((imp a' a&&imp i' i)||(bQ w).flat)=true then some [bQ w] else none)=_
   rw [if_pos hc];rfl
  ·cases h
 case p.bM a i t=>
  split at h
  ·simp only [Q0] at h;subst h;exact ⟨rfl,rfl⟩
  ·cases h
 case bM.bM=>simp only [Q0] at h;subst h;exact ⟨rfl,rfl⟩
 case own.own g g'=>
  split at h
  ·rename_i hc
   simp only [Q0] at h;subst h
   refine ⟨?_,rfl⟩
   show (if m.lookup g=some (some g') then some [] else none)=_
   rw [if_pos hc];rfl
  ·cases h
 case own.bM g=>
  split at h
  ·rename_i hc
   simp only [Q0] at h;subst h
   refine ⟨?_,rfl⟩
   show (if m.lookup g=some none then some [] else none)=_
   rw [if_pos hc];rfl
  ·cases h
 case box.box g off g' off'=>
  split at h
  ·rename_i hc
   simp only [Q0] at h;subst h
   refine ⟨?_,rfl⟩
   show (if m.lookup g=some (some g')∧off=off' then some [] else none)=_
   rw [if_pos hc];rfl
  ·cases h
 case fn.clo f gs f' caps=>
  obtain ⟨hc,rfl⟩:=zy h
  simp only [Qf] at hc
  refine ⟨?_,rfl⟩
  show (if f=f'∧pz m gs (kQ caps)=true then some [] else none)=_
  rw [if_pos ⟨Q4 hc.1,by rw [←ER];exact hc.2⟩];rfl
 case kH.kH g g'=>
  split at h
  ·rename_i hc
   simp only [Q0] at h;subst h
   refine ⟨?_,rfl⟩
   show (if m.lookup g=some (some g') then some [] else none)=_
   rw [if_pos hc];rfl
  ·cases h
 case vw.vw g g' lo hi=>
  split at h
  ·rename_i hc
   simp only [Q0] at h;subst h
   refine ⟨?_,rfl⟩
   show (if m.lookup g=some (some g') then some [P.int .i64 lo,P.int .i64 hi] else none)=_
   rw [if_pos hc];rfl
  ·cases h
 case ep.ep g off g' n off'=>
  split at h
  ·rename_i hc
   simp only [Q0] at h;subst h
   refine ⟨?_,rfl⟩
   show (if m.lookup g=some (some g')∧off=off' then some [P.int .i64 n] else none)=_
   rw [if_pos hc];rfl
  ·cases h
 all_goals (simp only [Q0] at h;subst h;exact ⟨rfl,rfl⟩)
theorem ES :∀{ks:List jT} {xs:List TW} {us:List Wd},uD m ks xs=some us→F7 m (ks.map jT.er) (xs.map bf)=some (us.map bQ)∧us.map (·.t)=ks.flatMap jT.tys
 | [],[],us,h=>by simp only [uD,Q0] at h;subst h;exact ⟨rfl,rfl⟩
 | [],x::xs,us,h=>by simp [uD] at h
 |k::ks,[],us,h=>by simp [uD] at h
 |k::ks,x::xs,us,h=>by
  simp only [uD] at h
  split at h
  ·rename_i u v h1 h2
   simp only [Q0] at h;subst h
   obtain ⟨a1,a2⟩:=P_ h1
   obtain ⟨b1,b2⟩:=ES h2
   exact ⟨by simp only [Qt,F7,a1,b1,XS],by simp only [XS,a2,b2,Ys]⟩
  ·cases h
theorem Qa {k:lS} {x:TS} {us:List Wd} (h:Xj m k x=some us):Yz m k.er (aP x)=some (us.map bQ)∧us.map (·.t)=k.tys:=by
 unfold Xj at h
 split at h
 ·exact P_ h
 ·exact ES h
 ·cases h
theorem Qb {k:kY} {x:TO} {us:List Wd} (h:OB m k x=some us):Tt m k.er (cu x)=some (us.map bQ)∧us.map (·.t)=k.tys:=by
 unfold OB at h
 split at h
 ·exact ES h
 ·rename_i fz a i e fz' a' i' e' l
  split at h
  ·rename_i l' hl
   split at h
   ·rename_i hc
    simp only [Q0] at h;subst h
    obtain ⟨ee,hl⟩:=lN hl
    cases ee
    subst hl
    refine ⟨?_,rfl⟩
    show (if fz=fz'∧size e=size e∧(imp a' a&&imp i' i)=true then some [P.eG (size e) (aB e _)] else none)=_
    rw [if_pos ⟨hc.1,rfl,hc.2⟩];rfl
   ·cases h
  ·cases h
 ·simp only [Q0] at h;subst h;exact ⟨rfl,rfl⟩
 ·rename_i a i e ak a' i' e' fD l hole
  split at h
  ·rename_i l' hl hcb
   split at h
   ·rename_i hc
    simp only [Q0] at h;subst h
    obtain ⟨ee,hl⟩:=lN hl
    cases ee
    subst hl
    have:=lQ hcb
    subst this
    refine ⟨?_,rfl⟩
    show (if size e=size e∧fM ak=fM ak∧(imp a' a&&imp i' i)=true then some [P.eG (size e) (aB e _)] else none)=_
    rw [if_pos ⟨rfl,rfl,hc⟩];rfl
   ·cases h
  ·cases h
 ·cases h
theorem BP {st:gU} :∀{l:List (Nat×lS)} {us:List Wd},kT m st.gs l=some us→oD m (aI st).s (l.map fun p=>(p.1,p.2.er))=some (us.map bQ)∧us.map (·.t)=l.flatMap fun p=>p.2.tys
 | [],us,h=>by simp only [kT,Q0] at h;subst h;exact ⟨rfl,rfl⟩
 |(t,k)::l,us,h=>by
  simp only [kT] at h
  split at h
  ·rename_i u v h1 h2
   simp only [Q0] at h;subst h
   obtain ⟨a1,a2⟩:=Qa h1
   obtain ⟨b1,b2⟩:=BP h2
   refine ⟨?_,by simp only [XS,a2,b2,Ys]⟩
   have a1:Yz m k.er ((aI st).s t)=_:=a1
   simp only [Qt,oD,a1,b1,XS]
  ·cases h
theorem ET {st:gU} :∀{l:List (Nat×kY)} {us:List Wd},mY m st.go l=some us→rC m (aI st).o (l.map fun p=>(p.1,p.2.er))=some (us.map bQ)∧us.map (·.t)=l.flatMap fun p=>p.2.tys
 | [],us,h=>by simp only [mY,Q0] at h;subst h;exact ⟨rfl,rfl⟩
 |(g',k)::l,us,h=>by
  simp only [mY] at h
  split at h
  ·rename_i u v h1 h2
   simp only [Q0] at h;subst h
   obtain ⟨b1,b2⟩:=ET h2
   cases hg:m.lookup g' with
   |none=>rw [hg] at h1;cases h1
   |some og=>
    rw [hg] at h1
    cases og with
    |some g=>
     obtain ⟨a1,a2⟩:=Qb h1
     have a1:Tt m k.er ((aI st).o g)=_:=a1
     refine ⟨?_,by simp only [XS,a2,b2,Ys]⟩
     simp only [Qt,rC,hg,a1,b1,XS]
    |none=>
     simp only at h1
     split at h1
     ·simp only [Q0] at h1;subst h1
      refine ⟨?_,by simp only [XS,b2,Ys];rfl⟩
      simp only [Qt,rC,hg,b1,XS];rfl
     ·simp only [Q0] at h1;subst h1
      refine ⟨?_,by simp only [XS,b2,Ys];rfl⟩
      simp only [Qt,rC,hg,b1,XS];rfl
     ·cases h1
  ·cases h
theorem EU {j:Ju} {st:gU} {vs:List Wd} (h:zh j m st=some vs):coerce j.er m (aI st)=some (vs.map bQ)∧vs.map (·.t)=j.tys:=by
 unfold zh at h
 split at h
 ·rename_i hok
  split at h
  ·rename_i u v h1 h2
   simp only [Q0] at h;subst h
   obtain ⟨a1,a2⟩:=BP h1
   obtain ⟨b1,b2⟩:=ET h2
   refine ⟨?_,by simp only [XS,a2,b2,Ju.tys]⟩
   unfold coerce
   rw [if_pos hok]
   show (match oD m (aI st).s (j.slots.map fun p=>(p.1,p.2.er)),rC m (aI st).o (j.aN.map fun p=>(p.1,p.2.er)) with | some u,some v=>some (u++v) | _,_=>none)=_
   rw [a1,b1,XS]
  ·cases h
 ·cases h
end
end Go.Fg

