/-
  The framework (a machine on plain data that answers as the program does), part 3.
-/
import Derived.Orders
import Derived.RangeFuncLeaves
import Derived.RangeFuncCalls
import Derived.OrdersIn
import Derived.LoopNIn
import Derived.LoopN
import Derived.Tactics
import Derived.Laws.Strings
import Derived.Test.YtpbdikcmfgeooaaZb
set_option linter.unusedSimpArgs false
set_option linter.unusedVariables false
set_option linter.unusedSectionVars false
namespace Go.Fw
set_option linter.unusedSectionVars false
variable [dA]
set_option linter.unusedVariables false
section
variable {E:Env} {st st':St} {gh aQ:Nat→Gh} {w w':World} {a:Act}
theorem RZ (v:Value):bD E st gh w (uw v) v:=by
 unfold uw
 split
 ·rename_i cs
  split
  ·rename_i h
   have h:=List.all_eq_true.1 h
   refine .v _ _ (.agg _ cs.toList (by simp) h fun j x u hx hu => ?_)
   rw [List.getElem?_map,hu] at hx
   simp only [Option.map_some,Option.some.injEq] at hx
   subst hx
   exact Ry (h u (List.mem_of_getElem? hu))
  ·exact .no _
 ·exact .no _
 ·exact .v _ _ (.one _ _ (.clo _ [] [] rfl fun j x v hx=>by simp at hx))
 ·split
  ·rename_i h;exact .v _ _ (.one _ _ (Ry h))
  ·exact .no _
theorem MX (v:Value):(uw v).names=[]:=by
 unfold uw
 split
 ·split
  ·simp [S.names,V.names,kL]
  ·rfl
 ·rfl
 ·simp [S.names,V.names,W.names]
 ·split
  ·simp [S.names,V.names,kL]
  ·rfl
theorem lZ (h:Rel E st gh (fun t=>a.tmps.getD t undef) w) (x:Operand):bD E st gh w (st.bf x) (a.eval x):=by
 cases x with
 |tmp t=>exact h.slots t
 |const v=>exact RZ v
 |global g=>
  simp only [St.bf]
  split
  ·exact .v _ _ (.one _ _ (.gl g))
  ·exact .no _
 |func f=>exact .v _ _ (.one _ _ (.clo _ [] [] rfl fun j x v hx=>by simp at hx))
theorem Hg (h:Rel E st gh (fun t=>a.tmps.getD t undef) w) (x:Operand) :∀g∈(st.bf x).names,st.used g=true:=by
 cases x with
 |tmp t=>exact h.us t
 |const v=>intro g hg;simp [St.bf,MX] at hg
 |global g=>
  intro g' hg
  simp only [St.bf] at hg
  split at hg
  ·simp [S.names,V.names,W.names] at hg
  ·simp [S.names] at hg
 |func f=>intro g hg;simp [St.bf,S.names,V.names,W.names] at hg
theorem wU (dst:Option Tmp) (v:Value) (h :∀d,dst=some d→d<a.tmps.size):(fun t=>(a.put dst v).tmps.getD t undef)=wE (fun t=>a.tmps.getD t undef) dst v:=by
 cases dst with
 |none=>rfl
 |some d=>
  funext t
  have hd:=h d rfl
  simp only [Act.put,wE,Array.getD_eq_getD_getElem?]
  by_cases e:t=d
  ·subst e;simp [hd]
  ·rw [Array.getElem?_setIfInBounds_ne (Ne.symm e),if_neg e]
variable {Pg:Program} {T:Tab} {tt:TT}
theorem R_ (hT :∀f sp,T f=some sp→Sound Pg (f % 1000000) sp) (htt:fF Pg tt) (h:Rel E st gh (fun t=>a.tmps.getD t undef) w) {o:Oper} {d:Nat} {e:Eff} (hc:jm T tt d st o fun e'=>e'=e) (hnew :∀g∈e.new,st.used g=false)
  {K:Act→World→Prop} {Q:Exit→Act→World→Prop}
  (hK :∀v w' aQ,Rel E (st.au e.au e.new) aQ (fun t=>a.tmps.getD t undef) w'→Lets E st (st.au e.au e.new) gh aQ w w'→bD E (st.au e.au e.new) aQ w' e.x v→(∀g∈e.x.names,(st.au e.au e.new).used g=true)→K (a.put o.dst v) w') :
  o.wp Pg a w K Q:=by
 unfold jm at hc
 split at hc
 ·rename_i f args ts ho
  split at hc
  ·rename_i fn caps hf
   split at hc
   ·rename_i sp hsp
    split at hc
    ·rename_i c hci
     obtain ⟨U0,aY,same,hR,hsame,he⟩:=hc
     simp only [Bool.and_eq_true,decide_eq_true_eq] at U0
     have hrf:=lZ h f
     rw [hf] at hrf
     generalize hvf:a.eval f=vf at hrf
     cases hrf.bC with
     |clo _ _ vs hl hvs=>
     have hS:=abz (p:=Sound Pg) hT hsp
     have hrun:(execOp a.eval o).run Pg w=.ok (.enter fn (args.toList.map a.eval++vs).toArray) w:=by
      have:(#[]++args.map a.eval)++vs.toArray=(args.toList.map a.eval++vs).toArray:=by
       apply Array.ext';simp
      rw [←hS.2.1 (args.toList.map a.eval++vs).toArray w,←this]
      simp only [execOp,ho,resolve,hvf,Deferred.ofValue]
      rfl
     show o.upon Pg a K Q ((execOp a.eval o).run Pg w)
     rw [hrun,Oper.upon_enter]
     have hr :∀t,bD E st gh w (((args.toList.map st.bf)++caps.map fun x=>S.v (.one x)).getD t .no) ((args.toList.map a.eval++vs).getD t undef):=by
      intro t
      simp only [List.getD_eq_getElem?_getD]
      by_cases ht:t<args.toList.length
      ·rw [List.getElem?_append_left (by simpa using ht),List.getElem?_append_left (by simpa using ht),List.getElem?_map,List.getElem?_map,List.getElem?_eq_getElem ht]
       exact lZ h _
      ·rw [List.getElem?_append_right (by simpa using ht),List.getElem?_append_right (by simpa using ht)]
       simp only [List.length_map]
       rw [List.getElem?_map]
       cases hx:caps[t-args.toList.length]? with
       |none=>exact .no _
       |some x=>
        have hlt:t-args.toList.length<vs.length:=by rw [←hl];exact (List.getElem?_eq_some_iff.1 hx).1
        rw [List.getElem?_eq_getElem hlt]
        exact .v _ _ (.one _ _ (hvs _ x _ hx (List.getElem?_eq_getElem hlt)))
     have hu:=WU (st:=st) (e:=gG sp.sig d st.o c aY) fun g hg=>(hsame g hg).2
     have hnew :∀g∈(gG sp.sig d st.o c aY).new,st.used g=false:=fun g hg=>hnew g (by rw [←he];exact hg)
     refine Calls.mono (RY hS h hr (by simp;omega) hci U0.1 hR d rfl hnew) fun e' w' he' => ?_
     obtain ⟨v,aQ,rfl,q1,q2,q3,q4⟩:=he'
     rw [←hu] at q1 q2 q3 q4
     rw [he] at q1 q2 q3 q4
     have q3:bD E (st.au e.au e.new) aQ w' e.x v:=by rw [←he];rw [←he] at q3;exact q3
     have q4 :∀g∈e.x.names,(st.au e.au e.new).used g=true:=by rw [←he];rw [←he] at q4;exact q4
     exact hK v w' aQ q1 q2 q3 q4
    ·cases hc
   ·cases hc
  ·cases hc
 ·rcases hc with ⟨dc,r,hk,hp,hc⟩ | hc
  ·have he:=JK.iff.1 hc
   subst he
   obtain ⟨v,w',aQ,hd,q1,q2,q3,q4⟩:=JH htt o.op E st gh _ w a.eval st.bf o d r rfl h (lZ h) (Hg h) hk hp hnew
   show o.upon Pg a K Q ((execOp a.eval o).run Pg w)
   rcases hd with hd | ⟨hd,rfl⟩
   ·rw [hd];exact hK v w' aQ q1 q2 q3 q4
   ·rw [hd];exact hK _ w' aQ q1 q2 q3 q4
  split at hc
  ·rename_i r hk
   obtain ⟨hp,hc⟩:=hc
   have he:({ x:=r.dst r.val,au:=r.au r.val,new:=r.new }:Eff)=e:=by
    cases hb:D9 o.op with
    |true=>rw [hb] at hc;exact JK.iff.1 hc
    |false=>rw [hb] at hc;exact hc
   subst he
   obtain ⟨v,w',aQ,hd,q1,q2,q3,q4⟩:=MI htt o.op E st gh _ w a.eval st.bf o d r rfl h (lZ h) (Hg h) hk hp hnew
   show o.upon Pg a K Q ((execOp a.eval o).run Pg w)
   rcases hd with hd | ⟨hd,rfl⟩
   ·rw [hd];exact hK v w' aQ q1 q2 q3 q4
   ·rw [hd];exact hK _ w' aQ q1 q2 q3 q4
  ·cases hc
def mark (D:Nat):Deferred:={ target:=.collected D,args:=#[] }
def Marks (E:Env) (a:Act) (w:World):Prop :=∃Ds:List Nat,a.defers=Ds.map mark∧Ds.Nodup∧∀D∈Ds,E.B0≤D∧w.heap[D]?=some (.deferred (some []))
theorem Marks.nil {E:Env} {a:Act} {w:World} (h:a.defers=[]):Marks E a w:=⟨[],h,List.nodup_nil,fun D hD=>by cases hD⟩
structure Good (E:Env) (N:Nat) (aN:List Nat) (oH:Nat→Gh) (st:St) (a:Act) (w:World):Prop where
 ex :∃gh,Rel E st gh (fun t=>a.tmps.getD t undef) w∧∀g∈aN,st.used g=true∧(st.o g=.none∨((gh g).ad=(oH g).ad∧(gh g).cap=(oH g).cap))
 size:a.tmps.size=N
 defers:Marks E a w
theorem wW (dst:Option Tmp) (v:Value):(a.put dst v).tmps.size=a.tmps.size:=by cases dst<;>simp [Act.put]
theorem put_defers (dst:Option Tmp) (v:Value):(a.put dst v).defers=a.defers:=by cases dst<;>rfl
theorem Marks.same {E:Env} {a:Act} {w w':World} (hm:Marks E a w) (h :∀D,E.B0≤D→w.heap[D]?=some (.deferred (some []))→w'.heap[D]?=w.heap[D]?) (dst:Option Tmp) (v:Value):Marks E (a.put dst v) w':=by
 obtain ⟨Ds,h1,h2,h3⟩:=hm
 exact ⟨Ds,(put_defers dst v).trans h1,h2,fun D hD=>⟨(h3 D hD).1,(h D (h3 D hD).1 (h3 D hD).2).trans (h3 D hD).2⟩⟩
theorem Marks.step {val:Nat→Value} (hm:Marks E a w) (hR:Rel E st gh val w) (hL:Lets E st st' gh aQ w w') (dst:Option Tmp) (v:Value):Marks E (a.put dst v) w':=
 hm.same (fun D h2 h3=>(hL.ok false false D (hR.YU h3 rfl h2 _ _)).2) dst v
theorem Marks.put (hm:Marks E a w) (dst:Option Tmp) (v:Value):Marks E (a.put dst v) w:=hm.same (fun _ _ _=>rfl) dst v
theorem rD {d:Nat} {o:Oper} {K K':Eff→Prop} (hK :∀e,K e→K' e) (h:jm T tt d st o K):jm T tt d st o K':=by
 unfold jm at *
 split at h
 ·split at h
  ·split at h
   ·split at h
    ·obtain ⟨h1,aY,same,h2,h4,h3⟩:=h;exact ⟨h1,aY,same,h2,h4,hK _ h3⟩
    ·exact h
   ·exact h
  ·exact h
 ·rcases h with ⟨dc,r,h1,h2,h3⟩ | h
  ·exact .inl ⟨dc,r,h1,h2,JK.iff.2 (hK _ (JK.iff.1 h3))⟩
  refine .inr ?_
  split at h
  ·refine ⟨h.1,?_⟩
   obtain ⟨_,h⟩:=h
   cases hb:D9 o.op with
   |true=>rw [hb] at h;exact JK.iff.2 (hK _ (JK.iff.1 h))
   |false=>rw [hb] at h;exact hK _ h
  ·exact h
theorem Hl {d:Nat} {o:Oper} {K:Eff→Prop} (h:jm T tt d st o K) :∃e,jm T tt d st o (fun e'=>e'=e)∧K e:=by
 unfold jm at *
 split at h
 ·split at h
  ·split at h
   ·split at h
    ·obtain ⟨h1,aY,same,h2,h4,h3⟩:=h;exact ⟨_,⟨h1,aY,same,h2,h4,rfl⟩,h3⟩
    ·cases h
   ·cases h
  ·cases h
 ·rcases h with ⟨dc,r,h1,h2,h3⟩ | h
  ·exact ⟨_,.inl ⟨dc,r,h1,h2,JK.iff.2 rfl⟩,JK.iff.1 h3⟩
  split at h
  ·obtain ⟨hp,h⟩:=h
   cases hb:D9 o.op with
   |true=>rw [hb] at h;exact ⟨_,.inr ⟨hp,JK.iff.2 rfl⟩,JK.iff.1 h⟩
   |false=>rw [hb] at h;exact ⟨_,.inr ⟨hp,rfl⟩,h⟩
  ·cases h
theorem YV {o:Nat→O} {g x:Nat} (h:x≠g) (h2:x∉(o g).hn):(Fw.jq o g).lookup x=none:=by
 have e1:(x==g)=false:=by simpa using h
 unfold Fw.jq
 split
 ·rename_i a i sz ah l n c d ho
  rw [ho] at h2
  have e2:(x==d)=false:=by simpa [O.hn,bn] using h2
  repeat' split
  all_goals first | rfl | simp [List.lookup,e1,e2]
 ·rfl
theorem Pz {o:Nat→O} {g x:Nat} :∀y,(Fw.jq o g).lookup x=some y→y.hn=[]:=by
 intro y hy
 unfold Fw.jq at hy
 split at hy
 ·rename_i a i sz ah l n c d ho
  repeat' split at hy
  all_goals first | (cases hy;done) | skip
  simp only [List.lookup] at hy
  split at hy
  ·cases hy;rfl
  ·split at hy
   ·cases hy;rfl
   ·cases hy
 ·cases hy
theorem Ee :∀(hs:List Nat) {st:St} {x:Nat},x∉hs→(∀g∈hs,x∉(st.o g).hn)→(Fw.shuts hs st).o x=st.o x
 | [],_,_,_,_=>rfl
 |g::gs,st,x,h1,h2=>by
  have hx:(st.au (Fw.jq st.o g) []).o x=st.o x:=by
   simp only [St.au,YV (fun e=>h1 (by simp [e])) (h2 g (by simp))]
  show (Fw.shuts gs (st.au (Fw.jq st.o g) [])).o x=_
  rw [Ee gs (fun h=>h1 (by simp [h])) (fun g' hg' => ?_),hx]
  cases hl:(Fw.jq st.o g).lookup g' with
  |none=>simp only [St.au,hl];exact h2 g' (by simp [hg'])
  |some y=>simp only [St.au,hl];rw [Pz y hl];simp
theorem Xc {hs:List Nat} {st:St} {x:Nat}:(match (yT hs st).lookup x with
  |some y=>y
  |none=>st.o x)=(Fw.shuts hs st).o x:=by
 have key :∀(l:List (Nat×O)),(∀p∈l,p.2=(Fw.shuts hs st).o p.1)→(∀y,l.lookup x=some y→y=(Fw.shuts hs st).o x)∧(l.lookup x=none→∀p∈l,p.1≠x):=by
  intro l
  induction l with
  |nil=>exact fun _=>⟨fun y h=>(by cases h),fun _ p hp=>(by cases hp)⟩
  |cons p l ih=>
   intro hl
   obtain ⟨i1,i2⟩:=ih fun q hq=>hl q (List.mem_cons_of_mem _ hq)
   obtain ⟨k,v⟩:=p
   simp only [List.lookup]
   cases hb:x==k with
   |true=>
    have e:x=k:=by simpa using hb
    subst e
    exact ⟨fun y h=>by cases h;exact hl (x,v) List.mem_cons_self,fun h=>by cases h⟩
   |false=>
    refine ⟨i1,fun h p hp => ?_⟩
    rcases List.mem_cons.1 hp with rfl | hp
    ·exact fun e=>by
      have e:k=x:=e
      rw [e] at hb;simp at hb
    ·exact i2 h p hp
 have hall :∀p∈yT hs st,p.2=(Fw.shuts hs st).o p.1:=by
  intro p hp
  obtain ⟨g,hg,hp⟩:=List.mem_flatMap.1 hp
  rcases List.mem_cons.1 hp with rfl | hp
  ·rfl
  ·obtain ⟨d,_,rfl⟩:=List.mem_map.1 hp;rfl
 obtain ⟨k1,k2⟩:=key _ hall
 cases hl:(yT hs st).lookup x with
 |some y=>exact k1 y hl
 |none=>
  have hno:=k2 hl
  refine (Ee hs (fun h=>hno (x,(Fw.shuts hs st).o x) (List.mem_flatMap.2 ⟨x,h,by simp⟩) rfl) fun g hg h=>hno (x,(Fw.shuts hs st).o x) (List.mem_flatMap.2 ⟨g,hg,List.mem_cons_of_mem _ (List.mem_map.2 ⟨x,h,rfl⟩)⟩) rfl).symm
theorem Xd {hs:List Nat} {st:St} {e:Eff}:st.au (AO hs st e).au (AO hs st e).new=(Fw.shuts hs st).au e.au e.new:=by
 cases hs with
 |nil=>rfl
 |cons g gs=>
  have ext :∀{x y:St},(∀t,x.s t=y.s t)→(∀g,x.o g=y.o g)→(∀g,x.used g=y.used g)→x=y:=fun {x y} h1 h2 h3=>by
   cases x;cases y
   simp only [St.mk.injEq]
   exact ⟨funext h1,funext h2,funext h3⟩
  refine ext (fun t => ?_) (fun x => ?_) (fun x => ?_)
  ·show st.s t=(Fw.shuts (g::gs) st).s t
   rw [FV]
  ·show (match (e.au++yT (g::gs) st).lookup x with | some y=>y | none=>st.o x)=match e.au.lookup x with | some y=>y | none=>(Fw.shuts (g::gs) st).o x
   rw [uM]
   cases e.au.lookup x with
   |some y=>rfl
   |none=>exact Xc
  ·show (e.new.contains x||st.used x)=(e.new.contains x||(Fw.shuts (g::gs) st).used x)
   rw [uJ]
theorem abI {hs:List Nat} {st:St} {e:Eff}:(AO hs st e).x=e.x∧(AO hs st e).new=e.new:=by cases hs<;>exact ⟨rfl,rfl⟩
theorem Xe (hT :∀f sp,T f=some sp→Sound Pg (f % 1000000) sp) (htt:fF Pg tt) (h:Rel E st gh (fun t=>a.tmps.getD t undef) w) {o:Oper} {d:Nat} {e:Eff} (hc:h_ T tt d st o fun e'=>e'=e) (hnew :∀g∈e.new,st.used g=false)
  {K:Act→World→Prop} {Q:Exit→Act→World→Prop}
  (hK :∀v w' aQ,Rel E (st.au e.au e.new) aQ (fun t=>a.tmps.getD t undef) w'→Lets E st (st.au e.au e.new) gh aQ w w'→bD E (st.au e.au e.new) aQ w' e.x v→(∀g∈e.x.names,(st.au e.au e.new).used g=true)→K (a.put o.dst v) w') :
  o.wp Pg a w K Q:=by
 unfold h_ at hc
 obtain ⟨e0,h1,h2⟩:=Hl hc
 obtain ⟨jT,hR,hL,_⟩:=h.shuts (g_ st o)
 have hx:=abI (hs:=g_ st o) (st:=st) (e:=e0)
 have hu:=Xd (hs:=g_ st o) (st:=st) (e:=e0)
 rw [h2] at hx hu
 refine R_ hT htt hR h1 (fun g hg=>by rw [uJ];exact hnew g (by rw [hx.2];exact hg)) fun v w' aQ q1 q2 q3 q4=>hK v w' aQ ?_ ?_ ?_ ?_
 ·rw [hu];exact q1
 ·rw [hu];exact hL.trans q2 fun g hg=>by rw [uJ];exact hg
 ·rw [hu,hx.1];exact q3
 ·rw [hu,hx.1];exact q4
theorem ny {d:Nat} {o:Oper} {K K':Eff→Prop} (hK :∀e,K e→K' e) (h:h_ T tt d st o K):h_ T tt d st o K':=rD (fun e h=>hK _ h) h
theorem CX {d:Nat} {o:Oper} {K:Eff→Prop} (h:h_ T tt d st o K) :∃e,h_ T tt d st o (fun e'=>e'=e)∧K e:=by
 obtain ⟨e,h1,h2⟩:=Hl h
 exact ⟨_,rD (fun e' he=>by rw [he]) h1,h2⟩
def Can (T:Tab) (tt:TT) (N:Nat) (ops:Array Oper) (st:St) (o:Oper) (e:Eff):Prop:=stepW T tt N ops o st fun e'=>e'=e
theorem PD {N:Nat} {ops:Array Oper} {o:Oper} {K:Eff→Prop} (h:stepW T tt N ops o st K) :∃e,Can T tt N ops st o e∧K e:=by
 unfold Can
 unfold stepW at *
 obtain ⟨hd,h⟩:=h
 split at h
 ·obtain ⟨e,h1,h2,h3⟩:=CX h
  exact ⟨e,⟨hd,ny (fun e' he=>⟨by rw [he];exact h2,he⟩) h1⟩,h3⟩
 ·split at h
  ·rename_i b hb
   cases b with
   |true=>
    simp only [cond_true] at h
    obtain ⟨e,h1,h2,h3⟩:=CX h
    refine ⟨e,⟨hd,?_⟩,h3⟩
    simp only [cond_true]
    exact ny (fun e' he=>⟨by rw [he];exact h2,he⟩) h1
   |false=>exact ⟨Eff.skip,⟨hd,rfl⟩,h⟩
  ·cases h
theorem Ho {N:Nat} {aN:List Nat} {oH:Nat→Gh} (hT :∀f sp,T f=some sp→Sound Pg (f % 1000000) sp) (htt:fF Pg tt) {ops:Array Oper} {i:Nat} {o:Oper} (hi:ops[i]?=some o) (h:Good E N aN oH st a w) {e:Eff} (hc:Can T tt N ops st o e)
  {K:Act→World→Prop} {Q:Exit→Act→World→Prop} (hK :∀a' w',Good E N aN oH (st.eff o.dst e) a' w'→K a' w'):wpOp Pg ops Q i K a w:=by
 obtain ⟨⟨gh,hR,Ec⟩,hsz,hdf⟩:=h
 unfold Can stepW at hc
 obtain ⟨hd,hc⟩:=hc
 have hd :∀d,o.dst=some d→d<a.tmps.size:=by
  intro d e
  rw [e] at hd
  rw [hsz];simpa using hd
 have run:(h_ T tt (o.dst.getD 0) st o fun e'=>e'.new.all (fun g=>!st.used g)=true∧e'=e)→o.wp Pg a w K Q:=by
  intro hc
  obtain ⟨e',h1,h2,rfl⟩:=CX hc
  have hnew :∀g∈e'.new,st.used g=false:=fun g hg=>by have:=(List.all_eq_true.1 h2) g hg;simpa using this
  refine Xe hT htt hR h1 hnew fun v w' aQ q1 q2 q3 q4=>hK _ _ ⟨⟨aQ,?_,fun g hg => ?_⟩,by rw [wW];exact hsz,hdf.step hR q2 _ _⟩
  ·rw [wU _ _ hd]
   exact q1.put o.dst q3 q4
  ·obtain ⟨p1,p2⟩:=Ec g hg
   have ho:(st.eff o.dst e').o g=(st.au e'.au e'.new).o g:=by unfold St.eff St.put;cases o.dst<;>rfl
   have hu:(st.eff o.dst e').used g=(st.au e'.au e'.new).used g:=by unfold St.eff St.put;cases o.dst<;>rfl
   refine ⟨by rw [hu];simp [St.au,p1],?_⟩
   rw [ho]
   rcases q2.names g p1 with q | ⟨q,qk⟩
   ·exact .inl q
   ·rcases p2 with p2 | p2
    ·rw [p2] at qk;exact .inl (O.CU qk)
    ·exact .inr ⟨q.1.trans p2.1,q.2.trans p2.2⟩
 unfold wpOp
 rw [hi]
 simp only
 cases hg:o.guard with
 |none=>
  rw [hg] at hc
  have:Region.wanted o (yielded ops a.tmps)=true:=by simp [Region.wanted,hg]
  rw [if_pos this]
  exact .inl (run hc)
 |some p=>
  obtain ⟨j,want⟩:=p
  rw [hg] at hc
  simp only at hc
  split at hc
  ·rename_i b hb
   have hw:Region.wanted o (yielded ops a.tmps)=b:=by
    simp only [Region.wanted,hg,yielded]
    unfold guardOf at hb
    split at hb
    ·rename_i t ht
     have PE:=hR.slots t
     rw [ht]
     simp only [Option.bind_some]
     split at hb
     ·rename_i a' i' b' hs
      rw [hs] at PE
      have hv:=PE.dF.iI
      have:a.tmps[t]?=some (.bool b'):=by
       simp only [Array.getD_eq_getD_getElem?] at hv
       cases hx:a.tmps[t]? with
       |none=>rw [hx] at hv;cases hv
       |some x=>rw [hx] at hv;simp at hv;rw [hv]
      rw [this]
      simp only [Option.some.injEq] at hb
      subst hb
      cases want<;>cases b'<;>rfl
     ·rename_i hs
      rw [hs] at PE
      simp only [Option.some.injEq] at hb
      subst hb
      have hv:a.tmps.getD t undef=.tuple #[]:=by
       generalize a.tmps.getD t undef=v at PE
       cases PE with | jH _ vs hl _=>
       have:vs=[]:=by cases vs<;>simp_all
       subst this;rfl
      have:a.tmps[t]?=none∨a.tmps[t]?=some (.tuple #[]):=by
       simp only [Array.getD_eq_getD_getElem?] at hv
       cases hx:a.tmps[t]? with
       |none=>exact .inl rfl
       |some x=>rw [hx] at hv;simp at hv;rw [hv];exact .inr rfl
      rcases this with h | h<;>rw [h]<;>cases want<;>rfl
     ·cases hb
    ·cases hb
   rw [hw]
   cases b with
   |true=>exact .inl (run hc)
   |false=>
    simp only [cond_false] at hc
    subst hc
    refine hK _ _ ⟨⟨gh,?_,fun g hg => ?_⟩,by rw [wW];exact hsz,hdf.put _ _⟩
    ·rw [wU _ _ hd]
     unfold St.eff Eff.skip
     simp only [FU]
     exact hR.put o.dst (.jH [] [] rfl fun j x v hx=>by simp at hx) (by simp [S.names])
    ·have ho:(st.eff o.dst Eff.skip).o g=st.o g:=by unfold St.eff St.put Eff.skip;cases o.dst<;>simp [St.au]
     have hu:(st.eff o.dst Eff.skip).used g=st.used g:=by unfold St.eff St.put Eff.skip;cases o.dst<;>simp [St.au]
     rw [ho,hu];exact Ec g hg
  ·cases hc
end
end Go.Fw

namespace Go.Fw
set_option linter.unusedSectionVars false
variable [dA]
set_option linter.unusedVariables false
section
variable {o o':Nat→O}
theorem Hq {k:WS} {x:W} (h :∀g∈x.names,Agree o o' g):dU o k x=dU o' k x:=by
 cases k with
 |p a i=>simp only [dU];rw [CW h]
 |own g'=>cases x<;>rfl
 |box g' off=>
  cases off with
  |zero=>cases x<;>first | rfl | (rename_i off;cases off<;>rfl)
  |succ off=>cases x<;>rfl
 |bg=>cases x<;>rfl
 |fn f=>cases x<;>first | rfl | (rename_i caps;cases caps<;>rfl)
 |lQ g=>cases x<;>rfl
 |no=>cases x<;>rfl
 |vw g=>cases x<;>rfl
 |ep g off=>cases x<;>rfl
theorem Ef :∀{ks:List WS} {xs:List W},(∀x∈xs,∀g∈x.names,Agree o o' g)→iT o ks xs=iT o' ks xs
 | [],[],_=>rfl
 | [],_::_,_=>rfl
 |_::_,[],_=>rfl
 |k::ks,x::xs,h=>by simp only [iT];rw [Hq (h x (by simp)),Ef fun y hy=>h y (by simp [hy])]
theorem Si {k:SS} {x:S} (h :∀g∈x.names,Agree o o' g):ni o k x=ni o' k x:=by
 cases k with
 |one k=>
  cases x with
  |v x=>cases x with
   |one x=>exact Hq fun g hg=>h g (by simpa [S.names,V.names] using hg)
   |agg xs=>rfl
  |jH=>rfl
  |no=>rfl
 |agg ks=>
  cases x with
  |v x=>cases x with
   |one x=>rfl
   |agg xs=>exact Ef fun x hx g hg=>h g (by simp only [S.names,V.names,List.mem_flatMap];exact ⟨x,hx,hg⟩)
  |jH=>rfl
  |no=>rfl
theorem U1 {args:List S} {t:Nat}:args.getD t .no=.no∨args.getD t .no∈args:=by
 rw [List.getD_eq_getElem?_getD]
 cases h:args[t]? with
 |none=>exact .inl rfl
 |some x=>exact .inr (List.mem_of_getElem? h)
theorem wX {args:List S} (h :∀x∈args,∀g∈x.names,Agree o o' g) :∀{L:List (Nat×SS)},dI o args L=dI o' args L
 | []=>rfl
 |(t,k)::L=>by
  simp only [dI]
  rw [Si (o:=o) (o':=o') (k:=k) (x:=args.getD t .no) (fun g hg=>by
   rcases U1 (args:=args) (t:=t) with e | e
   ·rw [e] at hg;simp [S.names] at hg
   ·exact h _ e g hg),wX h]
theorem AV {k:WS} {x:W} {us:List P} {c:Bool×Bool} {gs:List Nat} {r:List (Nat×Nat)} (h:dU o k x=some (us,c,gs,r)) (hx :∀g∈x.names,Agree o o' g) :∀g∈gs,Agree o o' g:=by
 cases k with
 |p a i=>
  simp only [dU] at h
  split at h
  ·rename_i ht
   simp only [Option.some.injEq,Prod.mk.injEq] at h
   obtain ⟨_,_,rfl,_⟩:=h
   exact zB ht hx
  ·cases h
 |own g'=>cases x<;>simp [dU] at h;obtain ⟨_,_,rfl,_⟩:=h;simp
 |box g' off=>
  cases off with
  |succ off=>cases x<;>simp [dU] at h
  |zero=>
   cases x with
   |box g off=>cases off<;>simp [dU] at h;obtain ⟨_,_,rfl,_⟩:=h;simp
   |_=>simp [dU] at h
 |bg=>simp [dU] at h
 |fn f gs0=>
  cases x with
  |clo f' caps=>
   simp only [dU] at h
   split at h
   ·split at h
    ·simp only [Option.some.injEq,Prod.mk.injEq] at h;obtain ⟨_,_,rfl,_⟩:=h;simp
    ·cases h
   ·cases h
  |_=>simp [dU] at h
 |lQ g=>simp [dU] at h
 |no=>simp [dU] at h
 |vw g=>simp [dU] at h
 |ep g off=>simp [dU] at h
theorem yU :∀{ks:List WS} {xs:List W} {us:List P} {c:Bool×Bool} {gs:List Nat} {r:List (Nat×Nat)},iT o ks xs=some (us,c,gs,r)→(∀x∈xs,∀g∈x.names,Agree o o' g)→∀g∈gs,Agree o o' g
 | [],xs,us,c,gs,r,h,_=>by
  cases xs<;>simp [iT] at h
  obtain ⟨_,_,rfl,_⟩:=h;simp
 |k::ks,xs,us,c,gs,r,h,hx=>by
  cases xs with
  |nil=>simp [iT] at h
  |cons x xs=>
   simp only [iT] at h
   split at h
   ·rename_i h1 h2
    simp only [Option.some.injEq,Prod.mk.injEq] at h
    obtain ⟨_,_,rfl,_⟩:=h
    intro g hg
    rcases List.mem_append.1 hg with hg | hg
    ·exact AV h1 (hx _ (by simp)) g hg
    ·exact yU h2 (fun y hy=>hx y (by simp [hy])) g hg
   ·cases h
theorem tJ {args:List S} :∀{L:List (Nat×SS)} {us:List P} {c:Bool×Bool} {gs:List Nat} {r:List (Nat×Nat)},dI o args L=some (us,c,gs,r)→(∀x∈args,∀g∈x.names,Agree o o' g)→∀g∈gs,Agree o o' g
 | [],us,c,gs,r,h,_=>by simp [dI] at h;obtain ⟨_,_,rfl,_⟩:=h;simp
 |(t,k)::L,us,c,gs,r,h,hx=>by
  simp only [dI] at h
  split at h
  ·rename_i h1 h2
   simp only [Option.some.injEq,Prod.mk.injEq] at h
   obtain ⟨_,_,rfl,_⟩:=h
   intro g hg
   rcases List.mem_append.1 hg with hg | hg
   ·have hx0 :∀g∈(args.getD t .no).names,Agree o o' g:=by
     rcases U1 (args:=args) (t:=t) with e | e
     ·rw [e];simp [S.names]
     ·exact hx _ e
    ·generalize args.getD t S.no=z at h1 hx0
     cases k with
     |one k=>
      cases z with
      |v z=>
       cases z with
       |one z=>exact AV h1 (fun g hg=>hx0 g (by simpa [S.names,V.names] using hg)) g hg
       |agg z=>simp [ni] at h1
      |_=>simp [ni] at h1
     |agg ks=>
      cases z with
      |v z=>
       cases z with
       |one z=>simp [ni] at h1
       |agg z=>exact yU h1 (fun x hx g hg=>hx0 g (by simp only [S.names,V.names,List.mem_flatMap];exact ⟨x,hx,hg⟩)) g hg
      |_=>simp [ni] at h1
   ·exact tJ h2 hx g hg
  ·cases h
theorem nC :∀{L:List (Nat×OS)} {r r':List (Nat×Nat)} {u:List P} {c:Bool×Bool},iQ o r L=some (u,c,r')→∀p∈r,p∈r'
 | [],r,r',u,c,h=>by simp only [iQ,Option.some.injEq,Prod.mk.injEq] at h;obtain ⟨_,_,rfl⟩:=h;exact fun p hp=>hp
 |(g',k)::L,r,r',u,c,h=>by
  simp only [iQ] at h
  split at h
  ·split at h
   ·split at h
    ·split at h
     ·rename_i h2
      simp only [Option.some.injEq,Prod.mk.injEq] at h
      obtain ⟨_,_,rfl⟩:=h
      exact fun p hp=>nC h2 p (List.mem_append_left _ hp)
     ·cases h
    ·cases h
   ·split at h
    ·split at h
     ·rename_i h2
      simp only [Option.some.injEq,Prod.mk.injEq] at h
      obtain ⟨_,_,rfl⟩:=h
      exact nC h2
     ·cases h
    ·cases h
   ·split at h
    ·split at h
     ·rename_i h2
      simp only [Option.some.injEq,Prod.mk.injEq] at h
      obtain ⟨_,_,rfl⟩:=h
      exact nC h2
     ·cases h
    ·cases h
   ·cases h
  ·cases h
theorem oN :∀{L:List (Nat×OS)} {r r':List (Nat×Nat)} {u:List P} {c:Bool×Bool},iQ o r L=some (u,c,r')→(∀p∈r',o p.2=o' p.2)→iQ o' r L=some (u,c,r')
 | [],r,r',u,c,h,_=>h
 |(g',k)::L,r,r',u,c,h,hl=>by
  simp only [iQ] at h ⊢
  split at h
  ·rename_i g hg
   have hmem:=iR hg
   have key :∀r2:List (Nat×Nat),(∀p∈r,p∈r2)→(∀p∈r2,p∈r')→o g=o' g:=fun r2 h1 h2=>hl _ (h2 _ (h1 _ hmem))
   split at h
   ·rename_i ks ws hk
    split at h
    ·rename_i r1 h1
     split at h
     ·rename_i h2
      simp only [Option.some.injEq,Prod.mk.injEq] at h
      obtain ⟨rfl,rfl,rfl⟩:=h
      have e:=key _ (fun p hp=>List.mem_append_left _ hp) (nC h2)
      simp only [←e,hk,h1,oN h2 hl]
     ·cases h
    ·cases h
   ·rename_i a1 b1 c1 sz a i sz' l hk
    split at h
    ·rename_i hsz
     split at h
     ·rename_i h2
      simp only [Option.some.injEq,Prod.mk.injEq] at h
      obtain ⟨rfl,rfl,rfl⟩:=h
      have e:=key _ (fun p hp=>hp) (nC h2)
      simp only [←e,hk,oN h2 hl,if_pos hsz]
     ·cases h
    ·cases h
   ·rename_i a1 b1 sz ah a i sz' fU l hk
    split at h
    ·rename_i hsz
     split at h
     ·rename_i h2
      simp only [Option.some.injEq,Prod.mk.injEq] at h
      obtain ⟨rfl,rfl,rfl⟩:=h
      have e:=key _ (fun p hp=>hp) (nC h2)
      simp only [←e,hk,oN h2 hl,if_pos hsz]
     ·cases h
    ·cases h
   ·cases h
  ·cases h
theorem MZ {s:yj} {args:List S} {c:JJ} (h:fO s o args=some c) (h1 :∀x∈args,∀g∈x.names,Agree o o' g) (h2 :∀p∈c.ren,o p.2=o' p.2):fO s o' args=some c:=by
 unfold fO at *
 rw [←wX h1]
 split at h
 ·rename_i hs
  split at h
  ·rename_i Ec
   simp only [Option.some.injEq] at h
   subst h
   simp only [oN Ec fun p hp=>h2 p (lI.2 hp)]
  ·cases h
 ·cases h
theorem Hr {s:yj} {args:List S} {c:JJ} (hc:fO s o args=some c) (hx :∀x∈args,∀g∈x.names,Agree o o' g) :∀g∈c.uq,Agree o o' g:=by
 unfold fO at hc
 split at hc
 ·rename_i hsl
  split at hc
  ·simp only [Option.some.injEq] at hc;subst hc
   exact tJ hsl hx
  ·cases hc
 ·cases hc
end
def PG (T:Tab) (st:St) (o:Oper):List Nat:=
 match o.op with
 |.call { callee:=.value f,args,.. }=>match st.bf f with
  |.v (.one (.clo fn caps))=>match pick T fn (args.toList.map st.bf) with
   |some sp=>match fO sp.sig st.o ((args.toList.map st.bf)++caps.map fun x=>S.v (.one x)) with
    |some c=>c.ren.map (·.2)
    |none=>[]
   |none=>[]
  |_=>[]
 |_=>[]
def looks:Op→Bool
 |.move _ | .assign _ | .pick _ _ _ | .build _ _ | .extract _ _ | .field _ _ _ | .makeFunc _ _ _=>false
 |_=>true
theorem M_ {o o':Nat→O} {tt:TT} {d:Nat} {F F':Operand→S} {op:Op} {ty:TypeId} (hl:looks op=false) (hF :∀x∈op.operands.toList,F x=F' x):kernel tt d o F op ty=kernel tt d o' F' op ty:=by
 refine (AQ (o':=o) hF fun _ _ _ _=>⟨rfl,fun _ _=>rfl⟩).trans ?_
 cases op<;>first
  |(cases hl;done)
  |rfl
  |(rename_i fn first caps;cases fn<;>rfl)
theorem JO {o:Nat→O} {tt:TT} {dc:List (Nat×Nat)} {d:Nat} {F:Operand→S} {op:Op} {ty:TypeId} (hl:looks op=false):bQ tt dc d o F op ty=none:=by
 cases op<;>first
  |(cases hl;done)
  |rfl
def AX (T:Tab) (st:St) (o:Oper):List Nat:=(bif looks o.op then (o.op.operands.toList.flatMap fun x=>(st.bf x).names.flatMap fun g=>g::(st.o g).hn) else [])++PG T st o
def sO (T:Tab) (st:St) (o:Oper):List Nat:=AX T (Fw.shuts (g_ st o) st) o++(sK st o).flatMap fun g=>g::(st.o g).hn
section
variable {T:Tab} {tt:TT} {st st':St}
theorem Na {d:Nat} {o:Oper} {K:Eff→Prop} (h:jm T tt d st o K) (hx :∀x∈o.op.operands.toList,st.bf x=st'.bf x) (ho :∀g∈AX T st o,st.o g=st'.o g):jm T tt d st' o K:=by
 have hfo:looks o.op=true→∀x∈o.op.operands.toList,∀g∈(st.bf x).names,Agree st.o st'.o g:=fun hl x hm g hg=>by
  have key :∀d∈g::(st.o g).hn,st.o d=st'.o d:=fun d hd=>ho d (List.mem_append_left _ (by rw [hl];exact List.mem_flatMap.2 ⟨x,hm,List.mem_flatMap.2 ⟨g,hg,hd⟩⟩))
  exact ⟨key g (by simp),fun d hd=>key d (by simp [hd])⟩
 have gJ :∀g∈PG T st o,st.o g=st'.o g:=fun g hg=>ho g (List.mem_append_right _ hg)
 unfold jm at *
 unfold PG at gJ
 split at h
 ·rename_i f args ts hop
  rw [hop] at hx hfo gJ
  have hfo:=hfo rfl
  simp only at gJ
  have hxf:=hx f (by simp [Op.operands,Call.operands])
  have hxa :∀x∈args.toList,st.bf x=st'.bf x:=fun x hm=>hx x (by simp [Op.operands,Call.operands];exact .inr (by simpa using hm))
  have hfa :∀x∈args.toList,∀g∈(st.bf x).names,Agree st.o st'.o g:=fun x hm=>hfo x (by simp [Op.operands,Call.operands];exact .inr (by simpa using hm))
  have hff:=hfo f (by simp [Op.operands,Call.operands])
  rw [←hxf]
  split at h
  ·rename_i fn caps hf
   rw [hf] at hff gJ
   simp only at gJ
   split at h
   ·rename_i sp hsp
    rw [hsp] at gJ
    simp only at gJ
    have hmap:args.toList.map st'.bf=args.toList.map st.bf:=List.map_congr_left fun x hm=>(hxa x hm).symm
    rw [hmap]
    split at h
    ·rename_i c hci
     rw [hci] at gJ
     have hnm :∀x∈(args.toList.map st.bf)++(caps.map fun x=>S.v (.one x)),∀g∈x.names,Agree st.o st'.o g:=by
      intro x hm g hg
      rcases List.mem_append.1 hm with hm | hm
      ·obtain ⟨y,hy,rfl⟩:=List.mem_map.1 hm
       exact hfa y hy g hg
      ·obtain ⟨y,hy,rfl⟩:=List.mem_map.1 hm
       refine hff g ?_
       obtain ⟨j,hj⟩:=List.mem_iff_getElem?.1 hy
       simp only [S.names,V.names]
       exact yO hj (by simpa [S.names,V.names] using hg)
     have ajd:=MZ hci hnm fun p hp=>gJ p.2 (List.mem_map.2 ⟨p,hp,rfl⟩)
     have aeB:c.uq.map (aC st.o)=c.uq.map (aC st'.o):=jW (Hr hci hnm)
     simp only [hsp,ajd]
     obtain ⟨q1,aY,same,q2,q4,q3⟩:=h
     have:gG sp.sig d st'.o c aY=gG sp.sig d st.o c aY:=by simp only [gG,aeB]
     refine ⟨q1,aY,same,q2,?_,?_⟩
     ·rw [this]
      intro g hg
      obtain ⟨a1,a2⟩:=q4 g hg
      exact ⟨a1,by rw [a2,gJ g a1]⟩
     ·rw [this];exact q3
    ·cases h
   ·cases h
  ·cases h
 ·rcases h with ⟨dc,r,h1,h2,h3⟩ | h
  ·refine .inl ⟨dc,r,?_,h2,h3⟩
   cases hl:looks o.op with
   |true=>rw [←JM hx (hfo hl)];exact h1
   |false=>rw [JO hl] at h1;cases h1
  ·refine .inr ?_
   cases hl:looks o.op with
   |true=>rw [←AQ hx (hfo hl)];exact h
   |false=>rw [←M_ hl hx];exact h
theorem wY {o o':Nat→O} :∀(n:Nat) {gs:List Nat},(∀g∈nZ o n gs,o g=o' g)→nZ o' n gs=nZ o n gs
 |0,_,_=>rfl
 |n+1,gs,h=>by
  simp only [nZ] at h ⊢
  have e:(gs.flatMap fun g=>wO (o' g))=gs.flatMap fun g=>wO (o g):=by
   refine congrArg List.flatten (List.map_congr_left fun g hg => ?_)
   rw [h g (List.mem_append_left _ hg)]
  rw [e,wY n fun g hg=>h g (List.mem_append_right _ hg)]
theorem PI {o o':Nat→O} {g:Nat} (h:o g=o' g) (h2 :∀d∈(o g).hn,o d=o' d):Fw.jq o g=Fw.jq o' g:=by
 unfold Fw.jq
 rw [←h]
 split
 ·rename_i a i sz ah l n c d ho
  rw [←h2 d (by rw [ho];simp [O.hn,bn])]
 ·rfl
theorem Eh :∀(hs:List Nat) {st st':St},(∀g∈hs,st.o g=st'.o g∧∀d∈(st.o g).hn,st.o d=st'.o d)→∀x,st.o x=st'.o x→(Fw.shuts hs st).o x=(Fw.shuts hs st').o x
 | [],_,_,_,_,h=>h
 |g::gs,st,st',h,x,hx=>by
  have hu:=PI (h g (by simp)).1 (h g (by simp)).2
  have step :∀y,st.o y=st'.o y→(st.au (Fw.jq st.o g) []).o y=(st'.au (Fw.jq st'.o g) []).o y:=fun y hy=>by simp only [St.au,hu,hy]
  refine Eh gs (fun g' hg'=>⟨step g' (h g' (by simp [hg'])).1,fun d hd=>step d ?_⟩) x (step x hx)
  cases hl:(Fw.jq st.o g).lookup g' with
  |none=>simp only [St.au,hl] at hd;exact (h g' (by simp [hg'])).2 d hd
  |some y=>simp only [St.au,hl] at hd;rw [Pz y hl] at hd;cases hd
theorem PK {d:Nat} {o:Oper} {K:Eff→Prop} (h:h_ T tt d st o K) (hx :∀x∈o.op.operands.toList,st.bf x=st'.bf x) (ho :∀g∈sO T st o,st.o g=st'.o g):h_ T tt d st' o K:=by
 have han:argNames st' o=argNames st o:=by
  unfold argNames
  split
  ·rename_i f args ts hop
   refine congrArg List.flatten (List.map_congr_left fun x hm => ?_)
   rw [hx x (by rw [hop];simp [Op.operands,Call.operands];exact .inr (by simpa using hm))]
  ·rename_i t x lo hi mx hop
   rw [hx x (by rw [hop];simp [Op.operands])]
  ·rfl
 have hin :∀g∈sK st o,st.o g=st'.o g∧∀d∈(st.o g).hn,st.o d=st'.o d:=fun g hg=>
  ⟨ho g (List.mem_append_right _ (List.mem_flatMap.2 ⟨g,hg,by simp⟩)),fun d hd=>ho d (List.mem_append_right _ (List.mem_flatMap.2 ⟨g,hg,List.mem_cons_of_mem _ hd⟩))⟩
 have hns:sK st' o=sK st o:=by
  unfold sK at hin ⊢
  rw [han]
  exact wY 2 fun g hg=>(hin g hg).1
 have hhs:g_ st' o=g_ st o:=by
  unfold g_
  rw [hns,han]
  refine List.filter_congr fun g hg => ?_
  rw [(hin g hg).1]
 have hsub :∀g∈g_ st o,g∈sK st o:=fun g hg=>(List.mem_filter.1 hg).1
 have hsh:=Eh (g_ st o) fun g hg=>hin g (hsub g hg)
 have hE :∀e,AO (g_ st o) st e=AO (g_ st o) st' e:=fun e=>by
  have hU:yT (g_ st o) st=yT (g_ st o) st':=by
   unfold yT
   refine congrArg List.flatten (List.map_congr_left fun g hg => ?_)
   have hg':=hin g (hsub g hg)
   rw [hsh g hg'.1,←hg'.1]
   congr 1
   refine List.map_congr_left fun d hd => ?_
   rw [hsh d (hg'.2 d hd)]
  generalize g_ st o=hs at hU ⊢
  cases hs with
  |nil=>rfl
  |cons g gs=>simp only [AO,hU]
 unfold h_ at h ⊢
 rw [hhs]
 refine Na (st:=Fw.shuts (g_ st o) st) (rD (fun e he=>by rw [←hE e];exact he) h) (fun x hm => ?_) fun g hg => ?_
 ·have:=hx x hm
  cases x with
  |tmp t=>show (Fw.shuts _ st).s t=(Fw.shuts _ st').s t;rw [FV,FV];exact this
  |_=>rfl
 ·exact hsh g (ho g (List.mem_append_left _ hg))
theorem Xf {N:Nat} {ops:Array Oper} {o:Oper} {e:Eff} (hc:Can T tt N ops st o e) (hs :∀t∈o.looksAt ops,st.s t=st'.s t) (ho :∀g∈sO T st o,st.o g=st'.o g) (hu :∀g∈e.new,st.used g=st'.used g):Can T tt N ops st' o e:=by
 have hx :∀x∈o.op.operands.toList,st.bf x=st'.bf x:=by
  intro x hm
  cases x with
  |tmp t=>exact hs t (List.mem_append_left _ (List.mem_filterMap.2 ⟨_,hm,rfl⟩))
  |_=>rfl
 have eff:(h_ T tt (o.dst.getD 0) st o fun e'=>e'.new.all (fun g=>!st.used g)=true∧e'=e)→(h_ T tt (o.dst.getD 0) st' o fun e'=>e'.new.all (fun g=>!st'.used g)=true∧e'=e):=by
  intro h
  refine ny (fun e' he => ?_) (PK h hx ho)
  obtain ⟨h1,rfl⟩:=he
  refine ⟨?_,rfl⟩
  rw [List.all_eq_true] at h1 ⊢
  intro g hg
  rw [←hu g hg];exact h1 g hg
 unfold Can stepW at *
 refine ⟨hc.1,?_⟩
 have hc:=hc.2
 cases hg:o.guard with
 |none=>rw [hg] at hc;exact eff hc
 |some p=>
  obtain ⟨j,want⟩:=p
  rw [hg] at hc
  simp only at hc ⊢
  have:guardOf ops st j want=guardOf ops st' j want:=by
   unfold guardOf
   cases hd:(ops[j]?).bind (·.dst) with
   |none=>rfl
   |some t=>
    simp only
    rw [hs t (List.mem_append_right _ (by simp [hg,hd]))]
  rw [←this]
  split at hc
  ·rename_i b hb
   cases b with
   |true=>exact eff hc
   |false=>exact hc
  ·cases hc
end
def Ei (o:Nat→O):S→Option (Bool→Prop)
 |.v (.one (.p _ _ (.sl _ l)))=>some fun b=>l≠[]→b=false
 |.v (.one (.own g))=>match (o g).dim with
  |some (sz,l)=>if sz<MB then some fun b=>l≠0→b=false else none
  |none=>none
 |.v (.one .bg)=>some fun b=>b=true
 |_=>none
def Ej (o:Nat→O):S→Option (Bool→Prop)
 |.v (.one (.box g _))=>match o g with
  |.box _=>some fun b=>b=false
  |_=>none
 |.v (.one (.p _ _ (.opq (.pointer none))))=>some fun b=>b=true
 |_=>none
def wZ (o:Nat→O) (x:S) (k:TK) (c:Value):Option (Bool→Prop):=
 match k,c with
 |.slice _,.slice none 0 0=>Ei o x
 |.ptr,.pointer none=>Ej o x
 |_,_=>none
def Nb (tt:TT) (st:St) (o:Oper):Option (Bool×(Bool→Prop)):=
 match o.guard with
 |some _=>none
 |none=>match o.op with
  |.binOp op t x (.const c) _=>match tt t with
   |some i=>match op,wZ st.o (st.bf x) i.k c with
    |.eql,some p=>some (true,p)
    |.neq,some p=>some (false,p)
    |_,_=>none
   |none=>none
  |_=>none
def PL (s n:P):Bool:=decide (n.nat<s.bytes.size)
def YW (s n:P):P:=.int .i32 (Utf8.decode s.bytes n.nat).1
def Sj (s n:P):P:=jJ (n.nat+(Utf8.decode s.bytes n.nat).2)
def Nc (st:St) (o:Oper):Option (Nat×P×P):=
 match o.guard with
 |some _=>none
 |none=>match o.op with
  |.next x true=>match st.bf x with
   |.v (.one (.lQ g))=>match st.o g with
    |.it s n=>some (g,s,n)
    |_=>none
   |_=>none
  |_=>none
def Ht (g:Nat) (s n:P):Eff:={ x:=.jH [.one (.p false false (.bool true)),.one (.p false false (jJ n.nat)),.one (.p false false (YW s n))],au:=[(g,.it s (Sj s n))],new:=[] }
def KD:Eff:={ x:=.jH [.one (.p false false (.bool false))],au:=[],new:=[] }
def AY (T:Tab) (tt:TT) (N:Nat) (ops:Array Oper) (o:Oper) (st:St) (K:Eff→Prop):Prop:=
 match Nb tt st o with
 |some (pos,p)=>(match o.dst with
  |some d=>decide (d<N)
  |none=>true)=true∧∀b:Bool,p b→K { x:=scalar (.bool (bif pos then b else !b)),au:=[],new:=[] }
 |none=>match Nc st o with
  |some (g,s,n)=>(match o.dst with
   |some d=>decide (d<N)
   |none=>true)=true∧(PL s n=true→K (Ht g s n))∧(PL s n=false→K KD)
  |none=>stepW T tt N ops o st K
def uV (T:Tab) (tt:TT) (N:Nat) (ops:Array Oper):List Nat→St→(St→Prop)→Prop
 | [],st,K=>K st
 |i::is,st,K=>match ops[i]? with
  |some o=>AY T tt N ops o st fun e=>uV T tt N ops is (st.eff o.dst e) K
  |none=>False
structure sQ where
 rd:List Nat
 wr:List Nat
 new:List Nat
 ld:Option (Nat×Nat×Nat)
 kp:List (Nat×Nat)
 pk:Bool
 kd:List Nat
def YX:W→W→Bool
 |.own g,.own g'=>Nat.beq g g'
 |.box g off,.box g' off'=>Nat.beq g g'&&Nat.beq off off'
 |_,_=>false
def AZ (g:Nat):Nat→List W→List W→Option (List (Nat×Nat))
 |_,[],[]=>some []
 |j,x::xs,y::ys=>match AZ g (j+1) xs ys with
  |some r=>some (match YX x y with
   |true=>(g,j)::r
   |false=>r)
  |none=>none
 |_,_,_=>none
def PN (g:Nat):O→Option O→List (Nat×Nat)
 |.box ws,some (.box ws')=>match AZ g 0 ws ws' with
  |some r=>r
  |none=>[]
 |_,_=>[]
def lq:Op→Bool
 |.nilCheck _=>true
 |.fieldAddr _ _ _=>true
 |_=>false
def Hu:Op→Bool
 |.load _ _=>true
 |_=>false
def O.core:O→Option (Bool×Bool×Nat×List (Nat×Nat)×List (List P))
 |.ay a i sz ah l _=>some (a,i,sz,ah,l)
 |_=>Option.none
def keepR (g:Nat):O→Option O→List (Nat×Nat)
 |.ay _ _ _ _ _ hole,some (.ay _ _ _ _ _ _)=>match hole with
  |none=>[(g,5000000)]
  |some _=>[]
 |_,_=>[]
def Nh (st:St) (o:Oper) (e:Eff):List (Nat×Nat):=(bif lq o.op then (o.op.operands.toList.flatMap fun x=>(st.bf x).names).map fun g=>(g,0) else []) ++
 (e.au.map (·.1)).flatMap fun g=>PN g (st.o g) (e.au.lookup g)++bif Hu o.op then keepR g (st.o g) (e.au.lookup g) else []
def kindOf:O→Nat
 |.box _=>1
 |.arr _ _ _ _ _=>2
 |.ay _ _ _ _ _ _=>2
 |.it _ _=>3
 |.none=>0
def Sl (st:St) (e:Eff):List Nat:=(e.au.map (·.1)).filterMap fun g=>match e.au.lookup g with
 |some x=>bif Nat.beq (kindOf x) (kindOf (st.o g)) then some g else none
 |none=>none
def JQ (tt:TT) (st:St) (o:Oper):Option (Nat×Nat×Nat):=match o.op with
 |.load t x=>match tt t,st.bf x with
  |some i,.v (.one (.box g off))=>some (g,off,i.size)
  |some i,.v (.one (.ep g _ off))=>match st.o g with
   |.ay _ _ _ ah _ _=>bif (gY ah off i.size).isEmpty then some (g,5000000,1) else none
   |_=>none
  |_,_=>none
 |_=>none
def nS (T:Tab) (tt:TT) (N:Nat) (ops:Array Oper):List Nat→St→List sQ→(St→List sQ→Prop)→Prop
 | [],st,fs,K=>K st fs
 |i::is,st,fs,K=>match ops[i]? with
  |some o=>stepW T tt N ops o st fun e=>nS T tt N ops is (st.eff o.dst e) (fs++[{ rd:=sO T st o,wr:=e.au.map (·.1),new:=e.new,ld:=JQ tt st o,kp:=Nh st o e,pk:=lq o.op,kd:=Sl st e }]) K
  |none=>False
def jX (acc:List Nat) (o:Oper):Nat:=o.after.toList.foldl (fun s e=>if Region.binds .any e=true then s ||| (2 ^ e.on) ||| acc.getD e.on 0 else s) 0
def nD:List Oper→List Nat→List Nat
 | [],acc=>acc
 |o::os,acc=>nD os (acc++[jX acc o])
def Hw (x:Option Tmp) (ts:List Tmp):Bool:=match x with
 |some t=>!ts.contains t
 |none=>true
def Em (w r:sQ):Bool:=match r.ld with
 |some (g,off,n)=>(List.range n).all fun j=>w.kp.any fun p=>Nat.beq p.1 g&&Nat.beq p.2 (off+j)
 |none=>r.pk&&r.kp.all fun p=>!w.wr.contains p.1||w.kd.contains p.1
def YZ (ops:Array Oper) (x y:Oper) (fx fy:sQ):Bool:=
 Hw x.dst (y.looksAt ops)&&Hw y.dst (x.looksAt ops)&&Hw x.dst y.dst.toList&&(MP fx.wr fy.rd||Em fx fy)&&(MP fy.wr fx.rd||Em fy fx)&&MP fx.wr fy.wr&&MP fx.new fy.new
def U2 (ops:Array Oper) (fs:List sQ):Bool:=
 let as:=nD ops.toList []
 (List.range ops.size).all fun j=>decide (as.getD j 0<2 ^ j)&&(List.range j).all fun i=>(as.getD j 0).testBit i||match ops[i]?,ops[j]?,fs[i]?,fs[j]? with
  |some x,some y,some fx,some fy=>YZ ops x y fx fy
  |_,_,_,_=>false
def oO (T:Tab) (tt:TT) (N:Nat) (ops:Array Oper) (draw:Bool) (st:St) (K:St→Prop):Prop:=
 match draw with
 |false=>uV T tt N ops (List.range ops.size) st K
 |true=>nS T tt N ops (List.range ops.size) st [] fun st' fs=>U2 ops fs=true∧K st'
end Go.Fw

namespace Go.Fw
set_option linter.unusedSectionVars false
variable [dA]
set_option linter.unusedVariables false
theorem KE (st:St) (dst:Option Tmp) (e:Eff) (t:Nat):(st.eff dst e).s t=if dst=some t then e.x else st.s t:=by
 cases dst with
 |none=>simp [St.eff,St.put,St.au]
 |some d=>
  simp only [St.eff,St.put,St.au,Option.some.injEq]
  by_cases h:t=d
  ·subst h;simp
  ·have h1:Nat.beq t d=false:=by cases hb:Nat.beq t d with | false=>rfl | true=>exact absurd (Nat.eq_of_beq_eq_true hb) h
   rw [h1,if_neg (fun e=>h e.symm)];rfl
theorem w_ (st:St) (dst:Option Tmp) (e:Eff) (g:Nat):(st.eff dst e).o g=match e.au.lookup g with | some x=>x | none=>st.o g:=by
 cases dst<;>rfl
theorem tK (st:St) (dst:Option Tmp) (e:Eff) (g:Nat):(st.eff dst e).used g=(e.new.contains g||st.used g):=by
 cases dst<;>rfl
theorem jf {α:Type} {g:Nat} :∀{l:List (Nat×α)},g∉l.map (·.1)→l.lookup g=none
 | [],_=>rfl
 |(k,v)::l,h=>by
  simp only [List.map_cons,List.mem_cons,not_or] at h
  have:(g==k)=false:=by simpa using h.1
  simp only [List.lookup,this]
  exact jf h.2
theorem St.ext' {a b:St} (h1 :∀t,a.s t=b.s t) (h2 :∀g,a.o g=b.o g) (h3 :∀g,a.used g=b.used g):a=b:=by
 obtain ⟨s,o,u⟩:=a
 obtain ⟨s',o',u'⟩:=b
 simp only at h1 h2 h3
 rw [funext h1,funext h2,funext h3]
section
variable {ops:Array Oper} {es es':Nat→Eff} {st:St} {D D':Nat→Bool}
def SD (ops:Array Oper) (es:Nat→Eff) (st:St) (D:Nat→Bool):Nat→St
 |0=>st
 |k+1=>if D k=true then (SD ops es st D k).eff ((ops[k]?).bind (·.dst)) (es k) else SD ops es st D k
theorem Hy :∀{n:Nat},(∀k<n,es k=es' k)→SD ops es st D n=SD ops es' st D n
 |0,_=>rfl
 |n+1,h=>by simp only [SD];rw [Hy fun k hk=>h k (by omega),h n (by omega)]
theorem CY :∀{n:Nat},(∀k<n,D k=D' k)→SD ops es st D n=SD ops es st D' n
 |0,_=>rfl
 |n+1,h=>by simp only [SD];rw [CY fun k hk=>h k (by omega),h n (by omega)]
theorem aeI {t:Nat} :∀{n:Nat},(∀k<n,D k≠D' k→(ops[k]?).bind (·.dst)≠some t)→(SD ops es st D n).s t=(SD ops es st D' n).s t
 |0,_=>rfl
 |n+1,h=>by
  have ih:=aeI (n:=n) fun k hk=>h k (by omega)
  have hn:=h n (by omega)
  simp only [SD]
  cases h1:D n<;>cases h2:D' n
  ·simpa using ih
  ·have:=hn (by rw [h1,h2];simp)
   simp only [if_true,KE,if_neg this];simpa using ih
  ·have:=hn (by rw [h1,h2];simp)
   simp only [if_true,KE,if_neg this];simpa using ih
  ·simp only [if_true,KE,ih]
theorem aeJ {g:Nat} :∀{n:Nat},(∀k<n,D k≠D' k→g∉(es k).au.map (·.1))→(SD ops es st D n).o g=(SD ops es st D' n).o g
 |0,_=>rfl
 |n+1,h=>by
  have ih:=aeJ (n:=n) fun k hk=>h k (by omega)
  have hn:=h n (by omega)
  simp only [SD]
  cases h1:D n<;>cases h2:D' n
  ·simpa using ih
  ·have:=jf (hn (by rw [h1,h2];simp))
   simp only [if_true,w_,this];simpa using ih
  ·have:=jf (hn (by rw [h1,h2];simp))
   simp only [if_true,w_,this];simpa using ih
  ·simp only [if_true,w_,ih]
theorem Nj {g:Nat} :∀{n:Nat},(∀k<n,D k≠D' k→g∉(es k).new)→(SD ops es st D n).used g=(SD ops es st D' n).used g
 |0,_=>rfl
 |n+1,h=>by
  have ih:=Nj (n:=n) fun k hk=>h k (by omega)
  have hn:=h n (by omega)
  simp only [SD]
  cases h1:D n<;>cases h2:D' n
  ·simpa using ih
  ·have:=hn (by rw [h1,h2];simp)
   have:(es n).new.contains g=false:=by simpa using this
   simp only [if_true,tK,this,Bool.false_or];simpa using ih
  ·have:=hn (by rw [h1,h2];simp)
   have:(es n).new.contains g=false:=by simpa using this
   simp only [if_true,tK,this,Bool.false_or];simpa using ih
  ·simp only [if_true,tK,ih]
theorem KF {t i:Nat} (hi:D i=true) (hd:(ops[i]?).bind (·.dst)=some t) :∀{n:Nat},i<n→(∀k,i<k→k<n→D k=true→(ops[k]?).bind (·.dst)≠some t)→(SD ops es st D n).s t=(es i).x
 |0,h,_=>by omega
 |n+1,hin,h=>by
  simp only [SD]
  by_cases e:n=i
  ·subst e;simp [hi,KE,hd]
  ·have ih:=KF hi hd (n:=n) (by omega) fun k h1 h2=>h k h1 (by omega)
   cases hn:D n with
   |false=>simpa using ih
   |true=>
    have:=h n (by omega) (by omega) hn
    simp only [if_true,KE,if_neg this,ih]
theorem KG {g i:Nat} {x:O} (hi:D i=true) (hd:(es i).au.lookup g=some x) :∀{n:Nat},i<n→(∀k,i<k→k<n→D k=true→g∉(es k).au.map (·.1))→(SD ops es st D n).o g=x
 |0,h,_=>by omega
 |n+1,hin,h=>by
  simp only [SD]
  by_cases e:n=i
  ·subst e;simp [hi,w_,hd]
  ·have ih:=KG hi hd (n:=n) (by omega) fun k h1 h2=>h k h1 (by omega)
   cases hn:D n with
   |false=>simpa using ih
   |true=>
    have:=jf (h n (by omega) (by omega) hn)
    simp only [if_true,w_,this,ih]
theorem En {g i:Nat} (hi:D i=true) (hd:g∈(es i).new) :∀{n:Nat},i<n→(SD ops es st D n).used g=true
 |0,h=>by omega
 |n+1,hin=>by
  simp only [SD]
  by_cases e:n=i
  ·subst e;simp [hi,tK,hd]
  ·have ih:=En hi hd (n:=n) (by omega)
   cases hn:D n with
   |false=>simpa using ih
   |true=>simp only [if_true,tK,ih,Bool.or_true]
structure Apart (ops:Array Oper) (x y:Oper) (fx fy:sQ):Prop where
 dy :∀t,x.dst=some t→t∉y.looksAt ops
 dx :∀t,y.dst=some t→t∉x.looksAt ops
 dd :∀t,x.dst=some t→y.dst≠some t
 wr:(∀g∈fx.wr,g∉fy.rd)∨Em fx fy=true
 rw:(∀g∈fy.wr,g∉fx.rd)∨Em fy fx=true
 ww :∀g∈fx.wr,g∉fy.wr
 nn :∀g∈fx.new,g∉fy.new
theorem xg {x:Option Tmp} {ts:List Tmp} (h:Hw x ts=true) :∀t,x=some t→t∉ts:=by
 intro t e
 subst e
 simpa [Hw] using h
theorem yu {xs ys:List Nat} (h:MP xs ys=true) :∀x∈xs,x∉ys:=by
 intro x hx
 have:=(List.all_eq_true.1 h) x hx
 simpa using this
theorem Sm {x y:Oper} {fx fy:sQ} (h:YZ ops x y fx fy=true):Apart ops x y fx fy:=by
 simp only [YZ,Bool.and_eq_true,Bool.or_eq_true] at h
 obtain ⟨⟨⟨⟨⟨⟨h1,h2⟩,h3⟩,h4⟩,h5⟩,h6⟩,h7⟩:=h
 exact ⟨xg h1,xg h2,fun t e e'=>xg h3 t e (by simp [e']),h4.imp yu id,h5.imp yu id,yu h6,yu h7⟩
theorem KH {acc:List Nat} {i:Nat} :∀{l:List Edge} {s:Nat},(l.foldl (fun s e=>if Region.binds .any e=true then s ||| (2 ^ e.on) ||| acc.getD e.on 0 else s) s).testBit i=true↔
  s.testBit i=true∨∃e∈l,Region.binds .any e=true∧(e.on=i∨(acc.getD e.on 0).testBit i=true)
 | [],s=>by simp
 |e::l,s=>by
  simp only [List.foldl_cons]
  rw [KH]
  by_cases hb:Region.binds .any e=true
  ·simp only [hb,if_true,Nat.testBit_or,Bool.or_eq_true,Nat.testBit_two_pow,decide_eq_true_eq,List.mem_cons]
   constructor
   ·rintro (((h | h) | h) | ⟨e',h1,h2⟩)
    ·exact .inl h
    ·exact .inr ⟨e,.inl rfl,hb,.inl h⟩
    ·exact .inr ⟨e,.inl rfl,hb,.inr h⟩
    ·exact .inr ⟨e',.inr h1,h2⟩
   ·rintro (h | ⟨e',h1 | h1,h2,h3 | h3⟩)
    ·exact .inl (.inl (.inl h))
    ·subst h1;exact .inl (.inl (.inr h3))
    ·subst h1;exact .inl (.inr h3)
    ·exact .inr ⟨e',h1,h2,.inl h3⟩
    ·exact .inr ⟨e',h1,h2,.inr h3⟩
  ·simp only [hb,List.mem_cons]
   constructor
   ·rintro (h | ⟨e',h1,h2⟩)
    ·exact .inl (by simpa using h)
    ·exact .inr ⟨e',.inr h1,h2⟩
   ·rintro (h | ⟨e',h1 | h1,h2,h3⟩)
    ·exact .inl (by simpa using h)
    ·subst h1;exact absurd h2 hb
    ·exact .inr ⟨e',h1,h2,h3⟩
theorem Hz :∀{os:List Oper} {acc:List Nat},∃t,nD os acc=acc++t
 | [],acc=>⟨[],by simp [nD]⟩
 |o::os,acc=>by
  obtain ⟨t,h⟩:=Hz (os:=os) (acc:=acc++[jX acc o])
  exact ⟨jX acc o::t,by simp [nD,h]⟩
theorem HY :∀{os:List Oper} {acc:List Nat} {j:Nat} {o:Oper},os[j]?=some o→∃acc',(∃t,nD os acc=acc'++jX acc' o::t)∧acc'.length=acc.length+j
 | [],acc,j,o,h=>by simp at h
 |o'::os,acc,0,o,h=>by
  simp only [List.getElem?_cons_zero,Option.some.injEq] at h
  subst h
  obtain ⟨t,h⟩:=Hz (os:=os) (acc:=acc++[jX acc o'])
  exact ⟨acc,⟨t,by simp [nD,h]⟩,rfl⟩
 |o'::os,acc,j+1,o,h=>by
  simp only [List.getElem?_cons_succ] at h
  obtain ⟨acc',h1,h2⟩:=HY (acc:=acc++[jX acc o']) h
  exact ⟨acc',h1,by simp at h2;omega⟩
def Down (ops:Array Oper) (D:Nat→Bool):Prop :=∀(j:Nat) o,ops[j]?=some o→D j=true→∀e∈o.after,Region.binds .any e=true→D e.on=true
theorem H6 {j:Nat} {o:Oper} (ho:ops[j]?=some o) {i:Nat}:((nD ops.toList []).getD j 0).testBit i=true↔
  ∃e∈o.after,Region.binds .any e=true∧(e.on=i∨(e.on<j∧((nD ops.toList []).getD e.on 0).testBit i=true)):=by
 have hl:ops.toList[j]?=some o:=by simpa using ho
 obtain ⟨acc,⟨t,h1⟩,h2⟩:=HY (acc:=[]) hl
 simp only [List.length_nil,Nat.zero_add] at h2
 rw [h1]
 have e1:(acc++jX acc o::t).getD j 0=jX acc o:=by
  rw [List.getD_eq_getElem?_getD,List.getElem?_append_right (by omega),h2];simp
 have e2 :∀k,(acc++jX acc o::t).getD k 0=if k<j then acc.getD k 0 else (acc++jX acc o::t).getD k 0:=by
  intro k
  split
  ·rename_i hk
   rw [List.getD_eq_getElem?_getD,List.getElem?_append_left (by omega),←List.getD_eq_getElem?_getD]
  ·rfl
 rw [e1]
 unfold jX
 rw [KH]
 simp only [Nat.zero_testBit,Bool.false_eq_true,false_or,Array.mem_toList_iff]
 constructor
 ·rintro ⟨e,q1,q2,q3⟩
  refine ⟨e,q1,q2,q3.imp id fun q => ?_⟩
  by_cases hk:e.on<j
  ·refine ⟨hk,?_⟩
   have:=e2 e.on
   rw [if_pos hk] at this
   unfold jX at this
   rw [this];exact q
  ·have:acc.getD e.on 0=0:=by rw [List.getD_eq_getElem?_getD,List.getElem?_eq_none (by omega)];rfl
   rw [this] at q;simp at q
 ·rintro ⟨e,q1,q2,q3⟩
  refine ⟨e,q1,q2,q3.imp id fun ⟨hk,q⟩ => ?_⟩
  have:=e2 e.on
  rw [if_pos hk] at this
  unfold jX at this
  rw [this] at q;exact q
theorem xk (hD:Down ops D) :∀(j:Nat) {o:Oper},ops[j]?=some o→D j=true→∀i,((nD ops.toList []).getD j 0).testBit i=true→D i=true:=by
 intro j
 induction j using Nat.strongRecOn with
 |_ j ih=>
  intro o ho hj i hb
  obtain ⟨e,h1,h2,h3 | ⟨h3,h4⟩⟩:=(H6 ho).1 hb
  ·rw [←h3];exact hD j o ho hj e h1 h2
  ·have hlt:j<ops.size:=(Array.getElem?_eq_some_iff.1 ho).1
   have hlt':e.on<ops.size:=by omega
   exact ih e.on h3 (Array.getElem?_eq_getElem hlt') (hD j o ho hj e h1 h2) i h4
theorem PO {j:Nat} {o:Oper} (ho:ops[j]?=some o) (h:(nD ops.toList []).getD j 0<2 ^ j) {e:Edge} (he:e∈o.after) (hb:Region.binds .any e=true):e.on<j:=by
 have:=(H6 ho (i:=e.on)).2 ⟨e,he,hb,.inl rfl⟩
 by_cases hk:e.on<j
 ·exact hk
 ·rw [Nat.testBit_lt_two_pow (Nat.lt_of_lt_of_le h (Nat.pow_le_pow_right (by omega) (by omega)))] at this;cases this
end
section
variable {E:Env} {N:Nat} {aN:List Nat} {oH:Nat→Gh} {st:St} {a:Act} {w:World} {Pg:Program} {T:Tab} {tt:TT} {ops:Array Oper} {Q:Exit→Act→World→Prop}
theorem PS {gh:Nat→Gh} (h:Rel E st gh (fun t=>a.tmps.getD t undef) w) {x:S} {v:Value} (hx:bD E st gh w x v) {i:TI} {t:TypeId} (ht:lW Pg t i) {c:Value} {p:Bool→Prop} (hp:wZ st.o x i.k c=some p) :
  ∃b,(Op.equal t v c).run Pg w=.ok b w∧p b:=by
 unfold wZ at hp
 split at hp
 ·rename_i e hk
  have hu:=ht.kind
  rw [hk] at hu
  have hu:Pg.underlying t=some (.slice e):=hu
  have eqs :∀ao n cap,(Op.equal t (.slice ao n cap) (.slice none 0 0)).run Pg w=.ok ao.isNone w:=by
   intro ao n cap
   unfold Op.equal Op.maxDepth
   show (Op.equalIn (9999+1) t _ _).run Pg w=_
   unfold Op.equalIn
   cases ao<;>simp [bP hu]
  unfold Ei at hp
  split at hp
  ·simp only [Option.some.injEq] at hp;subst hp
   have r:=hx.dF
   generalize hl:(P.sl _ _)=y at r
   cases r with
   |nil sz ao cap=>cases hl;exact ⟨_,eqs _ _ _,fun h=>absurd rfl h⟩
   |sl sz l ad cap f _ _ _ _ _ _=>cases hl;exact ⟨_,eqs _ _ _,fun _=>rfl⟩
   |_=>cases hl
  ·rename_i g
   split at hp
   ·rename_i sz l ho
    split at hp
    rotate_left
    ·cases hp
    rename_i hlt
    simp only [Option.some.injEq] at hp;subst hp
    cases hx.bC with
    |own _ _ _ hb=>
     rw [hb _ _ ho,fD hlt]
     refine ⟨_,eqs _ _ _,fun hl => ?_⟩
     obtain ⟨ad,had,_⟩:=(uF (h.aJ g) ho).2 (by omega)
     rw [had];rfl
   ·cases hp
  ·simp only [Option.some.injEq] at hp;subst hp
   cases hx.bC
   exact ⟨_,eqs _ _ _,rfl⟩
  ·cases hp
 ·rename_i hk
  have hu:=ht.kind
  rw [hk] at hu
  obtain ⟨e,hu⟩:=(hu :∃e,Pg.underlying t=some (.pointer e))
  have eqp :∀ao,(Op.equal t (.pointer ao) (.pointer none)).run Pg w=.ok ao.isNone w:=by
   intro ao
   unfold Op.equal Op.maxDepth
   show (Op.equalIn (9999+1) t _ _).run Pg w=_
   unfold Op.equalIn
   cases ao<;>simp [bP hu]
  unfold Ej at hp
  split at hp
  ·rename_i g off
   split at hp
   ·rename_i ws ho
    simp only [Option.some.injEq] at hp;subst hp
    cases hx.bC with
    |box _ _ _ _ hb=>
     obtain ⟨ad,_,rfl⟩:=hb ws ho
     exact ⟨_,eqp _,rfl⟩
   ·cases hp
  ·simp only [Option.some.injEq] at hp;subst hp
   cases hx.dF with
   |opq _ _=>exact ⟨_,eqp _,rfl⟩
  ·cases hp
 ·cases hp
theorem PU (hT :∀f sp,T f=some sp→Sound Pg (f % 1000000) sp) (htt:fF Pg tt) {i:Nat} {o:Oper} (hi:ops[i]?=some o) (hg:Good E N aN oH st a w) {K':Eff→Prop} (h:AY T tt N ops o st K')
  {K:Act→World→Prop} (hK :∀e a' w',K' e→Good E N aN oH (st.eff o.dst e) a' w'→K a' w'):wpOp Pg ops Q i K a w:=by
 unfold AY at h
 split at h
 ·rename_i pos p hn
  obtain ⟨hd,h⟩:=h
  have hd :∀d,o.dst=some d→d<a.tmps.size:=by
   intro d e
   rw [e] at hd
   rw [hg.size];simpa using hd
  unfold Nb at hn
  split at hn
  ·cases hn
  ·rename_i hgd
   split at hn
   ·rename_i op t x c u hop
    split at hn
    ·rename_i ti ht
     obtain ⟨gh,hR,Ec⟩:=hg.ex
     have hx:=lZ hR x
     have key :∀p',wZ st.o (st.bf x) ti.k c=some p'→∃b,(Op.equal t (a.eval x) c).run Pg w=.ok b w∧p' b:=fun p' hp=>PS hR hx (htt _ _ ht) hp
     have fin :∀b,(execOp a.eval o).run Pg w=.ok (.value (.bool (bif pos then b else !b))) w→p b→wpOp Pg ops Q i K a w:=by
      intro b hrun hb
      unfold wpOp
      rw [hi]
      simp only
      have:Region.wanted o (yielded ops a.tmps)=true:=by simp [Region.wanted,hgd]
      rw [if_pos this]
      left
      show o.upon Pg a K Q ((execOp a.eval o).run Pg w)
      rw [hrun]
      refine hK _ _ _ (h b hb) ⟨⟨gh,?_,fun g hg' => ?_⟩,by rw [wW];exact hg.size,hg.defers.put _ _⟩
      ·rw [wU _ _ hd]
       unfold St.eff
       simp only [FU]
       exact hR.put o.dst (bD.ofP (.bool _)) (by simp [scalar,S.names,V.names,W.names])
      ·have ho:(st.eff o.dst { x:=scalar (.bool (bif pos then b else !b)),au:=[],new:=[] }).o g=st.o g:=by unfold St.eff St.put;cases o.dst<;>simp [St.au]
       have hu:(st.eff o.dst { x:=scalar (.bool (bif pos then b else !b)),au:=[],new:=[] }).used g=st.used g:=by unfold St.eff St.put;cases o.dst<;>simp [St.au]
       rw [ho,hu];exact Ec g hg'
     have hcv :∀b,(Op.equal t (a.eval x) c).run Pg w=.ok b w→(c=.slice none 0 0∨c=.pointer none)∧True→(eqGuard op t x (.const c) (a.eval x) c).run Pg w=.ok () w:=by
      intro b _ hc
      unfold eqGuard
      rcases hc.1 with rfl | rfl
      ·cases op<;>first | rfl | (simp only;split<;>first | rfl | simp_all)
      ·cases op<;>first | rfl | (simp only;split<;>first | rfl | simp_all)
     have hcc :∀p',wZ st.o (st.bf x) ti.k c=some p'→c=.slice none 0 0∨c=.pointer none:=by
      intro p' hp
      unfold wZ at hp
      split at hp
      ·exact .inl rfl
      ·exact .inr rfl
      ·cases hp
     split at hn
     ·rename_i p' hp
      simp only [Option.some.injEq,Prod.mk.injEq] at hn
      obtain ⟨rfl,rfl⟩:=hn
      obtain ⟨b,hb1,hb2⟩:=key _ hp
      refine fin b ?_ hb2
      have hge:=hcv b hb1 ⟨hcc _ hp,trivial⟩
      unfold execOp
      rw [hop]
      refine eG ?_
      show (eqGuard _ t x (.const c) (a.eval x) c >>= fun _=>binOp _ t (a.eval x) c).run Pg w=_
      rw [Sem.run_bind,hge]
      rcases hcc _ hp with rfl | rfl<;>simp [binOp,hb1]
     ·rename_i p' hp
      simp only [Option.some.injEq,Prod.mk.injEq] at hn
      obtain ⟨rfl,rfl⟩:=hn
      obtain ⟨b,hb1,hb2⟩:=key _ hp
      refine fin b ?_ hb2
      have hge:=hcv b hb1 ⟨hcc _ hp,trivial⟩
      unfold execOp
      rw [hop]
      refine eG ?_
      show (eqGuard _ t x (.const c) (a.eval x) c >>= fun _=>binOp _ t (a.eval x) c).run Pg w=_
      rw [Sem.run_bind,hge]
      rcases hcc _ hp with rfl | rfl<;>simp [binOp,hb1]
     ·cases hn
    ·cases hn
   ·cases hn
 ·split at h
  ·rename_i g s n hn
   obtain ⟨hd,h1,h2⟩:=h
   have hd :∀d,o.dst=some d→d<a.tmps.size:=by
    intro d e
    rw [e] at hd
    rw [hg.size];simpa using hd
   unfold Nc at hn
   split at hn
   ·cases hn
   ·rename_i hgd
    split at hn
    ·rename_i x hop
     split at hn
     ·rename_i g' hx
      split at hn
      ·rename_i s' n' hog
       simp only [Option.some.injEq,Prod.mk.injEq] at hn
       obtain ⟨rfl,rfl,rfl⟩:=hn
       obtain ⟨gh,hR,Ec⟩:=hg.ex
       have hrx:=lZ hR x
       rw [hx] at hrx
       obtain ⟨ad,had,hv⟩ :∃ad,(gh g').ad=some ad∧a.eval x=.pointer (some ⟨ad.block,0,none⟩):=by
        have:=hrx.bC
        generalize a.eval x=z at this
        cases this with | lQ _ _ _ hb=>exact hb _ _ hog
       have hO:=hR.aJ g'
       rw [hog] at hO
       obtain ⟨ad',bs,k,q1,rfl,rfl,q4⟩:=hO
       rw [had] at q1;cases q1
       have hlt:ad.block<w.heap.size:=(hR.wr g' ad.block (by rw [hog];rfl) (Gh.jk had)).2
       have hkn:(P.int .i64 (k:Int)).nat=k:=by simp [P.nat,P.num]
       have hget:(getObj ad.block).run Pg w=.ok (.stringIter bs k) w:=by simp [getObj,Sem.run,q4]
       have fin :∀(v:Value) (w':World) (e:Eff),(∀b,b≠ad.block→w'.heap[b]?=w.heap[b]?)→(Instr.next (a.eval x) true o.type).run Pg w=.ok v w'→K' e→Rel E (st.au e.au e.new) gh (fun t=>a.tmps.getD t undef) w'→bD E (st.au e.au e.new) gh w' e.x v→(∀g∈e.x.names,(st.au e.au e.new).used g=true)→
         (∀g,st.used g=true→(st.au e.au e.new).used g=true)→(∀g,((st.au e.au e.new).o g=.none∨True)∧(st.o g=.none→(st.au e.au e.new).o g=.none))→wpOp Pg ops Q i K a w:=by
        intro v w' e hmm hrun hke hR' hx' hn' hu' ho'
        unfold wpOp
        rw [hi]
        simp only
        have:Region.wanted o (yielded ops a.tmps)=true:=by simp [Region.wanted,hgd]
        rw [if_pos this]
        left
        show o.upon Pg a K Q ((execOp a.eval o).run Pg w)
        have:(execOp a.eval o).run Pg w=.ok (.value v) w':=by
         unfold execOp
         rw [hop]
         exact eG hrun
        rw [this]
        refine hK e _ _ hke ⟨⟨gh,?_,fun g hg' => ?_⟩,by rw [wW];exact hg.size,hg.defers.same (fun D _ h3=>hmm D fun e'=>by rw [e',q4] at h3;cases h3) _ _⟩
        ·rw [wU _ _ hd]
         exact hR'.put o.dst hx' hn'
        ·obtain ⟨p1,p2⟩:=Ec g hg'
         have ho2:(st.eff o.dst e).o g=(st.au e.au e.new).o g:=by unfold St.eff St.put;cases o.dst<;>rfl
         have hu2:(st.eff o.dst e).used g=(st.au e.au e.new).used g:=by unfold St.eff St.put;cases o.dst<;>rfl
         refine ⟨by rw [hu2];exact hu' g p1,?_⟩
         rw [ho2]
         rcases p2 with p2 | p2
         ·exact .inl ((ho' g).2 p2)
         ·exact .inr p2
       cases hb:PL (.str bs) (.int .i64 k) with
       |true=>
        have hkb:k<bs.size:=by
         have:=of_decide_eq_true hb
         rw [hkn] at this;exact this
        have hrun:(Instr.next (a.eval x) true o.type).run Pg w=.ok (.tuple #[.bool true,.int .i64 k,.int .i32 (Utf8.decode bs k).1]) { w with heap:=w.heap.setIfInBounds ad.block (.stringIter bs (k+(Utf8.decode bs k).2)) }:=by
         rw [hv]
         simp only [Instr.next,Sem.run_bind,hget,Result.andThen_ok]
         rw [if_pos hkb]
         have hset:(setObj ad.block (.stringIter bs (k+(Utf8.decode bs k).2))).run Pg w=.ok () { w with heap:=w.heap.setIfInBounds ad.block (.stringIter bs (k+(Utf8.decode bs k).2)) }:=by
          simp [setObj,Sem.run,q4]
         simp only [Sem.run_bind,hset,Result.andThen_ok,Sem.run_pure]
         rfl
        obtain ⟨w1,w2⟩:=hR.write g' ad (by rw [hog];rfl) had (.it (.str bs) (Sj (.str bs) (.int .i64 k))) (by rw [hog];trivial) { w with heap:=w.heap.setIfInBounds ad.block (.stringIter bs (k+(Utf8.decode bs k).2)) }
         (fun b hb=>by simp [Array.getElem?_setIfInBounds,Ne.symm hb]) (by simp) rfl rfl rfl rfl (fun _ e=>by cases e) (fun _=>by rw [hog];rfl)
         (fun _=>⟨ad,bs,k+(Utf8.decode bs k).2,had,rfl,by simp only [Sj,jJ,hkn];rfl,by simp [hlt]⟩) (fun g hg=>by simp [O.names] at hg)
        have hold :∀g,g≠g'→(st.au (Ht g' (.str bs) (.int .i64 k)).au (Ht g' (.str bs) (.int .i64 k)).new).o g=st.o g:=by
         intro g hne
         have:(g==g')=false:=by simpa using hne
         simp [Ht,St.au,List.lookup,this]
        refine fin _ _ (Ht g' (.str bs) (.int .i64 k)) (fun b hb=>by simp [Array.getElem?_setIfInBounds,Ne.symm hb]) hrun (h1 hb) w1 ?_ ?_ ?_ ?_
        ·refine .jH _ _ rfl fun j x v hx hv => ?_
         match j,hx,hv with
         |0,hx,hv=>cases hx;cases hv;exact .one _ _ (.p _ _ _ _ (.bool _))
         |1,hx,hv=>cases hx;cases hv;exact .one _ _ (.p _ _ _ _ (by rw [hkn];exact .int _ _))
         |2,hx,hv=>cases hx;cases hv;exact .one _ _ (.p _ _ _ _ (by simp only [YW,hkn];exact .int _ _))
         |j+3,hx,_=>cases hx
        ·intro g hg'
         simp [Ht,S.names,V.names,W.names] at hg'
        ·intro g hg';simp [St.au,hg']
        ·intro g
         refine ⟨.inr trivial,fun h0 => ?_⟩
         by_cases e:g=g'
         ·subst e;rw [hog] at h0;cases h0
         ·rw [hold g e];exact h0
       |false=>
        have hkb:¬ k<bs.size:=by
         have:=of_decide_eq_false hb
         rw [hkn] at this;exact this
        have hrun:(Instr.next (a.eval x) true o.type).run Pg w=.ok (.tuple #[.bool false]) w:=by
         rw [hv]
         simp only [Instr.next,Sem.run_bind,hget,Result.andThen_ok]
         rw [if_neg hkb];rfl
        refine fin _ _ KD (fun _ _=>rfl) hrun (h2 hb) (by rw [show KD.au=[] from rfl,show KD.new=[] from rfl,FU];exact hR) ?_ ?_ ?_ ?_
        ·refine .jH _ _ rfl fun j x v hx hv => ?_
         match j,hx,hv with
         |0,hx,hv=>cases hx;cases hv;exact .one _ _ (.p _ _ _ _ (.bool _))
         |j+1,hx,_=>cases hx
        ·intro g hg'
         simp [KD,S.names,V.names,W.names] at hg'
        ·intro g hg';simp [St.au,hg']
        ·intro g;exact ⟨.inr trivial,fun h0=>by simpa [KD,St.au] using h0⟩
      ·cases hn
     ·cases hn
    ·cases hn
  ·obtain ⟨e,hc,h⟩:=PD h
   exact Ho hT htt hi hg hc fun a' w' hg'=>hK e a' w' h hg'
theorem A_ (hT :∀f sp,T f=some sp→Sound Pg (f % 1000000) sp) (htt:fF Pg tt) {K:St→Prop} (hK :∀st' a' w',K st'→Good E N aN oH st' a' w'→Q .normal a' w') :
  ∀(is:List Nat) {st:St} {a:Act} {w:World},uV T tt N ops is st K→Good E N aN oH st a w→wpOps Pg ops Q is a w
 | [],st,a,w,h,hg=>hK st a w h hg
 |i::is,st,a,w,h,hg=>by
  simp only [uV] at h
  split at h
  ·rename_i o ho
   rw [wpOps_cons]
   exact PU hT htt ho hg h fun e a' w' h hg'=>A_ hT htt hK is h hg'
  ·cases h
theorem Eo {K:St→List sQ→Prop} :∀(m k:Nat) (es:Nat→Eff) (fs:List sQ),fs.length=k→nS T tt N ops (List.range' k m) (SD ops es st (fun _=>true) k) fs K→
  ∃(es':Nat→Eff) (fs':List sQ),(∀i<k,es' i=es i)∧(∀i<k,fs'[i]?=fs[i]?)∧K (SD ops es' st (fun _=>true) (k+m)) fs'∧
   ∀i,k≤i→i<k+m→∃o,ops[i]?=some o∧Can T tt N ops (SD ops es' st (fun _=>true) i) o (es' i)∧fs'[i]?=some { rd:=sO T (SD ops es' st (fun _=>true) i) o,wr:=(es' i).au.map (·.1),new:=(es' i).new,ld:=JQ tt (SD ops es' st (fun _=>true) i) o,kp:=Nh (SD ops es' st (fun _=>true) i) o (es' i),pk:=lq o.op,kd:=Sl (SD ops es' st (fun _=>true) i) (es' i) }
 |0,k,es,fs,hl,h=>⟨es,fs,fun _ _=>rfl,fun _ _=>rfl,h,fun i h1 h2=>by omega⟩
 |m+1,k,es,fs,hl,h=>by
  simp only [List.range'_succ,nS] at h
  split at h
  ·rename_i o ho
   obtain ⟨e,hc,h⟩:=PD h
   let es1:Nat→Eff:=fun i=>if i=k then e else es i
   have e1:SD ops es1 st (fun _=>true) k=SD ops es st (fun _=>true) k:=Hy fun i hi=>by simp only [es1];rw [if_neg (by omega)]
   have e2:SD ops es1 st (fun _=>true) (k+1)=(SD ops es st (fun _=>true) k).eff o.dst e:=by
    simp only [SD,if_true]
    rw [e1,ho]
    simp [es1]
   rw [←e2] at h
   obtain ⟨es',fs',q1,q2,q3,q4⟩:=Eo m (k+1) es1 _ (by simp [hl]) h
   have e3:SD ops es' st (fun _=>true) k=SD ops es st (fun _=>true) k:=(Hy fun i hi=>q1 i (by omega)).trans e1
   refine ⟨es',fs',fun i hi => ?_,fun i hi => ?_,by rw [show k+(m+1)=k+1+m by omega];exact q3,fun i h1 h2 => ?_⟩
   ·rw [q1 i (by omega)];simp only [es1];rw [if_neg (by omega)]
   ·rw [q2 i (by omega),List.getElem?_append_left (by omega)]
   ·by_cases e:i=k
    ·subst e
     have hei:es' i=e:=by rw [q1 i (by omega)];simp [es1]
     refine ⟨o,ho,by rw [e3,hei];exact hc,?_⟩
     rw [q2 i (by omega),List.getElem?_append_right (by omega),e3,hei]
     simp [hl]
    ·exact q4 i (by omega) (by omega)
  ·cases h
def Rng (ws:List W) (off n:Nat) (x:O):Prop :=∃wc,x=.box wc∧wc.length=ws.length∧∀off',off≤off'→off'<off+n→wc[off']?=ws[off']?
theorem H7 {g:Nat} :∀{j:Nat} {xs ys:List W} {r:List (Nat×Nat)},AZ g j xs ys=some r→xs.length=ys.length∧∀p∈r,p.1=g∧j≤p.2∧xs[p.2-j]?=ys[p.2-j]?
 |j,[],[],r,h=>by simp only [AZ,Option.some.injEq] at h;subst h;exact ⟨rfl,fun p hp=>by cases hp⟩
 |j,[],y::ys,r,h=>by simp [AZ] at h
 |j,x::xs,[],r,h=>by simp [AZ] at h
 |j,x::xs,y::ys,r,h=>by
  simp only [AZ] at h
  split at h
  ·rename_i r' hr
   obtain ⟨h1,h2⟩:=H7 hr
   have old :∀p∈r',p.1=g∧j≤p.2∧(x::xs)[p.2-j]?=(y::ys)[p.2-j]?:=fun p hp=>by
    obtain ⟨a1,a2,a3⟩:=h2 p hp
    refine ⟨a1,by omega,?_⟩
    rw [show p.2-j=(p.2-(j+1))+1 by omega,List.getElem?_cons_succ,List.getElem?_cons_succ];exact a3
   simp only [Option.some.injEq] at h
   refine ⟨by simp [h1],fun p hp => ?_⟩
   rw [←h] at hp
   split at hp
   ·rename_i hs
    rcases List.mem_cons.1 hp with rfl | hp
    ·refine ⟨rfl,Nat.le_refl _,?_⟩
     have:x=y:=by
      cases x<;>cases y<;>simp only [YX] at hs<;>first | (cases hs) | skip
      ·rw [Nat.eq_of_beq_eq_true hs]
      ·simp only [Bool.and_eq_true] at hs
       rw [Nat.eq_of_beq_eq_true hs.1,Nat.eq_of_beq_eq_true hs.2]
     simp [this]
    ·exact old p hp
   ·exact old p hp
  ·cases h
theorem zG {st:St} {o:Oper} {g off n:Nat} (h:JQ tt st o=some (g,off,n)):(∃t x i,o.op=.load t x∧tt t=some i∧i.size=n∧st.bf x=.v (.one (.box g off)))∨
  ((off=5000000∧n=1)∧∃t x i m off' a0 i0 sz ah l hole,o.op=.load t x∧tt t=some i∧st.bf x=.v (.one (.ep g m off'))∧st.o g=.ay a0 i0 sz ah l hole∧gY ah off' i.size=[]):=by
 unfold JQ at h
 split at h
 ·rename_i t x hop
  split at h
  ·rename_i i g' off' ht hx
   simp only [Option.some.injEq,Prod.mk.injEq] at h
   obtain ⟨rfl,rfl,rfl⟩:=h
   exact .inl ⟨t,x,i,hop,ht,rfl,hx⟩
  ·rename_i i g' m off' ht hx
   split at h
   ·rename_i a0 i0 sz ah l hole ho
    cases hc:gY ah off' i.size with
    |nil=>
     rw [hc] at h
     have h:some (g',5000000,1)=some (g,off,n):=h
     simp only [Option.some.injEq,Prod.mk.injEq] at h
     obtain ⟨rfl,rfl,rfl⟩:=h
     exact .inr ⟨⟨rfl,rfl⟩,t,x,i,m,off',a0,i0,sz,ah,l,hole,hop,ht,hx,ho,hc⟩
    |cons q qs=>
     rw [hc] at h
     have h:(none:Option (Nat×Nat×Nat))=some (g,off,n):=h
     cases h
   ·cases h
  ·cases h
 ·cases h
theorem pz {st:St} {o:Oper} (h:Hu o.op=true∨lq o.op=true):g_ st o=[]:=by
 refine RN ?_
 unfold argNames
 split
 ·rename_i f args ts hop
  rw [hop] at h
  rcases h with h | h<;>cases h
 ·rename_i hop
  rw [hop] at h
  rcases h with h | h<;>cases h
 ·rfl
theorem Xg {st:St} {o:Oper} {g off n:Nat} (h:JQ tt st o=some (g,off,n)):g∈sO T st o:=by
 rcases zG h with ⟨t,x,i,h1,_,_,h4⟩ | ⟨_,t,x,i,m,off',a0,i0,sz,ah,l,hole,h1,_,h4,_⟩
 all_goals
  refine List.mem_append_left _ ?_
  rw [pz (.inl (by rw [h1];rfl))]
  unfold AX
  rw [h1]
  show g∈(bif _ then _ else _)++_
  refine List.mem_append_left _ (List.mem_flatMap.2 ⟨x,by simp [Op.operands],List.mem_flatMap.2 ⟨g,?_,by simp⟩⟩)
  show g∈(st.bf x).names
  rw [h4];simp [S.names,V.names,W.names]
theorem PV {es:Nat→Eff} {D:Nat→Bool} {g:Nat} :∀(n:Nat),∃m,(∀k,m≤k→k<n→D k=true→g∉(es k).au.map (·.1))∧(SD ops es st D n).o g=(SD ops es st (fun _=>true) m).o g∧(m=0∨∃k,m=k+1∧k<n∧D k=true∧g∈(es k).au.map (·.1))
 |0=>⟨0,fun k _ h=>by omega,rfl,.inl rfl⟩
 |n+1=>by
  obtain ⟨m,h1,h2,h3⟩:=PV (D:=D) (g:=g) n
  by_cases hw:D n=true∧g∈(es n).au.map (·.1)
  ·obtain ⟨hd,hg⟩:=hw
   refine ⟨n+1,fun k a b=>by omega,?_,.inr ⟨n,rfl,by omega,hd,hg⟩⟩
   simp only [SD,hd,if_true,w_]
   cases hl:(es n).au.lookup g with
   |some x=>rfl
   |none=>
    exfalso
    obtain ⟨p,hp,e⟩:=List.mem_map.1 hg
    have :∀{l:List (Nat×O)},p∈l→l.lookup p.1≠none:=by
     intro l
     induction l with
     |nil=>intro h;cases h
     |cons q l ih=>
      intro h hn
      simp only [List.lookup] at hn
      split at hn
      ·cases hn
      ·rename_i hb
       rcases List.mem_cons.1 h with h | h
       ·subst h;simp at hb
       ·exact ih h hn
    exact this hp (by rw [e];exact hl)
  ·refine ⟨m,fun k a b hd hg => ?_,?_,h3.imp id fun ⟨k,a,b,c⟩=>⟨k,a,by omega,c⟩⟩
   ·by_cases e:k=n
    ·subst e;exact hw ⟨hd,hg⟩
    ·exact h1 k a (by omega) hd hg
   ·cases hd:D n with
    |false=>simp only [SD,hd,Bool.false_eq_true,if_false];exact h2
    |true=>
     have hg:g∉(es n).au.map (·.1):=fun hg=>hw ⟨hd,hg⟩
     simp only [SD,hd,if_true,w_,jf hg];exact h2
theorem zH {st:St} {o:Oper} {d:Nat} {t:TypeId} {x:Operand} {i:TI} {g off:Nat} (h1:o.op=.load t x) (h2:tt t=some i) (h4:st.bf x=.v (.one (.box g off))) {K:Eff→Prop} :
  h_ T tt d st o K↔∃ws,st.o g=.box ws∧(off+i.size≤ws.length∧0<i.size)∧K { x:=V.dh i.agg ((ws.drop off).take i.size),au:=[],new:=[] }:=by
 have hD :∀dc,bQ tt dc d st.o st.bf (.load t x) o.type=none:=fun dc=>by
  simp only [bQ,sD,h2,h4]
  cases OZ dc<;>rfl
 have e:h_ T tt d st o K↔(match kernel tt d st.o st.bf (.load t x) o.type with
   |some r=>r.pre∧K { x:=r.dst r.val,au:=r.au r.val,new:=r.new }
   |none=>False):=by
  rw [qW (pz (.inl (by rw [h1];rfl)))]
  unfold jm
  rw [h1]
  simp only [hD,reduceCtorEq,false_and,exists_false,false_or,D9,cond_false]
  cases kernel tt d st.o st.bf (.load t x) o.type<;>rfl
 rw [e]
 simp only [kernel,h2,h4]
 cases ho:st.o g with
 |box ws=>
  simp only
  by_cases hs:off+i.size≤ws.length∧0<i.size
  ·rw [if_pos hs]
   simp only [Ae.pure,true_and]
   constructor
   ·intro h;exact ⟨ws,rfl,hs,h⟩
   ·rintro ⟨ws',e',_,h⟩;cases e';exact h
  ·rw [if_neg hs]
   simp only [false_iff]
   rintro ⟨ws',e',h,_⟩;cases e';exact hs h
 |_=>
  simp only [false_iff]
  rintro ⟨ws',e',_⟩;cases e'
theorem U3 {st:St} {o:Oper} {e:Eff} (hc:Can T tt N ops st o e) {Q:Eff→Prop} (hs:Q Eff.skip) (key :∀{d:Nat},(h_ T tt d st o fun e'=>e'.new.all (fun g=>!st.used g)=true∧e'=e)→Q e):Q e:=by
 unfold Can stepW at hc
 obtain ⟨_,hc⟩:=hc
 split at hc
 ·exact key hc
 ·split at hc
  ·rename_i b _
   cases b with
   |true=>exact key hc
   |false=>have hc:Eff.skip=e:=hc;rw [←hc];exact hs
  ·cases hc
theorem H8 {st:St} {o:Oper} {d:Nat} {t:TypeId} {x:Operand} {i:TI} {g off sz:Nat} {m:P} {a0 i0:Bool} {ah:List (Nat×Nat)} {l:List (List P)} {hole:Option (Nat×Nat×Nat)} (h1:o.op=.load t x) (h2:tt t=some i) (h4:st.bf x=.v (.one (.ep g m off)))
  (h5:st.o g=.ay a0 i0 sz ah l hole) (h6:gY ah off i.size=[]) {K:Eff→Prop} :
  h_ T tt d st o K↔(off+i.size≤sz∧0<i.size)∧K { x:=V.dh i.agg ((List.range i.size).map fun j=>.p a0 i0 ((l.getD m.nat []).getD (off+j) (FN i.zero j))),au:=[],new:=[] }:=by
 have hK:kernel tt d st.o st.bf (.load t x) o.type=none:=by simp only [kernel,h2,h4,h5]
 have hH:sD tt st.o st.bf t x=none:=by
  unfold sD
  simp only [h2,h4]
  cases hh:gZ st.o g with
  |none=>rfl
  |some q=>
   obtain ⟨a,i',sz',fU,l'⟩:=q
   simp only
   have hcols:fU=ah:=by
    unfold gZ at hh
    rw [h5] at hh
    simp only at hh
    split at hh
    ·simp only [Option.some.injEq,Prod.mk.injEq] at hh;exact hh.2.2.2.1.symm
    ·split at hh
     ·split at hh
      ·simp only [Option.some.injEq,Prod.mk.injEq] at hh;exact hh.2.2.2.1.symm
      ·cases hh
     ·cases hh
   subst hcols
   cases hl:fU.lookup off with
   |none=>rfl
   |some s=>
    simp only
    rw [if_neg]
    rintro ⟨_,h1',_⟩
    have hm:(off,s)∈fU:=iR hl
    have:(off,s)∈gY fU off i.size:=by
     unfold gY
     rw [List.mem_filter]
     exact ⟨hm,by rw [h1'];simp⟩
    rw [h6] at this;cases this
 rw [qW (pz (.inl (by rw [h1];rfl)))]
 unfold jm
 rw [h1]
 simp only [hK,or_false]
 constructor
 ·rintro ⟨dc,r,hk,hp,hb⟩
  simp only [bQ] at hk
  cases hd:OZ dc with
  |true=>rw [hd] at hk;simp only [cond_true,hH] at hk;cases hk
  |false=>
   rw [hd] at hk
   simp only [cond_false,h2,h4,h5,h6] at hk
   split at hk
   ·rename_i hc
    simp only [Option.some.injEq] at hk
    subst hk
    exact ⟨hc,JK.iff.1 hb⟩
   ·cases hk
 ·rintro ⟨hc,hK'⟩
  refine ⟨[],.pure (V.dh i.agg ((List.range i.size).map fun j=>.p a0 i0 ((l.getD m.nat []).getD (off+j) (FN i.zero j)))),?_,trivial,JK.iff.2 hK'⟩
  simp only [bQ,OZ,cond_false,h2,h4,h5,h6]
  rw [if_pos hc]
theorem PW {st:St} {o:Oper} {e:Eff} {g off n:Nat} (hc:Can T tt N ops st o e) (hl:JQ tt st o=some (g,off,n)):e.au=[]:=by
 refine U3 (Q:=fun e=>e.au=[]) hc rfl fun {d} h => ?_
 rcases zG hl with ⟨t,x,i,h1,h2,h3,h4⟩ | ⟨_,t,x,i,m,off',a0,i0,sz,ah,l,hole,h1,h2,h4,h5,h6⟩
 ·obtain ⟨ws,_,_,_,rfl⟩:=(zH h1 h2 h4).1 h
  rfl
 ·obtain ⟨_,_,rfl⟩:=(H8 h1 h2 h4 h5 h6).1 h
  rfl
theorem Xh {st:St} {o:Oper} {e:Eff} {g:Nat} {t:TypeId} {x:Operand} {a i:Bool} {sz:Nat} {ah:List (Nat×Nat)} {l:List (List P)} (hc:Can T tt N ops st o e) (h1:o.op=.load t x) (ho:st.o g=.ay a i sz ah l none) {a' i':Bool} {sz':Nat} {fU:List (Nat×Nat)} {l':List (List P)} {fC:Option (Nat×Nat×Nat)}
  (hl:e.au.lookup g=some (.ay a' i' sz' fU l' fC)):(O.ay a' i' sz' fU l' fC).core=(O.ay a i sz ah l none).core:=by
 refine U3 (Q:=fun e=>e.au.lookup g=some (.ay a' i' sz' fU l' fC)→_) hc (fun h=>by cases h) (fun {d} h hl => ?_) hl
 rw [qW (pz (.inl (by rw [h1];rfl)))] at h
 unfold jm at h
 rw [h1] at h
 simp only at h
 rcases h with ⟨dc,r,hk,hp,hb⟩ | h
 ·have hb:=(JK.iff.1 hb).2
  rw [←hb] at hl
  simp only at hl
  simp only [bQ] at hk
  cases hd:OZ dc with
  |true=>
   rw [hd] at hk
   simp only [cond_true] at hk
   unfold sD at hk
   repeat' split at hk
   all_goals first | (cases hk;done) | skip
   simp only [Option.some.injEq] at hk
   subst hk
   simp [Ae.pure,oM] at hl
  |false=>
   rw [hd] at hk
   simp only [cond_false] at hk
   split at hk
   ·rename_i i1 g1 n1 off1 _ _
    split at hk
    ·rename_i a1 i2 sz1 amI l1 amJ ho1
     split at hk
     ·split at hk
      ·simp only [Option.some.injEq] at hk
       subst hk
       simp [Ae.pure,oM] at hl
      ·rename_i c s _
       split at hk
       ·rename_i a2 i3 sz2 agD l2 hh
        simp only [Option.some.injEq] at hk
        subst hk
        simp only [List.lookup] at hl
        cases hg:g==g1 with
        |true=>
         have e1:g=g1:=by simpa using hg
         subst e1
         rw [hg] at hl
         simp only [Option.some.injEq] at hl
         rw [ho] at ho1
         cases ho1
         unfold gZ at hh
         rw [ho] at hh
         simp only [Option.some.injEq,Prod.mk.injEq] at hh
         obtain ⟨rfl,rfl,rfl,rfl,rfl⟩:=hh
         rw [←hl]
         rfl
        |false=>
         rw [hg] at hl
         simp only at hl
         cases hg2:g==d with
         |true=>rw [hg2] at hl;cases hl
         |false=>
          rw [hg2] at hl
          simp only at hl
          exfalso
          have :∀gs:List Nat,(kills gs).lookup g≠some (.ay a' i' sz' fU l' fC):=fun gs=>by
           induction gs with
           |nil=>intro h;cases h
           |cons q qs ih=>
            intro h
            simp only [kills,List.map_cons,List.lookup] at h
            split at h
            ·cases h
            ·exact ih h
          exact this _ hl
       ·cases hk
      ·cases hk
     ·cases hk
    ·cases hk
   ·cases hk
 ·split at h
  ·rename_i r hr
   obtain ⟨_,h⟩:=h
   have h:(_:Prop)∧({ x:=r.dst r.val,au:=r.au r.val,new:=r.new }:Eff)=e:=h
   rw [←h.2] at hl
   have:r.au r.val=[]:=by
    simp only [kernel] at hr
    repeat' split at hr
    all_goals first | (cases hr;done) | (simp only [Option.some.injEq] at hr;subst hr;rfl)
   simp only [this] at hl
   cases hl
  ·cases h
theorem CZ {st:St} {o:Oper} {e:Eff} {p:Nat×Nat} (hc:Can T tt N ops st o e) (h:p∈Nh st o e):lq o.op=true∨(∃wa wb,st.o p.1=.box wa∧e.au.lookup p.1=some (.box wb)∧wa.length=wb.length∧wa[p.2]?=wb[p.2]?)∨
  ∃x,e.au.lookup p.1=some x∧x.core=(st.o p.1).core∧(st.o p.1).core≠none:=by
 unfold Nh at h
 rcases List.mem_append.1 h with h | h
 ·cases hp:lq o.op with
  |true=>exact .inl rfl
  |false=>rw [hp] at h;cases h
 obtain ⟨g,_,hp⟩:=List.mem_flatMap.1 h
 rcases List.mem_append.1 hp with hp | hp
 ·refine .inr (.inl ?_)
  cases ho:st.o g with
  |box ws=>
   cases hl:e.au.lookup g with
   |none=>rw [ho,hl] at hp;cases hp
   |some x=>
    cases x with
    |box ws'=>
     rw [ho,hl] at hp
     simp only [PN] at hp
     split at hp
     ·rename_i r hr
      obtain ⟨h1,h2⟩:=H7 hr
      obtain ⟨rfl,_,a3⟩:=h2 p hp
      exact ⟨ws,ws',ho,hl,h1,by simpa using a3⟩
     ·cases hp
    |_=>rw [ho,hl] at hp;cases hp
  |_=>rw [ho] at hp;cases hp
 ·refine .inr (.inr ?_)
  cases hop:o.op with
  |load t x=>
   rw [hop] at hp
   simp only [Hu,cond_true] at hp
   cases ho:st.o g with
   |ay a i sz ah l hole=>
    cases hole with
    |some q=>rw [ho] at hp;revert hp;cases e.au.lookup g with
     |none=>intro hp;cases hp
     |some y=>cases y<;>intro hp<;>cases hp
    |none=>
     cases hl:e.au.lookup g with
     |none=>rw [ho,hl] at hp;cases hp
     |some y=>
      cases y with
      |ay a' i' sz' fU l' fC=>
       rw [ho,hl] at hp
       have hp:p∈[(g,5000000)]:=hp
       rw [List.mem_singleton] at hp
       subst hp
       exact ⟨_,hl,by rw [ho];exact Xh hc hop ho hl,by rw [ho];simp [O.core]⟩
      |_=>rw [ho,hl] at hp;cases hp
   |_=>rw [ho] at hp;cases hp
  |_=>rw [hop] at hp;cases hp
theorem Xi {st:St} {e:Eff} {g:Nat} (h:g∈Sl st e) :∃x,e.au.lookup g=some x∧kindOf x=kindOf (st.o g):=by
 unfold Sl at h
 obtain ⟨g',_,hp⟩:=List.mem_filterMap.1 h
 cases hl:e.au.lookup g' with
 |none=>rw [hl] at hp;cases hp
 |some x=>
  rw [hl] at hp
  simp only at hp
  cases hb:Nat.beq (kindOf x) (kindOf (st.o g')) with
  |false=>rw [hb] at hp;cases hp
  |true=>
   rw [hb] at hp
   cases hp
   exact ⟨x,hl,Nat.eq_of_beq_eq_true hb⟩
theorem KI {o o':Nat→O} {x:W} (h :∀g∈x.names,kindOf (o g)=kindOf (o' g)):x.live o=x.live o':=by
 cases x<;>simp only [W.live]<;>first | rfl | skip
 ·rename_i g off
  have:=h g (by simp [W.names])
  cases h1:o g<;>cases h2:o' g<;>rw [h1,h2] at this<;>first | rfl | cases this
 ·rename_i g n off
  have:=h g (by simp [W.names])
  cases h1:o g<;>cases h2:o' g<;>rw [h1,h2] at this<;>first | rfl | cases this
theorem PX {o o':Nat→O} {d:Nat} {F F':Operand→S} {op:Op} {ty:TypeId} (hp:lq op=true) (hF :∀x∈op.operands.toList,F x=F' x) (ho :∀x∈op.operands.toList,∀g∈(F x).names,kindOf (o g)=kindOf (o' g)) :
  kernel tt d o F op ty=kernel tt d o' F' op ty:=by
 cases op<;>first | (cases hp;done) | skip
 ·rename_i x
  have h1:=hF x (by simp [Op.operands])
  have h2:=ho x (by simp [Op.operands])
  simp only [kernel,←h1]
  generalize F x=z at h2
  split
  ·rename_i x
   rw [KI (o':=o') fun g hg=>h2 g (by simpa [S.names,V.names] using hg)]
  ·rfl
 ·rename_i t x n
  have h1:=hF x (by simp [Op.operands])
  have h2:=ho x (by simp [Op.operands])
  simp only [kernel,←h1]
  generalize F x=z at h2
  split
  ·rename_i x _ _
   rw [KI (o':=o') fun g hg=>h2 g (by simpa [S.names,V.names] using hg)]
  ·rfl
theorem zI {st:St} {o:Oper} {d:Nat} (hp:lq o.op=true) {K:Eff→Prop} :
  h_ T tt d st o K↔(match kernel tt d st.o st.bf o.op o.type with
   |some r=>r.pre∧K { x:=r.dst r.val,au:=r.au r.val,new:=r.new }
   |none=>False):=by
 rw [qW (pz (.inr hp))]
 unfold jm
 cases hop:o.op<;>rw [hop] at hp<;>first | (cases hp;done) | skip
 all_goals
  simp only [bQ,reduceCtorEq,false_and,exists_false,false_or,D9,cond_false]
  generalize kernel tt d st.o st.bf _ o.type=z
  cases z<;>rfl
theorem Xj {o:Nat→O} {F:Operand→S} {d:Nat} {op:Op} {ty:TypeId} {r:Ae} (hp:lq op=true) (h:kernel tt d o F op ty=some r):r.au r.val=[]:=by
 cases op<;>first | (cases hp;done) | skip
 all_goals
  simp only [kernel] at h
  split at h
  ·split at h
   ·simp only [Option.some.injEq] at h;subst h;rfl
   ·cases h
  ·cases h
theorem Ba {st:St} {o:Oper} {e:Eff} (hc:Can T tt N ops st o e) (hp:lq o.op=true):e.au=[]:=by
 have key :∀{d:Nat},(h_ T tt d st o fun e'=>e'.new.all (fun g=>!st.used g)=true∧e'=e)→e.au=[]:=by
  intro d h
  have h:=(zI hp).1 h
  split at h
  ·rename_i r hr
   obtain ⟨_,_,rfl⟩:=h
   exact Xj hp hr
  ·cases h
 unfold Can stepW at hc
 obtain ⟨_,hc⟩:=hc
 split at hc
 ·exact key hc
 ·split at hc
  ·rename_i b _
   cases b with
   |true=>exact key hc
   |false=>have hc:Eff.skip=e:=hc;rw [←hc];rfl
  ·cases hc
theorem Y0 {st st':St} {o:Oper} {e:Eff} (hc:Can T tt N ops st o e) (hp:lq o.op=true) (hs :∀t∈o.looksAt ops,st.s t=st'.s t) (ho :∀x∈o.op.operands.toList,∀g∈(st.bf x).names,kindOf (st.o g)=kindOf (st'.o g)) (hu :∀g∈e.new,st.used g=st'.used g):Can T tt N ops st' o e:=by
 have hx :∀x∈o.op.operands.toList,st.bf x=st'.bf x:=by
  intro x hm
  cases x with
  |tmp t=>exact hs t (List.mem_append_left _ (List.mem_filterMap.2 ⟨_,hm,rfl⟩))
  |_=>rfl
 have hk:kernel tt (o.dst.getD 0) st.o st.bf o.op o.type=kernel tt (o.dst.getD 0) st'.o st'.bf o.op o.type:=
  PX hp hx ho
 have eff:(h_ T tt (o.dst.getD 0) st o fun e'=>e'.new.all (fun g=>!st.used g)=true∧e'=e)→(h_ T tt (o.dst.getD 0) st' o fun e'=>e'.new.all (fun g=>!st'.used g)=true∧e'=e):=by
  intro h
  have h:=(zI hp).1 h
  refine (zI hp).2 ?_
  rw [←hk]
  split at h
  ·obtain ⟨q1,q2,rfl⟩:=h
   refine ⟨q1,?_,rfl⟩
   rw [List.all_eq_true] at q2 ⊢
   intro g hg
   rw [←hu g hg];exact q2 g hg
  ·cases h
 unfold Can stepW at *
 refine ⟨hc.1,?_⟩
 have hc:=hc.2
 cases hg:o.guard with
 |none=>rw [hg] at hc;exact eff hc
 |some p=>
  obtain ⟨j,want⟩:=p
  rw [hg] at hc
  simp only at hc ⊢
  have:guardOf ops st j want=guardOf ops st' j want:=by
   unfold guardOf
   cases hd:(ops[j]?).bind (·.dst) with
   |none=>rfl
   |some t=>
    simp only
    rw [hs t (List.mem_append_right _ (by simp [hg,hd]))]
  rw [←this]
  split at hc
  ·rename_i b hb
   cases b with
   |true=>exact eff hc
   |false=>exact hc
  ·cases hc
theorem Y1 {st st':St} {o:Oper} {e:Eff} {g off n:Nat} (hc:Can T tt N ops st o e) (hs :∀t∈o.looksAt ops,st.s t=st'.s t) {t:TypeId} {x:Operand} {i:TI} (h1:o.op=.load t x) (h2:tt t=some i) (h3:i.size=n) (h4:st.bf x=.v (.one (.box g off)))
  (H:0<n→∀ws,st.o g=.box ws→Rng ws off n (st'.o g)) (hu :∀g∈e.new,st.used g=st'.used g):Can T tt N ops st' o e:=by
 have hx:st'.bf x=.v (.one (.box g off)):=by
  rw [←h4]
  cases x with
  |tmp t=>exact (hs t (List.mem_append_left _ (List.mem_filterMap.2 ⟨.tmp t,by simp [h1,Op.operands],rfl⟩))).symm
  |_=>rfl
 have eff:(h_ T tt (o.dst.getD 0) st o fun e'=>e'.new.all (fun g=>!st.used g)=true∧e'=e)→(h_ T tt (o.dst.getD 0) st' o fun e'=>e'.new.all (fun g=>!st'.used g)=true∧e'=e):=by
  intro h
  obtain ⟨ws,ho,⟨q1,q2⟩,q3,rfl⟩:=(zH h1 h2 h4).1 h
  obtain ⟨wc,r1,r2,r3⟩:=H (by omega) ws ho
  refine (zH h1 h2 hx).2 ⟨wc,r1,⟨by omega,q2⟩,rfl,?_⟩
  have key:(wc.drop off).take i.size=(ws.drop off).take i.size:=by
   refine List.ext_getElem? fun k => ?_
   rw [List.getElem?_take,List.getElem?_take]
   split
   ·rw [List.getElem?_drop,List.getElem?_drop]
    exact r3 _ (by omega) (by omega)
   ·rfl
  rw [key]
 unfold Can stepW at *
 refine ⟨hc.1,?_⟩
 have hc:=hc.2
 cases hg:o.guard with
 |none=>rw [hg] at hc;exact eff hc
 |some p=>
  obtain ⟨j,want⟩:=p
  rw [hg] at hc
  simp only at hc ⊢
  have:guardOf ops st j want=guardOf ops st' j want:=by
   unfold guardOf
   cases hd:(ops[j]?).bind (·.dst) with
   |none=>rfl
   |some t=>
    simp only
    rw [hs t (List.mem_append_right _ (by simp [hg,hd]))]
  rw [←this]
  split at hc
  ·rename_i b hb
   cases b with
   |true=>exact eff hc
   |false=>exact hc
  ·cases hc
theorem aeK {st st':St} {o:Oper} {e:Eff} {g off:Nat} (hc:Can T tt N ops st o e) (hs :∀t∈o.looksAt ops,st.s t=st'.s t) {t:TypeId} {x:Operand} {i:TI} {m:P} {a0 i0:Bool} {sz:Nat} {ah:List (Nat×Nat)} {l:List (List P)} {hole:Option (Nat×Nat×Nat)} (h1:o.op=.load t x) (h2:tt t=some i) (h4:st.bf x=.v (.one (.ep g m off)))
  (h5:st.o g=.ay a0 i0 sz ah l hole) (h6:gY ah off i.size=[]) (H:(st'.o g).core=(st.o g).core) (hu :∀g∈e.new,st.used g=st'.used g):Can T tt N ops st' o e:=by
 have hx:st'.bf x=.v (.one (.ep g m off)):=by
  rw [←h4]
  cases x with
  |tmp t=>exact (hs t (List.mem_append_left _ (List.mem_filterMap.2 ⟨.tmp t,by simp [h1,Op.operands],rfl⟩))).symm
  |_=>rfl
 have eff:(h_ T tt (o.dst.getD 0) st o fun e'=>e'.new.all (fun g=>!st.used g)=true∧e'=e)→(h_ T tt (o.dst.getD 0) st' o fun e'=>e'.new.all (fun g=>!st'.used g)=true∧e'=e):=by
  intro h
  obtain ⟨q1,_,rfl⟩:=(H8 h1 h2 h4 h5 h6).1 h
  rw [h5] at H
  obtain ⟨fC,h5'⟩ :∃fC,st'.o g=.ay a0 i0 sz ah l fC:=by
   cases ho:st'.o g with
   |ay a i2 sz2 agD l2 amK=>
    rw [ho] at H
    simp only [O.core,Option.some.injEq,Prod.mk.injEq] at H
    obtain ⟨rfl,rfl,rfl,rfl,rfl⟩:=H
    exact ⟨_,rfl⟩
   |_=>rw [ho] at H;cases H
  exact (H8 h1 h2 hx h5' h6).2 ⟨q1,rfl,rfl⟩
 unfold Can stepW at *
 refine ⟨hc.1,?_⟩
 have hc:=hc.2
 cases hg:o.guard with
 |none=>rw [hg] at hc;exact eff hc
 |some p=>
  obtain ⟨j,want⟩:=p
  rw [hg] at hc
  simp only at hc ⊢
  have:guardOf ops st j want=guardOf ops st' j want:=by
   unfold guardOf
   cases hd:(ops[j]?).bind (·.dst) with
   |none=>rfl
   |some t=>
    simp only
    rw [hs t (List.mem_append_right _ (by simp [hg,hd]))]
  rw [←this]
  split at hc
  ·rename_i b hb
   cases b with
   |true=>exact eff hc
   |false=>exact hc
  ·cases hc
theorem Xk (hT :∀f sp,T f=some sp→Sound Pg (f % 1000000) sp) (htt:fF Pg tt) {es:Nat→Eff} {fs:List sQ} (hfree:U2 ops fs=true)
  (hcan :∀i,i<ops.size→∃o,ops[i]?=some o∧Can T tt N ops (SD ops es st (fun _=>true) i) o (es i)∧fs[i]?=some { rd:=sO T (SD ops es st (fun _=>true) i) o,wr:=(es i).au.map (·.1),new:=(es i).new,ld:=JQ tt (SD ops es st (fun _=>true) i) o,kp:=Nh (SD ops es st (fun _=>true) i) o (es i),pk:=lq o.op,kd:=Sl (SD ops es st (fun _=>true) i) (es i) })
  (hQ :∀a' w',Good E N aN oH (SD ops es st (fun _=>true) ops.size) a' w'→Q .normal a' w') :
  ∀(fuel:Nat) (listed:Array Bool) (a:Act) (w:World),listed.size=ops.size→Down ops (fun k=>listed.getD k false)→(List.range ops.size).countP (fun k=>!listed.getD k false)≤fuel→
   Good E N aN oH (SD ops es st (fun k=>listed.getD k false) ops.size) a w→wpAny Pg .any ops Q fuel listed a w:=by
 have hf :∀j,j<ops.size→(nD ops.toList []).getD j 0<2 ^ j∧∀i,i<j→((nD ops.toList []).getD j 0).testBit i=true∨∃x y fx fy,ops[i]?=some x∧ops[j]?=some y∧fs[i]?=some fx∧fs[j]?=some fy∧Apart ops x y fx fy:=by
  intro j hj
  have:=(List.all_eq_true.1 hfree) j (List.mem_range.2 hj)
  simp only [Bool.and_eq_true,decide_eq_true_eq,List.all_eq_true,List.mem_range,Bool.or_eq_true] at this
  refine ⟨this.1,fun i hi => ?_⟩
  rcases this.2 i hi with h | h
  ·exact .inl h
  ·right
   split at h
   ·rename_i x y fx fy h1 h2 h3 h4
    exact ⟨x,y,fx,fy,h1,h2,h3,h4,Sm h⟩
   ·cases h
 have done :∀(listed:Array Bool),listed.size=ops.size→Down ops (fun k=>listed.getD k false)→Region.ready .any ops listed=[]→∀k,k<ops.size→listed.getD k false=true:=by
  intro listed hsz hD hr k
  induction k using Nat.strongRecOn with
  |_ k ih=>
   intro hk
   obtain ⟨o,ho,_,_⟩:=hcan k hk
   by_cases hl:listed.getD k false=true
   ·exact hl
   ·exfalso
    have:k∈Region.ready .any ops listed:=mem_ready.2 ⟨by
     have hl:listed.getD k false=false:=by simpa using hl
     rw [Array.getD_eq_getD_getElem?] at hl ⊢
     rw [Array.getElem?_eq_getElem (by omega)] at hl ⊢
     exact hl,o,ho,fun e he hb=>ih e.on (PO ho (hf k hk).1 he hb) (by have:=PO ho (hf k hk).1 he hb;omega)⟩
    rw [hr] at this;cases this
 have final :∀(listed:Array Bool) (a:Act) (w:World),listed.size=ops.size→Down ops (fun k=>listed.getD k false)→Region.ready .any ops listed=[]→Good E N aN oH (SD ops es st (fun k=>listed.getD k false) ops.size) a w→Q .normal a w:=by
  intro listed a w hsz hD hr hg
  have h:=done listed hsz hD hr
  rw [CY (D':=fun _=>true) fun k hk=>h k hk] at hg
  exact hQ a w hg
 intro fuel
 induction fuel with
 |zero=>
  intro listed a w hsz hD hcnt hg
  have hr:Region.ready .any ops listed=[]:=by
   cases hr:Region.ready .any ops listed with
   |nil=>rfl
   |cons k ks=>
    exfalso
    have hk:k∈Region.ready .any ops listed:=by rw [hr];simp
    obtain ⟨h1,o,ho,_⟩:=mem_ready.1 hk
    have hlt:=(Array.getElem?_eq_some_iff.1 ho).1
    have:0<(List.range ops.size).countP (fun k=>!listed.getD k false):=by
     rw [List.countP_pos_iff]
     refine ⟨k,List.mem_range.2 hlt,?_⟩
     rw [Array.getD_eq_getD_getElem?] at h1 ⊢
     rw [Array.getElem?_eq_getElem (by omega)] at h1 ⊢
     simpa using h1
    omega
  exact ⟨hr,final listed a w hsz hD hr hg⟩
 |succ fuel ih=>
  intro listed a w hsz hD hcnt hg
  refine ⟨fun hr=>final listed a w hsz hD hr hg,fun i hi => ?_⟩
  obtain ⟨hni,oi,hoi,hpre⟩:=mem_ready.1 hi
  have hlt:i<ops.size:=(Array.getElem?_eq_some_iff.1 hoi).1
  have hDi:listed.getD i false=false:=by
   rw [Array.getD_eq_getD_getElem?] at hni ⊢
   rw [Array.getElem?_eq_getElem (by omega)] at hni ⊢
   exact hni
  obtain ⟨o,ho,hc,hfi⟩:=hcan i hlt
  rw [hoi] at ho;cases ho
  have hset :∀k,(listed.setIfInBounds i true).getD k false=if k=i then true else listed.getD k false:=by
   intro k
   by_cases e:k=i
   ·subst e
    rw [if_pos rfl,Array.getD_eq_getD_getElem?,Array.getElem?_setIfInBounds_self]
    simp [show k<listed.size by omega]
   ·rw [if_neg e,Array.getD_eq_getD_getElem?,Array.getElem?_setIfInBounds_ne (Ne.symm e),←Array.getD_eq_getD_getElem?]
  have hD':Down ops (fun k=>(listed.setIfInBounds i true).getD k false):=by
   intro j o' ho' hj e he hb
   simp only [hset] at hj ⊢
   by_cases ej:j=i
   ·subst ej
    rw [hoi] at ho';cases ho'
    have:=hpre e he hb
    rw [this];simp
   ·rw [if_neg ej] at hj
    have:=hD j o' ho' hj e he hb
    simp only at this
    rw [this];simp
  have hap :∀k,k<ops.size→k≠i→((k<i∧listed.getD k false=false)∨(i<k∧listed.getD k false=true))→∃y fy,ops[k]?=some y∧fs[k]?=some fy∧
    (∀t,y.dst=some t→t∉oi.looksAt ops)∧(∀t,oi.dst=some t→y.dst≠some t)∧((∀g∈fy.wr,g∉sO T (SD ops es st (fun _=>true) i) oi)∨∃fi,fs[i]?=some fi∧Em fy fi=true)∧(∀g∈fy.wr,g∉(es i).au.map (·.1))∧(∀g∈fy.new,g∉(es i).new)∧fy.wr=(es k).au.map (·.1)∧fy.new=(es k).new:=by
   intro k hk hne hcase
   obtain ⟨y0,hy0,_,hfk⟩:=hcan k hk
   rcases hcase with ⟨hlt',hfalse⟩ | ⟨hlt',agE⟩
   ·rcases (hf i hlt).2 k hlt' with hb | ⟨x,y,fx,fy,h1,h2,h3,h4,ap⟩
    ·have:=xk hD' i hoi (by simp [hset]) k hb
     simp only [hset,if_neg hne] at this
     rw [hfalse] at this;cases this
    ·rw [hoi] at h2;cases h2
     rw [hfi] at h4;cases h4
     rw [hfk] at h3;cases h3
     exact ⟨x,_,h1,hfk,ap.dy,fun t e e'=>ap.dd t e' e,ap.wr.imp id (fun h=>⟨_,hfi,h⟩),ap.ww,ap.nn,rfl,rfl⟩
   ·rcases (hf k hk).2 i hlt' with hb | ⟨x,y,fx,fy,h1,h2,h3,h4,ap⟩
    ·have:=xk hD k hy0 agE i hb
     rw [hDi] at this;cases this
    ·rw [hoi] at h1;cases h1
     rw [hfi] at h3;cases h3
     rw [hfk] at h4;cases h4
     exact ⟨y,_,h2,hfk,ap.dx,ap.dd,ap.rw.imp id (fun h=>⟨_,hfi,h⟩),fun g hg hg'=>ap.ww g hg' hg,fun g hg hg'=>ap.nn g hg' hg,rfl,rfl⟩
  have Nk:SD ops es st (fun _=>true) i=SD ops es st (fun k=>decide (k<i)) ops.size:=by
   have :∀m,i+m≤ops.size→SD ops es st (fun k=>decide (k<i)) (i+m)=SD ops es st (fun _=>true) i:=by
    intro m
    induction m with
    |zero=>intro _;exact CY fun k hk=>by simp [show k<i by omega]
    |succ m ih=>
     intro hm
     rw [←Nat.add_assoc]
     simp only [SD,show ¬ (i+m<i) by omega,decide_false,Bool.false_eq_true,if_false]
     exact ih (by omega)
   have:=this (ops.size-i) (by omega)
   rw [show i+(ops.size-i)=ops.size by omega] at this
   exact this.symm
  have hdiff :∀k,k<ops.size→decide (k<i)≠listed.getD k false→k≠i∧((k<i∧listed.getD k false=false)∨(i<k∧listed.getD k false=true)):=by
   intro k hk hne
   by_cases e:k=i
   ·subst e;rw [hDi] at hne;simp at hne
   ·refine ⟨e,?_⟩
    by_cases hki:k<i
    ·exact .inl ⟨hki,by simpa [hki] using hne⟩
    ·refine .inr ⟨by omega,?_⟩
     cases hl:listed.getD k false with
     |true=>rfl
     |false=>rw [hl] at hne;simp [hki] at hne
  have hdst :∀(k:Nat) (y:Oper),ops[k]?=some y→(ops[k]?).bind (·.dst)=y.dst:=fun k y h=>by rw [h];rfl
  have hc':Can T tt N ops (SD ops es st (fun k=>listed.getD k false) ops.size) oi (es i):=by
   have qg :∀t∈oi.looksAt ops,(SD ops es st (fun _=>true) i).s t=(SD ops es st (fun k=>listed.getD k false) ops.size).s t:=fun t ht=>by
    rw [Nk]
    refine aeI fun k hk hne => ?_
    obtain ⟨h1,h2⟩:=hdiff k hk hne
    obtain ⟨y,fy,h3,_,h4,_⟩:=hap k hk h1 h2
    rw [hdst k y h3]
    exact fun e=>h4 t e ht
   have J5 :∀g∈(es i).new,(SD ops es st (fun _=>true) i).used g=(SD ops es st (fun k=>listed.getD k false) ops.size).used g:=fun g hg=>by
    rw [Nk]
    refine Nj fun k hk hne => ?_
    obtain ⟨h1,h2⟩:=hdiff k hk hne
    obtain ⟨y,fy,h3,_,_,_,_,_,h4,_,h5⟩:=hap k hk h1 h2
    rw [←h5]
    exact fun e=>h4 g e hg
   have travel :∀(g:Nat) (Pr:O→Prop),g∉(es i).au.map (·.1)→(∀k,k<ops.size→k≠i→((k<i∧listed.getD k false=false)∨(i<k∧listed.getD k false=true))→g∈(es k).au.map (·.1)→
     (Pr ((SD ops es st (fun _=>true) k).o g)↔Pr ((SD ops es st (fun _=>true) (k+1)).o g)))→Pr ((SD ops es st (fun _=>true) i).o g)→Pr ((SD ops es st (fun k=>listed.getD k false) ops.size).o g):=by
    intro g Pr hgi hkeep hP0
    have hstep :∀k,k<ops.size→(g∈(es k).au.map (·.1)→(Pr ((SD ops es st (fun _=>true) k).o g)↔Pr ((SD ops es st (fun _=>true) (k+1)).o g)))→
      (Pr ((SD ops es st (fun _=>true) k).o g)↔Pr ((SD ops es st (fun _=>true) (k+1)).o g)):=by
     intro k hk hw
     by_cases hg:g∈(es k).au.map (·.1)
     ·exact hw hg
     ·have:(SD ops es st (fun _=>true) (k+1)).o g=(SD ops es st (fun _=>true) k).o g:=by
       simp only [SD,if_true,w_,jf hg]
      rw [this]
    obtain ⟨m',hm',hlast,hafter⟩:=PV (ops:=ops) (es:=es) (st:=st) (D:=fun k=>listed.getD k false) (g:=g) ops.size
    rw [hlast]
    rcases Nat.lt_or_ge i m' with him | him
    ·-- forward
     have :∀d,i+d≤m'→Pr ((SD ops es st (fun _=>true) (i+d)).o g):=by
      intro d
      induction d with
      |zero=>intro _;exact hP0
      |succ d ihd=>
       intro hd
       have hk:i+d<ops.size:=by
        rcases hafter with e | ⟨k1,e,h2,_⟩<;>omega
       rw [←Nat.add_assoc]
       refine (hstep (i+d) hk (fun hg => ?_)).1 (ihd (by omega))
       by_cases e0:d=0
       ·exfalso
        subst e0
        exact hgi hg
       ·have hin:listed.getD (i+d) false=true:=by
         rcases hafter with e | ⟨k1,rfl,agF,hk1,hg1⟩
         ·omega
         ·by_cases e1:i+d=k1
          ·rw [e1];exact hk1
          ·obtain ⟨y1,hy1,_,hf1⟩:=hcan k1 agF
           rcases (hf k1 agF).2 (i+d) (by omega) with hb | ⟨x2,y2,fx,fy,h1,h2,h3,h4,ap⟩
           ·exact xk hD k1 hy1 hk1 _ hb
           ·exfalso
            obtain ⟨y0,_,_,hfk⟩:=hcan (i+d) hk
            rw [hfk] at h3;cases h3
            rw [hf1] at h4;cases h4
            exact ap.ww g hg hg1
        exact hkeep (i+d) hk (by omega) (.inr ⟨by omega,hin⟩) hg
     have:=this (m'-i) (by omega)
     rwa [show i+(m'-i)=m' by omega] at this
    ·-- backward
     have :∀d,d≤i-m'→Pr ((SD ops es st (fun _=>true) (i-d)).o g):=by
      intro d
      induction d with
      |zero=>intro _;exact hP0
      |succ d ihd=>
       intro hd
       have hk:i-(d+1)<ops.size:=by omega
       have e1:i-(d+1)+1=i-d:=by omega
       refine (hstep (i-(d+1)) hk (fun hg => ?_)).2 (by rw [e1];exact ihd (by omega))
       have hout:listed.getD (i-(d+1)) false=false:=by
        cases hl:listed.getD (i-(d+1)) false with
        |false=>rfl
        |true=>exact absurd hg (hm' (i-(d+1)) (by omega) hk hl)
       exact hkeep (i-(d+1)) hk (by omega) (.inl ⟨by omega,hout⟩) hg
     have:=this (i-m') (Nat.le_refl _)
     rwa [show i-(i-m')=m' by omega] at this
   cases hld:JQ tt (SD ops es st (fun _=>true) i) oi with
   |none=>
    by_cases hpk:lq oi.op=true
    ·refine Y0 hc hpk qg (fun x0 hx0 g hg => ?_) J5
     have hgf:g∈sO T (SD ops es st (fun _=>true) i) oi:=by
      have hl:looks oi.op=true:=by cases hop:oi.op<;>rw [hop] at hpk<;>first | rfl | cases hpk
      refine List.mem_append_left _ ?_
      rw [pz (.inr hpk)]
      exact List.mem_append_left _ (by rw [hl];exact List.mem_flatMap.2 ⟨x0,hx0,List.mem_flatMap.2 ⟨g,hg,by simp⟩⟩)
     have ajg:(g,0)∈Nh (SD ops es st (fun _=>true) i) oi (es i):=List.mem_append_left _ (by rw [hpk];exact List.mem_map.2 ⟨g,List.mem_flatMap.2 ⟨x0,hx0,hg⟩,rfl⟩)
     refine (travel g (fun x=>kindOf ((SD ops es st (fun _=>true) i).o g)=kindOf x) (by rw [Ba hc hpk];simp) (fun k hk hne hcase hgk => ?_) rfl)
     obtain ⟨y,fy,h3,hfk,_,_,h4,_,_,h5,_⟩:=hap k hk hne hcase
     rcases h4 with h4 | ⟨fi,PY,hs⟩
     ·exfalso
      rw [←h5] at hgk
      exact h4 g hgk hgf
     ·rw [hfi] at PY;cases PY
      simp only [Em,hld,hpk,Bool.true_and,List.all_eq_true,Bool.or_eq_true,Bool.not_eq_true',List.contains_eq_mem,decide_eq_true_eq,decide_eq_false_iff_not] at hs
      rw [h5] at hs
      rcases hs (g,0) ajg with hs | hs
      ·exact absurd hgk hs
      ·obtain ⟨o',ho',_,Y2⟩:=hcan k hk
       rw [hfk] at Y2;cases Y2
       obtain ⟨x,q1,q2⟩:=Xi hs
       have:(SD ops es st (fun _=>true) (k+1)).o g=x:=by simp only [SD,if_true,w_,q1]
       rw [this,q2]
    ·refine Xf hc qg (fun g hg => ?_) J5
     rw [Nk] at hg ⊢
     refine aeJ fun k hk hne => ?_
     obtain ⟨h1,h2⟩:=hdiff k hk hne
     obtain ⟨y,fy,h3,_,_,_,h4,_,_,h5,_⟩:=hap k hk h1 h2
     rw [←h5]
     rcases h4 with h4 | ⟨fi,PY,hs⟩
     ·rw [Nk] at h4
      exact fun e=>h4 g e hg
     ·rw [hfi] at PY;cases PY
      simp only [Em,hld,hpk,Bool.false_and] at hs
      cases hs
   |some q=>
    obtain ⟨g,off,n⟩:=q
    have adH :∀k,k<ops.size→k≠i→((k<i∧listed.getD k false=false)∨(i<k∧listed.getD k false=true))→g∈(es k).au.map (·.1)→∃o',Can T tt N ops (SD ops es st (fun _=>true) k) o' (es k)∧
      ∀off',off≤off'→off'<off+n→(g,off')∈Nh (SD ops es st (fun _=>true) k) o' (es k):=by
     intro k hk hne hcase hg
     obtain ⟨y,fy,h3,hfk,_,_,h4,_,_,h5,_⟩:=hap k hk hne hcase
     rcases h4 with h4 | ⟨fi,PY,hs⟩
     ·exfalso
      rw [←h5] at hg
      exact h4 g hg (Xg hld)
     ·rw [hfi] at PY;cases PY
      simp only [Em,hld,List.all_eq_true,List.mem_range] at hs
      obtain ⟨o',ho',hck,Y2⟩:=hcan k hk
      rw [hfk] at Y2;cases Y2
      refine ⟨o',hck,fun off' h1' h2' => ?_⟩
      obtain ⟨p,hp,he⟩:=List.any_eq_true.1 (hs (off'-off) (by omega))
      simp only [Bool.and_eq_true] at he
      have e1:=Nat.eq_of_beq_eq_true he.1
      have e2:=Nat.eq_of_beq_eq_true he.2
      have:p=(g,off'):=Prod.ext e1 (by simp only;omega)
      rwa [this] at hp
    have O5 :∀{k x},(es k).au.lookup g=some x→(SD ops es st (fun _=>true) (k+1)).o g=x:=fun h=>by simp only [SD,if_true,w_,h]
    rcases zG hld with ⟨t,x,ti,h1,h2,h3,h4⟩ | ⟨⟨rfl,rfl⟩,t,x,ti,m,off',a0,i0,sz,ah,l,hole,h1,h2,h4,h5,h6⟩
    ·refine Y1 hc qg h1 h2 h3 h4 (fun hn ws hws => ?_) J5
     refine travel g (Rng ws off n) (by rw [PW hc hld];simp) (fun k hk hne hcase hg => ?_) ⟨ws,hws,rfl,fun _ _ _=>rfl⟩
     obtain ⟨o',hck,hs⟩:=adH k hk hne hcase hg
     have adI :∀{y:O},y.core≠none→¬ Rng ws off n y:=fun hy ⟨wc,e,_⟩=>by subst e;exact hy rfl
     rcases CZ hck (hs off (Nat.le_refl _) (by omega)) with hp | ⟨wa,wb,q1,q2,q3,_⟩ | ⟨y,q1,q2,q3⟩
     ·rw [Ba hck hp] at hg;cases hg
     ·simp only at q1 q2
      rw [O5 q2,q1]
      have hall :∀off',off≤off'→off'<off+n→wa[off']?=wb[off']?:=fun off' a1 a2=>by
       rcases CZ hck (hs off' a1 a2) with hp | ⟨wa',wb',r1,r2,_,r4⟩ | ⟨y,r1,r2,r3⟩
       ·rw [Ba hck hp] at hg;cases hg
       ·simp only at r1 r2;rw [q1] at r1;rw [q2] at r2;cases r1;cases r2;exact r4
       ·simp only at r3;rw [q1] at r3;exact absurd rfl r3
      constructor
      ·rintro ⟨wc,hc,hl,hr⟩
       cases hc
       exact ⟨wb,rfl,by omega,fun off' a1 a2=>by rw [←hall off' a1 a2];exact hr off' a1 a2⟩
      ·rintro ⟨wc,hc,hl,hr⟩
       cases hc
       exact ⟨wa,rfl,by omega,fun off' a1 a2=>by rw [hall off' a1 a2];exact hr off' a1 a2⟩
     ·simp only at q1 q2 q3
      rw [O5 q1]
      exact ⟨fun h=>absurd h (adI q3),fun h=>absurd h (adI (by rw [q2];exact q3))⟩
    ·refine aeK hc qg h1 h2 h4 h5 h6 ?_ J5
     refine travel g (fun y=>y.core=((SD ops es st (fun _=>true) i).o g).core) (by rw [PW hc hld];simp) (fun k hk hne hcase hg => ?_) rfl
     obtain ⟨o',hck,hs⟩:=adH k hk hne hcase hg
     rcases CZ hck (hs _ (Nat.le_refl _) (by omega)) with hp | ⟨wa,wb,q1,q2,q3,_⟩ | ⟨y,q1,q2,q3⟩
     ·rw [Ba hck hp] at hg;cases hg
     ·simp only at q1 q2
      rw [O5 q2,q1]
      exact ⟨fun h=>h,fun h=>h⟩
     ·simp only at q1 q2
      rw [O5 q1,q2]
  have hins:SD ops es st (fun k=>(listed.setIfInBounds i true).getD k false) ops.size=(SD ops es st (fun k=>listed.getD k false) ops.size).eff oi.dst (es i):=by
   have hDs :∀k,(fun k=>(listed.setIfInBounds i true).getD k false) k=if k=i then true else listed.getD k false:=hset
   have hne :∀k,(fun k=>(listed.setIfInBounds i true).getD k false) k≠(fun k=>listed.getD k false) k→k=i:=by
    intro k h
    simp only [hset] at h
    by_cases e:k=i
    ·exact e
    ·rw [if_neg e] at h;exact absurd rfl h
   have Y3 :∀k,i<k→k<ops.size→(fun k=>(listed.setIfInBounds i true).getD k false) k=true→listed.getD k false=true:=by
    intro k h1 h2 h3
    simp only [hset,if_neg (show k≠i by omega)] at h3
    exact h3
   refine St.ext' (fun t => ?_) (fun g => ?_) (fun g => ?_)
   ·rw [KE]
    by_cases hd:oi.dst=some t
    ·rw [if_pos hd]
     refine KF (by simp [hset]) ((hdst i oi hoi).trans hd) hlt fun k h1 h2 h3 => ?_
     obtain ⟨y,fy,q1,_,_,q2,_⟩:=hap k h2 (by omega) (.inr ⟨h1,Y3 k h1 h2 h3⟩)
     rw [hdst k y q1]
     exact q2 t hd
    ·rw [if_neg hd]
     refine aeI fun k hk hk' => ?_
     rw [hne k hk',hdst i oi hoi];exact hd
   ·rw [w_]
    cases hu:(es i).au.lookup g with
    |some x=>
     refine KG (by simp [hset]) hu hlt fun k h1 h2 h3 => ?_
     obtain ⟨y,fy,q1,_,_,_,_,q2,_,q3,_⟩:=hap k h2 (by omega) (.inr ⟨h1,Y3 k h1 h2 h3⟩)
     rw [←q3]
     exact fun e=>q2 g e (List.mem_map.2 ⟨(g,x),iR hu,rfl⟩)
    |none=>
     refine aeJ fun k hk hk' => ?_
     rw [hne k hk']
     intro hm
     obtain ⟨p,hp,rfl⟩:=List.mem_map.1 hm
     have :∀{l:List (Nat×O)},p∈l→l.lookup p.1≠none:=by
      intro l
      induction l with
      |nil=>intro h;cases h
      |cons q l ih=>
       intro h hn
       simp only [List.lookup] at hn
       split at hn
       ·cases hn
       ·rename_i hb
        rcases List.mem_cons.1 h with h | h
        ·subst h;simp at hb
        ·exact ih h hn
     exact this hp hu
   ·rw [tK]
    by_cases hn:g∈(es i).new
    ·rw [En (by simp [hset]) hn hlt];simp [hn]
    ·have:(es i).new.contains g=false:=by simpa using hn
     rw [this,Bool.false_or]
     refine Nj fun k hk hk' => ?_
     rw [hne k hk'];exact hn
  refine Ho hT htt hoi hg hc' fun a' w' hg'=>ih _ a' w' (by simp [hsz]) hD' ?_ (by rw [hins];exact hg')
  have hlt2:(List.range ops.size).countP (fun k=>!(listed.setIfInBounds i true).getD k false)<(List.range ops.size).countP (fun k=>!listed.getD k false):=by
   have gen :∀l:List Nat,i∈l→l.countP (fun k=>!(listed.setIfInBounds i true).getD k false)<l.countP (fun k=>!listed.getD k false):=by
    intro l
    have hle :∀l:List Nat,l.countP (fun k=>!(listed.setIfInBounds i true).getD k false)≤l.countP (fun k=>!listed.getD k false):=fun l=>List.countP_mono_left fun k _ h=>by
     simp only [hset] at h
     by_cases e:k=i
     ·simp [e] at h
     ·simpa [e] using h
    induction l with
    |nil=>intro h;cases h
    |cons k l ihl=>
     intro h
     simp only [List.countP_cons]
     by_cases e:k=i
     ·subst e
      have h1:(!(listed.setIfInBounds k true).getD k false)=false:=by simp [hset]
      have h2:(!listed.getD k false)=true:=by simp [hDi]
      rw [h1,h2]
      exact Nat.lt_succ_of_le (hle l)
     ·have:=ihl (by rcases List.mem_cons.1 h with h | h;exact absurd h.symm e;exact h)
      have e1:(!(listed.setIfInBounds i true).getD k false)=(!listed.getD k false):=by rw [hset,if_neg e]
      rw [e1];omega
   exact gen _ (List.mem_range.2 hlt)
  omega
theorem H9 (hT :∀f sp,T f=some sp→Sound Pg (f % 1000000) sp) (htt:fF Pg tt) {draw:Bool} {K:St→Prop} (h:oO T tt N ops draw st K) (hg:Good E N aN oH st a w)
  (hK :∀st' a' w',K st'→Good E N aN oH st' a' w'→Q .normal a' w'):(draw=false∧wpOps Pg ops Q (List.range ops.size) a w)∨(draw=true∧wpAny Pg .any ops Q ops.size (Array.replicate ops.size false) a { w with drawn:=w.drawn+1 }):=by
 cases draw with
 |false=>exact .inl ⟨rfl,A_ hT htt hK _ h hg⟩
 |true=>
  have h:nS T tt N ops (List.range ops.size) st [] (fun st' fs=>U2 ops fs=true∧K st'):=h
  rw [List.range_eq_range'] at h
  obtain ⟨es,fs,_,_,⟨h1,h2⟩,h3⟩:=Eo (st:=st) ops.size 0 (fun _=>Eff.skip) [] rfl h
  rw [Nat.zero_add] at h2
  refine .inr ⟨rfl,?_⟩
  refine Xk hT htt h1 (fun i hi=>h3 i (by omega) (by omega)) (fun a' w' hg'=>hK _ a' w' h2 hg') ops.size _ a _ (by simp) ?_ ?_ ?_
  ·intro j o _ hj
   simp only [Array.getD_eq_getD_getElem?] at hj
   rw [Array.getElem?_replicate] at hj
   split at hj<;>cases hj
  ·refine Nat.le_trans List.countP_le_length ?_
   simp
  ·obtain ⟨⟨gh,hR,Ec⟩,hsz,hdf⟩:=hg
   have e:SD ops es st (fun k=>(Array.replicate ops.size false).getD k false) ops.size=st:=by
    have :∀n,SD ops es st (fun k=>(Array.replicate ops.size false).getD k false) n=st:=by
     intro n
     induction n with
     |zero=>rfl
     |succ n ih=>
      have:(Array.replicate ops.size false).getD n false=false:=by
       rw [Array.getD_eq_getD_getElem?,Array.getElem?_replicate];split<;>rfl
      simp only [SD,this,Bool.false_eq_true,if_false];exact ih
    exact this _
   rw [e]
   exact ⟨⟨gh,hR.drew _,Ec⟩,hsz,hdf⟩
theorem Nl (hT :∀f sp,T f=some sp→Sound Pg (f % 1000000) sp) (htt:fF Pg tt) (hm:Pg.follows .mixedOrders=true) {id:Nat} {draw:Bool} {K:St→Prop} (h:oO T tt N ops draw st K) (hg:Good E N aN oH st a w)
  (hK :∀st' a' w',K st'→Good E N aN oH st' a' w'→Q .normal a' w'):(Code.region id ops draw).wp Pg Q a w:=by
 rcases H9 hT htt h hg hK with ⟨e,h2⟩ | ⟨e,h2⟩
 ·rw [e];exact wp_region h2
 ·rw [e];exact wp_region_any hm h2
end
end Go.Fw

namespace Go.Fw
set_option linter.unusedSectionVars false
variable [dA]
set_option linter.unusedVariables false
def U4 (gs:List Nat) (o:Nat→O):W→W
 |.own g=>if gs.contains g=true then match plainO o g with
  |some (a,i,sz,l)=>.p a i (P.dX sz l)
  |none=>.own g
  else .own g
 |.vw g lo hi=>if gs.contains g=true then match plainO o g with
  |some (a,i,sz,l)=>if sz<MB then .p a i (P.dX sz ((l.take hi.nat).drop lo.nat)) else .vw g lo hi
  |none=>.vw g lo hi
  else .vw g lo hi
 |x=>x
def Y4 (gs:List Nat) (o:Nat→O):V→V
 |.one x=>.one (U4 gs o x)
 |.agg xs=>.agg (xs.map (U4 gs o))
def Y5 (gs:List Nat) (o:Nat→O):S→S
 |.v x=>.v (Y4 gs o x)
 |.jH xs=>.jH (xs.map (Y4 gs o))
 |.no=>.no
def Yl (gs:List Nat) (o:Nat→O) (g:Nat):O:=match o g with
 |.box ws=>.box (ws.map (U4 gs o))
 |x=>if gs.contains g=true then (Fw.aC o g).2 else x
def dJ (gs:List Nat) (st:St):St:={ s:=fun t=>Y5 gs st.o (st.s t),o:=fun g=>Yl gs st.o g,used:=st.used }
def abJ (o:Nat→O) (gs:List Nat):Bool:=gs.all fun g=>(plainO o g).isSome&&(o g).names.all fun d=>gs.contains d
theorem Xl {o:Nat→O} {gs:List Nat} (h:abJ o gs=true):wB o gs:=fun g hg=>by
 have:=(List.all_eq_true.1 h) g hg
 simp only [Bool.and_eq_true,List.all_eq_true,List.contains_eq_mem,decide_eq_true_eq] at this
 exact this
section
variable {E:Env} {st:St} {gh:Nat→Gh} {w:World} {val:Nat→Value}
theorem C9 {gs:List Nat} {o:Nat→O} {x:W} {g:Nat} (h:g∈(U4 gs o x).names):g∈x.names:=by
 unfold U4 at h
 split at h
 ·split at h
  ·split at h
   ·simp [W.names] at h
   ·exact h
  ·exact h
 ·split at h
  ·split at h
   ·split at h
    ·simp [W.names] at h
    ·exact h
   ·exact h
  ·exact h
 ·exact h
theorem KJ {gs:List Nat} {o:Nat→O} {x:V} {g:Nat} (h:g∈(Y4 gs o x).names):g∈x.names:=by
 cases x with
 |one x=>exact C9 h
 |agg xs=>
  simp only [Y4,V.names,List.mem_flatMap,List.mem_map] at h ⊢
  obtain ⟨_,⟨x,hx,rfl⟩,hg⟩:=h
  exact ⟨x,hx,C9 hg⟩
theorem Xm {gs:List Nat} {o:Nat→O} {x:S} {g:Nat} (h:g∈(Y5 gs o x).names):g∈x.names:=by
 cases x with
 |v x=>exact KJ h
 |jH xs=>
  simp only [Y5,S.names,List.mem_flatMap,List.mem_map] at h ⊢
  obtain ⟨_,⟨x,hx,rfl⟩,hg⟩:=h
  exact ⟨x,hx,KJ hg⟩
 |no=>exact h
theorem H_ (gs:List Nat) (st:St) (g:Nat):((dJ gs st).o g=(st.au (gs.map (Fw.aC st.o)) []).o g∧∀ws,st.o g≠.box ws)∨
  ∃ws,st.o g=.box ws∧(st.au (gs.map (Fw.aC st.o)) []).o g=.box ws∧(dJ gs st).o g=.box (ws.map (U4 gs st.o)):=by
 rw [dS]
 cases ho:st.o g with
 |box ws=>
  refine .inr ⟨ws,rfl,?_,by simp only [dJ,Yl,ho]⟩
  split
  ·simp [Fw.aC,plainO,ho]
  ·rfl
 |_=>
  refine .inl ⟨?_,fun ws e=>by cases e⟩
  simp only [dJ,Yl,ho]
  simp only [List.contains_eq_mem,decide_eq_true_eq]
theorem yV {gs:List Nat} {st:St} {g:Nat} (h:st.o g=.none):(dJ gs st).o g=.none:=by
 simp only [dJ,Yl,h]
 split
 ·simp [Fw.aC,plainO,h]
 ·rfl
theorem Rel.plain (h:Rel E st gh val w) (gs:List Nat) (hgs:wB st.o gs):Rel E (dJ gs st) gh val w:=by
 have h1:=(h.freezes gs hgs).1
 have hss:(st.au (gs.map (Fw.aC st.o)) []).s=st.s:=rfl
 have hun :∀g,(st.au (gs.map (Fw.aC st.o)) []).used g=st.used g:=fun g=>by simp [St.au]
 have key:=H_ gs st
 have hfr:=fun g=>dS (st:=st) gs g
 generalize hst1:st.au (gs.map (Fw.aC st.o)) []=st1 at h1 hss hun key hfr
 have own :∀g,((dJ gs st).o g).aX=(st1.o g).aX:=fun g=>by
  rcases key g with ⟨e,_⟩ | ⟨ws,_,e1,e2⟩
  ·rw [e]
  ·rw [e1,e2];rfl
 have dim :∀g,((dJ gs st).o g).dim=(st1.o g).dim:=fun g=>by
  rcases key g with ⟨e,_⟩ | ⟨ws,_,e1,e2⟩
  ·rw [e]
  ·rw [e1,e2];rfl
 have inner :∀g,((dJ gs st).o g).inner=(st1.o g).inner:=fun g=>by
  rcases key g with ⟨e,_⟩ | ⟨ws,_,e1,e2⟩
  ·rw [e]
  ·rw [e1,e2];rfl
 have isd :∀g,((dJ gs st).o g).mY=(st1.o g).mY:=fun g=>by
  rcases key g with ⟨e,_⟩ | ⟨ws,_,e1,e2⟩
  ·rw [e]
  ·rw [e1,e2];rfl
 have ajh :∀g ws,(dJ gs st).o g=.box ws→∃ws',st1.o g=.box ws':=fun g ws hg=>by
  rcases key g with ⟨e,_⟩ | ⟨ws',_,e1,e2⟩
  ·rw [e] at hg;exact ⟨ws,hg⟩
  ·exact ⟨ws',e1⟩
 have oit :∀g s n,(dJ gs st).o g=.it s n→st1.o g=.it s n:=fun g s n hg=>by
  rcases key g with ⟨e,_⟩ | ⟨ws',_,e1,e2⟩
  ·rw [e] at hg;exact hg
  ·rw [e2] at hg;cases hg
 have hok:E.ok (dJ gs st) gh w=E.ok st1 gh w:=by funext a i b;simp only [Env.ok,own]
 have hp :∀{g a i sz l},gs.contains g=true→plainO st.o g=some (a,i,sz,l)→st1.o g=.arr true a i sz l:=fun {g a i sz l} hc hpl=>by
  rw [hfr,if_pos (by simpa using hc),lG hpl]
 have same :∀{x:W} {v:Value},dP E st1 gh w x v→dP E (dJ gs st) gh w x v:=by
  intro x v r
  induction r with
  |p a i x v hx=>exact .p a i x v (by rw [hok];exact hx)
  |bg=>exact .bg
  |own g v hv hx=>exact .own g v hv fun sz len hg=>hx sz len (by rw [←dim];exact hg)
  |vw g lo hi v hv hx=>exact .vw g lo hi v hv fun sz len hg=>hx sz len (by rw [←dim];exact hg)
  |box g off v hv hx=>exact .box g off v hv fun ws hg=>by obtain ⟨ws',e⟩:=ajh g ws hg;exact hx ws' e
  |ep g n off v hv hx=>exact .ep g n off v hv fun sz len hg=>hx sz len (by rw [←dim];exact hg)
  |sp a i row off b o hb hx=>exact .sp a i row off b o (by rw [hok];exact hb) (by rw [hok];exact hx)
  |gl g=>exact .gl g
  |lQ g v hv hx=>exact .lQ g v hv fun s n hg=>hx s n (oit g s n hg)
  |gd b x v hx ih=>exact .gd b x v ih
  |clo f caps vs hl hx ih=>exact .clo f caps vs hl ih
  |no v=>exact .no v
 have adJ :∀{a i:Bool} {sz:Nat} {l:List (List P)} {G:Gh},dw E st1 gh w a i sz l G→dw E (dJ gs st) gh w a i sz l G:=by
  intro a i sz l G r
  simpa only [dw,hok] using r
 have wd :∀{x:W} {v:Value},dP E st1 gh w x v→dP E (dJ gs st) gh w (U4 gs st.o x) v:=by
  intro x v r
  unfold U4
  split
  ·rename_i g
   split
   ·rename_i hc
    split
    ·rename_i a i sz l hpl
     have ho1:=hp hc hpl
     cases r with
     |own _ _ hv hx=>
      have hv:=hx _ _ (O.iq ho1)
      have hO:=h1.aJ g
      rw [ho1] at hO
      rw [hv]
      exact .p a i _ _ (by rw [hok];exact aU.ofO hO)
    ·exact same r
   ·exact same r
  ·rename_i g lo hi
   split
   ·rename_i hc
    split
    ·rename_i a i sz l hpl
     have ho1:=hp hc hpl
     split
     rotate_left
     ·exact same r
     rename_i hlt
     cases r with
     |vw _ _ _ _ hv hx=>
      obtain ⟨n,m,c,rfl,rfl,q1,q2,qc,he⟩:=hx _ _ (O.iq ho1)
      rw [fB hlt] at q2
      have hO:=h1.aJ g
      rw [ho1] at hO
      have hO:=o8 hlt hO
      rw [he]
      have e1:(P.int .i64 (n:Int)).nat=n:=by simp [P.nat,P.num]
      have e2:(P.int .i64 (m:Int)).nat=m:=by simp [P.nat,P.num]
      rw [e1,e2]
      exact .p a i _ _ (by rw [hok];exact aU.dX hlt ((aU.sub hO q1 q2).adv (by simp;omega)))
    ·exact same r
   ·exact same r
  ·exact same r
 have wV :∀{x:V} {v:Value},qK E st1 gh w x v→qK E (dJ gs st) gh w (Y4 gs st.o x) v:=by
  intro x v r
  cases r with
  |one x v r=>exact .one _ _ (wd r)
  |agg xs cs hl hv hr=>
   refine .agg _ cs (by simpa using hl) hv fun j x v hx hv => ?_
   simp only [List.getElem?_map,Option.map_eq_some_iff] at hx
   obtain ⟨y,hy,rfl⟩:=hx
   exact wd (hr j y v hy hv)
 refine ⟨fun t => ?_,fun g => ?_,?_,?_,?_,?_,h1.wb,h1.frame,h1.size,h1.os,h1.tape,h1.output,?_,?_,?_⟩
 ·have hs:=h1.slots t
  rw [hss] at hs
  show bD E _ gh w (Y5 gs st.o (st.s t)) (val t)
  cases hs':st.s t with
  |v x=>rw [hs'] at hs;cases hs with | v _ _ r=>exact .v _ _ (wV r)
  |jH xs=>
   rw [hs'] at hs
   generalize hval:val t=vt at hs
   cases hs with
   |jH _ vs hl hr=>
    refine .jH _ vs (by simpa using hl) fun j x v hx hv => ?_
    simp only [List.getElem?_map,Option.map_eq_some_iff] at hx
    obtain ⟨y,hy,rfl⟩:=hx
    exact wV (hr j y v hy hv)
  |no=>exact .no _
 ·have hO:=h1.aJ g
  rcases key g with ⟨e,_⟩ | ⟨ws',_,e1,e2⟩
  ·rw [e]
   generalize st1.o g=x at hO
   cases x with
   |none=>trivial
   |box ws=>
    obtain ⟨ad,c,ty,a1,a2,a3,a4,a5⟩:=hO
    exact ⟨ad,c,ty,a1,a2,a3,a4,fun j x hx=>let ⟨v,b1,b2,b3⟩:=a5 j x hx;⟨v,b1,b2,same b3⟩⟩
   |arr fz a i sz l=>
    cases fz with
    |false=>exact adJ hO
    |true=>simpa only [kF,hok] using hO
   |ay a i sz ah l hole=>
    rcases hO with hO | ⟨ad,ob,a1,a2,a3,a4,a5,a7,a8⟩
    ·exact .inl hO
    ·refine .inr ⟨ad,ob,a1,a2,a3,a4,a5,a7,fun n x hx j y hy => ?_⟩
     obtain ⟨v,hv,hr⟩:=a8 n x hx j y hy
     refine ⟨v,hv,?_⟩
     unfold gB at *
     cases hcj:ah.lookup j with
     |none=>rw [hcj] at hr;exact (by rw [hok];exact hr:aU w (E.ok (dJ gs st) gh w a i) y v)
     |some sz'=>
      rw [hcj] at hr
      simp only at *
      cases hh:fM hole n j with
      |some d=>rw [hh] at hr;exact ⟨hr.1,same hr.2⟩
      |none=>
       rw [hh] at hr
       obtain ⟨l',ao,k,q1,q2,q3,q4⟩:=hr
       exact ⟨l',ao,k,q1,q2,adJ q3,q4⟩
   |it s n=>exact hO
  ·rw [e2]
   rw [e1] at hO
   obtain ⟨ad,c,ty,a1,a2,a3,a4,a5⟩:=hO
   refine ⟨ad,c,ty,a1,a2,a3,by simpa using a4,fun j x hx => ?_⟩
   simp only [List.getElem?_map,Option.map_eq_some_iff] at hx
   obtain ⟨y,hy,rfl⟩:=hx
   obtain ⟨v,b1,b2,b3⟩:=a5 j y hy
   exact ⟨v,b1,b2,wd b3⟩
 ·intro g g' b ha ha'
  rw [own] at ha ha'
  exact h1.inj g g' b ha ha'
 ·intro g b ha
  rw [own] at ha
  exact h1.wr g b ha
 ·intro g i b hg
  rw [inner] at hg
  exact h1.wi g i b hg
 ·intro g ho hd
  rw [own] at ho
  rw [isd] at hd
  exact h1.ns g ho hd
 ·intro t g hg
  exact h.us t g (Xm hg)
 ·intro g g' hg
  rcases key g with ⟨e,_⟩ | ⟨ws',e0,e1,e2⟩
  ·rw [e] at hg
   have:=h1.uo g g' hg
   rw [hun] at this;exact this
  ·rw [e2] at hg
   simp only [O.names,List.mem_flatMap,List.mem_map] at hg
   obtain ⟨_,⟨x,hx,rfl⟩,hg⟩:=hg
   exact h.uo g g' (by rw [e0];simp only [O.names,List.mem_flatMap];exact ⟨x,hx,C9 hg⟩)
 ·intro g hg
  exact h.ul g fun e=>hg (yV e)
theorem Y6 {gs:List Nat} {w:World} {gh:Nat→Gh} {st:St} {E:Env} {a i:Bool} {b:Nat} (h:E.ok st gh w a i b):E.ok (dJ gs st) gh w a i b:=by
 refine ⟨h.1,h.2.1,fun g ho had=>h.2.2 g ?_ had⟩
 rcases H_ gs st g with ⟨e,_⟩ | ⟨ws,e,_⟩
 ·rw [e,dS] at ho
  split at ho
  ·cases hp:plainO st.o g with
   |none=>simpa [Fw.aC,hp] using ho
   |some x=>obtain ⟨a,i,sz,l⟩:=x;rw [lG hp] at ho;cases ho
  ·exact ho
 ·rw [e];rfl
theorem Rel.norm (h:Rel E st gh val w) (hs gs:List Nat) (hgs:abJ (Fw.shuts hs st).o gs=true) :
  ∃aQ,Rel E (dJ gs (Fw.shuts hs st)) aQ val w∧(∀x,(aQ x).ad=(gh x).ad∧(aQ x).cap=(gh x).cap)∧(∀a i b,E.ok st gh w a i b→E.ok (dJ gs (Fw.shuts hs st)) aQ w a i b)∧
   ∀g,st.o g=.none→(dJ gs (Fw.shuts hs st)).o g=.none:=by
 obtain ⟨aQ,h1,l1,e1⟩:=h.shuts hs
 exact ⟨aQ,h1.plain gs (Xl hgs),e1,fun a i b hb=>Y6 (l1.ok a i b hb).1,fun g hg=>yV (GV hs hg)⟩
end
end Go.Fw

namespace Go.Fw
open Go.RowKit
set_option linter.unusedSectionVars false
set_option linter.unusedVariables false
set_option linter.unusedSimpArgs false
variable [dA]
def FR (ro:Option Nat):Fence:={ Fence.wide with round:=ro }
section
variable {Pg:Program} {ro:Option Nat} {n:Nat} {ops:Array Oper} {Q:Exit→Act→World→Prop}
theorem Sr {f:FuncId} {args:Array Value} {w:World} {R:Ending→World→Prop} (h:Calls Pg f args w R):CallsIn (FR ro) n Pg f args w R:=callsIn_wide.2 h
theorem Xn {row:String} {args:Array Value} {w:World} {R:Value→World→Prop} (h:Rows Pg row args w R):RowsIn (FR ro) n Pg row args w R:=by
 intro c cs _
 obtain ⟨v,w',h1,h2⟩:=h c cs
 exact ⟨v,w',h1,stepsIn_wide.2 h2⟩
theorem aji {o:Oper} (ho :∀c,o.op≠.defer c) {a:Act} {w:World} {K K':Act→World→Prop} (hK :∀a w,K a w→K' a w) (h:o.wp Pg a w K Q):o.wpIn (FR ro) n Pg a w K' Q:=by
 refine ⟨fun _ _=>trivial,?_⟩
 rw [Oper.semAt_eq _ _ _ ho]
 unfold Oper.wp at h
 have hd:(FR ro).depth.isSome=true→1≤n:=fun e=>absurd e (by simp [FR,Fence.wide])
 generalize (execOp a.eval o).run Pg w=r at *
 cases r with
 |ok x w'=>
  cases x<;>simp only [Oper.upon] at h<;>simp only [Oper.uponIn]
  all_goals first
   |exact hK _ _ h
   |exact ⟨hd,Sr (Calls.mono h fun e w'' he=>by cases e<;>first | exact hK _ _ he | exact he)⟩
   |exact ⟨hd,Xn (Rows.mono h fun v w'' he=>hK _ _ he)⟩
 |halt x w'=>cases x<;>simp only [Oper.upon] at h<;>simp only [Oper.uponIn]<;>exact h
theorem Y7 (ho :∀o∈ops.toList,∀c,o.op≠.defer c) (hlo:¬ LetsOut Q) {i:Nat} {a:Act} {w:World} {K K':Act→World→Prop} (hK :∀a w,K a w→K' a w) (h:wpOp Pg ops Q i K a w):wpOpIn (FR ro) n Pg ops Q i K' a w:=by
 unfold wpOp at h
 unfold wpOpIn
 cases hi:ops[i]? with
 |none=>rw [hi] at h;exact hK _ _ h
 |some o=>
  rw [hi] at h
  simp only at h ⊢
  split
  ·rename_i hw
   rw [if_pos hw] at h
   rcases h with h | h
   ·exact aji (ho o (by have:=(Array.getElem?_eq_some_iff.1 hi).2;rw [←this];simp)) hK h
   ·exact absurd h.2 hlo
  ·rename_i hw
   rw [if_neg hw] at h
   exact ⟨fun _ _=>trivial,hK _ _ h⟩
theorem adK (ho :∀o∈ops.toList,∀c,o.op≠.defer c) (hlo:¬ LetsOut Q) :∀(is:List Nat) (a:Act) (w:World),wpOps Pg ops Q is a w→wpOpsIn (FR ro) n Pg ops Q is a w
 | [],a,w,h=>h
 |i::is,a,w,h=>by
  rw [wpOps_cons] at h
  rw [wpOpsIn_cons]
  exact Y7 ho hlo (fun a w=>adK ho hlo is a w) h
theorem adL {md:Region.Mode} (ho :∀o∈ops.toList,∀c,o.op≠.defer c) (hlo:¬ LetsOut Q) :∀(fuel:Nat) (listed:Array Bool) (a:Act) (w:World),wpAny Pg md ops Q fuel listed a w→wpAnyIn (FR ro) n Pg md ops Q fuel listed a w
 |0,listed,a,w,h=>h
 |fuel+1,listed,a,w,h=>⟨h.1,fun i hi=>Y7 ho hlo (fun a w=>adL ho hlo fuel _ a w) (h.2 i hi)⟩
end
omit [dA] in
def P.lv:P→Value
 |.int k n=>.int k n
 |.bool b=>.bool b
 |.str s=>.string s
 |_=>undef
def P.lit:P→Bool
 |.int _ _=>true
 |.bool _=>true
 |.str _=>true
 |_=>false
theorem P.abK {w:World} {ok:Nat→Prop} {x:P} (h:x.lit=true):aU w ok x x.lv:=by
 cases x<;>first | exact .int _ _ | exact .bool _ | exact .str _ | cases h
omit [dA] in
def Y8 (Pg:Program) (w:World) (S:List Nat) (rows:List (List P)) (v:Value):Prop:=
 ∃gf lb,v=.func (.func gf) #[] lb∧(∀(args:Array Value) (w:World),(callFunc gf args).run Pg w=.ok (.enter gf args) w)∧
  ∀(l:Nat) (J:Nat→List Nat→World→Prop) (W:World),(∀k D A,J k D A→∀b∈S,A.heap[b]?=w.heap[b]?)→(∀k D A B D',J k D A→AU A B→(∀b∈D',b∈D∨(A.heap.size≤b∧b<B.heap.size))→J k D' B)→
   (∀k row D A,rows[k]?=some row→J k D A→YieldAt Fence.wide 0 Pg l (row.map P.lv).toArray A fun e B=>e=.returned (.bool true)∧J (k+1) D B∧∀b∈D,B.heap[b]?=A.heap[b]?)→
   J 0 [] W→Calls Pg gf (#[.func (.yield l) #[] #[]]++lb) W fun e B=>(∃v,e=.returned v)∧∃D,J rows.length D B
section
variable {Pg:Program}
theorem Y9 {g:Operand} {ps:Array Tmp} {x y:Code} {Q:Exit→Act→World→Prop} {a:Act} {w:World} {S:List Nat} {rows:List (List P)} (hit:Y8 Pg w S rows (a.eval g)) (hlen :∀row∈rows,row.length=ps.size)
  (J:Nat→List Nat→World→Prop) (hS :∀k D A,J k D A→∀b∈S,A.heap[b]?=w.heap[b]?) (hgrow :∀k D A B D',J k D A→AU A B→(∀b∈D',b∈D∨(A.heap.size≤b∧b<B.heap.size))→J k D' B)
  (hturn :∀k D A b o o',w.heap.size≤b→b∉D→J k D A→A.heap[b]?=some o→quiet o=true→J k D (A.putObj b o')) (h0:J 0 [] w)
  (aeL :∀k row D A,rows[k]?=some row→J k D A→∀l,∃a₁,(∀(K:Act→World→Prop) W,K a₁ W→x.wpIn (FR (some l)) 0 Pg (Exit.then K (fun _ _ _=>False)) { tmps:=(ps.zip (row.map P.lv).toArray).foldl (fun t (p,v)=>t.setIfInBounds p v) a.tmps,defers:=[] } W)∧
   y.wpIn (FR (some l)) 0 Pg (fun e _ B=>e=.normal∧J (k+1) D B∧(∀b∈D,B.heap[b]?=A.heap[b]?)∧∀b o,A.heap[b]?=some o→quiet o=true→w.heap.size≤b→B.heap[b]?=some o) a₁ A)
  (hdone :∀D B D',w.heap.size≤D→J rows.length D' B→B.heap[D]?=some (.deferred (some []))→Q .normal { a with defers:={ target:=.collected D,args:=#[] }::a.defers } B) :
  (Code.rangeFunc g ps x y).wp Pg Q a w:=by
 obtain ⟨gf,lb,hg,eg,hseq⟩:=hit
 rw [←wpIn_wide (n:=1)]
 refine wpIn_rangeFunc ?_
 intro fn hfn
 obtain ⟨rec,hrec⟩ :∃rec:LoopState→Option Code→Loop,rec=fun st pe=>{ state:=st,pending:=pe,fn,tmps:=a.tmps,params:=ps,assign:=x,body:=y,defers:=w.heap.size }:=⟨_,rfl⟩
 obtain ⟨W1,hW1⟩ :∃W1,(w.alloc (.deferred (some []))).alloc (.loop (rec .ready none))=W1:=⟨_,rfl⟩
 have hL1:W1.heap[w.heap.size+1]?=some (.loop (rec .ready none)):=by
  rw [←hW1];have:=World.alloc_heap_new (w.alloc (.deferred (some []))) (.loop (rec .ready none));rwa [World.size_alloc] at this
 have hK1:W1.heap[w.heap.size]?=some (.deferred (some [])):=by
  rw [←hW1];exact (Below.heap_alloc _ _ _ (by simp)).trans (World.alloc_heap_new w _)
 have hJ1:J 0 [] W1:=by rw [←hW1];exact hgrow _ _ _ _ [] (hgrow _ _ _ _ [] h0 (AU.alloc _ _) (fun b hb=>by cases hb)) (AU.alloc _ _) (fun b hb=>by cases hb)
 refine ⟨w.heap.size+1,[{ target:=.collected w.heap.size,args:=#[] }],W1,{ target:=.fn (.func gf) lb,args:=#[.func (.yield (w.heap.size+1)) #[] #[]] },W1,gf,
  #[.func (.yield (w.heap.size+1)) #[] #[]]++lb,W1,?_,?_,fun _ _=>trivial,?_,fun _=>Nat.le_refl _,?_⟩
 ·rw [←hW1,hrec];exact run_enterLoop_outer _ _ _ _ _
 ·simp only [resolve,hg]
  simp [go_sem]
 ·simp [invoke,go_sem,eg]
 refine callsIn_wide.2 (Calls.mono (hseq (w.heap.size+1)
   (fun k D A=>J k D A∧A.heap[w.heap.size+1]?=some (.loop (rec .ready none))∧A.heap[w.heap.size]?=some (.deferred (some []))∧∀b∈D,w.heap.size+1<b)
   W1 (fun k D A h=>hS k D A h.1) (fun k D A B D' h hg hD => ?_) ?_ ⟨hJ1,hL1,hK1,fun b hb=>by cases hb⟩) ?_)
 ·have lt :∀{i o},A.heap[i]?=some o→i<A.heap.size:=fun h=>(Array.getElem?_eq_some_iff.1 h).1
  refine ⟨hgrow k D A B D' h.1 hg hD,(hg.same _ (lt h.2.1)).trans h.2.1,(hg.same _ (lt h.2.2.1)).trans h.2.2.1,fun b hb => ?_⟩
  rcases hD b hb with hb | hb
  ·exact h.2.2.2 b hb
  ·exact Nat.lt_of_lt_of_le (lt h.2.1) hb.1
 ·rintro k row D A hrow ⟨hj,hl,hk,hD⟩
  have hy:=run_yield (P:=Pg) (args:=(row.map P.lv).toArray) hl (by rw [hrec];simpa using hlen row (List.mem_of_getElem? hrow))
  rw [hrec] at hy
  have hlt:w.heap.size+1<A.heap.size:=(Array.getElem?_eq_some_iff.1 hl).1
  have hnD:w.heap.size+1∉D:=fun hm=>Nat.lt_irrefl _ (hD _ hm)
  have agG :∀b∈D,b≠w.heap.size+1:=fun b hb e=>hnD (e▸hb)
  have hj2:J k D (A.putObj (w.heap.size+1) (.loop { rec .ready none with state:=.busy })):=hturn _ _ _ _ _ _ (by omega) hnD hj hl rfl
  obtain ⟨a₁,hx,hbody⟩:=aeL k row D _ hrow hj2 (w.heap.size+1)
  refine ⟨fn,_,x,y,hy,roundIn_of_wpIn hfn (hx _ _ ⟨_,run_beginRound hl (by rw [hrec]),wpIn_mono hbody ?_⟩)⟩
  rintro e a3 B ⟨rfl,hj3,hkD,hkeep⟩
  have hl2:(A.putObj (w.heap.size+1) (.loop { rec .ready none with state:=.busy })).heap[w.heap.size+1]?=some (.loop { rec .ready none with state:=.busy }):=World.putObj_heap_same hlt
  have hk2:(A.putObj (w.heap.size+1) (.loop { rec .ready none with state:=.busy })).heap[w.heap.size]?=some (.deferred (some [])):=(World.putObj_heap_other (by omega)).trans hk
  have hl3:=hkeep _ _ hl2 rfl (by omega)
  have hk3:=hkeep _ _ hk2 rfl (by omega)
  have hr:=run_endRound (P:=Pg) none hl3
  refine ⟨_,_,hr,rfl,⟨hturn _ _ _ _ _ _ (by omega) hnD hj3 hl3 rfl,?_,(World.putObj_heap_other (by omega)).trans hk3,hD⟩,fun b hb => ?_⟩
  ·rw [World.putObj_heap_same (Array.getElem?_eq_some_iff.1 hl3).1,hrec];rfl
  ·rw [World.putObj_heap_other (agG b hb),hkD b hb,World.putObj_heap_other (agG b hb)]
 ·rintro e B ⟨⟨v,rfl⟩,D,hj,hl,hk,hD⟩
  have hnD:w.heap.size+1∉D:=fun hm=>Nat.lt_irrefl _ (hD _ hm)
  refine ⟨none,_,by have:=run_endLoop (P:=Pg) hl (by rw [hrec];simp);rw [hrec] at this;exact this,hdone _ _ D (Nat.le_refl _) (hturn _ _ _ _ _ _ (by omega) hnD hj hl rfl) ((World.putObj_heap_other (by omega)).trans hk)⟩
end
end Go.Fw

namespace Go.Fw
set_option linter.unusedSectionVars false
open Go.RowKit
variable [dA]
set_option linter.unusedVariables false
set_option linter.unusedSimpArgs false
structure uX where
 n:St→Prop
 x:Nat→St→Prop
 r:St→Prop
def keeps (aN:List Nat) (j:Shape) (m:Ren):Bool:=aN.all fun g=>j.nms.contains g&&(match m.lookup g with
 |some (some g')=>Nat.beq g' g
 |_=>false)
inductive Back (aN:List Nat) (j:Shape) (st:St) (G:List P→Prop):Prop where
 |mk (hs gs:List Nat) (m:Ren) (vs:List P) (hgs:abJ (Fw.shuts hs st).o gs=true) (hm:keeps aN j m=true) (h:coerce j m (dJ gs (Fw.shuts hs st))=some vs) (hG:G vs)
inductive Y_ (aN:List Nat) (body:St→uX→Prop) (st:St) (K:uX):Prop where
 |mk (j:Shape) (I:List P→Prop) (μ:List P→Nat) (h0:Back aN j st I) (round :∀us,I us→body (Fw.mk j us) { n:=fun st'=>Back aN j st' fun vs=>I vs∧μ vs<μ us,x:=K.x,r:=K.r })
inductive Wk (aN:List Nat) (K:St→Prop) (st:St):Prop where
 |now (h:K st)
 |back (j:Shape) (h:Back aN j st fun vs=>K (Fw.mk j vs))
def Ia:Op→Option Tmp
 |.assign (.tmp t)=>some t
 |.move (.tmp t)=>some t
 |_=>none
def vO (N:Nat):Code→St→Option St
 |.skip,st=>some st
 |.region _ ops false,st=>match ops.toList with
  | [o]=>match o.guard,o.dst,Ia o.op with
   |none,some d,some t=>if d<N then some (st.put (some d) (st.s t)) else none
   |_,_,_=>none
  |_=>none
 |.seq x y,st=>match vO N x st with
  |some st'=>vO N y st'
  |none=>none
 |_,_=>none
def sS:Code→Act→Act
 |.region _ ops _,a=>match ops.toList with
  | [o]=>match o.dst,Ia o.op with
   |some d,some t=>a.put (some d) (a.tmps.getD t undef)
   |_,_=>a
  |_=>a
 |.seq x y,a=>sS y (sS x a)
 |_,a=>a
def xq:List Tmp→List P→St→St
 |p::ps,x::xs,st=>xq ps xs (st.put (some p) (.v (.one (.p false false x))))
 |_,_,st=>st
def abL:Op→Bool
 |.defer _=>true
 |_=>false
def calm:Code→Bool
 |.skip=>true
 |.region _ ops _=>ops.toList.all fun o=>!abL o.op
 |.seq x y=>calm x&&calm y
 |.cond _ x y=>calm x&&calm y
 |.block _ c=>calm c
 |.loop c=>calm c
 |.exit _=>true
 |.ret=>true
 |.label _=>true
 |_=>false
def Ib (st:St):St:={ s:=fun _=>.no,o:=st.o,used:=st.used }
def Za (N:Nat) (body:List Nat→St→uX→Prop) (ps:List Tmp) (x:Code) (row:List P) (st:St) (K:St→Prop):Prop:=
 ∃(sg:yj) (st1:St) (c:JJ) (aY:List P) (d:Nat),sg.ok=true∧((sg.aN.all fun g=>sg.pin.nms.contains g)&&sg.YN)=true∧sg.bY=0∧vO N x (xq ps row st)=some st1∧
  fO sg st.o ((List.range N).map st1.s)=some c∧c.fine sg=true∧
  body sg.aN (Fw.mk sg.pin c.ins) { n:=fun st2=>Back sg.aN sg.aF (Ib st2) fun vs=>vs=aY,x:=fun _ _=>False,r:=fun _=>False }∧
  (∀g∈(gG sg d st.o c aY).new,st.used g=false)∧K (st.au (gG sg d st.o c aY).au (gG sg d st.o c aY).new)
inductive aeM (aN:List Nat) (rows:List (List P)) (round:List P→St→(St→Prop)→Prop) (st:St) (K:St→Prop):Prop where
 |mk (j:Shape) (I:Nat→List P→Prop) (h0:Back aN j st (I 0)) (hr :∀k row us,rows[k]?=some row→I k us→round row (Fw.mk j us) fun st'=>Back aN j st' (I (k+1))) (hd :∀us,I rows.length us→K (Fw.mk j us))
def exec (T:Tab) (tt:TT) (N:Nat) (aN:List Nat):Code→St→uX→Prop
 |.skip,st,K=>K.n st
 |.region _ ops draw,st,K=>oO T tt N ops draw st (Wk aN K.n)
 |.seq x y,st,K=>exec T tt N aN x st { n:=fun st'=>exec T tt N aN y st' K,x:=K.x,r:=K.r }
 |.cond c x y,st,K=>match st.bf c with
  |.v (.one (.p _ _ (.bool b)))=>bif b then exec T tt N aN x st { n:=Wk aN K.n,x:=K.x,r:=K.r } else exec T tt N aN y st { n:=Wk aN K.n,x:=K.x,r:=K.r }
  |_=>False
 |.block id c,st,K=>exec T tt N aN c st { n:=Wk aN K.n,x:=fun id' st'=>bif Nat.beq id' id then Wk aN K.n st' else K.x id' st',r:=K.r }
 |.loop c,st,K=>Y_ aN (exec T tt N aN c) st K
 |.exit id,st,K=>K.x id st
 |.ret,st,K=>K.r st
 |.label _,st,K=>K.n st
 |.scope c,st,K=>exec T tt N aN c st K
 |.rangeFunc g ps x y,st,K=>calm y=true∧match st.bf g with
  |.v (.one (.p _ _ (.seq rows)))=>(rows.all fun r=>Nat.beq r.length ps.size&&r.all P.lit)=true∧(ps.toList.all fun p=>Nat.blt p N)=true∧
    aeM aN rows (Za N (fun ajj st' K'=>exec T tt N ajj y st' K') ps.toList x) st (Wk aN K.n)
  |_=>False
 |_,_,_=>False
structure Fit (Pg:Program):Prop where
 mixed:Pg.follows .mixedOrders=true
 sq :∀w S l v,dA.sq w S l v→Y8 Pg w S l v
section
variable {E:Env} {N:Nat} {aN:List Nat} {oH:Nat→Gh} {Pg:Program} {T:Tab} {tt:TT}
structure Knt (E:Env) (N:Nat) (aN:List Nat) (oH:Nat→Gh) (K:uX) (Q:Exit→Act→World→Prop):Prop where
 n :∀st a w,K.n st→Good E N aN oH st a w→Q .normal a w
 x :∀id st a w,K.x id st→Good E N aN oH st a w→Q (.exit id) a w
 r :∀st a w,K.r st→Good E N aN oH st a w→Q .ret a w
theorem Back.good {j:Shape} {st:St} {G:List P→Prop} (h:Back aN j st G) {a:Act} {w:World} (hg:Good E N aN oH st a w) :∃vs,G vs∧Good E N aN oH (Fw.mk j vs) a w:=by
 obtain ⟨hs,gs,m,vs,hgs,hm,h,hG⟩:=h
 obtain ⟨⟨gh,hR,Ec⟩,hsz,hdf⟩:=hg
 obtain ⟨aQ,hR,e1,_,e3⟩:=hR.norm hs gs hgs
 have hr:=sH h
 refine ⟨vs,hG,⟨iP aQ (AB j m),hR.RJ hr,fun g hg => ?_⟩,hsz,hdf⟩
 have:=(List.all_eq_true.1 hm) g hg
 simp only [Bool.and_eq_true] at this
 obtain ⟨h1,h2⟩:=this
 refine ⟨h1,?_⟩
 have hF:AB j m g=some g:=by
  unfold AB
  rw [if_pos h1]
  split at h2
  ·rename_i g' hl
   rw [hl,Nat.eq_of_beq_eq_true h2];rfl
  ·cases h2
 have ho:=hr.aJ g g hF
 rcases (Ec g hg).2 with e | e
 ·have e:=e3 g e
  rw [e] at ho
  generalize (Fw.mk j vs).o g=z at ho
  cases ho;exact .inl rfl
 ·exact .inr (by simp only [iP,hF];exact ⟨(e1 g).1.trans e.1,(e1 g).2.trans e.2⟩)
theorem Wk.good {K:St→Prop} {st:St} (h:Wk aN K st) {a:Act} {w:World} (hg:Good E N aN oH st a w) :∃st',K st'∧Good E N aN oH st' a w:=by
 cases h with
 |now h=>exact ⟨st,h,hg⟩
 |back j h=>
  obtain ⟨vs,h1,h2⟩:=h.good hg
  exact ⟨_,h1,h2⟩
theorem Knt.wk {K:uX} {Q:Exit→Act→World→Prop} (h:Knt E N aN oH K Q):Knt E N aN oH { n:=Wk aN K.n,x:=K.x,r:=K.r } Q:=
 ⟨fun st a w hk hg=>let ⟨st',h1,h2⟩:=hk.good hg;h.n st' a w h1 h2,h.x,h.r⟩
theorem Ic {ro:Option Nat} {n:Nat} {Q:Exit→Act→World→Prop} {st:St} {a:Act} {w:World} {ops:Array Oper} (hT :∀f sp,T f=some sp→Sound Pg (f % 1000000) sp) (htt:fF Pg tt) (hm:Pg.follows .mixedOrders=true) {id:Nat} {draw:Bool} {K:St→Prop} (hcm:calm (.region id ops draw)=true) (h:oO T tt N ops draw st K) (hg:Good E N aN oH st a w)
  (hK :∀st' a' w',K st'→Good E N aN oH st' a' w'→Q .normal a' w'):(Code.region id ops draw).wpIn (FR ro) n Pg Q a w:=by
 have hnd :∀o∈ops.toList,∀c,o.op≠.defer c:=fun o ho c e=>by
  have:=List.all_eq_true.1 hcm o ho
  rw [e] at this;cases this
 have hlo:¬ LetsOut (fun e a w=>e=.normal∧Q .normal a w):=fun ⟨_,_,e,_⟩=>by cases e
 refine wpIn_mono (Q:=fun e a w=>e=.normal∧Q .normal a w) ?_ fun e a w h=>by obtain ⟨rfl,h⟩:=h;exact h
 rcases H9 (Q:=fun e a w=>e=.normal∧Q .normal a w) hT htt h hg fun st' a' w' q hg'=>⟨rfl,hK st' a' w' q hg'⟩ with ⟨e,h2⟩ | ⟨e,h2⟩
 ·rw [e];exact wpIn_region (adK hnd hlo _ _ _ h2)
 ·rw [e];exact wpIn_region_any hm (adL hnd hlo _ _ _ _ h2)
theorem Np (hT :∀f sp,T f=some sp→Sound Pg (f % 1000000) sp) (htt:fF Pg tt) (hm:Pg.follows .mixedOrders=true) (ro:Option Nat) (n:Nat) :∀(c:Code) {st:St} {K:uX} {Q:Exit→Act→World→Prop} {a:Act} {w:World},
  calm c=true→exec T tt N aN c st K→Good E N aN oH st a w→Knt E N aN oH K Q→c.wpIn (FR ro) n Pg Q a w:=by
 intro c
 induction c with
 |skip=>intro st K Q a w hcm h hg hK;exact wpIn_skip (hK.n _ _ _ h hg)
 |region id ops draw=>intro st K Q a w hcm h hg hK;exact Ic hT htt hm hcm h hg fun st' a' w' q hg'=>hK.wk.n _ _ _ q hg'
 |seq x y FW ihy=>
  intro st K Q a w hcm h hg hK
  simp only [calm,Bool.and_eq_true] at hcm
  refine wpIn_seq (FW hcm.1 h hg ⟨fun st' a' w' q hg'=>ihy hcm.2 q hg' hK,fun id st' a' w' q hg'=>hK.x _ _ _ _ q hg',fun st' a' w' q hg'=>hK.r _ _ _ q hg'⟩)
 |cond c x y FW ihy=>
  intro st K Q a w hcm h hg hK
  simp only [calm,Bool.and_eq_true] at hcm
  simp only [exec] at h
  split at h
  ·rename_i a1 i1 b hc
   obtain ⟨gh,hR,_⟩:=hg.ex
   have hv:=lZ hR c
   rw [hc] at hv
   have hv:=hv.dF.iI
   refine wpIn_cond_split hv (fun hb => ?_) (fun hb => ?_)
   ·subst hb;exact FW hcm.1 h hg hK.wk
   ·subst hb;exact ihy hcm.2 h hg hK.wk
  ·cases h
 |block id c ih=>
  intro st K Q a w hcm h hg hK
  refine wpIn_block (ih hcm h hg ⟨fun st' a' w' q hg'=>hK.wk.n _ _ _ q hg',fun id' st' a' w' q hg' => ?_,fun st' a' w' q hg'=>hK.r _ _ _ q hg'⟩)
  simp only [Exit.inBlock]
  by_cases e:id'=id
  ·subst e
   rw [if_pos rfl]
   have:Nat.beq id' id'=true:=by simp
   simp only [this] at q
   exact hK.wk.n _ _ _ q hg'
  ·rw [if_neg e]
   have:Nat.beq id' id=false:=by cases hb:Nat.beq id' id with | false=>rfl | true=>exact absurd (Nat.eq_of_beq_eq_true hb) e
   simp only [this] at q
   exact hK.x _ _ _ _ q hg'
 |loop c ih=>
  intro st K Q a w hcm h hg hK
  obtain ⟨j,I,μ,h0,round⟩:=(show Y_ aN (exec T tt N aN c) st K from h)
  obtain ⟨us,hI,hg0⟩:=h0.good hg
  refine wpIn_loop_rounds (μ us+1) ?_
  have key :∀k us,I us→μ us<k→∀a w,Good E N aN oH (Fw.mk j us) a w→Code.roundsIn (FR ro) n Pg c Q k a w:=by
   intro k
   induction k with
   |zero=>intro us _ h;omega
   |succ k ihn=>
    intro us hI hlt a w hg
    refine ih hcm (round us hI) hg ⟨fun st' a' w' q hg' => ?_,fun id st' a' w' q hg'=>hK.x _ _ _ _ q hg',fun st' a' w' q hg'=>hK.r _ _ _ q hg'⟩
    obtain ⟨vs,⟨h1,h2⟩,h3⟩:=Back.good q hg'
    exact ihn vs h1 (by omega) _ _ h3
  exact key _ us hI (by omega) a w hg0
 |exit id=>intro st K Q a w hcm h hg hK;exact wpIn_exit (hK.x _ _ _ _ h hg)
 |ret=>intro st K Q a w hcm h hg hK;exact wpIn_ret (hK.r _ _ _ h hg)
 |label l=>intro st K Q a w hcm h hg hK;exact wpIn_label (hK.n _ _ _ h hg)
 |_=>intro st K Q a w hcm;cases hcm
theorem PZ {sp:yj} {st:St} {aY:List P} {jT:Nat→Gh} {rs:Nat→Value} {w':World} (hfin:Rel E st jT rs w') (Ie :∀g∈sp.aN,st.used g=true∧(st.o g=.none∨((jT g).ad=(oH g).ad∧(jT g).cap=(oH g).cap)))
  (hBk:Back sp.aN sp.aF st fun vs=>vs=aY) :∃aQ,Rel E (Fw.mk sp.aF aY) aQ rs w'∧∀g∈sp.aN,(aQ g).ad=(oH g).ad∧(aQ g).cap=(oH g).cap:=by
 obtain ⟨hs,gs,m,vs,hgs,hkm,hco,rfl⟩:=hBk
 obtain ⟨wH,hfin,e1,_,e3⟩:=hfin.norm hs gs hgs
 have hr:=sH hco
 refine ⟨iP wH (AB sp.aF m),hfin.RJ hr,fun g hg => ?_⟩
 have:=(List.all_eq_true.1 hkm) g hg
 simp only [Bool.and_eq_true] at this
 obtain ⟨h1,h2⟩:=this
 have hF:AB sp.aF m g=some g:=by
  unfold AB
  rw [if_pos h1]
  split at h2
  ·rename_i g' hl
   rw [hl,Nat.eq_of_beq_eq_true h2];rfl
  ·cases h2
 have ho:=hr.aJ g g hF
 have hbox:(Fw.mk sp.aF vs).o g≠.none:=by
  have hm:g∈sp.aF.aJ.map (·.1):=by simpa [Shape.nms] using h1
  obtain ⟨x,hxx⟩:=uT (vs:=vs) (n:=(bG vs 0 sp.aF.slots).2) hm
  have e:(Fw.mk sp.aF vs).o g=x:=by
   show (match (fA vs (bG vs 0 sp.aF.slots).2 sp.aF.aJ).1.lookup g with | some x=>x | none=>O.none)=x
   rw [hxx]
  obtain ⟨k,n',_,h2⟩:=jM hxx
  rw [e,h2]
  cases k<;>simp [sZ]
 rcases (Ie g hg).2 with e | e
 ·exfalso
  have e:=e3 g e
  rw [e] at ho
  generalize (Fw.mk sp.aF vs).o g=z at ho hbox
  cases ho;exact hbox rfl
 ·simp only [iP,hF];exact ⟨(e1 g).1.trans e.1,(e1 g).2.trans e.2⟩
structure Head (E:Env) (aN:List Nat) (oH:Nat→Gh) (a:Act) (S D:List Nat) (w0:World) (st:St) (A:World):Prop where
 ex :∃gh,Rel E st gh (fun t=>a.tmps.getD t undef) A∧(∀g∈aN,st.used g=true∧(st.o g=.none∨((gh g).ad=(oH g).ad∧(gh g).cap=(oH g).cap)))∧∀b∈S++D,∃p q,E.ok st gh A p q b
 marks:Marks E a A
 keep :∀b∈S,A.heap[b]?=w0.heap[b]?
theorem Head.back {a:Act} {S D:List Nat} {w0 A:World} {j:Shape} {st:St} {G:List P→Prop} (h:Head E aN oH a S D w0 st A) (hb:Back aN j st G) :∃vs,G vs∧Head E aN oH a S D w0 (Fw.mk j vs) A:=by
 obtain ⟨hs,gs,m,vs,hgs,hm,hc,hG⟩:=hb
 obtain ⟨⟨gh,hR,Ec,hok⟩,hmk,hkp⟩:=h
 obtain ⟨aQ,hR,e1,e2,e3⟩:=hR.norm hs gs hgs
 have hr:=sH hc
 refine ⟨vs,hG,⟨iP aQ (AB j m),hR.RJ hr,fun g hg => ?_,fun b hb => ?_⟩,hmk,hkp⟩
 ·have:=(List.all_eq_true.1 hm) g hg
  simp only [Bool.and_eq_true] at this
  obtain ⟨h1,h2⟩:=this
  refine ⟨h1,?_⟩
  have hF:AB j m g=some g:=by
   unfold AB
   rw [if_pos h1]
   split at h2
   ·rename_i g' hl
    rw [hl,Nat.eq_of_beq_eq_true h2];rfl
   ·cases h2
  have ho:=hr.aJ g g hF
  rcases (Ec g hg).2 with e | e
  ·have e:=e3 g e
   rw [e] at ho
   generalize (Fw.mk j vs).o g=z at ho
   cases ho;exact .inl rfl
  ·exact .inr (by simp only [iP,hF];exact ⟨(e1 g).1.trans e.1,(e1 g).2.trans e.2⟩)
 ·obtain ⟨p,q,h⟩:=hok b hb
  exact ⟨p,q,hr.ok _ _ _ _ b ⟨id,id⟩ (e2 _ _ _ h)⟩
def jF:List Tmp→List P→Array Value→Array Value
 |p::ps,x::xs,t=>jF ps xs (t.setIfInBounds p x.lv)
 |_,_,t=>t
theorem Ig :∀(ps:List Tmp) (row:List P) (t:Array Value),row.length=ps.length→(ps.zip (row.map P.lv)).foldl (fun t (p:Tmp×Value)=>t.setIfInBounds p.1 p.2) t=jF ps row t
 | [],[],t,_=>rfl
 |p::ps,x::row,t,h=>by
  simp only [List.map_cons,List.zip_cons_cons,List.foldl_cons,jF]
  exact Ig ps row _ (by simpa using h)
 | [],x::row,t,h=>by simp at h
 |p::ps,[],t,h=>by simp at h
theorem Bc :∀(ps:List Tmp) (row:List P) (t:Array Value),(jF ps row t).size=t.size
 |p::ps,x::row,t=>by simp only [jF,Bc];simp
 | [],row,t=>by simp only [jF]
 |p::ps,[],t=>by simp only [jF]
theorem U5 {gh:Nat→Gh} {w:World} :∀(ps:List Tmp) (row:List P) {st:St} {t:Array Value},(row.all P.lit)=true→(∀p∈ps,p<t.size)→Rel E st gh (fun k=>t.getD k undef) w→
  Rel E (xq ps row st) gh (fun k=>(jF ps row t).getD k undef) w∧(xq ps row st).o=st.o∧(xq ps row st).used=st.used
 |p::ps,x::row,st,t,hl,hp,h=>by
  simp only [List.all_cons,Bool.and_eq_true] at hl
  have h1:=h.put (some p) (x:=.v (.one (.p false false x))) (v:=x.lv) (.v _ _ (.one _ _ (.p _ _ _ _ (P.abK hl.1)))) (by simp [S.names,V.names,W.names])
  have e:wE (fun k=>t.getD k undef) (some p) x.lv=fun k=>(t.setIfInBounds p x.lv).getD k undef:=by
   funext k
   have hlt:=hp p (by simp)
   simp only [wE,Array.getD_eq_getD_getElem?]
   by_cases e:k=p
   ·subst e;simp [hlt]
   ·rw [if_neg e,Array.getElem?_setIfInBounds_ne (Ne.symm e)]
  rw [e] at h1
  obtain ⟨q1,q2,q3⟩:=U5 ps row hl.2 (fun p hp'=>by simpa using hp p (by simp [hp'])) h1
  exact ⟨q1,q2,q3⟩
 | [],row,st,t,hl,hp,h=>by simp only [xq,jF];exact ⟨h,trivial,trivial⟩
 |p::ps,[],st,t,hl,hp,h=>by simp only [xq,jF];exact ⟨h,trivial,trivial⟩
theorem Zb {op:Op} {t:Tmp} (h:Ia op=some t):op=.assign (.tmp t)∨op=.move (.tmp t):=by
 unfold Ia at h
 split at h
 ·simp only [Option.some.injEq] at h;subst h;exact .inl rfl
 ·simp only [Option.some.injEq] at h;subst h;exact .inr rfl
 ·cases h
theorem Xo {gh:Nat→Gh} {w:World} :∀(x:Code) {st st':St} {a:Act},vO N x st=some st'→a.tmps.size=N→Rel E st gh (fun k=>a.tmps.getD k undef) w→
  Rel E st' gh (fun k=>(sS x a).tmps.getD k undef) w∧(sS x a).tmps.size=N∧(sS x a).defers=a.defers∧st'.o=st.o∧st'.used=st.used∧
  ∀(ro:Option Nat) (n:Nat) (K:Act→World→Prop) (W:World),K (sS x a) W→x.wpIn (FR ro) n Pg (Exit.then K (fun _ _ _=>False)) a W:=by
 intro x
 induction x with
 |skip=>
  intro st st' a h hsz hR
  simp only [vO,Option.some.injEq] at h;subst h
  exact ⟨hR,hsz,rfl,rfl,rfl,fun ro n K W hK=>wpIn_skip hK⟩
 |region id ops draw=>
  intro st st' a h hsz hR
  cases draw with
  |true=>simp [vO] at h
  |false=>
   simp only [vO] at h
   split at h
   ·rename_i o hops
    split at h
    ·rename_i d t hg hd ht
     split at h
     ·rename_i hlt
      simp only [Option.some.injEq] at h;subst h
      have hact:sS (.region id ops false) a=a.put (some d) (a.tmps.getD t undef):=by simp only [sS,hops,hd,ht]
      rw [hact]
      have hv:(fun k=>(a.put (some d) (a.tmps.getD t undef)).tmps.getD k undef)=wE (fun k=>a.tmps.getD k undef) (some d) (a.tmps.getD t undef):=wU _ _ fun d' e=>by cases e;rw [hsz];exact hlt
      refine ⟨by rw [hv];exact hR.put _ (hR.slots t) (hR.us t),by rw [wW];exact hsz,put_defers _ _,rfl,rfl,fun ro n K W hK => ?_⟩
      have hsize:ops.size=1:=by rw [←Array.length_toList,hops];rfl
      have hi:ops[0]?=some o:=by rw [←Array.getElem?_toList,hops];rfl
      refine wpIn_region ?_
      rw [hsize]
      show wpOpsIn _ _ _ _ _ [0] _ _
      simp only [wpOpsIn,hi]
      have hw:Region.wanted o (yielded ops a.tmps)=true:=by simp [Region.wanted,hg]
      rw [if_pos hw]
      refine ⟨fun _ _=>trivial,?_⟩
      have hnd :∀c,o.op≠.defer c:=fun c e=>by rw [e] at ht;cases ht
      rw [Oper.semAt_eq _ _ _ hnd]
      have hx:(execOp a.eval o).run Pg W=.ok (.value (a.tmps.getD t undef)) W:=by
       rcases Zb ht with e | e
       ·simp only [execOp,e];rfl
       ·simp only [execOp,e];rfl
      rw [hx,Oper.uponIn_value,hd]
      exact hK
     ·cases h
    ·cases h
   ·cases h
 |seq x y FW ihy=>
  intro st st' a h hsz hR
  simp only [vO] at h
  split at h
  ·rename_i st1 h1
   obtain ⟨a1,a2,a3,a4,a5,a6⟩:=FW h1 hsz hR
   obtain ⟨b1,b2,b3,b4,b5,b6⟩:=ihy h a2 a1
   refine ⟨b1,b2,b3.trans a3,b4.trans a4,b5.trans a5,fun ro n K W hK=>wpIn_seq ?_⟩
   refine wpIn_mono (a6 ro n (fun a w=>y.wpIn (FR ro) n Pg (Exit.then K fun _ _ _=>False) a w) W (b6 ro n K W hK)) fun e a w h => ?_
   cases e<;>exact h
  ·cases h
 |_=>intro st st' a h;simp [vO] at h
theorem P5 (hT :∀f sp,T f=some sp→Sound Pg (f % 1000000) sp) (htt:fF Pg tt) (hm:Fit Pg) {g:Operand} {ps:Array Tmp} {x y:Code} {st:St} {K:uX} {Q:Exit→Act→World→Prop} {a:Act} {w:World}
  (h:exec T tt N aN (.rangeFunc g ps x y) st K) (hg:Good E N aN oH st a w) (hK:Knt E N aN oH K Q):(Code.rangeFunc g ps x y).wp Pg Q a w:=by
 obtain ⟨hcm,h⟩:calm y=true∧_:=h
 split at h
 rotate_left
 ·exact h.elim
 rename_i p q rows hop
 obtain ⟨hrows,hps,j,I,h0,hr,hd⟩:=h
 obtain ⟨⟨gh,hR,Ec⟩,hsz,hmk⟩:=hg
 have hv:=lZ hR g
 rw [hop] at hv
 have hv:=hv.dF
 obtain ⟨S,hS,hq⟩ :∃S,(∀b∈S,E.ok st gh w p q b∧∃c e f,w.heap[b]?=some (.cells c e f))∧dA.sq w S rows (a.eval g):=by
  generalize a.eval g=v at hv
  cases hv with
  |seq l v S _ hS hq=>exact ⟨S,hS,hq⟩
 have hB0:E.B0≤w.heap.size:=hR.size
 have hrow :∀row∈rows,row.length=ps.toList.length∧row.all P.lit=true:=fun row hm'=>by
  have:=List.all_eq_true.1 hrows row hm'
  simp only [Bool.and_eq_true] at this
  exact ⟨by simpa using Nat.eq_of_beq_eq_true this.1,this.2⟩
 have hpN :∀p∈ps.toList,p<N:=fun p hp=>by simpa using List.all_eq_true.1 hps p hp
 have agH :∀b∈S,b<w.heap.size:=fun b hb=>(hS b hb).1.2.1
 obtain ⟨us0,hI0,hH0⟩:=Head.back (S:=S) (D:=[]) (w0:=w) ⟨⟨gh,hR,Ec,fun b hb=>⟨p,q,(hS b (by simpa using hb)).1⟩⟩,hmk,fun _ _=>rfl⟩ h0
 refine Y9 (hm.sq _ _ _ _ hq) (fun row hm'=>by simpa using (hrow row hm').1) (fun k D A=>w.heap.size≤A.heap.size∧∃us,I k us∧Head E aN oH a S D w (Fw.mk j us) A) (fun k D A hJ=>hJ.2.choose_spec.2.keep) ?_ ?_ ⟨Nat.le_refl _,us0,hI0,hH0⟩ ?_ ?_
 ·rintro k D A B D' ⟨hz,us,hI,⟨jT,hR1,Ie,hok1⟩,Sv,Xp⟩ hg hDD
  refine ⟨Nat.le_trans hz hg.size,us,hI,⟨jT,hR1.grows hg,Ie,fun b hb => ?_⟩,?_,fun b hb=>(hg.same b (Nat.lt_of_lt_of_le (agH b hb) hz)).trans (Xp b hb)⟩
  ·have old:b∈S++D→∃p q,E.ok (Fw.mk j us) jT B p q b:=fun hb=>by
    obtain ⟨p,q,h⟩:=hok1 b hb
    exact ⟨p,q,(hg.lets.ok p q b h).1⟩
   rcases List.mem_append.1 hb with hb | hb
   ·exact old (List.mem_append_left _ hb)
   ·rcases hDD b hb with hb | hb
    ·exact old (List.mem_append_right _ hb)
    ·refine ⟨false,false,.inr (.inr (.inl (by omega))),hb.2,fun g ho had => ?_⟩
     have:=(hR1.wr g b ho had).2
     omega
  ·obtain ⟨Ds,d1,d2,d3⟩:=Sv
   exact ⟨Ds,d1,d2,fun D hD=>⟨(d3 D hD).1,(hg.same D (Array.getElem?_eq_some_iff.1 (d3 D hD).2).1).trans (d3 D hD).2⟩⟩
 ·rintro k D A b o o' hb hbD ⟨hz,us,hI,⟨jT,hR1,Ie,hok1⟩,Sv,Xp⟩ ho hqo
  have hzz:(A.putObj b o').heap.size=A.heap.size:=World.putObj_size
  refine ⟨by rw [hzz];exact hz,us,hI,⟨jT,hR1.turn ho hqo (by omega) o',Ie,fun b' hb' => ?_⟩,?_,fun b' hb'=>(World.putObj_heap_other (by have:=agH b' hb';omega)).trans (Xp b' hb')⟩
  ·obtain ⟨p,q,h⟩:=hok1 b' hb'
   exact ⟨p,q,by rw [←uU hzz];exact h⟩
  ·obtain ⟨Ds,d1,d2,d3⟩:=Sv
   obtain ⟨Ds0,e1,e2,e3⟩:=hmk
   have:Ds=Ds0:=by
    have:=d1.symm.trans e1
    have hinj :∀(l l':List Nat),l.map mark=l'.map mark→l=l':=by
     intro l
     induction l with
     |nil=>intro l' h;cases l' with | nil=>rfl | cons=>simp at h
     |cons D l ih=>intro l' h;cases l' with | nil=>simp at h | cons D' l'=>simp [mark] at h;rw [h.1,ih l' (by simpa [mark] using h.2)]
    exact hinj _ _ this
   subst this
   exact ⟨Ds,d1,d2,fun D hD=>⟨(d3 D hD).1,(World.putObj_heap_other (by have:=(Array.getElem?_eq_some_iff.1 (e3 D hD).2).1;omega)).trans (d3 D hD).2⟩⟩
 ·rintro k row D A hrw ⟨hz,us,hI,⟨jT,hR1,Ie,hok1⟩,Sv,Xp⟩ l
  obtain ⟨hlen,hlit⟩:=hrow row (List.mem_of_getElem? hrw)
  obtain ⟨sg,st1,c,aY,d,r1,r2,r3,r4,r5,r6,r7,r8,r9⟩:=hr k row us hrw hI
  obtain ⟨r2,rb⟩:=Bool.and_eq_true_iff.1 r2
  obtain ⟨u1,u2,u3⟩:=U5 (t:=a.tmps) ps.toList row hlit (fun p hp=>by rw [hsz];exact hpN p hp) hR1
  obtain ⟨v1,v2,v3,v4,v5,v6⟩:=Xo (Pg:=Pg) x (a:={ tmps:=jF ps.toList row a.tmps,defers:=[] }) r4 (by rw [Bc];exact hsz) u1
  have etm:(ps.zip (row.map P.lv).toArray).foldl (fun t (p,v)=>t.setIfInBounds p v) a.tmps=jF ps.toList row a.tmps:=by
   rw [←Ig ps.toList row a.tmps hlen,←Array.foldl_toList,Array.toList_zip]
  refine ⟨sS x { tmps:=jF ps.toList row a.tmps,defers:=[] },fun K W hKW => ?_,?_⟩
  ·rw [etm];exact v6 _ _ K W hKW
  generalize hA1:sS x { tmps:=jF ps.toList row a.tmps,defers:=[] }=a1 at *
  obtain ⟨E',wH,q1,q2,q3,q4,q5⟩:=KA (sp:=⟨sg,fun _ _=>True⟩) r1 hR1 (args:=(List.range N).map st1.s) (vals:=a1.tmps.toList) (fun t=>by
   rw [List.getD_eq_getElem?_getD,List.getElem?_map]
   by_cases ht:t<N
   ·rw [List.getElem?_range ht]
    have:=v1.slots t
    rw [List.getD_eq_getElem?_getD,Array.getElem?_toList,←Array.getD_eq_getD_getElem?]
    exact bD.congr (v4.trans u2).symm this
   ·rw [List.getElem?_eq_none (by simpa using ht)];exact .no _) r5 r6
  have hval:(fun k=>a1.tmps.toList.getD k undef)=fun t=>a1.tmps.getD t undef:=by
   funext t;rw [List.getD_eq_getElem?_getD,Array.getElem?_toList,←Array.getD_eq_getD_getElem?]
  rw [hval] at q3
  have hgood:Good E' N sg.aN wH (Fw.mk sg.pin c.ins) a1 A:=⟨⟨wH,q3,fun g hg=>⟨(List.all_eq_true.1 r2) g hg,.inr ⟨rfl,rfl⟩⟩⟩,v2,Marks.nil v3⟩
  refine Np hT htt hm.mixed (some l) 0 y (Q:=fun e _ B=>e=.normal∧(w.heap.size≤B.heap.size∧∃us,I (k+1) us∧Head E aN oH a S D w (Fw.mk j us) B)∧(∀b∈D,B.heap[b]?=A.heap[b]?)∧∀b o,A.heap[b]?=some o→quiet o=true→w.heap.size≤b→B.heap[b]?=some o) hcm r7 hgood ⟨fun st2 a2 B hk hg2 => ?_,fun id st2 a2 B hk=>hk.elim,fun st2 a2 B hk=>hk.elim⟩
  obtain ⟨⟨gh3,Sz,ajk⟩,_,_⟩:=hg2
  have hend:Rel E' (Ib st2) gh3 (fun k=>([]:List Value).getD k undef) B:=
   ⟨fun k=>.no _,fun g=>kF.congr (st:=st2) (st':=Ib st2) rfl (Sz.aJ g),Sz.inj,Sz.wr,Sz.wi,Sz.ns,Sz.wb,Sz.frame,Sz.size,Sz.os,Sz.tape,Sz.output,fun k g hg=>by simp [Ib,Fw.S.names] at hg,Sz.uo,Sz.ul⟩
  obtain ⟨gh4,hR4,ajl⟩:=PZ (sp:=sg) hend (fun g hg=>ajk g hg) hk
  obtain ⟨gh5,s1,s2,_,_⟩:=q5 d aY _ rfl r8 B [] gh4 r3.symm hR4 fun g hg=>⟨ajl g hg,yj.Ky rb g hg⟩
  have hfr :∀b o,A.heap[b]?=some o→quiet o=true→B.heap[b]?=some o:=fun b o ho hqo=>by
   have hlt:=(Array.getElem?_eq_some_iff.1 ho).1
   rw [Sz.frame b (by rw [q1];exact hlt) (fun hw=>by obtain ⟨ob,hc,hc'⟩:=q4 b hw;rw [ho] at hc;exact qj hqo hc' (Option.some.inj hc).symm),q2]
   exact ho
  have hBz:A.heap.size≤B.heap.size:=by rw [←q1];exact Sz.size
  have hpre:Head E aN oH a S D w ((Fw.mk j us).au (gG sg d (Fw.mk j us).o c aY).au (gG sg d (Fw.mk j us).o c aY).new) B:=by
   refine ⟨⟨gh5,s1,fun g hg => ?_,fun b hb => ?_⟩,?_,fun b hb => ?_⟩
   ·obtain ⟨p1,p2⟩:=Ie g hg
    refine ⟨by simp [St.au,p1],?_⟩
    rcases s2.names g p1 with q | ⟨q,qk⟩
    ·exact .inl q
    ·rcases p2 with p2 | p2
     ·rw [p2] at qk;exact .inl (O.CU qk)
     ·exact .inr ⟨q.1.trans p2.1,q.2.trans p2.2⟩
   ·obtain ⟨p,q,h⟩:=hok1 b hb
    exact ⟨p,q,(s2.ok p q b h).1⟩
   ·obtain ⟨Ds,d1,d2,d3⟩:=Sv
    exact ⟨Ds,d1,d2,fun D hD=>⟨(d3 D hD).1,hfr D _ (d3 D hD).2 rfl⟩⟩
   ·obtain ⟨p,q,h⟩:=hok1 b (List.mem_append_left _ hb)
    exact ((s2.ok p q b h).2).trans (Xp b hb)
  obtain ⟨us',hI',hH'⟩:=hpre.back r9
  exact ⟨rfl,⟨Nat.le_trans hz hBz,us',hI',hH'⟩,fun b hb=>(let ⟨p,q,h⟩:=hok1 b (List.mem_append_right _ hb);(s2.ok p q b h).2),fun b o ho hqo _=>hfr b o ho hqo⟩
 ·rintro D B D' hD ⟨hz,us,hI,⟨jT,hR1,Ie,hok1⟩,Sv,Xp⟩ hDB
  have hw:=hd us hI
  refine hK.wk.n _ _ _ hw ⟨⟨jT,hR1,Ie⟩,hsz,?_⟩
  obtain ⟨Ds,d1,d2,d3⟩:=Sv
  obtain ⟨Ds0,e1,e2,e3⟩:=hmk
  have hmem :∀D'∈Ds,D'<w.heap.size:=by
   intro D' hD'
   have:mark D'∈a.defers:=by rw [d1];exact List.mem_map.2 ⟨D',hD',rfl⟩
   rw [e1] at this
   obtain ⟨D2,h1,h2⟩:=List.mem_map.1 this
   simp [mark] at h2
   subst h2
   exact (Array.getElem?_eq_some_iff.1 (e3 D2 h1).2).1
  refine ⟨D::Ds,by simp [d1,mark],List.nodup_cons.2 ⟨fun hm'=>by have:=hmem D hm';omega,d2⟩,fun D' hD' => ?_⟩
  rcases List.mem_cons.1 hD' with rfl | hD'
  ·exact ⟨by omega,hDB⟩
  ·exact d3 D' hD'
theorem SA (hT :∀f sp,T f=some sp→Sound Pg (f % 1000000) sp) (htt:fF Pg tt) (hm:Fit Pg) :∀(c:Code) {st:St} {K:uX} {Q:Exit→Act→World→Prop} {a:Act} {w:World},
  exec T tt N aN c st K→Good E N aN oH st a w→Knt E N aN oH K Q→c.wp Pg Q a w:=by
 intro c
 induction c with
 |skip=>intro st K Q a w h hg hK;exact wp_skip (hK.n _ _ _ h hg)
 |region id ops draw=>intro st K Q a w h hg hK;exact Nl hT htt hm.mixed h hg fun st' a' w' q hg'=>hK.wk.n _ _ _ q hg'
 |seq x y FW ihy=>
  intro st K Q a w h hg hK
  refine wp_seq (FW h hg ⟨fun st' a' w' q hg'=>ihy q hg' hK,fun id st' a' w' q hg'=>hK.x _ _ _ _ q hg',fun st' a' w' q hg'=>hK.r _ _ _ q hg'⟩)
 |cond c x y FW ihy=>
  intro st K Q a w h hg hK
  simp only [exec] at h
  split at h
  ·rename_i a1 i1 b hc
   obtain ⟨gh,hR,_⟩:=hg.ex
   have hv:=lZ hR c
   rw [hc] at hv
   have hv:=hv.dF.iI
   refine wp_cond_split hv (fun hb => ?_) (fun hb => ?_)
   ·subst hb;exact FW h hg hK.wk
   ·subst hb;exact ihy h hg hK.wk
  ·cases h
 |block id c ih=>
  intro st K Q a w h hg hK
  refine wp_block (ih h hg ⟨fun st' a' w' q hg'=>hK.wk.n _ _ _ q hg',fun id' st' a' w' q hg' => ?_,fun st' a' w' q hg'=>hK.r _ _ _ q hg'⟩)
  simp only [Exit.inBlock]
  by_cases e:id'=id
  ·subst e
   rw [if_pos rfl]
   have:Nat.beq id' id'=true:=by simp
   simp only [this] at q
   exact hK.wk.n _ _ _ q hg'
  ·rw [if_neg e]
   have:Nat.beq id' id=false:=by cases hb:Nat.beq id' id with | false=>rfl | true=>exact absurd (Nat.eq_of_beq_eq_true hb) e
   simp only [this] at q
   exact hK.x _ _ _ _ q hg'
 |loop c ih=>
  intro st K Q a w h hg hK
  obtain ⟨j,I,μ,h0,round⟩:=(show Y_ aN (exec T tt N aN c) st K from h)
  obtain ⟨us,hI,hg0⟩:=h0.good hg
  refine wp_loop_rounds (μ us+1) ?_
  have key :∀n us,I us→μ us<n→∀a w,Good E N aN oH (Fw.mk j us) a w→Code.rounds Pg c Q n a w:=by
   intro n
   induction n with
   |zero=>intro us _ h;omega
   |succ n ihn=>
    intro us hI hlt a w hg
    refine ih (round us hI) hg ⟨fun st' a' w' q hg' => ?_,fun id st' a' w' q hg'=>hK.x _ _ _ _ q hg',fun st' a' w' q hg'=>hK.r _ _ _ q hg'⟩
    obtain ⟨vs,⟨h1,h2⟩,h3⟩:=Back.good q hg'
    exact ihn vs h1 (by omega) _ _ h3
  exact key _ us hI (by omega) a w hg0
 |exit id=>intro st K Q a w h hg hK;exact wp_exit (hK.x _ _ _ _ h hg)
 |ret=>intro st K Q a w h hg hK;exact wp_ret (hK.r _ _ _ h hg)
 |label l=>intro st K Q a w h hg hK;exact wp_label (hK.n _ _ _ h hg)
 |scope c ih=>intro st K Q a w h hg hK;exact wp_scope_straight (ih h hg ⟨fun st' a' w' q hg'=>hK.n _ _ _ q hg',fun id st' a' w' q hg'=>hK.x _ _ _ _ q hg',fun st' a' w' q hg'=>hK.r _ _ _ q hg'⟩)
 |rangeFunc g ps x y FW ihy=>intro st K Q a w h hg hK;exact P5 hT htt hm h hg hK
 |_=>intro st K Q a w h;exact absurd h (by simp [exec])
def Xq (tt:TT) (st:St):ResultVar→Option S
 |.tmp t=>some (st.s t)
 |.cell a t=>match tt t,st.s a with
  |some i,.v (.one (.box g off))=>match st.o g with
   |.box ws=>if off+i.size≤ws.length∧0<i.size then some (V.dh i.agg ((ws.drop off).take i.size)) else none
   |_=>none
  |_,_=>none
def Ep (tt:TT) (st:St):List ResultVar→Option (List S)
 | []=>some []
 |r::rs=>match Xq tt st r,Ep tt st rs with
  |some x,some xs=>some (x::xs)
  |_,_=>none
def P6 (xs:List S) (st:St):St:={ s:=fun k=>xs.getD k .no,o:=st.o,used:=st.used }
def Fin (tt:TT) (sp:yj) (ts:List ResultVar) (aY:List P) (st:St):Prop:=match Ep tt st ts with
 |some xs=>Back sp.aN sp.aF (P6 xs st) fun vs=>vs=aY
 |none=>False
def aeN (tt:TT) (sp:yj) (ts:List ResultVar) (aY:List P):uX:={ n:=Fin tt sp ts aY,x:=fun _ _=>False,r:=Fin tt sp ts aY }
def C_ (tmps:Array Value) (r:ResultVar):Sem Value:=match r with
 |.tmp t=>pure (tmps.getD t undef)
 |.cell a t=>do loadVar t (←asAddr (tmps.getD a undef))
theorem SB {fn:Func} {ts:List ResultVar} (hr:fn.results=ts.toArray) (tmps:Array Value):results fn tmps=(do
  let vs ←List.toArray <$> ts.mapM (C_ tmps)
  pure (if h:vs.size=1 then vs[0] else .tuple vs)):=by
 unfold results
 rw [hr,List.mapM_toArray]
 have :∀F:ResultVar→Sem Value,(∀r,F r=C_ tmps r)→ts.mapM F=ts.mapM (C_ tmps):=fun F hF=>by rw [funext hF]
 rw [this _ fun r=>by cases r<;>rfl]
theorem SC (htt:fF Pg tt) {st:St} {gh:Nat→Gh} {a:Act} {w:World} (h:Rel E st gh (fun t=>a.tmps.getD t undef) w) {r:ResultVar} {x:S} (hx:Xq tt st r=some x) :
  ∃v,(C_ a.tmps r).run Pg w=.ok v w∧bD E st gh w x v∧∀g∈x.names,st.used g=true:=by
 cases r with
 |tmp t=>
  simp only [Xq,Option.some.injEq] at hx
  subst hx
  exact ⟨_,rfl,h.slots t,h.us t⟩
 |cell ad t=>
  simp only [Xq] at hx
  split at hx
  ·rename_i i g off ht hs
   have rx:=h.slots ad;rw [hs] at rx
   split at hx
   ·rename_i ws hog
    split at hx
    ·rename_i hlt
     simp only [Option.some.injEq] at hx;subst hx
     have hO:=h.aJ g;rw [hog] at hO
     obtain ⟨ad',had,cs,hl,hone,hcell,hrep⟩:=yM.cells hO
     obtain ⟨anD,LZ,hv⟩:=(by cases rx.bC with | box _ _ _ _ hb=>exact hb ws hog :∃ad',(gh g).ad=some ad'∧a.tmps.getD ad undef=.pointer (some ⟨ad'.block,ad'.off+off,none⟩))
     rw [had] at LZ;cases LZ
     have hl':((cs.drop off).take i.size).length=i.size:=by simp;omega
     obtain ⟨v,hrun,hval⟩:=jl (Pg:=Pg) (w:=w) (htt _ _ ht) ad'.block (ad'.off+off) ((cs.drop off).take i.size) hl' (fun j u hu=>by
      have hj:j<i.size:=by have:=(List.getElem?_eq_some_iff.1 hu).1;omega
      rw [List.getElem?_take,if_pos hj,List.getElem?_drop] at hu
      rw [Nat.add_assoc];exact hcell _ _ hu) (fun _=>hlt.2)
     refine ⟨v,by simp only [C_];rw [hv];simpa [asAddr] using hrun,iJ (cs:=(cs.drop off).take i.size) (by simp;omega) (fun c hc=>hone c (List.mem_of_mem_drop (List.mem_of_mem_take hc)))
      (fun j y u hy hu => ?_) v hval,fun g' hg' => ?_⟩
     ·have hj:j<i.size:=by have:=(List.getElem?_eq_some_iff.1 hu).1;omega
      rw [List.getElem?_take,if_pos hj,List.getElem?_drop] at hy hu
      exact hrep _ _ _ hy hu
     ·obtain ⟨x,hx,hg'⟩:=gX hg'
      exact h.uo g g' (by rw [hog];simp only [O.names,List.mem_flatMap];exact ⟨x,List.mem_of_mem_drop (List.mem_of_mem_take hx),hg'⟩)
    ·cases hx
   ·cases hx
  ·cases hx
theorem Es (htt:fF Pg tt) {st:St} {gh:Nat→Gh} {a:Act} {w:World} (h:Rel E st gh (fun t=>a.tmps.getD t undef) w) :∀{rs:List ResultVar} {xs:List S},Ep tt st rs=some xs→
  ∃vs:List Value,(rs.mapM (C_ a.tmps)).run Pg w=.ok vs w∧vs.length=rs.length∧
   ∀k,bD E st gh w (xs.getD k .no) (vs.getD k undef)∧∀g∈(xs.getD k .no).names,st.used g=true
 | [],xs,hx=>by
  simp only [Ep,Option.some.injEq] at hx
  subst hx
  exact ⟨[],rfl,rfl,fun k=>⟨.no _,by simp [S.names]⟩⟩
 |r::rs,xs,hx=>by
  simp only [Ep] at hx
  split at hx
  ·rename_i x xs h1 h2
   simp only [Option.some.injEq] at hx
   subst hx
   obtain ⟨v,q1,q2,q3⟩:=SC htt h h1
   obtain ⟨vs,p1,p2,p3⟩:=Es htt h h2
   refine ⟨v::vs,?_,by simp [p2],fun k => ?_⟩
   ·rw [List.mapM_cons,Sem.run_bind,q1]
    show Sem.run Pg _ w=_
    rw [Sem.run_bind,p1];rfl
   ·cases k with
    |zero=>exact ⟨q2,q3⟩
    |succ k=>simpa using p3 k
  ·cases hx
theorem JR (htt:fF Pg tt) {st:St} {gh:Nat→Gh} {a:Act} {w:World} (h:Rel E st gh (fun t=>a.tmps.getD t undef) w) {fn:Func} {ts:List ResultVar} (hr:fn.results=ts.toArray) {xs:List S} (hx:Ep tt st ts=some xs) :
  ∃vs:List Value,(results fn a.tmps).run Pg w=.ok (WV vs) w∧vs.length=ts.length∧∀k,bD E st gh w (xs.getD k .no) (vs.getD k undef)∧∀g∈(xs.getD k .no).names,st.used g=true:=by
 obtain ⟨vs,q1,q2,q3⟩:=Es htt h hx
 refine ⟨vs,?_,q2,q3⟩
 rw [SB hr,Sem.run_bind,Sem.run_map,q1]
 match vs with
 | []=>rfl
 | [v]=>rfl
 |v::u::vs=>simp [WV]
theorem Zc {f:FuncId} {fn:Func} {c:Code} {sp:Spec} (ts:List ResultVar) (hf:Pg.funcs[f]?=some fn) (hb:fn.body=some c) (hname:(fn.name == "runtime.NumGoroutine")=false) (hres:fn.results=ts.toArray)
  (hok:sp.sig.ok=true) (Ec:(sp.sig.aN.all fun g=>sp.sig.pin.nms.contains g)=true) (hlk :∀ins aY,sp.R ins aY→∀g∈sp.sig.aN,((Fw.mk sp.sig.pin ins).o g).like ((Fw.mk sp.sig.aF aY).o g)) (hn:sp.sig.aZ≤fn.ntmps) (hnr:ts.length=sp.sig.bY)
  (hT :∀f sp,T f=some sp→Sound Pg (f % 1000000) sp) (htt:fF Pg tt) (hm:Fit Pg)
  (h :∀ins aY,sp.R ins aY→exec T tt fn.ntmps sp.sig.aN c (Fw.mk sp.sig.pin ins) (aeN tt sp.sig ts aY)):Sound Pg f sp:=by
 refine ⟨hok,fun args w => ?_,fun E w vals gh ins aY hR hB hw0 aeH hlen => ?_⟩
 ·have hname':¬ fn.name = "runtime.NumGoroutine" := by simpa using hname
  simp [callFunc,hf,hname',hb]
 ·have hsz:vals.toArray.size≤fn.ntmps:=by simp;omega
  refine callsIn_wide.1 (callsIn_of_wp_marks (n:=0) hf hb trivial (wpIn_wide.2 (SA (E:=E) (N:=fn.ntmps) (aN:=sp.sig.aN) (oH:=gh) hT htt hm c (h ins aY hR) ⟨⟨gh,?_,fun g hg=>⟨?_,.inr ⟨rfl,rfl⟩⟩⟩,by simp;omega,Marks.nil rfl⟩ ?_)) rfl)
  ·have e:(fun t=>(vals.toArray++Array.replicate (fn.ntmps-vals.toArray.size) undef).getD t undef)=fun k=>vals.getD k undef:=by
    funext t
    rw [Array.getD_eq_getD_getElem?,List.getD_eq_getElem?_getD,Array.getElem?_append]
    split
    ·simp
    ·rename_i ht
     have ht:vals.length≤t:=by simpa using ht
     rw [List.getElem?_eq_none ht,Array.getElem?_replicate]
     split<;>rfl
   rw [e];exact aeH
  ·exact (List.all_eq_true.1 Ec) g hg
  ·have fin :∀st a w',Fin tt sp.sig ts aY st→Good E fn.ntmps sp.sig.aN gh st a w'→LeavesInM Fence.wide 0 Pg fn a.tmps (fun e w' =>∃(rs:List Value) (aQ:Nat→Gh),rs.length=sp.sig.bY∧e=.returned (WV rs)∧Rel E (Fw.mk sp.sig.aF aY) aQ (fun k=>rs.getD k undef) w'∧∀g∈sp.sig.aN,((aQ g).ad=(gh g).ad∧(aQ g).cap=(gh g).cap)∧((Fw.mk sp.sig.pin ins).o g).like ((Fw.mk sp.sig.aF aY).o g)) a.defers .returning w':=by
    intro st a w' hBk hg
    unfold Fin at hBk
    split at hBk
    rotate_left
    ·cases hBk
    rename_i xs hxs
    obtain ⟨⟨jT,hR1,Ie⟩,_,Ds,hd1,hd2,hd3⟩:=hg
    rw [hd1]
    clear hd1
    induction Ds generalizing w' with
    |nil=>
     obtain ⟨rs,hrun,hrl,hrs⟩:=JR htt hR1 hres hxs
     refine ⟨_,hrun,rs,?_⟩
     have hfin:Rel E (P6 xs st) jT (fun k=>rs.getD k undef) w':=by
      refine ⟨fun k => ?_,fun g=>kF.congr (st:=st) (st':=P6 xs st) rfl (hR1.aJ g),hR1.inj,hR1.wr,hR1.wi,hR1.ns,hR1.wb,hR1.frame,hR1.size,hR1.os,hR1.tape,hR1.output,fun k g hg=>(hrs k).2 g hg,hR1.uo,hR1.ul⟩
      exact bD.congr (st:=st) (st':=P6 xs st) rfl (hrs k).1
     obtain ⟨aQ,r1,r2⟩:=PZ hfin Ie hBk
     exact ⟨aQ,by omega,rfl,r1,fun g hg=>⟨r2 g hg,hlk ins aY hR g hg⟩⟩
    |cons D Ds ih=>
     obtain ⟨h1,h2⟩:=hd3 D (by simp)
     have hnd:=List.nodup_cons.1 hd2
     refine ⟨by simp,.inl ⟨D,_,rfl,run_takeDeferred h2,ih _ (hR1.turn h2 rfl h1 _) hnd.2 fun D' hD' => ?_⟩⟩
     obtain ⟨q1,q2⟩:=hd3 D' (by simp [hD'])
     exact ⟨q1,(World.putObj_heap_other (fun e:D'=D=>hnd.1 (by rw [←e];exact hD'))).trans q2⟩
   exact ⟨fun st a w' hk hg=>fin st a w' hk hg,fun id st a w' hk=>hk.elim,fun st a w' hk hg=>fin st a w' hk hg⟩
end
end Go.Fw

namespace Go.Fg
open Go.Fw
set_option linter.unusedVariables false
set_option linter.unusedSectionVars false
inductive Ty where
 |int (k:IntKind)
 |bool
 |str
 |sl (e:Ty)
 |prod (a b:Ty)
 |st (n:Nat)
 |opq
 |sq (e:Ty)
 |mp (ag:Bool) (k v:Ty)
def SE:(a b:IntKind)→Option (PLift (a=b))
 |.i8,.i8=>some ⟨rfl⟩
 |.i16,.i16=>some ⟨rfl⟩
 |.i32,.i32=>some ⟨rfl⟩
 |.i64,.i64=>some ⟨rfl⟩
 |.u8,.u8=>some ⟨rfl⟩
 |.u16,.u16=>some ⟨rfl⟩
 |.u32,.u32=>some ⟨rfl⟩
 |.u64,.u64=>some ⟨rfl⟩
 |_,_=>none
def Zd (a b:Nat):Option (PLift (a=b)):=match h:Nat.beq a b with
 |true=>some ⟨Nat.eq_of_beq_eq_true h⟩
 |false=>none
def agI:(a b:Bool)→Option (PLift (a=b))
 |true,true=>some ⟨rfl⟩
 |false,false=>some ⟨rfl⟩
 |_,_=>none
def Ty.eq:(a b:Ty)→Option (PLift (a=b))
 |.int k,.int k'=>match SE k k' with
  |some ⟨h⟩=>some ⟨h▸rfl⟩
  |none=>none
 |.bool,.bool=>some ⟨rfl⟩
 |.str,.str=>some ⟨rfl⟩
 |.opq,.opq=>some ⟨rfl⟩
 |.sl a,.sl b=>match Ty.eq a b with
  |some ⟨h⟩=>some ⟨h▸rfl⟩
  |none=>none
 |.sq a,.sq b=>match Ty.eq a b with
  |some ⟨h⟩=>some ⟨h▸rfl⟩
  |none=>none
 |.prod a b,.prod a' b'=>match Ty.eq a a',Ty.eq b b' with
  |some ⟨h⟩,some ⟨h'⟩=>some ⟨h▸h'▸rfl⟩
  |_,_=>none
 |.st n,.st m=>match Zd n m with
  |some ⟨h⟩=>some ⟨h▸rfl⟩
  |none=>none
 |.mp g a b,.mp g' a' b'=>match agI g g',Ty.eq a a',Ty.eq b b' with
  |some ⟨h0⟩,some ⟨h⟩,some ⟨h'⟩=>some ⟨h0▸h▸h'▸rfl⟩
  |_,_,_=>none
 |_,_=>none
def Ty.word:Ty→Bool
 |.prod _ _=>false
 |.st _=>false
 |.mp _ _ _=>false
 |_=>true
def Ty.flat:Ty→Bool
 |.int _=>true
 |.bool=>true
 |.str=>true
 |.opq=>true
 |_=>false
def D (C:Nat→Type):Ty→Type
 |.int _=>Int
 |.bool=>Bool
 |.str=>List UInt8
 |.sl e=>List (D C e)
 |.prod a b=>D C a×D C b
 |.st n=>C n
 |.opq=>Value
 |.sq e=>List (D C e)
 |.mp _ a b=>D C a×D C b
structure TP (C:Nat→Type) where
 t:Ty
 x:D C t
def TP.get {C:Nat→Type} (t:Ty) (d:D C t) (ws:List (TP C)) (n:Nat):D C t:=match ws[n]? with
 |some w=>match Ty.eq w.t t with
  |some ⟨h⟩=>h▸w.x
  |none=>d
 |none=>d
theorem bJ {C:Nat→Type} {ws:List (TP C)} {t:Ty} {ts:List Ty} (h:ws.map (·.t)=t::ts) :∃x ws',ws=⟨t,x⟩::ws'∧ws'.map (·.t)=ts:=by
 cases ws with
 |nil=>cases h
 |cons w ws=>
  obtain ⟨t',x⟩:=w
  simp only [List.map_cons,List.cons.injEq] at h
  obtain ⟨rfl,h⟩:=h
  exact ⟨x,ws,rfl,h⟩
theorem dN {C:Nat→Type} {ws:List (TP C)} (h:ws.map (·.t)=[]):ws=[]:=by simpa using h
def Ih {C:Nat→Type} (size:Ty→Nat) (fH:(t:Ty)→D C t→List P):(t:Ty)→D C t→P
 |.int k,x=>.int k x
 |.bool,b=>.bool b
 |.str,s=>.str ⟨s.toArray⟩
 |.sl e,l=>P.dX (size e) (List.map (fH e) l)
 |.opq,v=>.opq v
 |.sq e,l=>.seq (List.map (fH e) l)
 |.prod _ _,_=>default
 |.st _,_=>default
 |.mp _ _ _,_=>default
def kQ {C:Nat→Type} (F:Nat→List Ty) (er:(n:Nat)→C n→List P) (size:Ty→Nat):(t:Ty)→D C t→List P
 |.int k,x=>[.int k x]
 |.bool,b=>[.bool b]
 |.str,s=>[.str ⟨s.toArray⟩]
 |.sl e,l=>[P.dX (size e) (List.map (kQ F er size e) l)]
 |.opq,v=>[.opq v]
 |.sq e,l=>[.seq (List.map (kQ F er size e) l)]
 |.prod a b,x=>kQ F er size a x.1++kQ F er size b x.2
 |.st n,x=>er n x
 |.mp _ a b,x=>kQ F er size a x.1++kQ F er size b x.2
def Dc (F:Nat→List Ty):Ty→Nat
 |.prod a b=>Dc F a+Dc F b
 |.mp _ a b=>Dc F a+Dc F b
 |.st n=>(F n).length
 |_=>1
def kR (F:Nat→List Ty):Ty→Nat
 |.mp g a b=>(bif g then 2000000 else 1000000)+(Dc F a+Dc F b)
 |t=>Dc F t
class RE where
 C:Nat→Type
 F:Nat→List Ty
 dflt:(n:Nat)→C n
 un:(n:Nat)→C n→List (TP C)
 ro:(n:Nat)→List (TP C)→C n
 er:(n:Nat)→C n→List P
 Fwd :∀n,(F n).all Ty.word=true
 adM :∀n x,(un n x).map (·.t)=F n
 adN :∀n ws,ws.map (·.t)=F n→un n (ro n ws)=ws
 adO :∀n x,er n x=(un n x).map fun w=>Ih (kR F) (kQ F er (kR F)) w.t w.x
 hd:Nat:=999999
 hdF:F hd=[]:=by rfl
 G:Nat→Option ((e:Ty)×List (D C e)):=fun _=>none
 Q:World→List Nat→List (List P)→Value→Prop:=fun _ _ _ _=>False
 aeO :∀{w w':World} {S:List Nat} {l:List (List P)} {v:Value},(∀b∈S,w'.heap[b]?=w.heap[b]?)→Q w S l v→Q w' S l v:=by intro _ _ _ _ _ _ h;exact h
section
variable [RE]
abbrev Dt (t:Ty):Type:=D RE.C t
abbrev Wd:=TP RE.C
def size:Ty→Nat:=kR RE.F
def wl:Ty→Nat:=Dc RE.F
def lJ (t:Ty):Bool:=Nat.blt (size t) 1000000
def fH:(t:Ty)→Dt t→List P:=kQ RE.F RE.er (kR RE.F)
instance:dA:=⟨fun g=>(RE.G g).map fun x=>(size x.1,List.map (fH x.1) x.2),RE.Q,RE.aeO⟩
theorem adP (g:Nat):dA.gt g=(RE.G g).map fun x=>(size x.1,List.map (fH x.1) x.2):=rfl
def aS (w:Wd):P:=Ih (kR RE.F) (kQ RE.F RE.er (kR RE.F)) w.t w.x
def dflt:(t:Ty)→Dt t
 |.int _=>(0:Int)
 |.bool=>false
 |.str=>([]:List UInt8)
 |.sl e=>([]:List (Dt e))
 |.prod a b=>(dflt a,dflt b)
 |.st n=>RE.dflt n
 |.opq=>Value.nilFunc
 |.sq e=>([]:List (Dt e))
 |.mp _ a b=>(dflt a,dflt b)
def TP.wu (t:Ty) (w:Wd):Option (Dt t):=match Ty.eq w.t t with
 |some ⟨h⟩=>some (h▸w.x)
 |none=>none
def TP.as (t:Ty) (w:Wd):Dt t:=match Ty.eq w.t t with
 |some ⟨h⟩=>h▸w.x
 |none=>dflt t
def b_:(t:Ty)→Dt t→List Wd
 |.prod a b,x=>b_ a x.1++b_ b x.2
 |.mp _ a b,x=>b_ a x.1++b_ b x.2
 |.st n,x=>RE.un n x
 |.int k,x=>[⟨.int k,x⟩]
 |.bool,x=>[⟨.bool,x⟩]
 |.str,x=>[⟨.str,x⟩]
 |.sl e,x=>[⟨.sl e,x⟩]
 |.opq,x=>[⟨.opq,x⟩]
 |.sq e,x=>[⟨.sq e,x⟩]
def fE:Ty→List Ty
 |.prod a b=>fE a++fE b
 |.mp _ a b=>fE a++fE b
 |.st n=>RE.F n
 |t=>[t]
def dK:(t:Ty)→List Wd→Dt t
 |.prod a b,ws=>(dK a (ws.take (wl a)),dK b (ws.drop (wl a)))
 |.mp _ a b,ws=>(dK a (ws.take (wl a)),dK b (ws.drop (wl a)))
 |.st n,ws=>RE.ro n ws
 |.int k,ws=>match ws with
  |w::_=>w.as (.int k)
  | []=>dflt (.int k)
 |.bool,ws=>match ws with
  |w::_=>w.as .bool
  | []=>dflt .bool
 |.str,ws=>match ws with
  |w::_=>w.as .str
  | []=>dflt .str
 |.sl e,ws=>match ws with
  |w::_=>w.as (.sl e)
  | []=>dflt (.sl e)
 |.opq,ws=>match ws with
  |w::_=>w.as .opq
  | []=>dflt .opq
 |.sq e,ws=>match ws with
  |w::_=>w.as (.sq e)
  | []=>dflt (.sq e)
theorem Ty.eq_self :∀(t:Ty),∃h,Ty.eq t t=some ⟨h⟩:=by
 intro t
 induction t with
 |int k=>cases k<;>exact ⟨rfl,rfl⟩
 |bool=>exact ⟨rfl,rfl⟩
 |str=>exact ⟨rfl,rfl⟩
 |opq=>exact ⟨rfl,rfl⟩
 |sl e ih=>obtain ⟨h,ih⟩:=ih;exact ⟨rfl,by simp [Ty.eq,ih]⟩
 |sq e ih=>obtain ⟨h,ih⟩:=ih;exact ⟨rfl,by simp [Ty.eq,ih]⟩
 |prod a b iha ihb=>obtain ⟨h,iha⟩:=iha;obtain ⟨h',ihb⟩:=ihb;exact ⟨rfl,by simp [Ty.eq,iha,ihb]⟩
 |st n=>
  refine ⟨rfl,?_⟩
  have:Zd n n=some ⟨rfl⟩:=by
   unfold Zd
   split
   ·rfl
   ·rename_i h;simp at h
  simp [Ty.eq,this]
 |mp g a b iha ihb=>obtain ⟨h,iha⟩:=iha;obtain ⟨h',ihb⟩:=ihb;exact ⟨rfl,by cases g<;>simp [Ty.eq,agI,iha,ihb]⟩
theorem rE (t:Ty) (x:Dt t):TP.as t ⟨t,x⟩=x:=by
 obtain ⟨h,e⟩:=Ty.eq_self t
 simp [TP.as,e]
theorem vP {t:Ty} {w:Wd} (h:w.t=t):(⟨t,w.as t⟩:Wd)=w:=by
 obtain ⟨t',x⟩:=w
 simp only at h;subst h
 rw [rE]
theorem d_ {t:Ty} {w:Wd} {x:Dt t} (h:w.wu t=some x):w=⟨t,x⟩:=by
 obtain ⟨t',y⟩:=w
 unfold TP.wu at h
 split at h
 ·rename_i e he
  simp only at e
  subst e
  simp only [Option.some.injEq] at h
  subst h;rfl
 ·cases h
theorem aeP {t:Ty} {w:Wd} {x:Dt t} (h:w.wu t=some x):w.t=t:=by rw [d_ h]
theorem kH :∀(t:Ty),(fE t).length=wl t
 |.prod a b=>by
  have h1:=kH a
  have h2:=kH b
  simp only [wl] at h1 h2
  simp [fE,wl,Dc,h1,h2]
 |.mp g a b=>by
  have h1:=kH a
  have h2:=kH b
  simp only [wl] at h1 h2
  simp [fE,wl,Dc,h1,h2]
 |.st n=>by simp [fE,wl,Dc]
 |.int k=>rfl
 |.bool=>rfl
 |.str=>rfl
 |.sl e=>rfl
 |.opq=>rfl
 |.sq e=>rfl
theorem uY {α:Type} {b:Bool} {x y:Option α} {z:α} (hy:y=none) (h:(bif b then x else y)=some z):b=true∧x=some z:=by subst hy;cases b<;>first | exact ⟨rfl,h⟩ | cases h
theorem kT {t:Ty} (h:lJ t=true):size t<MB:=by simpa [lJ,Nat.blt_eq,MB] using h
theorem Bd {t:Ty} (h:lJ t=true):size t=wl t:=by
 have:=kT h
 cases t<;>first | rfl | (rename_i g a b;simp only [size,kR,MB] at this;cases g<;>simp at this<;>omega)
theorem KL {t:Ty} (h:lJ t=false):MB≤size t:=by
 cases Nat.lt_or_ge (size t) MB with
 |inl hlt=>
  rw [(by simpa [lJ,Nat.blt_eq,MB] using hlt:lJ t=true)] at h;cases h
 |inr hge=>exact hge
theorem agJ {t:Ty} (h:wl t<MB):rw (size t)=wl t:=by
 have e:MB=1000000:=rfl
 cases t with
 |mp g a b=>
  have h0:Dc RE.F a+Dc RE.F b<MB:=h
  show rw ((bif g then 2000000 else 1000000)+(Dc RE.F a+Dc RE.F b))=Dc RE.F a+Dc RE.F b
  unfold rw
  cases g
  ·rw [if_neg (by simp only [cond_false];omega),cond_false,show 1000000+(Dc RE.F a+Dc RE.F b)=(Dc RE.F a+Dc RE.F b)+MB by omega,Nat.add_mod_right,Nat.mod_eq_of_lt h0]
  ·rw [if_neg (by simp only [cond_true];omega),cond_true,show 2000000+(Dc RE.F a+Dc RE.F b)=(Dc RE.F a+Dc RE.F b)+MB+MB by omega,Nat.add_mod_right,Nat.add_mod_right,Nat.mod_eq_of_lt h0]
 |_=>exact J4 h
theorem Bf {t:Ty} (h:lJ t=true):(fE t).length=size t:=(kH t).trans (Bd h).symm
theorem l7 :∀(t:Ty) (x:Dt t),(b_ t x).map (·.t)=fE t
 |.prod a b,x=>by simp [b_,fE,l7 a,l7 b]
 |.mp _ a b,x=>by simp [b_,fE,l7 a,l7 b]
 |.st n,x=>by simp [b_,fE];exact RE.adM n x
 |.int k,x=>rfl
 |.bool,x=>rfl
 |.str,x=>rfl
 |.sl e,x=>rfl
 |.opq,x=>rfl
 |.sq e,x=>rfl
theorem tN (t:Ty) (x:Dt t):(b_ t x).length=wl t:=by
 rw [←kH,←l7 t x,List.length_map]
theorem KN {t:Ty} (h:lJ t=true) (x:Dt t):(b_ t x).length=size t:=by rw [tN,Bd h]
theorem dQ :∀(t:Ty) (x:Dt t),fH t x=(b_ t x).map aS
 |.prod a b,x=>by
  show fH a x.1++fH b x.2=_
  rw [dQ a x.1,dQ b x.2];simp [b_]
 |.mp _ a b,x=>by
  show fH a x.1++fH b x.2=_
  rw [dQ a x.1,dQ b x.2];simp [b_]
 |.st n,x=>RE.adO n x
 |.int k,x=>rfl
 |.bool,x=>rfl
 |.str,x=>rfl
 |.sl e,x=>rfl
 |.opq,x=>rfl
 |.sq e,x=>rfl
theorem U6 (t:Ty) (x:Dt t):(fH t x).length=wl t:=by rw [dQ,List.length_map,tN]
theorem P7 {t:Ty} (h:lJ t=true) (x:Dt t):(fH t x).length=size t:=by rw [U6,Bd h]
theorem Df {ws:List Wd} {t:Ty} (h:ws.map (·.t)=[t]) :∃w,ws=[w]∧w.t=t:=by
 match ws with
 | []=>cases h
 | [w]=>exact ⟨w,rfl,by simpa using h⟩
 |w::u::ws=>simp at h
theorem xu :∀(t:Ty) (ws:List Wd),ws.map (·.t)=fE t→b_ t (dK t ws)=ws
 |.prod a b,ws,h=>by
  have h1:(ws.take (wl a)).map (·.t)=fE a:=by rw [List.map_take,h];simp [fE,←kH]
  have h2:(ws.drop (wl a)).map (·.t)=fE b:=by rw [List.map_drop,h];simp [fE,←kH]
  show b_ a (dK a (ws.take (wl a)))++b_ b (dK b (ws.drop (wl a)))=ws
  rw [xu a _ h1,xu b _ h2,List.take_append_drop]
 |.mp _ a b,ws,h=>by
  have h1:(ws.take (wl a)).map (·.t)=fE a:=by rw [List.map_take,h];simp [fE,←kH]
  have h2:(ws.drop (wl a)).map (·.t)=fE b:=by rw [List.map_drop,h];simp [fE,←kH]
  show b_ a (dK a (ws.take (wl a)))++b_ b (dK b (ws.drop (wl a)))=ws
  rw [xu a _ h1,xu b _ h2,List.take_append_drop]
 |.st n,ws,h=>RE.adN n ws h
 |.int k,ws,h=>by
  obtain ⟨w,rfl,hw⟩:=Df (t:=(.int k)) h
  show [(⟨.int k,w.as (.int k)⟩:Wd)]=[w]
  rw [vP hw]
 |.bool,ws,h=>by
  obtain ⟨w,rfl,hw⟩:=Df (t:=.bool) h
  show [(⟨.bool,w.as .bool⟩:Wd)]=[w]
  rw [vP hw]
 |.str,ws,h=>by
  obtain ⟨w,rfl,hw⟩:=Df (t:=.str) h
  show [(⟨.str,w.as .str⟩:Wd)]=[w]
  rw [vP hw]
 |.sl e,ws,h=>by
  obtain ⟨w,rfl,hw⟩:=Df (t:=(.sl e)) h
  show [(⟨.sl e,w.as (.sl e)⟩:Wd)]=[w]
  rw [vP hw]
 |.opq,ws,h=>by
  obtain ⟨w,rfl,hw⟩:=Df (t:=.opq) h
  show [(⟨.opq,w.as .opq⟩:Wd)]=[w]
  rw [vP hw]
 |.sq e,ws,h=>by
  obtain ⟨w,rfl,hw⟩:=Df (t:=(.sq e)) h
  show [(⟨.sq e,w.as (.sq e)⟩:Wd)]=[w]
  rw [vP hw]
theorem nT {t:Ty} {ws:List Wd} (h:ws.map (·.t)=fE t):fH t (dK t ws)=ws.map aS:=by rw [dQ,xu t ws h]
def ak (e:Ty) (l:List (Dt e)):List (List P):=List.map (fH e) l
theorem oP (e:Ty) (l:List (Dt e)):aS ⟨.sl e,l⟩=P.dX (size e) (ak e l):=rfl
theorem jC (e:Ty) (l:List (Dt e)):(aS ⟨.sl e,l⟩).list=ak e l:=by rw [oP,P.mZ]
theorem Xr {w:Wd} (h:w.t.flat=true):(aS w).flat=true:=by
 obtain ⟨t,x⟩:=w
 cases t<;>simp [Ty.flat] at h<;>rfl
end
end Go.Fg

namespace Go.Fg
open Go.Fw
set_option linter.unusedVariables false
set_option linter.unusedSectionVars false
section
variable [RE]
inductive TW where
 |p (a i:Bool) (w:Wd)
 |bg
 |own (g:Nat)
 |vw (g:Nat) (lo hi:Int)
 |box (g off:Nat)
 |ep (g:Nat) (n:Int) (off:Nat)
 |sp (a i:Bool) (t:Ty) (x:Dt t) (off:Nat)
 |clo (f:FuncId) (caps:List TW)
 |gl (g:Nat)
 |lQ (g:Nat)
 |no
inductive TV where
 |one (x:TW)
 |agg (xs:List TW)
inductive TS where
 |v (x:TV)
 |jH (xs:List TV)
 |no
inductive TO where
 |none
 |box (ws:List TW)
 |arr (fz a i:Bool) (e:Ty) (l:List (Dt e))
 |it (s:List UInt8) (n:Int)
 |ay (a i:Bool) (e:Ty) (ah:List (Nat×Ty)) (l:List (Dt e)) (hole:Option (Nat×Nat×Nat))
mutual
def aT:TW→W
 |.p a i w=>.p a i (aS w)
 |.bg=>.bg
 |.own g=>.own g
 |.vw g lo hi=>.vw g (.int .i64 lo) (.int .i64 hi)
 |.box g off=>.box g off
 |.ep g n off=>.ep g (.int .i64 n) off
 |.sp a i t x off=>.sp a i (fH t x) off
 |.clo f caps=>.clo f (l9 caps)
 |.gl g=>.gl g
 |.lQ g=>.lQ g
 |.no=>.no
def l9:List TW→List W
 | []=>[]
 |x::xs=>aT x::l9 xs
end
theorem yw :∀(l:List TW),l9 l=l.map aT
 | []=>rfl
 |x::xs=>by simp [l9,yw xs]
def gK:TV→V
 |.one x=>.one (aT x)
 |.agg xs=>.agg (xs.map aT)
def aG:TS→S
 |.v x=>.v (gK x)
 |.jH xs=>.jH (xs.map gK)
 |.no=>.no
def fP (ah:List (Nat×Ty)):List (Nat×Nat):=ah.map fun c=>(c.1,size c.2)
def bV:TO→O
 |.none=>.none
 |.box ws=>.box (ws.map aT)
 |.arr fz a i e l=>.arr fz a i (size e) (ak e l)
 |.it s n=>.it (.str ⟨s.toArray⟩) (.int .i64 n)
 |.ay a i e ah l hole=>.ay a i (size e) (fP ah) (ak e l) hole
def iD {α:Type} (d:α):List (Nat×α)→Nat→α
 | [],_=>d
 |(k,v)::r,t=>bif Nat.beq t k then v else iD d r t
def vY {α:Type} (k:Nat) (v:α):List (Nat×α)→List (Nat×α)
 | []=>[(k,v)]
 |(k',v')::r=>bif Nat.beq k k' then (k,v)::r else (k',v')::vY k v r
def dR (g:Nat):List Nat→Bool
 | []=>false
 |x::xs=>Nat.beq g x||dR g xs
structure gI where
 s:List (Nat×TS)
 o:List (Nat×TO)
 u:List Nat
def gI.gs (st:gI) (t:Nat):TS:=iD .no st.s t
def gI.go (st:gI) (g:Nat):TO:=iD .none st.o g
def aB (st:gI):St:={ s:=fun t=>aG (st.gs t),o:=fun g=>bV (st.go g),used:=fun g=>dR g st.u }
def aW (o:Nat→TO):Nat→O:=fun g=>bV (o g)
def gU (k:IntKind) (x:Int):Wd:=⟨.int k,x⟩
def gQ (x:Bool):Wd:=⟨.bool,x⟩
def P8 (x:List UInt8):Wd:=⟨.str,x⟩
def qL (e:Ty) (x:List (Dt e)):Wd:=⟨.sl e,x⟩
def ajm (x:Value):Wd:=⟨.opq,x⟩
def U7:Value→TW
 |.int k n=>.p false false (gU k n)
 |.bool b=>.p false false (gQ b)
 |.string s=>.p false false (P8 s.data.toList)
 |.slice none 0 0=>.bg
 |v=>.p false false (ajm v)
def SG:Value→TS
 |.agg cs=>bif cs.toList.all Value.oneCell' then .v (.agg (cs.toList.map U7)) else .no
 |.tuple _=>.no
 |.func (.func f) ⟨[]⟩ ⟨[]⟩=>.v (.one (.clo f []))
 |v=>bif v.oneCell' then .v (.one (U7 v)) else .no
def gI.bf (st:gI):Operand→TS
 |.tmp t=>st.gs t
 |.const v=>SG v
 |.func f=>.v (.one (.clo f []))
 |.global g=>match RE.G g with
  |some _=>.v (.one (.gl g))
  |none=>.no
structure oI where
 pre:Bool
 t:Ty
 val:Dt t
 dst:Dt t→TS
 au:Dt t→List (Nat×TO)
 new:List Nat
def oI.pure (x:TS):oI:={ pre:=true,t:=.bool,val:=false,dst:=fun _=>x,au:=fun _=>[],new:=[] }
def U8 (w:Wd):TS:=.v (.one (.p false false w))
def oI.calc (pre:Bool) (t:Ty) (x:Dt t):oI:={ pre,t,val:=x,dst:=fun z=>U8 ⟨t,z⟩,au:=fun _=>[],new:=[] }
structure TA where
 a:Bool
 i:Bool
 e:Ty
 l:List (Dt e)
structure TH where
 a:Bool
 i:Bool
 e:Ty
 ah:List (Nat×Ty)
 l:List (Dt e)
def tyB (a b:Ty):Bool:=match Ty.eq a b with
 |some _=>true
 |none=>false
def tV (c:Nat):List (Nat×Ty)→Option Ty
 | []=>none
 |(k,t)::r=>bif Nat.beq c k then some t else tV c r
def Xt (e:Ty) (ah:List (Nat×Ty)) (c:Nat) (e':Ty):Bool:=(match tV c ah with
 |some t=>tyB t e'
 |none=>false)&&(match (fE e)[c]? with
 |some (.sl t)=>tyB t e'
 |_=>false)&&Nat.blt (wl e) 1000000
def JU (e:Ty) (whole:Bool) (x:Dt e) (off:Nat) (ps:List Wd):Dt e:=match whole with
 |true=>dK e ps
 |false=>dK e (aA (b_ e x) off ps)
def putRow (e:Ty) (l:List (Dt e)) (n c:Nat) (w:Wd):List (Dt e):=List.set l n (JU e (Nat.beq 1 (wl e)) (l.getD n (dflt e)) c [w])
def mg (o:Nat→TO) (g:Nat):Option TA:=match o g with
 |.arr _ a i e l=>some ⟨a,i,e,l⟩
 |.ay a i e ah l hole=>match hole with
  |none=>some ⟨a,i,e,l⟩
  |some (n,c,d)=>match o d with
   |.arr _ a' i' e' l'=>match Xt e ah c e' with
    |true=>some ⟨a||a',i||i',e,putRow e l n c (qL e' l')⟩
    |false=>none
   |_=>none
 |_=>none
def gV:TO→List Nat
 |.ay _ _ _ _ _ hole=>match hole with
  |some (_,_,d)=>[d]
  |none=>[]
 |_=>[]
def Fj (o:Nat→TO) (g:Nat):Option (Ty×Nat):=match o g with
 |.arr _ _ _ e l=>bif lJ e then some (e,l.length) else none
 |.ay _ _ e _ l _=>bif lJ e then some (e,l.length) else none
 |_=>none
def TW.toP (o:Nat→TO) (t:Ty):TW→Option (Dt t×Bool×Bool×List Nat)
 |.p a i w=>match w.wu t with
  |some x=>some (x,a,i,[])
  |none=>none
 |.bg=>match t with
  |.sl e=>bif lJ e then some (([]:List (Dt e)),false,false,[]) else none
  |_=>none
 |.own g=>match mg o g with
  |some ⟨a,i,e,l⟩=>match (qL e l).wu t with
   |some x=>some (x,a,i,gV (o g)++[g])
   |none=>none
  |none=>none
 |.vw g lo hi=>match mg o g with
  |some ⟨a,i,e,l⟩=>match (qL e ((l.take hi.toNat).drop lo.toNat)).wu t with
   |some x=>bif lJ e then some (x,a,i,gV (o g)++[g]) else none
   |none=>none
  |none=>none
 |_=>none
def n_ (o:Nat→TO):List Ty→List TW→Option (List Wd×Bool×Bool×List Nat)
 | [],[]=>some ([],false,false,[])
 |t::ts,x::xs=>match x.toP o t,n_ o ts xs with
  |some (y,a,i,gs),some (ys,a',i',gs')=>some (⟨t,y⟩::ys,a||a',i||i',gs++gs')
  |_,_=>none
 |_,_=>none
def TV.words:TV→List TW
 |.one x=>[x]
 |.agg xs=>xs
def jG (o:Nat→TO) (g:Nat):Nat×TO:=
 (g,match mg o g with
  |some ⟨a,i,e,l⟩=>.arr true a i e l
  |none=>o g)
def TV.dh (agg:Bool) (ws:List TW):TS:=match agg with
 |true=>.v (.agg ws)
 |false=>match ws with
  | [x]=>.v (.one x)
  |_=>.no
def TW.solid:TW→Bool
 |.no=>false
 |_=>true
def TV.solid:TV→Bool
 |.one x=>x.solid
 |.agg _=>true
def Bg (place:Nat→Option (Nat×Nat)) (ws:List TW):List (Nat×TS)→Option (List TW)
 | []=>some ws
 |(n,.v x)::rest=>match place n with
  |some (off,size)=>bif Nat.beq x.words.length size&&Nat.ble (off+size) ws.length&&x.solid then Bg place (aA ws off x.words) rest else none
  |none=>none
 |_=>none
def TW.rows (o:Nat→TO) (e:Ty):TW→Option (List (Dt e)×Bool×Bool)
 |.p a i w=>match w.wu (.sl e) with
  |some l=>bif lJ e then some (l,a,i) else none
  |none=>none
 |.bg=>some ([],false,false)
 |.own g=>match o g with
  |.arr _ a i e' l=>match (qL e' l).wu (.sl e) with
   |some l=>some (l,a,i)
   |none=>none
  |_=>none
 |.vw g lo hi=>match o g with
  |.arr _ a i e' l=>match (qL e' ((l.take hi.toNat).drop lo.toNat)).wu (.sl e) with
   |some l=>some (l,a,i)
   |none=>none
  |_=>none
 |_=>none
def P9 (o:Nat→TO):TW→Option Int
 |.p _ _ ⟨.sl e,l⟩=>bif lJ e then some (List.length (α:=Dt e) l) else none
 |.bg=>some 0
 |.own g=>match Fj o g with
  |some (_,n)=>some n
  |none=>none
 |.vw g lo hi=>match Fj o g with
  |some _=>some (hi.toNat-lo.toNat:Nat)
  |none=>none
 |_=>none
def TW.live (o:Nat→TO):TW→Bool
 |.box g _=>match o g with
  |.box _=>true
  |_=>false
 |.ep g _ _=>match Fj o g with
  |some _=>true
  |none=>false
 |.sp _ _ _ _ _=>true
 |_=>false
def TW.shift (n:Nat):TW→TW
 |.box g off=>.box g (off+n)
 |.ep g k off=>.ep g k (off+n)
 |.sp a i t x off=>.sp a i t x (off+n)
 |x=>x
def jY (dflt:Int):Option TS→Option Int
 |none=>some dflt
 |some (.v (.one (.p _ _ ⟨.int .i64,x⟩)))=>some x
 |_=>none
def agK (n:Int):Int:=0-n
def eqI (a b:Int):Bool:=decide (a=b)
def inB (n:Int) (len:Nat):Bool:=decide (0≤n)&&decide (n<len)
def sU (lo hi:Int) (len:Nat):Bool:=decide (0≤lo)&&decide (lo≤hi)&&decide (hi≤(len:Int))
def P_ (bytes:Nat) (n c:Int):Bool:=decide (0≤n)&&decide (n≤c)&&decide (bytes*c≤281474976710656)&&decide (c≤9223372036854775807)
def strOf (l:List Int):List UInt8:=l.map fun n=>UInt8.ofNat n.toNat
def agL {α:Type} (lo hi:Int) (z:α) (l:List α):List α:=List.take lo.toNat l++List.replicate (hi.toNat-lo.toNat) z++List.drop (lo.toNat+(List.replicate (hi.toNat-lo.toNat) z).length) l
def aeR (s:List UInt8):List Int:=s.map fun b=>(b.toNat:Int)
def Qa (a b:Int):Int:=if b<a then b else a
def SH (a b:Int):Int:=if b>a then b else a
def SI (op:BinOp) (k k':IntKind) (a b:Int):Option (Bool×Wd):=
 match op with
 |.shl=>some (decide (0≤b),gU k (k.wrap (a*2 ^ min b.toNat k.bits)))
 |.shr=>some (decide (0≤b),gU k (a.fdiv (2 ^ min b.toNat k.bits)))
 |_=>match SE k k' with
  |none=>none
  |some _=>match op with
   |.add=>some (true,gU k (k.wrap (a+b)))
   |.sub=>some (true,gU k (k.wrap (a-b)))
   |.mul=>some (true,gU k (k.wrap (a*b)))
   |.quo=>some (!(decide (b=0)),gU k (k.wrap (a.tdiv b)))
   |.rem=>some (!(decide (b=0)),gU k (a.tmod b))
   |.and=>some (true,gU k (bits .and k a b))
   |.or=>some (true,gU k (bits .or k a b))
   |.xor=>some (true,gU k (bits .xor k a b))
   |.andNot=>some (true,gU k (bits .andNot k a b))
   |.eql=>some (true,gQ (decide (a=b)))
   |.neq=>some (true,gQ (!(decide (a=b))))
   |.lss=>some (true,gQ (decide (a<b)))
   |.leq=>some (true,gQ (decide (a≤b)))
   |.gtr=>some (true,gQ (decide (b<a)))
   |.geq=>some (true,gQ (decide (b≤a)))
   |_=>none
def Ze (n m:Nat):Bool:=Nat.ble n (9223372036854775807-m)&&Nat.ble m 9223372036854775807
theorem Xu {n m:Nat}:Ze n m=true↔n+m≤9223372036854775807:=by
 unfold Ze
 rw [Bool.and_eq_true,Nat.ble_eq,Nat.ble_eq]
 omega
def SK (op:BinOp) (a b:List UInt8):Option (Bool×Wd):=
 match op with
 |.add=>some (Ze a.length b.length,P8 (a++b))
 |.eql=>some (true,gQ (a==b))
 |.neq=>some (true,gQ (!(a==b)))
 |.lss=>some (true,gQ (Op.bytesLess a b))
 |.leq=>some (true,gQ (Op.bytesLess a b||a==b))
 |.gtr=>some (true,gQ (!(Op.bytesLess a b||a==b)))
 |.geq=>some (true,gQ (!Op.bytesLess a b))
 |_=>none
def Nq (op:BinOp) (a b:Bool):Option (Bool×Wd):=
 match op with
 |.eql=>some (true,gQ (a==b))
 |.neq=>some (true,gQ (a != b))
 |_=>none
def agM (k:TK) (op:BinOp) (x y:Wd):Option (Bool×Wd):=
 match k,x,y with
 |.int _,⟨.int k,a⟩,⟨.int k',b⟩=>SI op k k' a b
 |.str,⟨.str,a⟩,⟨.str,b⟩=>SK op a b
 |.bool,⟨.bool,a⟩,⟨.bool,b⟩=>Nq op a b
 |_,_,_=>none
def unT (op:UnOp) (x:Wd):Option Wd:=
 match op,x with
 |.neg,⟨.int k,n⟩=>some (gU k (k.wrap (agK n)))
 |.not,⟨.bool,b⟩=>some (gQ (!b))
 |_,_=>none
def adQ (k k':IntKind) (m n:Int):Option Bool:=
 match SE k k' with
 |some _=>some (decide (m=n))
 |none=>none
def eqStr (a b:List UInt8):Option Bool:=some (a==b)
def agN (a b:Bool):Option Bool:=some (a==b)
def aeS (k:TK) (x y:Wd):Option Bool:=
 match k,x,y with
 |.int _,⟨.int a,m⟩,⟨.int b,n⟩=>adQ a b m n
 |.str,⟨.str,a⟩,⟨.str,b⟩=>eqStr a b
 |.bool,⟨.bool,a⟩,⟨.bool,b⟩=>agN a b
 |_,_,_=>none
def Fp (tt:TT):Nat→List (Nat×TypeId)→List TW→List TW→Option Bool
 |_,[],[],[]=>some true
 |n,(off,t)::fs,.p _ _ x::xs,.p _ _ y::ys=>match tt t with
  |some i=>bif Nat.beq off n&&i.k.flat&&Nat.beq i.size 1 then match aeS i.k x y,Fp tt (n+1) fs xs ys with
   |some b,some c=>some (b&&c)
   |_,_=>none
   else none
  |none=>none
 |_,_,_,_=>none
def oI.nG (c:Bool×Wd):oI:=.calc c.1 c.2.t c.2.x
def Zf:Wd→Value→Bool
 |⟨.int k,n⟩,.int k' n'=>(match SE k k' with | some _=>true | none=>false)&&eqI n n'
 |⟨.bool,b⟩,.bool b'=>BEq.beq (α:=Bool) b b'
 |⟨.str,s⟩,.string s'=>List.isEmpty (α:=UInt8) s&&s'.data.toList.isEmpty
 |⟨.sl e,l⟩,.slice none 0 0=>List.isEmpty (α:=Dt e) l&&lJ e
 |_,_=>false
def sV:List Wd→List Value→Bool
 | [],[]=>true
 |w::ws,v::vs=>Zf w v&&sV ws vs
 |_,_=>false
def Zg (a i:Bool) (ws:List Wd):List TW:=ws.map (TW.p a i)
def Nr (tt:TT) (ety:TypeId→Option Ty) (d:Nat) (o:Nat→TO) (sT:TypeId) (s x:TW):Option oI:=
 match tt sT with
 |some { k:=.slice e,.. }=>match tt e,ety e with
  |some ie,some et=>bif Nat.beq ie.bytes 0||!Nat.beq (size et) ie.size then none else match x.rows o et with
   |none=>none
   |some (new,a',i')=>
    let res (pre:Bool) (old:List (Dt et)) (a i:Bool) (kill:List (Nat×TO)):oI:=
     { pre:=pre&&decide ((old.length+new.length)*ie.bytes≤140737488355328),t:=.sl et,val:=List.append old new,dst:=fun _=>.v (.one (.own d)),au:=fun y=>kill++[(d,.arr false (a||a') (i||i') et y)],new:=[d] }
    match s with
    |.bg=>some (res true [] false false [])
    |.own g=>match o g with
     |.arr false a i e' l=>match (qL e' l).wu (.sl et) with
      |some l=>bif Nat.beq g d then none else some (res true l a i [(g,.none)])
      |none=>none
     |_=>none
    |.vw g lo hi=>match o g with
     |.arr false a i e' l=>match (qL e' (l.take hi.toNat)).wu (.sl et) with
      |some l=>bif Nat.beq g d then none else some (res (decide (lo=0)) l a i [(g,.none)])
      |none=>none
     |_=>none
    |_=>none
  |_,_=>none
 |_=>none
def Bh (e:Ty):Nat→List Wd→List (Dt e)
 |0,_=>[]
 |n+1,l=>dK e (l.take (size e))::Bh e n (l.drop (size e))
def Ii {α:Type} (l:List α):Nat→List α
 |0=>[]
 |n+1=>l++Ii l n
def U9 (tt:TT) (o:Nat→TO) (t:TypeId) (x h m:TS):Option oI:=
 match tt t,x,h,m with
 |some { k:=.slice e,.. },.v (.one (.own g)),.v (.one (.p _ _ ⟨.int .i64,h⟩)),.v (.one (.p _ _ ⟨.int .i64,m⟩))=>match tt e,o g with
  |some ie,.arr false _ _ e' l=>bif Nat.beq (size e') ie.size then some { pre:=sU h m l.length,t:=.bool,val:=false,dst:=fun _=>.v (.one (.vw g 0 h)),au:=fun _=>[],new:=[] } else none
  |_,_=>none
 |some { k:=.slice e,.. },.v (.one .bg),.v (.one (.p _ _ ⟨.int .i64,h⟩)),.v (.one (.p _ _ ⟨.int .i64,m⟩))=>match tt e with
  |some _=>some { pre:=sU h m 0,t:=.bool,val:=false,dst:=fun _=>.v (.one .bg),au:=fun _=>[],new:=[] }
  |none=>none
 |_,_,_,_=>none
def Zh (tt:TT) (o:Nat→TO) (t:TypeId) (x:TS):Option oI:=
 match tt t,x with
 |some { k:=.slice e,.. },.v (.one (.vw g lo hi))=>match tt e,o g with
  |some ie,.arr false a i et l=>bif Nat.beq (size et) ie.size&&Nat.blt 0 ie.size then match n_ o (fE et) (ie.zero.map U7) with
   |some (ps,false,false,[])=>some { pre:=Nat.blt lo.toNat hi.toNat,t:=.sl et,val:=agL lo hi (dK et ps) l,dst:=fun _=>.no,au:=fun y=>[(g,.arr false a i et y)],new:=[] }
   |_=>none
   else none
  |_,_=>none
 |_,_=>none
def ovL {α:Type} (x l:List α):List α:=x++l.drop x.length
def adR (tt:TT) (o:Nat→TO) (t:TypeId) (x y:TS):Option oI:=
 match tt t,x,y with
 |some { k:=.slice e,.. },.v (.one (.own g)),.v (.one (.p a' i' w))=>match tt e,o g with
  |some ie,.arr false a i et l=>match w.wu (.sl et) with
   |some z=>bif Nat.beq (size et) ie.size&&Nat.blt 0 ie.size&&lJ et then some { pre:=Nat.ble (List.length (α:=Dt et) z) l.length,t:=.sl et,val:=ovL (α:=Dt et) z l,dst:=fun _=>.no,au:=fun y=>[(g,.arr false (a||a') (i||i') et y)],new:=[] } else none
   |none=>none
  |_,_=>none
 |_,_,_=>none
def ql:(t:Ty)→Dt t→Dt t→Bool
 |.int _,a,b=>eqI a b
 |.str,a,b=>BEq.beq (α:=List UInt8) a b
 |.bool,a,b=>BEq.beq (α:=Bool) a b
 |_,_,_=>false
def keyS (a b:List UInt8):Bool:=a==b
def yX (k:TK):Ty→Bool
 |.int a=>match k with
  |.int b=>(match SE b a with | some _=>true | none=>false)
  |_=>false
 |.str=>match k with
  |.str=>true
  |_=>false
 |.bool=>match k with
  |.bool=>true
  |_=>false
 |_=>false
def Ox {α β:Type} (eq:α→α→Bool) (x:α) (z:β):List (α×β)→β
 | []=>z
 |r::l=>match eq x r.1 with
  |true=>r.2
  |false=>Ox eq x z l
def Zi {α β:Type} (eq:α→α→Bool) (x:α):List (α×β)→Bool
 | []=>false
 |r::l=>eq x r.1||Zi eq x l
def SL {α β:Type} (eq:α→α→Bool) (x:α) (y:β):List (α×β)→List (α×β)
 | []=>[(x,y)]
 |r::l=>match eq x r.1 with
  |true=>(x,y)::l
  |false=>r::SL eq x y l
def TW.Qb (o:Nat→TO) (e:Ty):TW→Option (List (Dt e)×Bool×Bool)
 |.p a i w=>match w.wu (.sl e) with
  |some l=>some (l,a,i)
  |none=>none
 |.own g=>match o g with
  |.arr _ a i e' l=>match (qL e' l).wu (.sl e) with
   |some l=>some (l,a,i)
   |none=>none
  |_=>none
 |_=>none
def ajo (ok:Option Bool) (s:TS):TS:=match s,ok with
 |s,none=>s
 |.v v,some b=>.jH [v,.one (.p false false (gQ b))]
 |_,_=>.no
def U_ (tt:TT) (ety:TypeId→Option Ty) (o:Nat→TO) (t:TypeId) (x k:TS) (c:Bool):Option oI:=
 match tt t,ety (4000000+t),x,k with
 |some { k:=.map kt et,.. },some (.mp ag tk tv),.v (.one x),.v (.one (.p _ _ w))=>match tt kt,tt et with
  |some ik,some ie=>match x.Qb o (.mp ag tk tv),w.wu tk,n_ o (fE tv) (ie.zero.map U7) with
   |some (l,a,i),some kx,some (ps,false,false,[])=>bif yX ik.k tk&&Nat.blt 0 ie.size&&Nat.beq (wl tv) ie.size&&Nat.beq (size (.mp ag tk tv)) (nX ie) then
     some { pre:=true,t:=tv,val:=Ox (ql tk) kx (dK tv ps) l,dst:=fun z=>ajo (bif c then some (Zi (ql tk) kx l) else none) (TV.dh ie.agg (Zg a i (b_ tv z))),au:=fun _=>[],new:=[] } else none
   |_,_,_=>none
  |_,_=>none
 |_,_,_,_=>none
def TV.isAgg:TV→Bool
 |.agg _=>true
 |.one _=>false
def Va (tt:TT) (ety:TypeId→Option Ty) (o:Nat→TO) (t:TypeId) (m k y:TS):Option oI:=
 match tt t,ety (4000000+t),m,k,y with
 |some { k:=.map kt et,.. },some (.mp ag tk tv),.v (.one (.own g)),.v (.one (.p _ _ w)),.v y=>match tt kt,tt et,o g with
  |some ik,some ie,.arr false a i e' l=>match (qL e' l).wu (.sl (.mp ag tk tv)),w.wu tk,n_ o (fE tv) y.words with
   |some l,some kx,some (ps,a',i',gs)=>
    bif yX ik.k tk&&Nat.beq (wl tv) ie.size&&Nat.beq (size (.mp ag tk tv)) (nX ie)&&Nat.beq y.words.length ie.size&&y.solid&&!dR g gs&&BEq.beq (α:=Bool) y.isAgg ie.agg then
     some { pre:=true,t:=.sl (.mp ag tk tv),val:=SL (ql tk) kx (dK tv ps) l,dst:=fun _=>.no,au:=fun z=>gs.map (jG o)++[(g,.arr false (a||a') (i||i') (.mp ag tk tv) z)],new:=[] } else none
   |_,_,_=>none
  |_,_,_=>none
 |_,_,_,_,_=>none
def bI (tt:TT) (ety:TypeId→Option Ty) (d:Nat) (o:Nat→TO) (f:Operand→TS) (op:Op) (ty:TypeId):Option oI:=
 match op with
 |.move x | .assign x=>match f x with
  |.no=>none
  |s=>some (.pure s)
 |.pick c x y=>match f c with
  |.v (.one (.p _ _ ⟨.bool,b⟩))=>match f x,f y with
   |.v (.one (.p a i w)),.v (.one (.p a' i' w'))=>match w'.wu w.t with
    |some z=>some { pre:=true,t:=w.t,val:=bif b then w.x else z,dst:=fun z=>.v (.one (.p (a||a') (i||i') ⟨w.t,z⟩)),au:=fun _=>[],new:=[] }
    |none=>none
   |x,y=>match (bif b then x else y) with
    |.no=>none
    |s=>some (.pure s)
  |_=>none
 |.alloc t=>match tt t with
  |some i=>some { pre:=true,t:=.bool,val:=false,dst:=fun _=>.v (.one (.box d 0)),au:=fun _=>[(d,.box (i.zero.map U7))],new:=[d] }
  |none=>none
 |.box t x=>match tt t,f x with
  |some i,.v x=>bif Nat.beq x.words.length i.size&&x.solid then some { pre:=true,t:=.bool,val:=false,dst:=fun _=>.v (.one (.box d 0)),au:=fun _=>[(d,.box x.words)],new:=[d] } else none
  |_,_=>none
 |.build t parts=>match tt t with
  |some i=>bif i.known tt then match Bg (placeOf tt t) (i.zero.map U7) (parts.toList.map fun p=>(p.1,f p.2)) with
   |some ws=>some (.pure (.v (.agg ws)))
   |none=>none
   else none
  |none=>none
 |.buildSlice t n parts=>match tt t with
  |some { k:=.slice e,.. }=>match tt e,ety e with
   |some ie,some et=>match Bg (fun m=>if m<n then some (m*ie.size,ie.size) else none) (Ii (ie.zero.map U7) n) (parts.toList.map fun p=>(p.1,f p.2)) with
    |some ws=>match n_ o (Ii (fE et) n) ws with
     |some (ps,a,i,gs)=>bif Nat.ble (n+n*ie.size) 16777216&&Nat.beq (size et) ie.size&&lJ et then
       some { pre:=true,t:=.sl et,val:=Bh et n ps,dst:=fun _=>.v (.one (.own d)),au:=fun y=>gs.map (jG o)++[(d,.arr false a i et y)],new:=[d] } else none
     |none=>none
    |none=>none
   |_,_=>none
  |_=>none
 |.load t x=>match tt t,f x with
  |some i,.v (.one (.box g off))=>match o g with
   |.box ws=>bif Nat.ble (off+i.size) ws.length&&Nat.blt 0 i.size then some (.pure (TV.dh i.agg ((ws.drop off).take i.size))) else none
   |_=>none
  |some i,.v (.one (.ep g n off))=>match o g with
   |.arr _ a i' e l=>bif Nat.ble (off+i.size) (size e)&&Nat.blt 0 i.size&&sV (((b_ e (dflt e)).drop off).take i.size) i.zero&&lJ e then
     some { pre:=true,t:=e,val:=l.getD n.toNat (dflt e),dst:=fun z=>TV.dh i.agg (Zg a i' (((b_ e z).drop off).take i.size)),au:=fun _=>[],new:=[] } else none
   |_=>none
  |some i,.v (.one (.sp a i' e x off))=>bif Nat.blt 0 i.size&&Nat.ble (off+i.size) (size e)&&lJ e then
    some (.pure (TV.dh i.agg (Zg a i' (((b_ e x).drop off).take i.size)))) else none
  |_,_=>none
 |.store t x y=>match tt t,f x,f y with
  |some i,.v (.one (.box g off)),.v y=>match o g with
   |.box ws=>bif Nat.ble (off+i.size) ws.length&&Nat.beq y.words.length i.size&&y.solid then
     some { pre:=true,t:=.bool,val:=false,dst:=fun _=>.no,au:=fun _=>[(g,.box (aA ws off y.words))],new:=[] } else none
   |_=>none
  |some i,.v (.one (.ep g n off)),.v y=>match o g with
   |.arr false a i' e l=>match n_ o (((fE e).drop off).take i.size) y.words with
    |some (ps,a',i'',gs)=>bif Nat.ble (off+i.size) (size e)&&Nat.beq y.words.length i.size&&y.solid&&!dR g gs&&lJ e then
     some { pre:=true,t:=.sl e,val:=List.set l n.toNat (JU e (Nat.beq i.size (size e)) (l.getD n.toNat (dflt e)) off ps),dst:=fun _=>.no,au:=fun z=>gs.map (jG o)++[(g,.arr false (a||a') (i'||i'') e z)],new:=[] } else none
    |none=>none
   |_=>none
  |_,_,_=>none
 |.nilCheck x=>match f x with
  |.v (.one x)=>bif x.live o then some (.pure (.v (.one x))) else none
  |_=>none
 |.binOp op t x y _=>match f x,f y with
  |.v (.one (.p _ _ x)),.v (.one (.p _ _ y))=>match tt t with
   |some i=>match agM i.k op x y with
    |some c=>some (.nG c)
    |none=>none
   |none=>none
  |.v (.agg xs),.v (.agg ys)=>match tt t with
   |some i=>match Fp tt 0 i.k.parts xs ys,abt op with
    |some b,some true=>bif i.eq then some (.nG (true,gQ b)) else none
    |some b,some false=>bif i.eq then some (.nG (true,gQ (!b))) else none
    |_,_=>none
   |none=>none
  |_,_=>none
 |.unOp op _ x=>match f x with
  |.v (.one (.p _ _ x))=>match unT op x with
   |some c=>some (.nG (true,c))
   |none=>none
  |_=>none
 |.convert s t x=>match tt s,tt t,f x with
  |some { k:=.int _,.. },some { k:=.int k,.. },.v (.one (.p _ _ ⟨.int _,x⟩))=>some (.calc true (.int k) (k.wrap x))
  |some { k:=.slice e,.. },some { k:=.str,.. },.v (.one x)=>match tt e with
   |some { k:=.int .u8,.. }=>match x.rows o (.int .u8) with
    |some (l,_,_)=>some (.calc true .str (strOf l))
    |none=>none
   |_=>none
  |some { k:=.str,.. },some { k:=.slice e,.. },.v (.one (.p _ _ ⟨.str,x⟩))=>match tt e with
   |some { k:=.int .u8,.. }=>some (.calc true (.sl (.int .u8)) (aeR x))
   |_=>none
  |_,_,_=>none
 |.makeMap t none=>match tt t,ety (4000000+t) with
  |some { k:=.map _ et,.. },some (.mp ag tk tv)=>match tt et with
   |some ie=>bif Nat.beq (size (.mp ag tk tv)) (nX ie) then some { pre:=true,t:=.bool,val:=false,dst:=fun _=>.v (.one (.own d)),au:=fun _=>[(d,.arr false false false (.mp ag tk tv) [])],new:=[d] } else none
   |none=>none
  |_,_=>none
 |.lookup t x k c=>U_ tt ety o t (f x) (f k) c
 |.mapUpdate t m k y=>Va tt ety o t (f m) (f k) (f y)
 |.makeSlice t n c=>match tt t,f n,f c with
  |some { k:=.slice e,.. },.v (.one (.p _ _ ⟨.int .i64,n⟩)),.v (.one (.p _ _ ⟨.int .i64,c⟩))=>match tt e,ety e with
   |some ie,some et=>match n_ o (fE et) (ie.zero.map U7) with
    |some (ps,false,false,[])=>bif Nat.blt 0 ie.size&&Nat.beq (size et) ie.size then
     some { pre:=P_ ie.bytes n c,t:=.sl et,val:=List.replicate (Int.toNat n) (dK et ps),dst:=fun _=>.v (.one (.own d)),au:=fun y=>[(d,.arr false false false et y)],new:=[d] } else none
    |_=>none
   |_,_=>none
  |_,_,_=>none
 |.slice t x lo hi none=>match tt t,f x with
  |some { k:=.slice e,.. },.v (.one x)=>match tt e,ety e,P9 o x with
   |some ie,some et,some len=>match jY 0 (lo.map f),jY len (hi.map f) with
    |some lo,some hi=>match x with
     |.own g=>match Fj o g with
      |some (e',l)=>bif Nat.beq (size e') ie.size then
        some { pre:=sU lo hi l,t:=.bool,val:=false,dst:=fun _=>.v (.one (.vw g lo hi)),au:=fun _=>[],new:=[] } else none
      |none=>none
     |.p a i w=>match w.wu (.sl et) with
      |some l=>bif Nat.beq (size et) ie.size&&lJ et then some { pre:=sU lo hi (List.length (α:=Dt et) l),t:=.sl et,val:=List.drop lo.toNat (List.take (α:=Dt et) hi.toNat l),dst:=fun z=>.v (.one (.p a i ⟨.sl et,z⟩)),au:=fun _=>[],new:=[] } else none
      |none=>none
     |.bg=>some { pre:=decide (lo=0)&&decide (hi=0),t:=.bool,val:=false,dst:=fun _=>.v (.one .bg),au:=fun _=>[],new:=[] }
     |_=>none
    |_,_=>none
   |_,_,_=>none
  |some { k:=.str,.. },.v (.one (.p _ _ ⟨.str,y⟩))=>match jY 0 (lo.map f),jY (List.length (α:=UInt8) y) (hi.map f) with
   |some lo,some hi=>some (.calc (sU lo hi (List.length (α:=UInt8) y)) .str (List.drop lo.toNat (List.take (α:=UInt8) hi.toNat y)))
   |_,_=>none
  |_,_=>none
 |.slice t x none (some hi) (some mx)=>U9 tt o t (f x) (f hi) (f mx)
 |.fieldAddr t x n=>match tt t,placeOf tt t n,f x with
  |some { k:=.struct _,.. },some (off',sz'),.v (.one x)=>bif Nat.blt 0 sz'&&x.live o then some (.pure (.v (.one (x.shift off')))) else none
  |_,_,_=>none
 |.field t x n=>match tt t,f x with
  |some { k:=.struct fs,.. },.v (.agg ws)=>match fs[n]? with
   |some (off,u)=>match tt u with
    |some iu=>bif Nat.ble (off+iu.size) ws.length&&Nat.blt 0 iu.size then some (.pure (TV.dh iu.agg ((ws.drop off).take iu.size))) else none
    |none=>none
   |none=>none
  |_,_=>none
 |.indexAddr t x ix=>match tt t,f x,f ix with
  |some { k:=.slice e,.. },.v (.one x),.v (.one (.p _ _ ⟨.int _,n⟩))=>match tt e,ety e,x with
   |some ie,some et,.own g=>match Fj o g with
    |some (e',l)=>bif Nat.beq (size e') ie.size then
      some { pre:=inB n l,t:=.bool,val:=false,dst:=fun _=>.v (.one (.ep g (Int.toNat n:Nat) 0)),au:=fun _=>[],new:=[] } else none
    |none=>none
   |some ie,some et,.vw g lo hi=>match Fj o g with
    |some (e',_)=>bif Nat.beq (size e') ie.size then
      some { pre:=inB n (hi.toNat-lo.toNat),t:=.bool,val:=false,dst:=fun _=>.v (.one (.ep g (lo.toNat+Int.toNat n:Nat) 0)),au:=fun _=>[],new:=[] } else none
    |none=>none
   |some ie,some et,.p a i w=>match w.wu (.sl et) with
    |some l=>bif Nat.beq (size et) ie.size&&lJ et then some { pre:=inB n (List.length (α:=Dt et) l),t:=et,val:=List.getD (α:=Dt et) l (Int.toNat n) (dflt et),dst:=fun z=>.v (.one (.sp a i et z 0)),au:=fun _=>[],new:=[] } else none
    |none=>none
   |_,_,_=>none
  |some { k:=.arr m e,.. },.v (.one (.gl g)),.v (.one (.p _ _ ⟨.int _,n⟩))=>match tt e,RE.G g with
   |some ie,some ⟨et,l⟩=>bif Nat.beq (size et) ie.size&&Nat.beq (List.length (α:=Dt et) l) m then some { pre:=inB n m,t:=et,val:=List.getD (α:=Dt et) l (Int.toNat n) (dflt et),dst:=fun z=>.v (.one (.sp false false et z 0)),au:=fun _=>[],new:=[] } else none
   |_,_=>none
  |some { k:=.arr m e,.. },.v (.one x),.v (.one (.p _ _ ⟨.int _,n⟩))=>match tt e with
   |some ie=>bif inB n m&&x.live o then some (.pure (.v (.one (x.shift (Int.toNat n*ie.size))))) else none
   |none=>none
  |_,_,_=>none
 |.index t x ix=>match tt t,f x,f ix with
  |some { k:=.str,.. },.v (.one (.p _ _ ⟨.str,s⟩)),.v (.one (.p _ _ ⟨.int _,n⟩))=>
    some (.calc (inB n (List.length (α:=UInt8) s)) (.int .u8) ((List.getD (α:=UInt8) s (Int.toNat n) 0).toNat:Int))
  |_,_,_=>none
 |.range t x=>match tt t,f x with
  |some { k:=.str,.. },.v (.one (.p _ _ ⟨.str,s⟩))=>some { pre:=true,t:=.str,val:=s,dst:=fun _=>.v (.one (.lQ d)),au:=fun z=>[(d,.it z 0)],new:=[d] }
  |_,_=>none
 |.extract t n=>match f t with
  |.jH xs=>match xs[n]? with
   |some x=>some (.pure (.v x))
   |none=>none
  |_=>none
 |.makeFunc (.func g) first caps=>bif Nat.beq first.size 0 then
   match caps.toList.mapM (fun x=>match f x with | .v (.one w)=>some w | _=>none) with
   |some ws=>some (.pure (.v (.one (.clo g ws))))
   |none=>none
   else none
 |.call { callee:=.builtin .len,args,argTypes }=>match args.toList,argTypes.toList with
  | [x],[t]=>match tt t,f x with
   |some { k:=.slice _,.. },.v (.one x)=>match P9 o x with
    |some n=>some (.calc true (.int .i64) n)
    |none=>none
   |some { k:=.str,.. },.v (.one (.p _ _ ⟨.str,s⟩))=>some (.calc true (.int .i64) (List.length (α:=UInt8) s:Int))
   |_,_=>none
  |_,_=>none
 |.call { callee:=.builtin .append,args,argTypes }=>match args.toList,argTypes.toList with
  | [s,x],sT::xT::_=>match tt xT,f s,f x with
   |some { k:=.slice _,.. },.v (.one s),.v (.one x)=>Nr tt ety d o sT s x
   |_,_,_=>none
  |_,_=>none
 |.call { callee:=.builtin .clear,args,argTypes }=>match args.toList,argTypes.toList with
  | [x],t::_=>Zh tt o t (f x)
  |_,_=>none
 |.call { callee:=.builtin .copy,args,argTypes }=>match args.toList,argTypes.toList with
  | [x,y],t::_=>adR tt o t (f x) (f y)
  |_,_=>none
 |.call { callee:=.builtin .min,args,.. }=>match args.toList with
  | [x,y]=>match f x,f y with
   |.v (.one (.p _ _ ⟨.int k,x⟩)),.v (.one (.p _ _ ⟨.int _,y⟩))=>some (.calc true (.int k) (Qa x y))
   |_,_=>none
  | [x,y,z]=>match f x,f y,f z with
   |.v (.one (.p _ _ ⟨.int k,x⟩)),.v (.one (.p _ _ ⟨.int _,y⟩)),.v (.one (.p _ _ ⟨.int _,z⟩))=>some (.calc true (.int k) (Qa (Qa x y) z))
   |_,_,_=>none
  |_=>none
 |.call { callee:=.builtin .max,args,.. }=>match args.toList with
  | [x,y]=>match f x,f y with
   |.v (.one (.p _ _ ⟨.int k,x⟩)),.v (.one (.p _ _ ⟨.int _,y⟩))=>some (.calc true (.int k) (SH x y))
   |_,_=>none
  | [x,y,z]=>match f x,f y,f z with
   |.v (.one (.p _ _ ⟨.int k,x⟩)),.v (.one (.p _ _ ⟨.int _,y⟩)),.v (.one (.p _ _ ⟨.int _,z⟩))=>some (.calc true (.int k) (SH (SH x y) z))
   |_,_,_=>none
  |_=>none
 |_=>none
end
end Go.Fg

namespace Go.Fg
open Go.Fw
set_option linter.unusedVariables false
set_option linter.unusedSectionVars false
set_option linter.unusedSimpArgs false
section
variable [RE] {o:Nat→TO} {tt:TT} {ety:TypeId→Option Ty}
theorem dL (e:Ty) (l:List (Dt e)):(ak e l).length=l.length:=by simp [ak]
theorem abN (e:Ty) (l:List (Dt e)):aS (qL e l)=P.dX (size e) (ak e l):=rfl
theorem smB {e:Ty} (h:lJ e=true):Nat.blt (size e) MB=true:=h
theorem FX {e:Ty} (h:lJ e=true):aS (qL e [])=P.sl 0 []:=by
 show P.dX (size e) []=_
 rw [P.jU (kT h)]
theorem rF (e:Ty) (l:List (Dt e)) (lo hi:Int):((ak e l).take (P.nat (.int .i64 hi))).drop (P.nat (.int .i64 lo))=ak e ((l.take hi.toNat).drop lo.toNat):=by
 simp [ak,P.nat,P.num,List.map_take,List.map_drop]
theorem oQ (e:Ty) (l:List (Dt e)) (hi:Int):(ak e l).take (P.nat (.int .i64 hi))=ak e (l.take hi.toNat):=by
 simp [ak,P.nat,P.num,List.map_take]
theorem eF {g:Nat} {fz a i:Bool} {e:Ty} {l:List (Dt e)} (h:o g=.arr fz a i e l):aW o g=.arr fz a i (size e) (ak e l):=by simp [aW,h,bV]
theorem nH {g:Nat} {ws:List TW} (h:o g=.box ws):aW o g=.box (ws.map aT):=by simp [aW,h,bV]
theorem oh {g n:Nat} {e:Ty} (h:Fj o g=some (e,n)):(aW o g).dim=some (size e,n):=by
 unfold Fj at h
 unfold aW
 cases ho:o g with
 |arr fz a i e l=>rw [ho] at h;simp only at h;cases hs:lJ e<;>rw [hs] at h<;>cases h;simp [bV,O.dim,ak,fB (kT hs)]
 |ay a i e ah l hole=>rw [ho] at h;simp only at h;cases hs:lJ e<;>rw [hs] at h<;>cases h;simp [bV,O.dim,ak,fB (kT hs)]
 |_=>rw [ho] at h;cases h
theorem abO {g n:Nat} {e:Ty} (h:Fj o g=some (e,n)):lJ e=true:=by
 unfold Fj at h
 cases ho:o g with
 |arr fz a i e l=>rw [ho] at h;simp only at h;cases hs:lJ e<;>rw [hs] at h<;>cases h;exact hs
 |ay a i e ah l hole=>rw [ho] at h;simp only at h;cases hs:lJ e<;>rw [hs] at h<;>cases h;exact hs
 |_=>rw [ho] at h;cases h
theorem xw {a b:Ty} (h:tyB a b=true):a=b:=by
 unfold tyB at h
 split at h
 ·rename_i p _;exact p.down
 ·cases h
theorem Dh {c:Nat} :∀{ah:List (Nat×Ty)} {t:Ty},tV c ah=some t→(fP ah).lookup c=some (size t)
 | [],t,h=>by cases h
 |(k,u)::r,t,h=>by
  simp only [tV] at h
  simp only [fP,List.map_cons,List.lookup]
  by_cases e:c=k
  ·subst e
   have:Nat.beq c c=true:=by simp
   rw [this] at h
   simp only [cond_true,Option.some.injEq] at h;subst h
   simp
  ·have e1:Nat.beq c k=false:=by cases hb:Nat.beq c k with | false=>rfl | true=>exact absurd (Nat.eq_of_beq_eq_true hb) e
   have e2:(c==k)=false:=by simpa using e
   rw [e1] at h
   rw [e2]
   exact Dh h
theorem Ij {c:Nat} :∀{ah:List (Nat×Ty)},tV c ah=none→(fP ah).lookup c=none
 | [],h=>rfl
 |(k,u)::r,h=>by
  simp only [tV] at h
  simp only [fP,List.map_cons,List.lookup]
  by_cases e:c=k
  ·subst e
   have:Nat.beq c c=true:=by simp
   rw [this] at h;cases h
  ·have e1:Nat.beq c k=false:=by cases hb:Nat.beq c k with | false=>rfl | true=>exact absurd (Nat.eq_of_beq_eq_true hb) e
   have e2:(c==k)=false:=by simpa using e
   rw [e1] at h
   rw [e2]
   exact Ij h
theorem tX {e e':Ty} {ah:List (Nat×Ty)} {c:Nat} (h:Xt e ah c e'=true):(fP ah).lookup c=some (size e')∧(fE e)[c]?=some (.sl e')∧c<rw (size e):=by
 simp only [Xt,Bool.and_eq_true] at h
 obtain ⟨⟨h1,h2⟩,h3⟩:=h
 have k1:tV c ah=some e':=by
  split at h1
  ·rename_i t ht;rw [ht,xw h1]
  ·cases h1
 have k2:(fE e)[c]?=some (.sl e'):=by
  split at h2
  ·rename_i t ht;rw [ht,xw h2]
  ·cases h2
 exact ⟨Dh k1,k2,by rw [agJ (by simpa [Nat.blt_eq,MB] using h3)];have:=(List.getElem?_eq_some_iff.1 k2).1;rwa [kH] at this⟩
theorem yY {α β:Type} (f:α→β) (l:List α) (off:Nat) (new:List α):(aA l off new).map f=aA (l.map f) off (new.map f):=by
 simp [aA,List.map_take,List.map_drop]
theorem Zj {e:Ty} {x:Dt e} {off:Nat} {ps:List Wd} (hty:ps.map (·.t)=((fE e).drop off).take ps.length) (hlt:off+ps.length≤wl e):fH e (JU e (Nat.beq ps.length (wl e)) x off ps)=aA (fH e x) off (ps.map aS):=by
 have hty':(aA (b_ e x) off ps).map (·.t)=fE e:=by
  have e0:fE e=(fE e).take off++(((fE e).drop off).take ps.length++(fE e).drop (off+ps.length)):=by
   rw [←List.drop_drop,List.take_append_drop,List.take_append_drop]
  simp only [aA,List.map_append,List.map_take,List.map_drop,l7,hty,List.append_assoc]
  exact e0.symm
 unfold JU
 cases hc:Nat.beq ps.length (wl e) with
 |true=>
  have hc:=Nat.eq_of_beq_eq_true hc
  have h0:off=0:=by omega
  subst h0
  have e2:aA (b_ e x) 0 ps=ps:=by
   simp only [aA,List.take_zero,List.nil_append,Nat.zero_add]
   rw [List.drop_of_length_le (by rw [tN];omega),List.append_nil]
  have e3:aA (fH e x) 0 (ps.map aS)=ps.map aS:=by rw [dQ,←yY,e2]
  rw [e2] at hty'
  rw [e3]
  exact nT hty'
 |false=>
  simp only
  rw [nT hty',yY,←dQ]
theorem Et {e:Ty} {l:List (Dt e)} {n off:Nat} {ps:List Wd} (hty:ps.map (·.t)=((fE e).drop off).take ps.length) (hlt:off+ps.length≤wl e) :
  ak e (List.set l n (JU e (Nat.beq ps.length (wl e)) (l.getD n (dflt e)) off ps))=(ak e l).set n (aA ((ak e l).getD n []) off (ps.map aS)):=by
 have e0 :∀x,ak e (List.set l n x)=(ak e l).set n (fH e x):=fun x=>by simp [ak,List.map_set]
 rw [e0]
 by_cases hn:n<l.length
 ·have e1:(ak e l).getD n []=fH e (l.getD n (dflt e)):=by simp [ak,List.getD_eq_getElem?_getD,hn]
  rw [e1,Zj hty hlt]
 ·have e1 :∀z,(ak e l).set n z=ak e l:=fun z=>List.set_eq_of_length_le (by rw [dL];omega)
  rw [e1,e1]
theorem zJ {e e':Ty} {l:List (Dt e)} {n c:Nat} {l':List (Dt e')} (hc:(fE e)[c]?=some (.sl e')):ak e (putRow e l n c (qL e' l'))=iH (ak e l) n c (P.dX (size e') (ak e' l')):=by
 have hlt:c<wl e:=by have:=(List.getElem?_eq_some_iff.1 hc).1;rwa [kH] at this
 have:=Et (e:=e) (l:=l) (n:=n) (off:=c) (ps:=[qL e' l']) (by
  show [Ty.sl e']=((fE e).drop c).take 1
  have hlt':c<(fE e).length:=by rw [kH];exact hlt
  rw [List.drop_eq_getElem_cons hlt']
  rw [List.getElem?_eq_getElem hlt'] at hc
  simp only [Option.some.injEq] at hc
  rw [hc];rfl) (by simp only [List.length_singleton];omega)
 exact this
theorem nI {g:Nat} {a i:Bool} {e:Ty} {l:List (Dt e)} (h:mg o g=some ⟨a,i,e,l⟩):plainO (aW o) g=some (a,i,size e,ak e l)∧(aW o g).names=gV (o g):=by
 unfold mg at h
 cases ho:o g with
 |arr fz a' i' e' l'=>
  rw [ho] at h;cases h
  have:=eF ho
  exact ⟨by simp [plainO,this],by rw [this];rfl⟩
 |ay a0 i0 e0 ah l0 hole=>
  rw [ho] at h
  have hg:aW o g=.ay a0 i0 (size e0) (fP ah) (ak e0 l0) hole:=by simp [aW,ho,bV]
  rcases hole with _ | ⟨n,c,d⟩
  ·cases h
   exact ⟨by simp [plainO,hg],by rw [hg];rfl⟩
  ·simp only at h
   cases hd:o d with
   |arr fz a' i' e' l'=>
    rw [hd] at h
    simp only at h
    split at h
    ·rename_i hc
     cases h
     obtain ⟨k1,k2,k3⟩:=tX hc
     refine ⟨?_,by rw [hg];rfl⟩
     simp only [plainO,hg,eF hd]
     rw [if_pos ⟨k1,k3⟩,zJ k2]
    ·cases h
   |_=>rw [hd] at h;cases h
 |_=>rw [ho] at h;cases h
theorem lu {e:Ty} {l:List (Dt e)} {t:Ty} {x:Dt t} (h:(qL e l).wu t=some x) :∃h:Ty.sl e=t,x=h▸l:=by
 have:=d_ h
 unfold qL at this
 cases this
 exact ⟨rfl,rfl⟩
theorem Ns {t:Ty} {x:TW} {y:Dt t} {a i:Bool} {gs:List Nat} (h:x.toP o t=some (y,a,i,gs)):(aT x).toP (aW o)=some (aS ⟨t,y⟩,a,i,gs):=by
 cases x with
 |p a' i' w=>
  simp only [TW.toP] at h
  split at h
  ·rename_i x hx
   simp only [Option.some.injEq,Prod.mk.injEq] at h
   obtain ⟨rfl,rfl,rfl,rfl⟩:=h
   rw [d_ hx];rfl
  ·cases h
 |bg=>
  simp only [TW.toP] at h
  split at h
  ·rename_i e
   cases hs:lJ e with
   |false=>rw [hs] at h;cases h
   |true=>
    rw [hs] at h
    simp only [cond_true,Option.some.injEq,Prod.mk.injEq] at h
    obtain ⟨rfl,rfl,rfl,rfl⟩:=h
    show some (P.sl 0 [],_)=some (P.dX (size e) [],_)
    rw [P.jU (kT hs)]
  ·cases h
 |own g=>
  simp only [TW.toP] at h
  split at h
  ·rename_i a' i' e l hg
   split at h
   ·rename_i z hz
    simp only [Option.some.injEq,Prod.mk.injEq] at h
    obtain ⟨rfl,rfl,rfl,rfl⟩:=h
    rw [←d_ hz]
    obtain ⟨k1,k2⟩:=nI hg
    simp only [aT,W.toP,k1,k2];rfl
   ·cases h
  ·cases h
 |vw g lo hi=>
  simp only [TW.toP] at h
  split at h
  ·rename_i a' i' e l hg
   split at h
   ·rename_i z hz
    cases hs:lJ e with
    |false=>rw [hs] at h;cases h
    |true=>
    rw [hs] at h
    simp only [cond_true,Option.some.injEq,Prod.mk.injEq] at h
    obtain ⟨rfl,rfl,rfl,rfl⟩:=h
    rw [←d_ hz]
    obtain ⟨k1,k2⟩:=nI hg
    simp only [aT,W.toP,k1,k2,rF,if_pos (kT hs)];rfl
   ·cases h
  ·cases h
 |_=>simp [TW.toP] at h
theorem qm :∀{ts:List Ty} {xs:List TW} {ys:List Wd} {a i:Bool} {gs:List Nat},n_ o ts xs=some (ys,a,i,gs)→nV (aW o) (xs.map aT)=some (ys.map aS,a,i,gs)∧ys.map (·.t)=ts
 | [],[],ys,a,i,gs,h=>by
  simp only [n_,Option.some.injEq,Prod.mk.injEq] at h
  obtain ⟨rfl,rfl,rfl,rfl⟩:=h
  exact ⟨rfl,rfl⟩
 | [],x::xs,ys,a,i,gs,h=>by simp [n_] at h
 |t::ts,[],ys,a,i,gs,h=>by simp [n_] at h
 |t::ts,x::xs,ys,a,i,gs,h=>by
  simp only [n_] at h
  split at h
  ·rename_i h1 h2
   simp only [Option.some.injEq,Prod.mk.injEq] at h
   obtain ⟨rfl,rfl,rfl,rfl⟩:=h
   obtain ⟨k1,k2⟩:=qm h2
   refine ⟨?_,by simp only [List.map_cons,k2]⟩
   simp only [List.map_cons,nV,Ns h1,k1]
  ·cases h
def fJ (l:List (Nat×TO)):List (Nat×O):=l.map fun p=>(p.1,bV p.2)
def Pl (o:Nat→TO) (gs:List Nat):Prop :=∀g∈gs,∃p,mg o g=some p
theorem Pl.append {a b:List Nat} (h:Pl o a) (h':Pl o b):Pl o (a++b):=fun g hg=>by
 rcases List.mem_append.1 hg with x | x
 ·exact h g x
 ·exact h' g x
theorem Pl.nil:Pl o []:=fun g hg=>by cases hg
theorem KO {g:Nat} {p:TA} (h:mg o g=some p):Pl o (gV (o g)++[g]):=by
 refine Pl.append (fun d hd => ?_) (fun g' hg'=>by rw [List.mem_singleton] at hg';subst hg';exact ⟨p,h⟩)
 unfold mg at h
 cases ho:o g with
 |ay a i e ah l hole=>
  rw [ho] at h hd
  rcases hole with _ | ⟨n,c,d'⟩
  ·cases hd
  ·simp only [gV,List.mem_singleton] at hd
   subst hd
   simp only at h
   cases hod:o d with
   |arr fz a' i' e' l'=>exact ⟨⟨a',i',e',l'⟩,by simp only [mg,hod]⟩
   |_=>rw [hod] at h;cases h
 |_=>rw [ho] at hd;cases hd
theorem SN {t:Ty} {x:TW} {y:Dt t} {a i:Bool} {gs:List Nat} (h:x.toP o t=some (y,a,i,gs)):Pl o gs:=by
 cases x with
 |p a' i' w=>
  simp only [TW.toP] at h
  split at h
  ·simp only [Option.some.injEq,Prod.mk.injEq] at h;obtain ⟨_,_,_,rfl⟩:=h;exact Pl.nil
  ·cases h
 |bg=>
  simp only [TW.toP] at h
  split at h
  ·obtain ⟨_,h⟩:=uY rfl h
   simp only [Option.some.injEq,Prod.mk.injEq] at h;obtain ⟨_,_,_,rfl⟩:=h;exact Pl.nil
  ·cases h
 |own g=>
  simp only [TW.toP] at h
  split at h
  ·rename_i hg
   split at h
   ·simp only [Option.some.injEq,Prod.mk.injEq] at h;obtain ⟨_,_,_,rfl⟩:=h;exact KO hg
   ·cases h
  ·cases h
 |vw g lo hi=>
  simp only [TW.toP] at h
  split at h
  ·rename_i hg
   split at h
   ·obtain ⟨_,h⟩:=uY rfl h
    simp only [Option.some.injEq,Prod.mk.injEq] at h;obtain ⟨_,_,_,rfl⟩:=h;exact KO hg
   ·cases h
  ·cases h
 |_=>simp [TW.toP] at h
theorem FY :∀{ts:List Ty} {xs:List TW} {ys:List Wd} {a i:Bool} {gs:List Nat},n_ o ts xs=some (ys,a,i,gs)→Pl o gs
 | [],[],ys,a,i,gs,h=>by simp only [n_,Option.some.injEq,Prod.mk.injEq] at h;obtain ⟨_,_,_,rfl⟩:=h;exact Pl.nil
 | [],x::xs,ys,a,i,gs,h=>by simp [n_] at h
 |t::ts,[],ys,a,i,gs,h=>by simp [n_] at h
 |t::ts,x::xs,ys,a,i,gs,h=>by
  simp only [n_] at h
  split at h
  ·rename_i h1 h2
   simp only [Option.some.injEq,Prod.mk.injEq] at h
   obtain ⟨_,_,_,rfl⟩:=h
   exact (SN h1).append (FY h2)
  ·cases h
theorem Ik {g:Nat} (h :∃p,mg o g=some p):Fw.aC (aW o) g=((jG o g).1,bV (jG o g).2):=by
 obtain ⟨⟨a,i,e,l⟩,hp⟩:=h
 simp only [Fw.aC,jG,hp,(nI hp).1];rfl
theorem lK {gs:List Nat} (h:Pl o gs):gs.map (Fw.aC (aW o))=fJ (gs.map (jG o)):=by
 simp only [fJ,List.map_map]
 exact List.map_congr_left fun g hg=>Ik (h g hg)
theorem pF (x:TV):(gK x).words=x.words.map aT:=by cases x<;>rfl
theorem pG (x:TV) (h:x.solid=true):(gK x).solid=true:=by
 cases x with
 |one x=>cases x<;>first | rfl | (simp [TV.solid,TW.solid] at h)
 |agg xs=>rfl
theorem jh (agg:Bool) (ws:List TW):aG (TV.dh agg ws)=V.dh agg (ws.map aT):=by
 cases agg with
 |true=>rfl
 |false=>
  match ws with
  | []=>rfl
  | [x]=>rfl
  |x::y::ws=>rfl
theorem oU {α β:Type} (f:α→β) (l:List α) (off:Nat) (new:List α):(aA l off new).map f=aA (l.map f) off (new.map f):=by
 simp [aA,List.map_take,List.map_drop]
theorem Bj {place:Nat→Option (Nat×Nat)} :∀{ps:List (Nat×TS)} {ws r:List TW},Bg place ws ps=some r→kJ place (ws.map aT) (ps.map fun p=>(p.1,aG p.2))=some (r.map aT)
 | [],ws,r,h=>by simp only [Bg,Option.some.injEq] at h;subst h;rfl
 |(n,.v x)::ps,ws,r,h=>by
  simp only [Bg] at h
  split at h
  ·rename_i off size hp
   cases hb:(Nat.beq x.words.length size&&Nat.ble (off+size) ws.length&&x.solid) with
   |false=>rw [hb] at h;cases h
   |true=>
    rw [hb,cond_true] at h
    simp only [Bool.and_eq_true] at hb
    have h1:=Nat.eq_of_beq_eq_true hb.1.1
    have h2:=Nat.le_of_ble_eq_true hb.1.2
    have ih:=Bj h
    rw [oU] at ih
    simp only [List.map_cons,aG,kJ,hp,pF,List.length_map]
    rw [if_pos ⟨h1,h2,pG x hb.2⟩]
    exact ih
  ·cases h
 |(n,.jH xs)::ps,ws,r,h=>by simp [Bg] at h
 |(n,.no)::ps,ws,r,h=>by simp [Bg] at h
theorem abP {sz:Nat} (h:sz<MB) (l:List (List P)):(P.dX sz l).LQ sz:=by rw [P.jU h];cases l<;>simp [P.LQ]
theorem Il {e:Ty} (h:lJ e=true) (l:List (Dt e)):(aS ⟨.sl e,l⟩).LQ (size e):=abP (kT h) _
theorem Qc {e:Ty} {x:TW} {l:List (Dt e)} {a i:Bool} (h:x.rows o e=some (l,a,i)) :∃ask,(aT x).rows (aW o) (size e)=some (ask,ak e l,a,i)∧ask:=by
 cases x with
 |p a' i' w=>
  simp only [TW.rows] at h
  split at h
  ·rename_i y hy
   obtain ⟨hs,h⟩:=uY rfl h
   simp only [Option.some.injEq,Prod.mk.injEq] at h
   obtain ⟨rfl,rfl,rfl⟩:=h
   rw [d_ hy]
   exact ⟨(aS ⟨.sl e,l⟩).LQ (size e),by simp only [aT,W.rows,jC],Il hs _⟩
  ·cases h
 |bg=>
  simp only [TW.rows,Option.some.injEq,Prod.mk.injEq] at h
  obtain ⟨rfl,rfl,rfl⟩:=h
  exact ⟨_,rfl,trivial⟩
 |own g=>
  simp only [TW.rows] at h
  split at h
  ·rename_i fz a' i' e' l' hg
   split at h
   ·rename_i z hz
    simp only [Option.some.injEq,Prod.mk.injEq] at h
    obtain ⟨rfl,rfl,rfl⟩:=h
    obtain ⟨he,hz⟩:=lu hz
    cases he
    subst hz
    exact ⟨True,by simp only [aT,W.rows,eF hg,if_true],trivial⟩
   ·cases h
  ·cases h
 |vw g lo hi=>
  simp only [TW.rows] at h
  split at h
  ·rename_i fz a' i' e' l' hg
   split at h
   ·rename_i z hz
    simp only [Option.some.injEq,Prod.mk.injEq] at h
    obtain ⟨rfl,rfl,rfl⟩:=h
    obtain ⟨he,hz⟩:=lu hz
    cases he
    subst hz
    exact ⟨True,by simp only [aT,W.rows,eF hg,if_true,rF],trivial⟩
   ·cases h
  ·cases h
 |_=>simp [TW.rows] at h
theorem SQ {sz:Nat} (h:sz<MB) (l:List (List P)):(P.dX sz l).isSlice:=by rw [P.jU h];cases l<;>simp [P.isSlice]
theorem aeT {sz:Nat} (h:sz<MB) (l:List (List P)):(P.dX sz l).len=.int .i64 l.length:=by rw [P.jU h];cases l<;>rfl
theorem abQ {e:Ty} (h:lJ e=true) (l:List (Dt e)):(aS ⟨.sl e,l⟩).len=.int .i64 l.length:=by rw [oP,aeT (kT h),dL]
theorem Vb {x:TW} {n:Int} (h:P9 o x=some n) :∃ask,lenOf (aW o) (aT x)=some (ask,.int .i64 n)∧ask:=by
 cases x with
 |p a i w=>
  obtain ⟨t,x⟩:=w
  cases t<;>simp only [P9] at h<;>try (cases h;done)
  rename_i e
  obtain ⟨hs,h⟩:=uY rfl h
  simp only [Option.some.injEq] at h;subst h
  refine ⟨(aS ⟨.sl e,x⟩).isSlice,?_,SQ (kT hs) _⟩
  have e1:(aS ⟨.sl e,x⟩).len=.int .i64 (List.length (α:=Dt e) x):=abQ hs x
  simp only [aT,lenOf]
  rw [e1]
 |bg=>simp only [P9,Option.some.injEq] at h;subst h;exact ⟨_,rfl,trivial⟩
 |own g=>
  simp only [P9] at h
  split at h
  ·rename_i hg
   simp only [Option.some.injEq] at h;subst h
   exact ⟨True,by simp only [aT,lenOf,oh hg,if_pos (kT (abO hg))],trivial⟩
  ·cases h
 |vw g lo hi=>
  simp only [P9] at h
  split at h
  ·rename_i hg
   simp only [Option.some.injEq] at h;subst h
   rename_i x
   obtain ⟨e,n⟩:=x
   exact ⟨True,by simp only [aT,lenOf,oh hg,P.nat,P.num],trivial⟩
  ·cases h
 |_=>simp [P9] at h
theorem Io {x:TW} (h:x.live o=true):(aT x).live (aW o)=true:=by
 cases x with
 |box g off=>
  simp only [TW.live] at h
  split at h
  ·rename_i hg;simp only [aT,W.live,nH hg]
  ·cases h
 |ep g n off=>
  simp only [TW.live] at h
  split at h
  ·rename_i x hg
   obtain ⟨e,n⟩:=x
   simp only [aT,W.live,oh hg];rfl
  ·cases h
 |sp=>rfl
 |_=>simp [TW.live] at h
theorem KP (n:Nat) (x:TW):aT (x.shift n)=(aT x).shift n:=by cases x<;>simp [TW.shift,aT,W.shift]
theorem Zk (v:Value):aT (U7 v)=cv v:=by
 unfold U7
 split
 ·rfl
 ·rfl
 ·rfl
 ·rfl
 ·rename_i x h1 h2 h3 h4
  show W.p false false (P.opq v)=cv v
  unfold cv
  split
  ·exact (h1 _ _ rfl).elim
  ·exact (h2 _ rfl).elim
  ·exact (h3 _ rfl).elim
  ·exact (h4 rfl).elim
  ·rfl
theorem oV (l:List Value):(l.map U7).map aT=l.map cv:=by
 rw [List.map_map];exact List.map_congr_left fun v _=>Zk v
theorem Xv (v:Value):aG (SG v)=uw v:=by
 unfold SG
 split
 ·rename_i cs
  unfold uw
  have e:(cs.toList.map U7).map aT=cs.toList.map cv:=oV _
  cases h:cs.toList.all Value.oneCell'
  ·simp only [h,cond_false,Bool.false_eq_true,if_false];rfl
  ·simp only [h,cond_true,if_true,aG,gK,e]
 ·rfl
 ·simp only [aG,gK,aT,l9];rfl
 ·rename_i x h1 h2 h3
  have e:uw v=if v.oneCell'=true then .v (.one (cv v)) else .no:=by
   unfold uw
   split
   ·exact (h1 _ rfl).elim
   ·exact (h2 _ rfl).elim
   ·exact (h3 _ rfl).elim
   ·rfl
  rw [e]
  cases h:v.oneCell'
  ·simp only [cond_false,Bool.false_eq_true,if_false];rfl
  ·simp only [cond_true,if_true,aG,gK,Zk]
theorem jr (st:gI) (x:Operand):(aB st).bf x=aG (st.bf x):=by
 cases x with
 |tmp t=>rfl
 |const v=>exact (Xv v).symm
 |func f=>simp [St.bf,gI.bf,aG,gK,aT,l9]
 |global g=>
  simp only [Fw.St.bf,gI.bf,adP]
  cases RE.G g<;>rfl
end
end Go.Fg

namespace Go.Fg
open Go.Fw
set_option linter.unusedVariables false
set_option linter.unusedSectionVars false
set_option linter.unusedSimpArgs false
section
variable [RE] {o:Nat→TO} {tt:TT} {ety:TypeId→Option Ty} {d:Nat} {f:Operand→TS} {ty:TypeId}
structure dV (r:oI) (r':Ae):Prop where
 pre:r.pre=true→r'.pre
 dst:r'.dst r'.val=aG (r.dst r.val)
 au:r'.au r'.val=fJ (r.au r.val)
 new:r'.new=r.new
def eP (tt:TT) (ety:TypeId→Option Ty) (d:Nat) (o:Nat→TO) (f:Operand→TS) (op:Op) (ty:TypeId):Prop:=
 ∀r,bI tt ety d o f op ty=some r→∃r',kernel tt d (aW o) (fun x=>aG (f x)) op ty=some r'∧dV r r'
def agO (r:oI) (r':Ae):Prop:=(r.pre=true→dV r r')∧r'.new=r.new
theorem dV.toC {r:oI} {r':Ae} (h:dV r r'):agO r r':=⟨fun _=>h,h.new⟩
def Zl (tt:TT) (ety:TypeId→Option Ty) (d:Nat) (o:Nat→TO) (f:Operand→TS) (op:Op) (ty:TypeId):Prop:=
 ∀r,bI tt ety d o f op ty=some r→∃r',kernel tt d (aW o) (fun x=>aG (f x)) op ty=some r'∧agO r r'
theorem eP.toC {tt:TT} {ety:TypeId→Option Ty} {d:Nat} {o:Nat→TO} {f:Operand→TS} {op:Op} {ty:TypeId} (h:eP tt ety d o f op ty):Zl tt ety d o f op ty:=fun r hr=>
 let ⟨r',h1,h2⟩:=h r hr
 ⟨r',h1,h2.toC⟩
theorem dV.pure (x:TS):dV (.pure x) (.pure (aG x)):=⟨fun _=>trivial,rfl,rfl,rfl⟩
theorem Nu {x:TS} (h:aG x=.no):x=.no:=by cases x<;>first | rfl | cases h
theorem abR (x:Operand):eP tt ety d o f (.move x) ty:=by
 intro r h
 simp only [bI] at h
 split at h
 ·cases h
 ·rename_i s hs
  simp only [Option.some.injEq] at h;subst h
  refine ⟨.pure (aG (f x)),?_,dV.pure _⟩
  simp only [kernel]
  split
  ·rename_i e;exact (hs (Nu e)).elim
  ·rfl
theorem Xw (x:Operand):eP tt ety d o f (.assign x) ty:=by
 intro r h
 simp only [bI] at h
 split at h
 ·cases h
 ·rename_i s hs
  simp only [Option.some.injEq] at h;subst h
  refine ⟨.pure (aG (f x)),?_,dV.pure _⟩
  simp only [kernel]
  split
  ·rename_i e;exact (hs (Nu e)).elim
  ·rfl
theorem Zm {x:TS} {a i:Bool} {y:P} (h:aG x=.v (.one (.p a i y))) :∃w,x=.v (.one (.p a i w))∧aS w=y:=by
 cases x with
 |v x=>cases x with
  |one x=>cases x<;>simp [aG,gK,aT] at h<;>exact ⟨_,by rw [h.1,h.2.1],h.2.2⟩
  |agg xs=>cases h
 |_=>cases h
theorem abS (c x y:Operand):eP tt ety d o f (.pick c x y) ty:=by
 intro r h
 simp only [bI] at h
 split at h
 ·rename_i a0 i0 b hc
  change Bool at b
  have hc':aG (f c)=.v (.one (.p a0 i0 (.bool b))):=by rw [hc];rfl
  split at h
  ·rename_i a i w a' i' w' hx hy
   split at h
   ·rename_i z hz
    simp only [Option.some.injEq] at h;subst h
    have hx':aG (f x)=.v (.one (.p a i (aS w))):=by rw [hx];rfl
    have hy':aG (f y)=.v (.one (.p a' i' (aS w'))):=by rw [hy];rfl
    simp only [kernel,hc',hx',hy']
    refine ⟨_,rfl,⟨fun _=>trivial,?_,rfl,rfl⟩⟩
    have e:=d_ hz
    rw [e]
    cases b<;>rfl
   ·cases h
  ·rename_i hno
   have eb:(bif b then aG (f x) else aG (f y))=aG (bif b then f x else f y):=by cases b<;>rfl
   split at h
   ·cases h
   ·rename_i s hs
    simp only [Option.some.injEq] at h;subst h
    refine ⟨.pure (aG (bif b then f x else f y)),?_,dV.pure _⟩
    simp only [kernel,hc']
    split
    ·rename_i a1 i1 x1 a2 i2 y1 h1 h2
     obtain ⟨w1,e1,_⟩:=Zm h1
     obtain ⟨w2,e2,_⟩:=Zm h2
     exact (hno _ _ _ _ _ _ e1 e2).elim
    ·rw [eb]
     split
     ·rename_i e;exact (hs (Nu e)).elim
     ·rfl
 ·cases h
theorem aH {α:Type} {b:Bool} {x:Option α} {y:α} (h:(bif b then x else none)=some y):b=true∧x=some y:=by
 cases b
 ·cases h
 ·exact ⟨rfl,h⟩
theorem Zn (t:TypeId):eP tt ety d o f (.alloc t) ty:=by
 intro r h
 simp only [bI] at h
 split at h
 ·rename_i i hi
  simp only [Option.some.injEq] at h;subst h
  simp only [kernel,hi]
  refine ⟨_,rfl,⟨fun _=>trivial,rfl,?_,rfl⟩⟩
  simp only [fJ,List.map_cons,List.map_nil,bV,oV]
 ·cases h
theorem aeU (t:TypeId) (x:Operand):eP tt ety d o f (.box t x) ty:=by
 intro r h
 simp only [bI] at h
 split at h
 ·rename_i i x' hi hx
  obtain ⟨hb,h⟩:=aH h
  simp only [Option.some.injEq] at h;subst h
  simp only [Bool.and_eq_true] at hb
  simp only [kernel,hi,hx,aG,pF,List.length_map]
  rw [if_pos ⟨Nat.eq_of_beq_eq_true hb.1,pG _ hb.2⟩]
  exact ⟨_,rfl,⟨fun _=>trivial,rfl,rfl,rfl⟩⟩
 ·cases h
theorem Di (ps:List (Nat×Operand)):(ps.map fun p=>(p.1,aG (f p.2)))=(ps.map fun p=>(p.1,f p.2)).map fun p=>(p.1,aG p.2):=by
 rw [List.map_map];rfl
theorem Zo (t:TypeId) (ps:Array (Nat×Operand)):eP tt ety d o f (.build t ps) ty:=by
 intro r h
 simp only [bI] at h
 split at h
 ·rename_i i hi
  obtain ⟨hb,h⟩:=aH h
  split at h
  ·rename_i ws hw
   simp only [Option.some.injEq] at h;subst h
   have:=Bj hw
   rw [oV] at this
   simp only [kernel,hi,hb,if_true,Di,this]
   exact ⟨_,rfl,dV.pure _⟩
  ·cases h
 ·cases h
theorem Ip {α β:Type} (g:α→β) (l:List α) :∀n,(Ii l n).map g=dZ (l.map g) n
 |0=>rfl
 |n+1=>by simp [Ii,dZ,Ip g l n]
theorem zK {e:Ty} (hs:lJ e=true) :∀(n:Nat) (ws:List Wd),ws.map (·.t)=Ii (fE e) n→ak e (Bh e n ws)=chunks (size e) n (ws.map aS)
 |0,ws,h=>rfl
 |n+1,ws,h=>by
  have h1:(ws.take (size e)).map (·.t)=fE e:=by
   rw [List.map_take,h,Ii,←Bf hs,List.take_left]
  have h2:(ws.drop (size e)).map (·.t)=Ii (fE e) n:=by
   rw [List.map_drop,h,Ii,←Bf hs,List.drop_left]
  simp only [Bh,ak,List.map_cons,chunks]
  rw [nT h1,List.map_take]
  congr 1
  rw [←List.map_drop]
  exact zK hs n _ h2
theorem ji (a b:List (Nat×TO)):fJ (a++b)=fJ a++fJ b:=by simp [fJ]
theorem JV (t:TypeId) (n:Nat) (ps:Array (Nat×Operand)):eP tt ety d o f (.buildSlice t n ps) ty:=by
 intro r h
 simp only [bI] at h
 split at h
 ·rename_i e i1 i2 i3 ht
  split at h
  ·rename_i ie et he het
   split at h
   ·rename_i ws hw
    split at h
    ·rename_i qs a i gs hp
     obtain ⟨hb,h⟩:=aH h
     simp only [Option.some.injEq] at h;subst h
     simp only [Bool.and_eq_true] at hb
     have hsz:=Nat.eq_of_beq_eq_true hb.1.2
     have:=Bj hw
     rw [Ip,oV] at this
     obtain ⟨k1,k2⟩:=qm hp
     simp only [kernel,ht,he,Di,this,k1]
     rw [if_pos (Nat.le_of_ble_eq_true hb.1.1)]
     refine ⟨_,rfl,⟨fun _=>trivial,rfl,?_,rfl⟩⟩
     simp only [ji,←lK (FY hp)]
     congr 1
     simp only [P.list,fJ,List.map_cons,List.map_nil,bV,zK hb.2 n qs k2,hsz]
    ·cases h
   ·cases h
  ·cases h
 ·cases h
end
end Go.Fg

namespace Go.Fg
open Go.Fw
set_option linter.unusedVariables false
set_option linter.unusedSectionVars false
set_option linter.unusedSimpArgs false
section
variable [RE] {o:Nat→TO} {tt:TT} {ety:TypeId→Option Ty} {d:Nat} {f:Operand→TS} {ty:TypeId}
theorem dG {a b:Bool} (h:(a&&b)=true):a=true∧b=true:=by simpa using h
theorem Vd (a i:Bool) (ws:List Wd):(Zg a i ws).map aT=ws.map fun w=>W.p a i (aS w):=by
 simp only [Zg,List.map_map];rfl
theorem xA {e:Ty} (hs:lJ e=true) (x:Dt e) (a i:Bool) (off n:Nat) (h:off+n≤size e) (df:Nat→P) :
  ((List.range n).map fun j=>W.p a i ((fH e x).getD (off+j) (df j)))=(Zg a i (((b_ e x).drop off).take n)).map aT:=by
 rw [Vd,dQ]
 apply List.ext_getElem?
 intro j
 simp only [List.getElem?_map,List.getElem?_take,List.getElem?_drop]
 by_cases hj:j<n
 ·have hlt:off+j<(b_ e x).length:=by rw [KN hs];omega
  rw [List.getElem?_range hj,if_pos hj]
  simp [List.getD_eq_getElem?_getD,List.getElem?_eq_getElem hlt]
 ·rw [List.getElem?_eq_none (by simp;omega),if_neg hj];rfl
theorem Dj {n:Nat} (h:Nat.blt 0 n=true):0<n:=Nat.le_of_ble_eq_true h
theorem Zp {w:Wd} {v:Value} (h:Zf w v=true):aS w=FN [v] 0:=by
 unfold Zf at h
 split at h
 ·rename_i k n k' n'
  change Int at n
  simp only [Bool.and_eq_true,eqI,decide_eq_true_eq] at h
  obtain ⟨h1,h2⟩:=h
  cases hk:SE k k' with
  |none=>rw [hk] at h1;cases h1
  |some p=>have e:=p.down;subst e;subst h2;rfl
 ·rename_i b b'
  change Bool at b
  have h:b=b':=LawfulBEq.eq_of_beq h
  subst h;rfl
 ·rename_i s s'
  change List UInt8 at s
  simp only [Bool.and_eq_true,List.isEmpty_iff] at h
  obtain ⟨h1,h2⟩:=h
  subst h1
  obtain ⟨⟨l⟩⟩:=s'
  simp only at h2
  subst h2
  rfl
 ·rename_i e l
  change List (Dt e) at l
  obtain ⟨hl,hs⟩:l=[]∧lJ e=true:=by simpa using h
  subst hl
  show P.dX (size e) []=_
  rw [P.jU (kT hs)];rfl
 ·cases h
theorem Dk :∀{ws:List Wd} {vs:List Value},sV ws vs=true→∀j,(ws.map aS)[j]?=if j<vs.length then some (FN vs j) else none
 | [],[],h,j=>by simp
 |w::ws,[],h,j=>by simp [sV] at h
 | [],v::vs,h,j=>by simp [sV] at h
 |w::ws,v::vs,h,j=>by
  obtain ⟨h1,h2⟩:=dG h
  cases j with
  |zero=>simp only [List.map_cons,List.getElem?_cons_zero,List.length_cons,Nat.zero_lt_succ,if_true,Zp h1];rfl
  |succ j=>
   have:=Dk h2 j
   simp only [List.map_cons,List.getElem?_cons_succ,List.length_cons,this,Nat.succ_lt_succ_iff]
   rfl
theorem Nv {e:Ty} (hs:lJ e=true) (l:List (Dt e)) (n off size':Nat) (z:List Value) (h:off+size'≤size e) (hz:sV (((b_ e (dflt e)).drop off).take size') z=true) (a i:Bool) :
  ((List.range size').map fun j=>W.p a i (((ak e l).getD n []).getD (off+j) (FN z j)))=(Zg a i (((b_ e (l.getD n (dflt e))).drop off).take size')).map aT:=by
 by_cases hn:n<l.length
 ·have e1:(ak e l).getD n []=fH e (l.getD n (dflt e)):=by simp [ak,List.getD_eq_getElem?_getD,hn]
  rw [e1]
  exact xA hs _ a i off size' h _
 ·have e1:(ak e l).getD n []=[]:=by simp [ak,List.getD_eq_getElem?_getD,List.getElem?_eq_none (Nat.le_of_not_lt hn)]
  have e2:l.getD n (dflt e)=dflt e:=by simp [List.getD_eq_getElem?_getD,List.getElem?_eq_none (Nat.le_of_not_lt hn)]
  rw [e1,e2,←xA hs _ a i off size' h (FN z)]
  refine List.map_congr_left fun j hj => ?_
  have hj:j<size':=List.mem_range.1 hj
  have:=Dk hz j
  rw [List.map_take,List.map_drop,List.getElem?_take,if_pos hj,List.getElem?_drop,←dQ] at this
  have hlen:off+j<(fH e (dflt e)).length:=by rw [P7 hs];omega
  rw [List.getD_eq_getElem?_getD,List.getD_eq_getElem?_getD,this]
  split
  ·rfl
  ·rfl
theorem abT (t:TypeId) (x:Operand):eP tt ety d o f (.load t x) ty:=by
 intro r h
 simp only [bI] at h
 split at h
 ·rename_i i g off ht hx
  have hx':aG (f x)=.v (.one (.box g off)):=by rw [hx];rfl
  split at h
  ·rename_i ws hg
   obtain ⟨hb,h⟩:=aH h
   simp only [Option.some.injEq] at h;subst h
   obtain ⟨h1,h2⟩:=dG hb
   simp only [kernel,ht,hx',nH hg,List.length_map]
   rw [if_pos ⟨Nat.le_of_ble_eq_true h1,Dj h2⟩]
   refine ⟨_,rfl,?_⟩
   have:=dV.pure (TV.dh i.agg ((ws.drop off).take i.size))
   rw [jh,List.map_take,List.map_drop] at this
   exact this
  ·cases h
 ·rename_i i g n off ht hx
  have hx':aG (f x)=.v (.one (.ep g (.int .i64 n) off)):=by rw [hx];rfl
  split at h
  ·rename_i fz a i' e l hg
   obtain ⟨hb,h⟩:=aH h
   simp only [Option.some.injEq] at h;subst h
   obtain ⟨hb,hs⟩:=dG hb
   obtain ⟨hb,h3⟩:=dG hb
   obtain ⟨h1,h2⟩:=dG hb
   have h1:=Nat.le_of_ble_eq_true h1
   simp only [kernel,ht,hx',eF hg]
   rw [if_pos ⟨h1,Dj h2⟩]
   refine ⟨_,rfl,⟨fun _=>trivial,?_,rfl,rfl⟩⟩
   simp only [Ae.pure,jh]
   congr 1
   have en:(P.int .i64 n).nat=n.toNat:=rfl
   rw [en]
   exact Nv hs l n.toNat off i.size i.zero h1 h3 a i'
  ·cases h
 ·rename_i i a i' e x' off ht hx
  have hx':aG (f x)=.v (.one (.sp a i' (fH e x') off)):=by rw [hx];rfl
  obtain ⟨hb,h⟩:=aH h
  simp only [Option.some.injEq] at h;subst h
  obtain ⟨hb,hs⟩:=dG hb
  obtain ⟨h1,h2⟩:=dG hb
  have h2:=Nat.le_of_ble_eq_true h2
  simp only [kernel,ht,hx']
  rw [if_pos (Dj h1)]
  refine ⟨_,rfl,⟨fun _=>by rw [P7 hs];exact h2,?_,rfl,rfl⟩⟩
  simp only [oI.pure,jh]
  congr 1
  exact xA hs x' a i' off i.size h2 fun _=>default
 ·cases h
theorem aP (g:Nat) :∀(l:List Nat),dR g l=l.contains g
 | []=>rfl
 |x::xs=>by
  simp only [dR,List.contains_cons,aP g xs]
  congr 1
  rw [Bool.eq_iff_iff];simp
theorem abU (e:Ty) (l:List (Dt e)) (n:Nat) (x:Dt e):ak e (l.set n x)=(ak e l).set n (fH e x):=by simp [ak,List.map_set]
theorem Zq (t:TypeId) (x y:Operand):eP tt ety d o f (.store t x y) ty:=by
 intro r h
 simp only [bI] at h
 split at h
 ·rename_i i g off y' ht hx hy
  have hx':aG (f x)=.v (.one (.box g off)):=by rw [hx];rfl
  have hy':aG (f y)=.v (gK y'):=by rw [hy];rfl
  split at h
  ·rename_i ws hg
   obtain ⟨hb,h⟩:=aH h
   simp only [Option.some.injEq] at h;subst h
   obtain ⟨hb,h3⟩:=dG hb
   obtain ⟨h1,h2⟩:=dG hb
   simp only [kernel,ht,hx',hy',nH hg,List.length_map,pF]
   rw [if_pos ⟨Nat.le_of_ble_eq_true h1,Nat.eq_of_beq_eq_true h2,pG _ h3⟩]
   refine ⟨_,rfl,⟨fun _=>trivial,rfl,?_,rfl⟩⟩
   simp only [fJ,List.map_cons,List.map_nil,bV,oU]
  ·cases h
 ·rename_i i g n off y' ht hx hy
  have hx':aG (f x)=.v (.one (.ep g (.int .i64 n) off)):=by rw [hx];rfl
  have hy':aG (f y)=.v (gK y'):=by rw [hy];rfl
  split at h
  ·rename_i a i' e l hg
   split at h
   ·rename_i ps a' i'' gs hp
    obtain ⟨hb,h⟩:=aH h
    simp only [Option.some.injEq] at h;subst h
    obtain ⟨hb,hs⟩:=dG hb
    obtain ⟨hb,h4⟩:=dG hb
    obtain ⟨hb,h3⟩:=dG hb
    obtain ⟨h1,h2⟩:=dG hb
    have h1:=Nat.le_of_ble_eq_true h1
    have h2:=Nat.eq_of_beq_eq_true h2
    obtain ⟨k1,k2⟩:=qm hp
    have hl:ps.length=i.size:=by
     have:=congrArg List.length k2
     simp [Bf hs] at this
     omega
    simp only [kernel,ht,hx',hy',eF hg,pF,k1,List.length_map]
    rw [if_pos ⟨h1,hl,h2,pG _ h3,by simpa [aP] using h4⟩]
    refine ⟨_,rfl,⟨fun _=>trivial,rfl,?_,rfl⟩⟩
    simp only [ji,←lK (FY hp)]
    congr 1
    simp only [P.list,fJ,List.map_cons,List.map_nil,bV,abU]
    have en:(P.int .i64 n).nat=n.toNat:=rfl
    rw [en]
    by_cases hn:n.toNat<l.length
    ·have e1:(ak e l).getD n.toNat []=fH e (l.getD n.toNat (dflt e)):=by simp [ak,List.getD_eq_getElem?_getD,hn]
     have hty:(aA (b_ e (l.getD n.toNat (dflt e))) off ps).map (·.t)=fE e:=by
      have e0:fE e=(fE e).take off++(((fE e).drop off).take i.size++(fE e).drop (off+i.size)):=by
       rw [←List.drop_drop,List.take_append_drop,List.take_append_drop]
      simp only [aA,List.map_append,List.map_take,List.map_drop,l7,k2,hl,List.append_assoc]
      exact e0.symm
     have key:fH e (JU e (Nat.beq i.size (size e)) (l.getD n.toNat (dflt e)) off ps)=aA ((ak e l).getD n.toNat []) off (ps.map aS):=by
      rw [e1]
      unfold JU
      cases hc:Nat.beq i.size (size e) with
      |true=>
       have hc:=Nat.eq_of_beq_eq_true hc
       have h0:off=0:=by omega
       subst h0
       have e2:aA (b_ e (l.getD n.toNat (dflt e))) 0 ps=ps:=by
        simp only [aA,List.take_zero,List.nil_append,Nat.zero_add]
        rw [List.drop_of_length_le (by rw [KN hs];omega),List.append_nil]
       have e3:aA (fH e (l.getD n.toNat (dflt e))) 0 (ps.map aS)=ps.map aS:=by
        rw [dQ,←oU,e2]
       rw [e2] at hty
       rw [e3]
       exact nT hty
      |false=>
       simp only
       rw [nT hty,oU,←dQ]
     rw [key]
    ·have e1 :∀z,(ak e l).set n.toNat z=ak e l:=fun z=>List.set_eq_of_length_le (by rw [dL];omega)
     rw [e1,e1]
   ·cases h
  ·cases h
 ·cases h
theorem Qd (x:Operand):eP tt ety d o f (.nilCheck x) ty:=by
 intro r h
 simp only [bI] at h
 split at h
 ·rename_i x' hx
  obtain ⟨hb,h⟩:=aH h
  simp only [Option.some.injEq] at h;subst h
  have hx':aG (f x)=.v (.one (aT x')):=by rw [hx];rfl
  simp only [kernel,hx']
  rw [if_pos (Io hb)]
  exact ⟨_,rfl,dV.pure _⟩
 ·cases h
theorem Xx {a b:IntKind} {p:PLift (a=b)} (h:SE a b=some p):a=b:=p.down
theorem SV {op:BinOp} {k k':IntKind} {a b:Int} {c:Bool×Wd} (h:SI op k k' a b=some c):(c.1=true→P.OA op (.int k a) (.int k' b))∧P.bin op (.int k a) (.int k' b)=aS c.2:=by
 unfold SI at h
 cases op<;>simp only at h
 case shl=>simp only [Option.some.injEq] at h;subst h;exact ⟨fun h=>(by simpa using h:0≤b),rfl⟩
 case shr=>simp only [Option.some.injEq] at h;subst h;exact ⟨fun h=>(by simpa using h:0≤b),rfl⟩
 all_goals
  split at h
  ·cases h
  ·rename_i p hp
   obtain ⟨e⟩:=p
   subst e
   simp only [Option.some.injEq] at h
   first
    |(cases h;done)
    |(
      
      subst h
      refine ⟨fun h => ?_,?_⟩
      ·first
       |exact rfl
       |(simp at h;exact ⟨rfl,h⟩)
      ·first
       |rfl
       |(simp only [P.bin,gQ,agP];congr 1))
theorem Xy (a b:List UInt8):(⟨a.toArray⟩++⟨b.toArray⟩:ByteArray)=⟨(a++b).toArray⟩:=by
 apply ByteArray.ext;simp [ByteArray.data_append]
theorem Dl (a:List UInt8):(⟨a.toArray⟩:ByteArray).toList=a:=by rw [ByteArray.toList_eq]
theorem SX {op:BinOp} {a b:List UInt8} {c:Bool×Wd} (h:SK op a b=some c):(c.1=true→P.OA op (.str ⟨a.toArray⟩) (.str ⟨b.toArray⟩))∧P.bin op (.str ⟨a.toArray⟩) (.str ⟨b.toArray⟩)=aS c.2:=by
 unfold SK at h
 cases op<;>simp only [Option.some.injEq] at h<;>try (cases h;done)
 all_goals subst h
 case add=>
  refine ⟨fun h => ?_,?_⟩
  ·simp only [Xu] at h
   show a.toArray.size+b.toArray.size≤_
   simp only [List.size_toArray];omega
  ·simp only [P.bin,Xy];rfl
 all_goals exact ⟨fun _=>trivial,by simp only [P.bin,Dl];rfl⟩
theorem Qe {op:BinOp} {a b:Bool} {c:Bool×Wd} (h:Nq op a b=some c):(c.1=true→P.LU op (.bool a) (.bool b))∧P.bin op (.bool a) (.bool b)=aS c.2:=by
 unfold Nq at h
 cases op<;>simp only [Option.some.injEq] at h<;>try (cases h;done)
 all_goals subst h
 ·exact ⟨fun _=>.inl rfl,rfl⟩
 ·exact ⟨fun _=>.inr rfl,rfl⟩
theorem dV.nG {c:Bool×Wd} {pre:Prop} {x:P} (h:c.1=true→pre) (hx:x=aS c.2):dV (.nG c) (.calc pre x):=by
 subst hx
 obtain ⟨c1,t,y⟩:=c
 exact ⟨h,rfl,rfl,rfl⟩
theorem Ve (a b:List UInt8):P.Yi (.str ⟨a.toArray⟩) (.str ⟨b.toArray⟩)=(a==b):=by
 show ((⟨a.toArray⟩:ByteArray)==⟨b.toArray⟩)=_
 rw [beq_toListBytes,Dl,Dl]
theorem Zr {k:TK} {x y:Wd} {b:Bool} (h:aeS k x y=some b):UC k (aS x) (aS y)∧P.Yi (aS x) (aS y)=b:=by
 unfold aeS at h
 split at h
 ·unfold adQ at h
  split at h
  ·rename_i p hp
   obtain ⟨e⟩:=p
   subst e
   simp only [Option.some.injEq] at h;subst h
   exact ⟨rfl,rfl⟩
  ·cases h
 ·rename_i a b'
  simp only [eqStr,Option.some.injEq] at h;subst h
  exact ⟨trivial,Ve a b'⟩
 ·simp only [agN,Option.some.injEq] at h;subst h
  exact ⟨trivial,rfl⟩
 ·cases h
theorem Qg {tt:TT} :∀(fs:List (Nat×TypeId)) (n:Nat) (xs ys:List TW) (b:Bool),Fp tt n fs xs ys=some b→∃c,lU tt n fs (xs.map aT) (ys.map aT)=some c∧c.1∧c.2=b
 | [],n,[],[],b,h=>by
  simp only [Fp,Option.some.injEq] at h;subst h
  exact ⟨(True,true),rfl,trivial,rfl⟩
 |(off,t)::fs,n,x::xs,y::ys,b,h=>by
  cases x with
  |p a1 i1 x=>cases y with
   |p a2 i2 y=>
    simp only [Fp] at h
    split at h
    ·rename_i i hi
     cases hb:(Nat.beq off n&&i.k.flat&&Nat.beq i.size 1) with
     |false=>rw [hb] at h;cases h
     |true=>
      rw [hb] at h
      simp only [cond_true] at h
      split at h
      ·rename_i b1 b2 h1 h2
       simp only [Option.some.injEq] at h;subst h
       obtain ⟨c,e1,e2,e3⟩:=Qg fs (n+1) xs ys b2 h2
       obtain ⟨q1,q2⟩:=Zr h1
       simp only [Bool.and_eq_true] at hb
       have hoff:off=n∧i.k.flat=true∧i.size=1:=⟨Nat.eq_of_beq_eq_true hb.1.1,hb.1.2,Nat.eq_of_beq_eq_true hb.2⟩
       refine ⟨(UC i.k (aS x) (aS y)∧c.1,P.Yi (aS x) (aS y)&&c.2),?_,⟨q1,e2⟩,by rw [q2,e3]⟩
       simp only [List.map_cons,aT,lU,hi]
       rw [if_pos hoff,e1]
      ·cases h
    ·cases h
   |_=>simp [Fp] at h
  |_=>simp [Fp] at h
 | [],n,_::_,_,b,h=>by simp [Fp] at h
 | [],n,[],_::_,b,h=>by simp [Fp] at h
 |_::_,n,[],_,b,h=>by simp [Fp] at h
 |_::_,n,x::xs,[],b,h=>by cases x<;>simp [Fp] at h
theorem Zt (op:BinOp) (t:TypeId) (x y:Operand) (u:TypeId):eP tt ety d o f (.binOp op t x y u) ty:=by
 intro r h
 simp only [bI] at h
 split at h
 ·rename_i a1 i1 x' a2 i2 y' hx hy
  have hx':aG (f x)=.v (.one (.p a1 i1 (aS x'))):=by rw [hx];rfl
  have hy':aG (f y)=.v (.one (.p a2 i2 (aS y'))):=by rw [hy];rfl
  split at h
  ·rename_i i ht
   split at h
   ·rename_i c hc
    simp only [Option.some.injEq] at h;subst h
    obtain ⟨ik,isz,ib,iz⟩:=i
    simp only at hc
    unfold agM at hc
    split at hc
    ·obtain ⟨k1,k2⟩:=SV hc
     simp only [kernel,hx',hy',ht]
     exact ⟨_,rfl,dV.nG k1 k2⟩
    ·obtain ⟨k1,k2⟩:=SX hc
     simp only [kernel,hx',hy',ht]
     exact ⟨_,rfl,dV.nG k1 k2⟩
    ·obtain ⟨k1,k2⟩:=Qe hc
     simp only [kernel,hx',hy',ht]
     exact ⟨_,rfl,dV.nG k1 k2⟩
    ·cases hc
   ·cases h
  ·cases h
 ·rename_i xs ys hx hy
  have hx':aG (f x)=.v (.agg (xs.map aT)):=by rw [hx];rfl
  have hy':aG (f y)=.v (.agg (ys.map aT)):=by rw [hy];rfl
  split at h
  ·rename_i i ht
   have key :∀{b q:Bool} {v:Bool},Fp tt 0 i.k.parts xs ys=some b→abt op=some q→i.eq=true→v=(b==q)→∃r',kernel tt d (aW o) (fun a=>aG (f a)) (.binOp op t x y u) ty=some r'∧dV (.nG (true,gQ v)) r':=by
    intro b q v h1 h2 h3 h4
    obtain ⟨c,e1,e2,e3⟩:=Qg _ _ _ _ _ h1
    simp only [kernel,hx',hy',ht,e1,h2]
    rw [if_pos h3]
    exact ⟨_,rfl,dV.nG (fun _=>e2) (by rw [e3,h4];rfl)⟩
   split at h
   ·rename_i b h1 h2
    cases h3:i.eq with
    |false=>rw [h3] at h;cases h
    |true=>
     rw [h3] at h
     simp only [cond_true,Option.some.injEq] at h;subst h
     exact key (v:=b) h1 h2 h3 (by cases b<;>rfl)
   ·rename_i b h1 h2
    cases h3:i.eq with
    |false=>rw [h3] at h;cases h
    |true=>
     rw [h3] at h
     simp only [cond_true,Option.some.injEq] at h;subst h
     exact key (v:=!b) h1 h2 h3 (by cases b<;>rfl)
   ·cases h
  ·cases h
 ·cases h
theorem abV (op:UnOp) (t:TypeId) (x:Operand):eP tt ety d o f (.unOp op t x) ty:=by
 intro r h
 simp only [bI] at h
 split at h
 ·rename_i a1 i1 x' hx
  have hx':aG (f x)=.v (.one (.p a1 i1 (aS x'))):=by rw [hx];rfl
  split at h
  ·rename_i c hc
   simp only [Option.some.injEq] at h;subst h
   simp only [kernel,hx']
   unfold unT at hc
   split at hc
   ·simp only [Option.some.injEq] at hc;subst hc
    exact ⟨_,rfl,dV.nG (fun _=>trivial) rfl⟩
   ·simp only [Option.some.injEq] at hc;subst hc
    exact ⟨_,rfl,dV.nG (fun _=>trivial) rfl⟩
   ·cases hc
  ·cases h
 ·cases h
theorem SY (s t:TypeId) (x:Operand):eP tt ety d o f (.convert s t x) ty:=by
 intro r h
 simp only [bI] at h
 split at h
 ·rename_i k0 s0 b0 z0 k s1 b1 z1 a1 i1 k2 x' hs ht hx
  have hx':aG (f x)=.v (.one (.p a1 i1 (.int k2 x'))):=by rw [hx];rfl
  simp only [Option.some.injEq] at h;subst h
  simp only [kernel,hs,ht,hx']
  exact ⟨_,rfl,⟨fun _=>trivial,rfl,rfl,rfl⟩⟩
 ·rename_i e s0 b0 z0 s1 b1 z1 x' hs ht hx
  have hx':aG (f x)=.v (.one (aT x')):=by rw [hx];rfl
  split at h
  ·rename_i s2 b2 z2 he
   split at h
   ·rename_i l a1 i1 hr
    simp only [Option.some.injEq] at h;subst h
    obtain ⟨ask,hr',hask⟩:=Qc hr
    have hr':(aT x').rows (aW o) 1=some (ask,ak (.int .u8) l,a1,i1):=hr'
    simp only [kernel,hs,ht,hx',he,hr']
    refine ⟨_,rfl,⟨fun _=>⟨hask,fun r hr => ?_⟩,?_,rfl,rfl⟩⟩
    ·simp only [ak,List.mem_map] at hr
     obtain ⟨n,_,rfl⟩:=hr
     exact ⟨n,rfl⟩
    ·have e:Gs (ak (.int .u8) l)=aS ⟨.str,strOf l⟩:=by
      show P.str _=P.str _
      congr 2
      simp only [ak,List.map_map,strOf]
      congr 1
     show S.v (V.one (W.p false false (Gs (ak (.int .u8) l))))=_
     rw [e];rfl
   ·cases h
  ·cases h
 ·rename_i s0 b0 z0 e s1 b1 z1 a1 i1 x' hs ht hx
  change List UInt8 at x'
  have hx':aG (f x)=.v (.one (.p a1 i1 (.str ⟨x'.toArray⟩))):=by rw [hx];rfl
  split at h
  ·rename_i s2 b2 z2 he
   simp only [Option.some.injEq] at h;subst h
   simp only [kernel,hs,ht,hx',he]
   refine ⟨_,rfl,⟨fun _=>trivial,?_,rfl,rfl⟩⟩
   have e:LV (.str ⟨x'.toArray⟩)=aS ⟨.sl (.int .u8),aeR x'⟩:=by
    show P.dX 1 _=P.dX 1 _
    have key :∀l:List UInt8,(l.map fun b=>[P.int .u8 (b.toNat:Int)])=ak (.int .u8) (aeR l):=by
     intro l
     induction l with
     |nil=>rfl
     |cons a l ih=>exact congrArg (List.cons _) ih
    exact congrArg (P.dX 1) (key x')
   show S.v (V.one (W.p false false (LV (.str ⟨x'.toArray⟩))))=_
   rw [e];rfl
  ·cases h
 ·cases h
end
end Go.Fg

namespace Go.Fg
open Go.Fw
set_option linter.unusedVariables false
set_option linter.unusedSectionVars false
set_option linter.unusedSimpArgs false
section
variable [RE] {o:Nat→TO} {tt:TT} {ety:TypeId→Option Ty} {d:Nat} {f:Operand→TS} {ty:TypeId}
theorem xB {k:IntKind} {n:Int} {m:Nat} (h:inB n m=true):inRange (.int k n) m:=by
 simp only [inB,Bool.and_eq_true,decide_eq_true_eq] at h;exact h
theorem Nw (t:TypeId) (n c:Operand):eP tt ety d o f (.makeSlice t n c) ty:=by
 intro r h
 simp only [bI] at h
 split at h
 ·rename_i e i1 i2 i3 a1 j1 n' a2 j2 c' ht hn hc
  change Int at n';change Int at c'
  have hn':aG (f n)=.v (.one (.p a1 j1 (.int .i64 n'))):=by rw [hn];rfl
  have hc':aG (f c)=.v (.one (.p a2 j2 (.int .i64 c'))):=by rw [hc];rfl
  split at h
  ·rename_i ie et he het
   split at h
   ·rename_i ps hp
    obtain ⟨hb,h⟩:=aH h
    simp only [Option.some.injEq] at h;subst h
    obtain ⟨h1,h2⟩:=dG hb
    obtain ⟨k1,k2⟩:=qm hp
    have hsz:=Nat.eq_of_beq_eq_true h2
    rw [oV] at k1
    simp only [kernel,ht,hn',hc',he,k1]
    rw [if_pos (Dj h1)]
    refine ⟨_,rfl,⟨fun hp => ?_,rfl,?_,rfl⟩⟩
    ·simp only [P_,Bool.and_eq_true,decide_eq_true_eq] at hp
     obtain ⟨⟨⟨p1,p2⟩,p3⟩,p4⟩:=hp
     refine ⟨n'.toNat,c'.toNat,by rw [Int.toNat_of_nonneg p1],by rw [Int.toNat_of_nonneg (by omega)],by omega,?_,by omega⟩
     have e:((ie.bytes*c'.toNat:Nat):Int)=ie.bytes*c':=by rw [Int.natCast_mul,Int.toNat_of_nonneg (by omega)]
     omega
    ·simp only [P.list,fJ,List.map_cons,List.map_nil,bV,hsz]
     have en:(P.int .i64 n').nat=n'.toNat:=rfl
     rw [en]
     simp only [ak,List.map_replicate]
     rw [nT k2]
   ·cases h
  ·cases h
 ·cases h
theorem jZ {df:Int} {lo:Option Operand} {m:Int} (h:jY df (lo.map f)=some m):kK (.int .i64 df) (lo.map fun x=>aG (f x))=some (.int .i64 m):=by
 cases lo with
 |none=>simp only [Option.map_none,jY,Option.some.injEq] at h;subst h;rfl
 |some x=>
  simp only [Option.map_some] at h ⊢
  unfold jY at h
  split at h
  ·rename_i hh;cases hh
  ·rename_i hh
   simp only [Option.some.injEq] at hh
   cases h
   rw [hh];rfl
  ·cases h
theorem tY {lo hi:Int} {len:Nat} (h:sU lo hi len=true) :∃m k:Nat,P.int .i64 lo=.int .i64 m∧P.int .i64 hi=.int .i64 k∧m≤k∧k≤len:=by
 simp only [sU,Bool.and_eq_true,decide_eq_true_eq] at h
 exact ⟨lo.toNat,hi.toNat,by rw [Int.toNat_of_nonneg (by omega)],by rw [Int.toNat_of_nonneg (by omega)],by omega,by omega⟩
theorem S9 (y:List UInt8) (a b:Nat):(⟨y.toArray⟩:ByteArray).extract a b=⟨((y.take b).drop a).toArray⟩:=by
 apply ByteArray.ext
 simp [ByteArray.data_extract,List.drop_take]
theorem Xz (t:TypeId) (x hi mx:Operand):eP tt ety d o f (.slice t x none (some hi) (some mx)) ty:=by
 intro r h
 simp only [bI] at h
 unfold U9 at h
 split at h
 ·rename_i e i1 i2 i3 g a1 j1 h' a2 j2 m' ht hx hh hm
  change Int at h';change Int at m'
  have hx':aG (f x)=.v (.one (.own g)):=by rw [hx];rfl
  have hh':aG (f hi)=.v (.one (.p a1 j1 (.int .i64 h'))):=by rw [hh];rfl
  have hm':aG (f mx)=.v (.one (.p a2 j2 (.int .i64 m'))):=by rw [hm];rfl
  split at h
  ·rename_i ie a i e' l he hg
   obtain ⟨hb,h⟩:=aH h
   simp only [Option.some.injEq] at h;subst h
   have hg':aW o g=.arr false a i (size e') (ak e' l):=by unfold aW;rw [hg];rfl
   simp only [kernel,Aj,ht,hx',hh',hm',he,hg']
   rw [if_pos (Nat.eq_of_beq_eq_true hb)]
   refine ⟨_,rfl,⟨fun hp => ?_,rfl,rfl,rfl⟩⟩
   obtain ⟨k,j,q1,q2,q3,q4⟩:=tY hp
   exact ⟨k,j,q1,q2,q3,by rw [dL];exact q4⟩
  ·cases h
 ·rename_i e i1 i2 i3 a1 j1 h' a2 j2 m' ht hx hh hm
  change Int at h';change Int at m'
  have hx':aG (f x)=.v (.one .bg):=by rw [hx];rfl
  have hh':aG (f hi)=.v (.one (.p a1 j1 (.int .i64 h'))):=by rw [hh];rfl
  have hm':aG (f mx)=.v (.one (.p a2 j2 (.int .i64 m'))):=by rw [hm];rfl
  split at h
  ·rename_i ie he
   simp only [Option.some.injEq] at h;subst h
   simp only [kernel,Aj,ht,hx',hh',hm',he]
   refine ⟨_,rfl,⟨fun hp => ?_,rfl,rfl,rfl⟩⟩
   obtain ⟨k,j,q1,q2,q3,q4⟩:=tY hp
   have hj:j=0:=by omega
   have hk:k=0:=by omega
   subst hj;subst hk
   exact ⟨q1,q2⟩
  ·cases h
 ·cases h
theorem Zu (args:Array Operand) (ts:Array TypeId):eP tt ety d o f (.call { callee:=.builtin .clear,args:=args,argTypes:=ts }) ty:=by
 intro r h
 simp only [bI] at h
 split at h
 ·rename_i x t tl ha hts
  unfold Zh at h
  split at h
  ·rename_i e i1 i2 i3 g lo hi ht hx
   change Int at lo;change Int at hi
   have hx':aG (f x)=.v (.one (.vw g (.int .i64 lo) (.int .i64 hi))):=by rw [hx];rfl
   split at h
   ·rename_i ie a i et l he hg
    obtain ⟨hb,h⟩:=aH h
    split at h
    ·rename_i ps hp
     simp only [Option.some.injEq] at h;subst h
     obtain ⟨h1,h2⟩:=dG hb
     obtain ⟨k1,k2⟩:=qm hp
     have hsz:=Nat.eq_of_beq_eq_true h1
     rw [oV] at k1
     have hg':aW o g=.arr false a i (size et) (ak et l):=by unfold aW;rw [hg];rfl
     simp only [kernel,ha,hts,LW,ht,hx',he,hg',k1]
     rw [if_pos ⟨hsz,by rw [hsz];exact Dj h2⟩]
     refine ⟨_,rfl,⟨fun hp=>Nat.le_of_ble_eq_true hp,rfl,?_,rfl⟩⟩
     simp only [P.list,fJ,List.map_cons,List.map_nil,bV]
     have e1:(P.int .i64 lo).nat=lo.toNat:=rfl
     have e2:(P.int .i64 hi).nat=hi.toNat:=rfl
     rw [e1,e2]
     simp only [ak,agL,aA,List.map_append,List.map_take,List.map_drop,List.map_replicate,List.length_replicate]
     rw [nT k2]
    ·cases h
   ·cases h
  ·cases h
 ·cases h
theorem abW (args:Array Operand) (ts:Array TypeId):eP tt ety d o f (.call { callee:=.builtin .copy,args:=args,argTypes:=ts }) ty:=by
 intro r h
 simp only [bI] at h
 split at h
 ·rename_i x y t tl ha hts
  unfold adR at h
  split at h
  ·rename_i e i1 i2 i3 g a' i' w ht hx hy
   have hx':aG (f x)=.v (.one (.own g)):=by rw [hx];rfl
   have hy':aG (f y)=.v (.one (.p a' i' (aS w))):=by rw [hy];rfl
   split at h
   ·rename_i ie a i et l he hg
    split at h
    ·rename_i z hz
     change List (Dt et) at z
     obtain ⟨hb,h⟩:=aH h
     simp only [Option.some.injEq] at h;subst h
     obtain ⟨hb,h3⟩:=dG hb
     obtain ⟨h1,h2⟩:=dG hb
     have hsz:=Nat.eq_of_beq_eq_true h1
     have hg':aW o g=.arr false a i (size et) (ak et l):=by unfold aW;rw [hg];rfl
     have hw:=d_ hz
     subst hw
     have ez:(aS ⟨.sl et,z⟩).list=ak et z∧(aS ⟨.sl et,z⟩).LQ (size et):=by
      have e:aS ⟨.sl et,z⟩=P.dX (size et) (ak et z):=rfl
      rw [e,P.jU (kT h3)]
      cases ak et z with
      |nil=>exact ⟨rfl,.inr rfl⟩
      |cons a l=>exact ⟨rfl,.inl rfl⟩
     simp only [kernel,ha,hts,UD,ht,hx',hy',he,hg']
     rw [if_pos ⟨hsz,by rw [hsz];exact Dj h2⟩]
     refine ⟨_,rfl,⟨fun hp => ?_,rfl,?_,rfl⟩⟩
     ·refine ⟨ez.2,?_⟩
      rw [ez.1,dL,dL]
      exact Nat.le_of_ble_eq_true hp
     ·rw [ez.1]
      simp only [P.list,fJ,List.map_cons,List.map_nil,bV]
      simp only [ak,ovL,List.length_map,List.map_append,List.map_drop]
    ·cases h
   ·cases h
  ·cases h
 ·cases h
theorem Zv (t:TypeId) (x:Operand) (lo hi:Option Operand):eP tt ety d o f (.slice t x lo hi none) ty:=by
 intro r h
 simp only [bI] at h
 split at h
 ·rename_i e i1 i2 i3 x' ht hx
  have hx':aG (f x)=.v (.one (aT x')):=by rw [hx];rfl
  split at h
  ·rename_i ie et len he het hlen
   split at h
   ·rename_i lo' hi' hlo hhi
    obtain ⟨ask,hl,hask⟩:=Vb hlen
    have Gy:=jZ hlo
    have uG:=jZ hhi
    have en0:jJ 0=P.int .i64 0:=rfl
    simp only [kernel,ht,hx',he,hl,en0,Gy,uG]
    split at h
    ·rename_i g
     split at h
     ·rename_i e' l hg
      obtain ⟨hb,h⟩:=aH h
      simp only [Option.some.injEq] at h;subst h
      simp only [aT,oh hg]
      rw [if_pos (Nat.eq_of_beq_eq_true hb)]
      refine ⟨_,rfl,⟨fun hp => ?_,rfl,rfl,rfl⟩⟩
      exact tY hp
     ·cases h
    ·rename_i a i w
     split at h
     ·rename_i l hl'
      change List (Dt et) at l
      obtain ⟨hb,h⟩:=aH h
      simp only [Option.some.injEq] at h;subst h
      have hsz:=Nat.eq_of_beq_eq_true (dG hb).1
      simp only [aT]
      refine ⟨_,rfl,⟨fun hp=>⟨hask,?_,?_⟩,?_,rfl,rfl⟩⟩
      ·rw [d_ hl',←hsz];exact Il (dG hb).2 _
      ·rw [d_ hl',jC,dL];exact tY hp
      ·rw [d_ hl']
       show S.v (V.one (W.p a i (P.sub ie.size (P.int .i64 lo').nat (P.int .i64 hi').nat (aS ⟨.sl et,l⟩))))=S.v (V.one (W.p a i (aS ⟨.sl et,List.drop lo'.toNat (List.take hi'.toNat l)⟩)))
       rw [P.sub,jC,rF,←hsz];rfl
     ·cases h
    ·simp only [Option.some.injEq] at h;subst h
     simp only [aT]
     refine ⟨_,rfl,⟨fun hp => ?_,rfl,rfl,rfl⟩⟩
     obtain ⟨h1,h2⟩:=dG hp
     have h1:lo'=0:=by simpa using h1
     have h2:hi'=0:=by simpa using h2
     subst h1;subst h2;exact ⟨rfl,rfl⟩
    ·cases h
   ·cases h
  ·cases h
 ·rename_i s0 b0 z0 a1 i1 y ht hx
  have hx':aG (f x)=.v (.one (.p a1 i1 (.str ⟨y.toArray⟩))):=by rw [hx];rfl
  change List UInt8 at y
  split at h
  ·rename_i lo' hi' hlo hhi
   simp only [Option.some.injEq] at h;subst h
   have Gy:=jZ hlo
   have uG:=jZ hhi
   have en0:jJ 0=P.int .i64 0:=rfl
   have el:(P.str ⟨y.toArray⟩).len=P.int .i64 (y.length:Nat):=by show P.int .i64 (y.toArray.size:Nat)=_;simp
   simp only [kernel,ht,hx',en0,el,Gy,uG]
   refine ⟨_,rfl,⟨fun hp=>⟨trivial,?_⟩,?_,rfl,rfl⟩⟩
   ·have:=tY hp
    simpa [P.bytes,ByteArray.size] using this
   ·show S.v (V.one (W.p false false (P.str ((⟨y.toArray⟩:ByteArray).extract lo'.toNat hi'.toNat))))=S.v (V.one (W.p false false (P.str ⟨(List.drop lo'.toNat (List.take hi'.toNat y)).toArray⟩)))
    rw [S9]
  ·cases h
 ·cases h
theorem Ny (t:TypeId) (x:Operand) (n:Nat):eP tt ety d o f (.fieldAddr t x n) ty:=by
 intro r h
 simp only [bI] at h
 split at h
 ·rename_i fs i1 i2 i3 off' sz' x' ht hp hx
  have hx':aG (f x)=.v (.one (aT x')):=by rw [hx];rfl
  obtain ⟨hb,h⟩:=aH h
  simp only [Option.some.injEq] at h;subst h
  obtain ⟨h1,h2⟩:=dG hb
  simp only [kernel,ht,hp,hx']
  rw [if_pos ⟨Dj h1,Io h2⟩]
  refine ⟨_,rfl,?_⟩
  have:=dV.pure (.v (.one (x'.shift off')))
  simpa only [aG,gK,KP] using this
 ·cases h
theorem Zw (t:TypeId) (x:Operand) (n:Nat):eP tt ety d o f (.field t x n) ty:=by
 intro r h
 simp only [bI] at h
 split at h
 ·rename_i fs i1 i2 i3 ws ht hx
  have hx':aG (f x)=.v (.agg (ws.map aT)):=by rw [hx];rfl
  split at h
  ·rename_i off u hf
   split at h
   ·rename_i iu hu
    obtain ⟨hb,h⟩:=aH h
    simp only [Option.some.injEq] at h;subst h
    obtain ⟨h1,h2⟩:=dG hb
    simp only [kernel,ht,hx',hf,hu,List.length_map]
    rw [if_pos ⟨Nat.le_of_ble_eq_true h1,Dj h2⟩]
    refine ⟨_,rfl,?_⟩
    have:=dV.pure (TV.dh iu.agg ((ws.drop off).take iu.size))
    rw [jh,List.map_take,List.map_drop] at this
    exact this
   ·cases h
  ·cases h
 ·cases h
theorem Nz (t:TypeId) (x ix:Operand):Zl tt ety d o f (.indexAddr t x ix) ty:=by
 intro r h
 simp only [bI] at h
 split at h
 ·rename_i e i1 i2 i3 x' a1 j1 k n ht hx hn
  change Int at n
  have hx':aG (f x)=.v (.one (aT x')):=by rw [hx];rfl
  have hn':aG (f ix)=.v (.one (.p a1 j1 (.int k n))):=by rw [hn];rfl
  have en:(P.int k n).nat=n.toNat:=rfl
  split at h
  ·rename_i ie et g he het
   split at h
   ·rename_i e' l hg
    obtain ⟨hb,h⟩:=aH h
    simp only [Option.some.injEq] at h;subst h
    simp only [kernel,ht,hx',hn',he,aT,oh hg]
    rw [if_pos (Nat.eq_of_beq_eq_true hb)]
    refine ⟨_,rfl,dV.toC ⟨fun hp => ?_,rfl,rfl,rfl⟩⟩
    exact xB (k:=k) hp
   ·cases h
  ·rename_i ie et g lo hi he het
   split at h
   ·rename_i e' l hg
    obtain ⟨hb,h⟩:=aH h
    simp only [Option.some.injEq] at h;subst h
    simp only [kernel,ht,hx',hn',he,aT,oh hg]
    rw [if_pos (Nat.eq_of_beq_eq_true hb)]
    exact ⟨_,rfl,dV.toC ⟨fun hp=>xB (k:=k) hp,rfl,rfl,rfl⟩⟩
   ·cases h
  ·rename_i ie et a i w he het
   split at h
   ·rename_i l hl
    change List (Dt et) at l
    obtain ⟨hb,h⟩:=aH h
    simp only [Option.some.injEq] at h;subst h
    have hsz:=Nat.eq_of_beq_eq_true (dG hb).1
    simp only [kernel,ht,hx',hn',he,aT]
    refine ⟨_,rfl,⟨fun hp=>⟨fun _=>⟨?_,?_⟩,?_,rfl,rfl⟩,rfl⟩⟩
    ·rw [d_ hl,←hsz];exact Il (dG hb).2 _
    ·rw [d_ hl,jC,dL];exact xB (k:=k) hp
    ·have hlt:n.toNat<l.length:=by
      have hp:inB n l.length=true:=hp
      simp only [inB,Bool.and_eq_true,decide_eq_true_eq] at hp;omega
     rw [d_ hl]
     show S.v (V.one (W.sp a i ((aS ⟨.sl et,l⟩).list.getD (P.int k n).nat []) 0))=S.v (V.one (W.sp a i (fH et (List.getD l n.toNat (dflt et))) 0))
     rw [jC,en]
     simp [ak,List.getD_eq_getElem?_getD,hlt]
   ·cases h
  ·cases h
 ·rename_i m e i1 i2 i3 g a1 j1 k n ht hx hn
  change Int at n
  have hx':aG (f x)=.v (.one (.gl g)):=by rw [hx];rfl
  have hn':aG (f ix)=.v (.one (.p a1 j1 (.int k n))):=by rw [hn];rfl
  split at h
  ·rename_i ie et l he hg
   obtain ⟨hb,h⟩:=aH h
   simp only [Option.some.injEq] at h;subst h
   obtain ⟨h1,h2⟩:=dG hb
   have h1:=Nat.eq_of_beq_eq_true h1
   have h2:=Nat.eq_of_beq_eq_true h2
   simp only [kernel,ht,hx',hn',he,adP,hg,Option.map_some]
   rw [if_pos ⟨h1,by rw [List.length_map];exact h2⟩]
   refine ⟨_,rfl,⟨fun hp=>⟨fun _=>xB (k:=k) hp,?_,rfl,rfl⟩,rfl⟩⟩
   have hlt:n.toNat<l.length:=by
    have hp:inB n m=true:=hp
    simp only [inB,Bool.and_eq_true,decide_eq_true_eq] at hp;omega
   show S.v (V.one (W.sp false false ((List.map (fH et) l).getD (P.int k n).nat []) 0))=S.v (V.one (W.sp false false (fH et (List.getD l n.toNat (dflt et))) 0))
   have en:(P.int k n).nat=n.toNat:=rfl
   rw [en]
   simp [List.getD_eq_getElem?_getD,hlt]
  ·cases h
 ·rename_i m e i1 i2 i3 x' a1 j1 k n hng ht hx hn
  change Int at n
  have hx':aG (f x)=.v (.one (aT x')):=by rw [hx];rfl
  have hn':aG (f ix)=.v (.one (.p a1 j1 (.int k n))):=by rw [hn];rfl
  split at h
  ·rename_i ie he
   obtain ⟨hb,h⟩:=aH h
   simp only [Option.some.injEq] at h;subst h
   obtain ⟨h1,h2⟩:=dG hb
   simp only [inB,Bool.and_eq_true,decide_eq_true_eq] at h1
   have hl:=Io h2
   have key :∃r',kernel tt d (aW o) (fun x=>aG (f x)) (.indexAddr t x ix) ty=some r'∧r'=.pure (.v (.one ((aT x').shift (n.toNat*ie.size)))):=by
    cases x'<;>first
     |(cases h2;done)
     |(
       simp only [aT] at hx' hl ⊢
       simp only [kernel,ht,hx',hn',he]
       rw [if_pos ⟨h1.1,h1.2,hl⟩]
       exact ⟨_,rfl,rfl⟩)
   obtain ⟨r',e1,rfl⟩:=key
   refine ⟨_,e1,dV.toC ?_⟩
   have:=dV.pure (.v (.one (x'.shift (n.toNat*ie.size))))
   simpa only [aG,gK,KP] using this
  ·cases h
 ·cases h
theorem Zx (t:TypeId) (x ix:Operand):eP tt ety d o f (.index t x ix) ty:=by
 intro r h
 simp only [bI] at h
 split at h
 ·rename_i i1 i2 i3 a1 j1 s a2 j2 k n ht hx hn
  change List UInt8 at s;change Int at n
  have hx':aG (f x)=.v (.one (.p a1 j1 (.str ⟨s.toArray⟩))):=by rw [hx];rfl
  have hn':aG (f ix)=.v (.one (.p a2 j2 (.int k n))):=by rw [hn];rfl
  simp only [Option.some.injEq] at h;subst h
  simp only [kernel,ht,hx',hn']
  refine ⟨_,rfl,⟨fun hp=>⟨trivial,?_⟩,?_,rfl,rfl⟩⟩
  ·have:(P.str ⟨s.toArray⟩).bytes.size=s.length:=by show s.toArray.size=_;simp
   rw [this];exact xB (k:=k) hp
  ·have:(s.toArray.getD n.toNat 0)=s.getD n.toNat 0:=by simp [Array.getD_eq_getD_getElem?,List.getD_eq_getElem?_getD]
   simp only [P.adt,this];rfl
 ·cases h
theorem Zy (t:TypeId) (x:Operand):eP tt ety d o f (.range t x) ty:=by
 intro r h
 simp only [bI] at h
 split at h
 ·rename_i i1 i2 i3 a1 j1 s ht hx
  change List UInt8 at s
  have hx':aG (f x)=.v (.one (.p a1 j1 (.str ⟨s.toArray⟩))):=by rw [hx];rfl
  simp only [Option.some.injEq] at h;subst h
  simp only [kernel,ht,hx']
  exact ⟨_,rfl,⟨fun _=>trivial,rfl,rfl,rfl⟩⟩
 ·cases h
theorem S_ (t:Operand) (n:Nat):eP tt ety d o f (.extract t n) ty:=by
 intro r h
 simp only [bI] at h
 split at h
 ·rename_i xs hx
  have hx':aG (f t)=.jH (xs.map gK):=by rw [hx];rfl
  split at h
  ·rename_i x hn
   simp only [Option.some.injEq] at h;subst h
   simp only [kernel,hx',List.getElem?_map,hn,Option.map_some]
   exact ⟨_,rfl,dV.pure _⟩
  ·cases h
 ·cases h
theorem Qh {F:Operand→Option TW} {G:Operand→Option W} (hFG :∀x w,F x=some w→G x=some (aT w)) :∀{xs:List Operand} {ws:List TW},xs.mapM F=some ws→xs.mapM G=some (ws.map aT)
 | [],ws,h=>by simp at h;subst h;rfl
 |x::xs,ws,h=>by
  simp only [List.mapM_cons,Option.bind_eq_bind,Option.bind_eq_some_iff] at h ⊢
  obtain ⟨w,hw,ws',hws,h⟩:=h
  cases h
  exact ⟨aT w,hFG x w hw,ws'.map aT,Qh hFG hws,rfl⟩
theorem Qi (g:FuncId) (first caps:Array Operand):eP tt ety d o f (.makeFunc (.func g) first caps) ty:=by
 intro r h
 simp only [bI] at h
 obtain ⟨hb,h⟩:=aH h
 split at h
 ·rename_i ws hw
  simp only [Option.some.injEq] at h;subst h
  simp only [kernel]
  rw [if_pos (Nat.eq_of_beq_eq_true hb)]
  have key :∀{G:Operand→Option W},(∀x,G x=match aG (f x) with | .v (.one w)=>some w | _=>none)→caps.toList.mapM G=some (ws.map aT):=by
   intro G hG
   refine Qh (fun x w hx => ?_) hw
   rw [hG]
   split at hx
   ·rename_i hf;cases hx;rw [hf];rfl
   ·cases hx
  split
  ·rename_i ws' hw'
   have e:=hw'.symm.trans (key fun x=>rfl)
   simp only [Option.some.injEq] at e;subst e
   refine ⟨_,rfl,?_⟩
   have:=dV.pure (.v (.one (.clo g ws)))
   simpa only [aG,gK,aT,yw] using this
  ·rename_i hw'
   exact nomatch hw'.symm.trans (key fun x=>rfl)
 ·cases h
theorem aeV (args:Array Operand) (ts:Array TypeId):eP tt ety d o f (.call { callee:=.builtin .len,args:=args,argTypes:=ts }) ty:=by
 intro r h
 simp only [bI] at h
 split at h
 ·rename_i x t ha hts
  split at h
  ·rename_i e i1 i2 i3 x' ht hx
   have hx':aG (f x)=.v (.one (aT x')):=by rw [hx];rfl
   split at h
   ·rename_i n hn
    simp only [Option.some.injEq] at h;subst h
    obtain ⟨ask,hl,hask⟩:=Vb hn
    simp only [kernel,ha,hts,ht,hx',hl]
    exact ⟨_,rfl,⟨fun _=>hask,rfl,rfl,rfl⟩⟩
   ·cases h
  ·rename_i i1 i2 i3 a1 j1 s ht hx
   change List UInt8 at s
   have hx':aG (f x)=.v (.one (.p a1 j1 (.str ⟨s.toArray⟩))):=by rw [hx];rfl
   simp only [Option.some.injEq] at h;subst h
   simp only [kernel,ha,hts,ht,hx']
   refine ⟨_,rfl,⟨fun _=>trivial,?_,rfl,rfl⟩⟩
   have:(P.str ⟨s.toArray⟩).len=.int .i64 s.length:=by show P.int .i64 (s.toArray.size:Nat)=_;simp
   simp only [this];rfl
  ·cases h
 ·cases h
theorem aeW (args:Array Operand) (ts:Array TypeId):eP tt ety d o f (.call { callee:=.builtin .min,args:=args,argTypes:=ts }) ty:=by
 intro r h
 simp only [bI] at h
 split at h
 ·rename_i x y ha
  split at h
  ·rename_i a1 j1 k x' a2 j2 k2 y' hx hy
   have hx':aG (f x)=.v (.one (.p a1 j1 (.int k x'))):=by rw [hx];rfl
   have hy':aG (f y)=.v (.one (.p a2 j2 (.int k2 y'))):=by rw [hy];rfl
   simp only [Option.some.injEq] at h;subst h
   simp only [kernel,ha,hx',hy']
   exact ⟨_,rfl,⟨fun _=>⟨trivial,trivial⟩,rfl,rfl,rfl⟩⟩
  ·cases h
 ·rename_i x y z ha
  split at h
  ·rename_i a1 j1 k x' a2 j2 k2 y' a3 j3 k3 z' hx hy hz
   have hx':aG (f x)=.v (.one (.p a1 j1 (.int k x'))):=by rw [hx];rfl
   have hy':aG (f y)=.v (.one (.p a2 j2 (.int k2 y'))):=by rw [hy];rfl
   have hz':aG (f z)=.v (.one (.p a3 j3 (.int k3 z'))):=by rw [hz];rfl
   simp only [Option.some.injEq] at h;subst h
   simp only [kernel,ha,hx',hy',hz']
   exact ⟨_,rfl,⟨fun _=>⟨trivial,trivial,trivial⟩,rfl,rfl,rfl⟩⟩
  ·cases h
 ·cases h
theorem aeX (args:Array Operand) (ts:Array TypeId):eP tt ety d o f (.call { callee:=.builtin .max,args:=args,argTypes:=ts }) ty:=by
 intro r h
 simp only [bI] at h
 split at h
 ·rename_i x y ha
  split at h
  ·rename_i a1 j1 k x' a2 j2 k2 y' hx hy
   have hx':aG (f x)=.v (.one (.p a1 j1 (.int k x'))):=by rw [hx];rfl
   have hy':aG (f y)=.v (.one (.p a2 j2 (.int k2 y'))):=by rw [hy];rfl
   simp only [Option.some.injEq] at h;subst h
   simp only [kernel,ha,hx',hy']
   exact ⟨_,rfl,⟨fun _=>⟨trivial,trivial⟩,rfl,rfl,rfl⟩⟩
  ·cases h
 ·rename_i x y z ha
  split at h
  ·rename_i a1 j1 k x' a2 j2 k2 y' a3 j3 k3 z' hx hy hz
   have hx':aG (f x)=.v (.one (.p a1 j1 (.int k x'))):=by rw [hx];rfl
   have hy':aG (f y)=.v (.one (.p a2 j2 (.int k2 y'))):=by rw [hy];rfl
   have hz':aG (f z)=.v (.one (.p a3 j3 (.int k3 z'))):=by rw [hz];rfl
   simp only [Option.some.injEq] at h;subst h
   simp only [kernel,ha,hx',hy',hz']
   exact ⟨_,rfl,⟨fun _=>⟨trivial,trivial,trivial⟩,rfl,rfl,rfl⟩⟩
  ·cases h
 ·cases h
theorem xC (e:Ty) (a b:List (Dt e)):ak e (a++b)=ak e a++ak e b:=by simp [ak]
theorem Tc {sT:TypeId} {s x:TW} {r:oI} (h:Nr tt ety d o sT s x=some r) :∃r',uy tt d (aW o) sT (aT s) (aT x)=some r'∧dV r r':=by
 simp only [Nr] at h
 split at h
 ·rename_i e i1 i2 i3 ht
  split at h
  ·rename_i ie et he het
   cases hb:(Nat.beq ie.bytes 0||!Nat.beq (size et) ie.size) with
   |true=>rw [hb] at h;cases h
   |false=>
    rw [hb,cond_false] at h
    simp only [Bool.or_eq_false_iff,Bool.not_eq_false'] at hb
    have hsz:=Nat.eq_of_beq_eq_true hb.2
    have hb0:¬ ie.bytes=0:=fun e=>by rw [e] at hb;cases hb.1
    split at h
    ·cases h
    ·rename_i new a' i' hrow
     obtain ⟨ask,hr,hask⟩:=Qc hrow
     rw [hsz] at hr
     simp only [uy,ht,he,if_neg hb0,hr]
     have key :∀(pre:Bool) (pre':Prop) (old:List (Dt et)) (a i:Bool) (kill:List (Nat×TO)),(pre=true→pre')→
       dV { pre:=pre&&decide ((old.length+new.length)*ie.bytes≤140737488355328),t:=.sl et,val:=List.append old new,dst:=fun _=>.v (.one (.own d)),au:=fun y=>kill++[(d,.arr false (a||a') (i||i') et y)],new:=[d] }
        (.mk (ask∧pre'∧((ak et old).length+(ak et new).length)*ie.bytes≤140737488355328) (.sl ie.size (ak et old++ak et new)) (fun _=>.v (.one (.own d)))
         (fun y=>fJ kill++[(d,.arr false (a||a') (i||i') ie.size y.list)]) [d]):=by
      intro pre pre' old a i kill hpre
      refine ⟨fun hp => ?_,rfl,?_,rfl⟩
      ·obtain ⟨h1,h2⟩:=dG hp
       refine ⟨hask,hpre h1,?_⟩
       rw [dL,dL]
       simpa using h2
      ·simp only [ji]
       congr 1
       simp only [P.list,fJ,List.map_cons,List.map_nil,bV,hsz]
       rw [←xC];rfl
     split at h
     ·simp only [Option.some.injEq] at h;subst h
      exact ⟨_,rfl,key true True [] false false [] fun _=>trivial⟩
     ·rename_i g
      split at h
      ·rename_i a i e' l hg
       split at h
       ·rename_i l' hl
        cases hgd:Nat.beq g d with
        |true=>rw [hgd] at h;cases h
        |false=>
         rw [hgd,cond_false] at h
         simp only [Option.some.injEq] at h;subst h
         obtain ⟨ee,hl⟩:=lu hl
         cases ee
         subst hl
         simp only [aT,eF hg]
         rw [if_pos ⟨hsz,fun e=>by subst e;simp at hgd⟩]
         exact ⟨_,rfl,key true True _ a i [(g,.none)] fun _=>trivial⟩
       ·cases h
      ·cases h
     ·rename_i g lo hi
      split at h
      ·rename_i a i e' l hg
       split at h
       ·rename_i l' hl
        cases hgd:Nat.beq g d with
        |true=>rw [hgd] at h;cases h
        |false=>
         rw [hgd,cond_false] at h
         simp only [Option.some.injEq] at h;subst h
         obtain ⟨ee,hl⟩:=lu hl
         cases ee
         subst hl
         simp only [aT,eF hg,oQ]
         rw [if_pos ⟨hsz,fun e=>by subst e;simp at hgd⟩]
         refine ⟨_,rfl,key (decide (lo=0)) (P.int .i64 lo=jJ 0) (l.take hi.toNat) a i [(g,.none)] fun h => ?_⟩
         have h:lo=0:=by simpa using h
         subst h;rfl
       ·cases h
      ·cases h
     ·cases h
  ·cases h
 ·cases h
theorem XA (args:Array Operand) (ts:Array TypeId):eP tt ety d o f (.call { callee:=.builtin .append,args:=args,argTypes:=ts }) ty:=by
 intro r h
 simp only [bI] at h
 split at h
 ·rename_i s x sT xT rest ha hts
  split at h
  ·rename_i e i1 i2 i3 s' x' ht hs hx
   have hs':aG (f s)=.v (.one (aT s')):=by rw [hs];rfl
   have hx':aG (f x)=.v (.one (aT x')):=by rw [hx];rfl
   simp only [kernel,ha,hts,ht,hs',hx']
   exact Tc h
  ·cases h
 ·cases h
theorem nJ {k:TK} {t:Ty} (h:yX k t=true):k.flat=true∧(∀x:Dt t,(aS ⟨t,x⟩).isKey k∧fH t x=[aS ⟨t,x⟩])∧∀x y:Dt t,P.Yi (aS ⟨t,x⟩) (aS ⟨t,y⟩)=ql t x y:=by
 cases t<;>cases k<;>simp only [yX] at h<;>try (cases h;done)
 ·rename_i a b
  split at h
  ·rename_i p hp
   have e:=Xx hp
   subst e
   exact ⟨rfl,fun x=>⟨rfl,rfl⟩,fun x y=>rfl⟩
  ·cases h
 ·exact ⟨rfl,fun x=>⟨trivial,rfl⟩,fun x y=>rfl⟩
 ·exact ⟨rfl,fun x=>⟨trivial,rfl⟩,fun x y=>Ve x y⟩
section
variable {k:TK} {ag:Bool} {tk tv:Ty} {kx:Dt tk} {l:List (Dt (.mp ag tk tv))}
theorem Iq (h:yX k tk=true) (r:Dt (.mp ag tk tv)):fH (.mp ag tk tv) r=aS ⟨tk,r.1⟩::fH tv r.2:=by
 have:=((nJ h).2.1 r.1).2
 show fH tk r.1++fH tv r.2=_
 rw [this];rfl
theorem zL (h:yX k tk=true) (r:Dt (.mp ag tk tv)):uz (aS ⟨tk,kx⟩) (fH (.mp ag tk tv) r)=ql tk kx r.1:=by
 rw [Iq h];exact (nJ h).2.2 kx r.1
theorem Vf (h:yX k tk=true) (z:Dt tv) :∀(l:List (Dt (.mp ag tk tv))),qN (aS ⟨tk,kx⟩) (fH tv z) (ak (.mp ag tk tv) l)=fH tv (Ox (ql tk) kx z l)
 | []=>rfl
 |r::l=>by
  have ih:=Vf h z l
  have hk:=zL (kx:=kx) h r
  unfold qN at ih ⊢
  simp only [ak,List.map_cons,List.find?_cons,hk,Ox]
  cases ql tk kx r.1 with
  |true=>simp only [Iq h];rfl
  |false=>exact ih
theorem Qj (h:yX k tk=true) :∀(l:List (Dt (.mp ag tk tv))),pR (aS ⟨tk,kx⟩) (ak (.mp ag tk tv) l)=Zi (ql tk) kx l
 | []=>rfl
 |r::l=>by
  have ih:=Qj h l
  have hk:=zL (kx:=kx) h r
  unfold pR at ih ⊢
  simp only [ak,List.map_cons,List.any_cons,hk,Zi]
  congr 1
theorem Qk (h:yX k tk=true) (y:Dt tv) :∀(l:List (Dt (.mp ag tk tv))),wC (aS ⟨tk,kx⟩) (fH tv y) (ak (.mp ag tk tv) l)=ak (.mp ag tk tv) (SL (ql tk) kx y l)
 | []=>by
  exact congrArg (fun z=>[z]) (Iq (ag:=ag) h (show Dt (.mp ag tk tv) from (kx,y))).symm
 |r::l=>by
  have ih:=Qk h y l
  have hk:=zL (kx:=kx) h r
  simp only [ak,List.map_cons,wC,hk,SL]
  cases ql tk kx r.1 with
  |true=>exact congrArg (fun z=>z::l.map (fH (.mp ag tk tv))) (Iq (ag:=ag) h (show Dt (.mp ag tk tv) from (kx,y))).symm
  |false=>simp only [List.map_cons];rw [←ak,ih];rfl
theorem Ql (h:yX k tk=true):Yw k (aS ⟨tk,kx⟩) (ak (.mp ag tk tv) l):=by
 refine ⟨((nJ h).2.1 kx).1,fun r hr => ?_⟩
 obtain ⟨x,_,rfl⟩:=List.mem_map.1 hr
 rw [Iq h]
 exact ((nJ h).2.1 x.1).1
theorem Zz {x:TW} {a i:Bool} (hge:MB≤size (.mp ag tk tv)) (h:x.Qb o (.mp ag tk tv)=some (l,a,i)) :∃ask,(aT x).ents (aW o) (size (.mp ag tk tv))=some (ask,ak _ l,a,i)∧ask:=by
 cases x with
 |p a' i' w=>
  simp only [TW.Qb] at h
  split at h
  ·rename_i y hy
   simp only [Option.some.injEq,Prod.mk.injEq] at h
   obtain ⟨rfl,rfl,rfl⟩:=h
   rw [d_ hy]
   refine ⟨(aS ⟨.sl (.mp ag tk tv),l⟩).af2 (size (.mp ag tk tv)),by simp only [aT,W.ents,jC],?_⟩
   rw [oP,P.FK hge];rfl
  ·cases h
 |own g=>
  simp only [TW.Qb] at h
  split at h
  ·rename_i fz a' i' e' l' hg
   split at h
   ·rename_i z hz
    simp only [Option.some.injEq,Prod.mk.injEq] at h
    obtain ⟨rfl,rfl,rfl⟩:=h
    obtain ⟨he,hz⟩:=lu hz
    cases he
    subst hz
    exact ⟨True,by simp only [aT,W.ents,eF hg,if_true],trivial⟩
   ·cases h
  ·cases h
 |_=>simp [TW.Qb] at h
end
theorem agQ {i:TI}:MB≤nX i:=by
 unfold nX
 have e:MB=1000000:=rfl
 split<;>omega
theorem Td (t:TypeId):eP tt ety d o f (.makeMap t none) ty:=by
 intro r h
 simp only [bI] at h
 split at h
 ·rename_i kt et i1 i2 i3 ag tk tv ht he
  split at h
  ·rename_i ie hie
   obtain ⟨hb,h⟩:=aH h
   simp only [Option.some.injEq] at h;subst h
   simp only [kernel,ht,hie]
   refine ⟨_,rfl,⟨fun _=>trivial,rfl,?_,rfl⟩⟩
   simp only [fJ,List.map_cons,List.map_nil,bV,Nat.eq_of_beq_eq_true hb];rfl
  ·cases h
 ·cases h
theorem XB (t:TypeId) (x k:Operand) (c:Bool):eP tt ety d o f (.lookup t x k c) ty:=by
 intro r h
 simp only [bI] at h
 unfold U_ at h
 split at h
 ·rename_i kt et i1 i2 i3 ag tk tv x' a1 j1 w ht he hx hk
  have hx':aG (f x)=.v (.one (aT x')):=by rw [hx];rfl
  have hk':aG (f k)=.v (.one (.p a1 j1 (aS w))):=by rw [hk];rfl
  split at h
  ·rename_i ik ie hik hie
   split at h
   ·rename_i l a i kx ps YD hkx hps
    obtain ⟨hb,h⟩:=aH h
    simp only [Option.some.injEq] at h;subst h
    obtain ⟨hb,h4⟩:=dG hb
    obtain ⟨hb,h3⟩:=dG hb
    obtain ⟨h1,h2⟩:=dG hb
    have h4:=Nat.eq_of_beq_eq_true h4
    have h3:=Nat.eq_of_beq_eq_true h3
    obtain ⟨ask,e1,e2⟩:=Zz (by rw [h4];exact agQ) YD
    obtain ⟨k1,k2⟩:=qm hps
    rw [oV] at k1
    have hw:=d_ hkx
    subst hw
    rw [h4] at e1
    simp only [kernel,FP,ht,hx',hk',hik,hie,e1,k1]
    rw [if_pos ⟨(nJ h1).1,Dj h2⟩]
    refine ⟨_,rfl,⟨fun _=>⟨e2,Ql h1⟩,?_,rfl,rfl⟩⟩
    have hz:ps.map aS=fH tv (dK tv ps):=(nT k2).symm
    simp only [P.list,List.getD_cons_zero,hz,Vf h1,Qj h1]
    have hr:((List.range ie.size).map fun j=>W.p a i ((fH tv (Ox (ql tk) kx (dK tv ps) l)).getD j (FN ie.zero j)))=(Zg a i (b_ tv (Ox (ql tk) kx (dK tv ps) l))).map aT:=by
     rw [Vd,dQ]
     apply List.ext_getElem?
     intro j
     simp only [List.getElem?_map]
     have hwl:=tN tv (Ox (ql tk) kx (dK tv ps) l)
     by_cases hj:j<ie.size
     ·have hlt:j<(b_ tv (Ox (ql tk) kx (dK tv ps) l)).length:=by omega
      rw [List.getElem?_range hj]
      simp [List.getD_eq_getElem?_getD,List.getElem?_eq_getElem hlt]
     ·rw [List.getElem?_eq_none (by simp;omega),List.getElem?_eq_none (by omega)];rfl
    rw [hr,←jh]
    generalize TV.dh ie.agg (Zg a i (b_ tv (Ox (ql tk) kx (dK tv ps) l)))=s
    cases c with
    |false=>cases s<;>rfl
    |true=>cases s<;>rfl
   ·cases h
  ·cases h
 ·cases h
theorem XC (x:TV):(gK x).isAgg=x.isAgg:=by cases x<;>rfl
theorem NC (t:TypeId) (m k y:Operand):eP tt ety d o f (.mapUpdate t m k y) ty:=by
 intro r h
 simp only [bI] at h
 unfold Va at h
 split at h
 ·rename_i kt et i1 i2 i3 ag tk tv g a1 j1 w y' ht he hm hk hy
  have hm':aG (f m)=.v (.one (.own g)):=by rw [hm];rfl
  have hk':aG (f k)=.v (.one (.p a1 j1 (aS w))):=by rw [hk];rfl
  have hy':aG (f y)=.v (gK y'):=by rw [hy];rfl
  split at h
  ·rename_i ik ie a i e' l0 hik hie hg
   split at h
   ·rename_i l kx ps a' i' gs hl hkx hps
    obtain ⟨hb,h⟩:=aH h
    simp only [Option.some.injEq] at h;subst h
    obtain ⟨hb,h7⟩:=dG hb
    obtain ⟨hb,h6⟩:=dG hb
    obtain ⟨hb,h5⟩:=dG hb
    obtain ⟨hb,h4⟩:=dG hb
    obtain ⟨hb,h3⟩:=dG hb
    obtain ⟨h1,h2⟩:=dG hb
    have h2:=Nat.eq_of_beq_eq_true h2
    have h3:=Nat.eq_of_beq_eq_true h3
    have h4:=Nat.eq_of_beq_eq_true h4
    have h7:y'.isAgg=ie.agg:=eq_of_beq h7
    obtain ⟨k1,k2⟩:=qm hps
    have hw:=d_ hkx
    subst hw
    obtain ⟨hee,hll⟩:=lu hl
    cases hee
    subst hll
    have hpl:ps.length=ie.size:=by
     have:=congrArg List.length k2
     rw [List.length_map,kH] at this;omega
    simp only [kernel,FQ,ht,hm',hk',hy',hik,hie,eF hg,pF,k1,List.length_map,XC]
    rw [if_pos ⟨⟨(nJ h1).1,h3,hpl⟩,⟨h4,pG _ h5,by simpa [aP] using h6⟩,h7⟩]
    refine ⟨_,rfl,⟨fun _=>Ql h1,rfl,?_,rfl⟩⟩
    simp only [ji,←lK (FY hps)]
    congr 1
    have hz:ps.map aS=fH tv (dK tv ps):=(nT k2).symm
    simp only [P.list,fJ,List.map_cons,List.map_nil,bV,hz]
    exact congrArg (fun z=>[(g,O.arr false (a||a') (i||i') (size (.mp ag tk tv)) z)]) (Qk h1 (dK tv ps) l)
   ·cases h
  ·cases h
 ·cases h
theorem Tf (op:Op):Zl tt ety d o f op ty:=by
 cases op
 case move x=>exact eP.toC (abR x)
 case assign x=>exact eP.toC (Xw x)
 case pick c x y=>exact eP.toC (abS c x y)
 case alloc t=>exact eP.toC (Zn t)
 case box t x=>exact eP.toC (aeU t x)
 case build t ps=>exact eP.toC (Zo t ps)
 case buildSlice t n ps=>exact eP.toC (JV t n ps)
 case load t x=>exact eP.toC (abT t x)
 case store t x y=>exact eP.toC (Zq t x y)
 case nilCheck x=>exact eP.toC (Qd x)
 case binOp op t x y u=>exact eP.toC (Zt op t x y u)
 case unOp op t x=>exact eP.toC (abV op t x)
 case convert s t x=>exact eP.toC (SY s t x)
 case makeSlice t n c=>exact eP.toC (Nw t n c)
 case makeMap t r=>
  cases r with
  |none=>exact eP.toC (Td t)
  |some r=>intro r h;simp [bI] at h
 case lookup t x k c=>exact eP.toC (XB t x k c)
 case mapUpdate t m k y=>exact eP.toC (NC t m k y)
 case slice t x lo hi mx=>
  cases mx with
  |none=>exact eP.toC (Zv t x lo hi)
  |some m=>cases lo with
   |some l=>intro r h;simp [bI] at h
   |none=>cases hi with
    |none=>intro r h;simp [bI] at h
    |some hi=>exact eP.toC (Xz t x hi m)
 case fieldAddr t x n=>exact eP.toC (Ny t x n)
 case field t x n=>exact eP.toC (Zw t x n)
 case indexAddr t x ix=>exact Nz t x ix
 case index t x ix=>exact eP.toC (Zx t x ix)
 case range t x=>exact eP.toC (Zy t x)
 case extract t n=>exact eP.toC (S_ t n)
 case makeFunc fn first caps=>
  cases fn
  case func g=>exact eP.toC (Qi g first caps)
  all_goals (intro r h;simp [bI] at h)
 case call c=>
  obtain ⟨callee,args,ts⟩:=c
  cases callee
  case builtin b=>
   cases b
   case len=>exact eP.toC (aeV args ts)
   case append=>exact eP.toC (XA args ts)
   case clear=>exact eP.toC (Zu args ts)
   case copy=>exact eP.toC (abW args ts)
   case min=>exact eP.toC (aeW args ts)
   case max=>exact eP.toC (aeX args ts)
   all_goals (intro r h;simp [bI] at h)
  all_goals (intro r h;simp [bI] at h)
 all_goals (intro r h;simp [bI] at h)
end
end Go.Fg

