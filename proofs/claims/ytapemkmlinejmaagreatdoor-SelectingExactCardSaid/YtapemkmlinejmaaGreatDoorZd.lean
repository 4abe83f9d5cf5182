/-
  The framework (a machine on plain data that answers as the program does), part 4.
-/
import Derived.Shelf.Slices.Cells
import Derived.Shelf.Slices.Empties
import Derived.Shelf.Slices.Delete
import Derived.Shelf.Spec.SlicesInsertGrow
import Derived.Shelf.Sort.Plain
import Derived.Shelf.Slices.In.SortNone
import Derived.Lib.RowBridge
import Derived.Below
import Derived.OpenShut
import Derived.FnData
import Derived.LaidMore
import Derived.Test.YtapemkmlinejmaaGreatDoorZc
set_option linter.unusedSimpArgs false
set_option linter.unusedVariables false
set_option linter.unusedSectionVars false
namespace Go.Fg
open Go.Fw
section
variable [eX]
theorem Et {T:Tab} {tt:TT} {N:Nat} {ops:Array Oper} {o:Oper} {st:St} {K K':Eff->Prop} (hK :∀e,K e->K' e) (h:stepW T tt N ops o st K):stepW T tt N ops o st K':=by
 unfold stepW at *;refine ⟨h.1,?_⟩;have h:=h.2;split at h
 .exact oI (fun e he=>⟨he.1,hK e he.2⟩) h
 .split at h
  .rename_i b hb;cases b with
   |true=>
    simp only [cond_true] at h ⊢;exact oI (fun e he=>⟨he.1,hK e he.2⟩) h
   |false=>exact hK _ h
  .exact h
theorem JK {T:Tab} {tt:TT} {N:Nat} {ops:Array Oper} {o:Oper} {st:St} {K K':Eff->Prop} (hK :∀e,K e->K' e) (h:B_ T tt N ops o st K):B_ T tt N ops o st K':=by
 unfold B_ at *;split at h
 .exact ⟨h.1,fun b hb=>hK _ (h.2 b hb)⟩
 .split at h
  .exact ⟨h.1,fun hb=>hK _ (h.2.1 hb),fun hb=>hK _ (h.2.2 hb)⟩
  .exact Et hK h
end
theorem afG {R:Type} {b:Bool} {x:Option R} {r:R} (h:ck b x=some r):b=true/\x=some r:=by
 cases b
 .cases h
 .exact ⟨rfl,h⟩
theorem ZL {R:Type} {x y:Option R} {r:R} (h:both x y=some r):x=some r/\y=some r:=by
 unfold both at h;split at h
 .rename_i e;exact ⟨h,e▸h⟩
 .cases h
section
variable [RE]
theorem Xz {R:Type} {b:Bool} {x:Prog R} {r:R} (h:(Prog.chk b x).run=some r):b=true/\x.run=some r:=afG h
theorem acJ {A B R:Type} {n:Nat} {f:A->Option B} {a:A} {k:B->Prog R} {r:R} (h:(Prog.call n f a k).run=some r) :∃y,f a=some y/\(k y).run=some r:=by
 have h:(f a).bind (fun z=>(k z).run)=some r:=h;cases hf:f a with
 |none=>rw [hf] at h;cases h
 |some y=>rw [hf] at h;exact ⟨y,rfl,h⟩
theorem dD {R:Type} {n:Nat} {r:R} (h:(Prog.stuck n:Prog R).run=some r):False:=by cases h
theorem C9 (st:kF):(bg st).dP=fun x=>bn (st.dP x):=funext (pI st)
theorem acK (x:TS):alD (bn x)=aco x:=by
 cases x with
 |v x=>cases x with
  |one x=>cases x<;>rfl
  |agg xs=>rfl
 |jq xs=>rfl
 |no=>rfl
theorem MV :∀l:List TS,WJ (l.map bn)=Js l
 | []=>rfl
 |x::l=>by
  simp only [Qf,WJ,Js,acK x,MV l];cases aco x<;>rfl
theorem JL {T:mG} {fn:Nat} {st:kF} {args:List Operand}:pick (nC T) fn (args.map (bg st).dP)=(Xg T fn (args.map st.dP)).map aU.er:=by
 have e:args.map (bg st).dP=(args.map st.dP).map bn:=by rw [C9,Vv];rfl
 have ek:QB fn ((args.map st.dP).map bn)=Eo fn (args.map st.dP):=by
  unfold QB Eo;rw [MV];cases Js (args.map st.dP)<;>rfl
 rw [e];unfold pick Xg;rw [ek];cases Nat.blt fn 1000000 with
 |false=>rfl
 |true=>
  simp only [nC];cases T (Eo fn (args.map st.dP))<;>rfl
theorem XA {x:TS} {fn:FuncId} {caps:List TW} (h:x=.v (.one (.clo fn caps))):bn x=.v (.one (.clo fn (caps.map bW))):=by
 subst h;simp only [bn,jM,bW,y7]
theorem JM (st:kF) (args:List Operand) (caps:List TW) :
  (args.map (bg st).dP)++(caps.map bW).map (fun x=>S.v (.one x))=((args.map st.dP)++caps.map fun x=>TS.v (.one x)).map bn:=by
 simp only [Xs,Vv,C9];rfl
theorem acL {R:Type} {T:mG} {tt:TT} {ety:TypeId->Option Ty} {d:Nat} {st:kF} {o:Oper} {K:ku->Prog R} {r:R} (h:(ZJ T tt ety d st o K).run=some r) :
  jo (nC T) tt d (bg st) o fun e =>∃te:ku,e=te.er/\(K te).run=some r:=by
 have plain :∀op,(match jD tt ety d st.go st.dP op o.type with
   |some r=>Prog.chk r.pre (.let_ r.val fun z=>K { x:=r.dst z,aK:=r.aK z,new:=r.new })
   |none=>match dU tt ety d st.go st.dP op o.type with
    |some r=>Prog.chk r.pre (.let_ r.val fun z=>K { x:=r.dst z,aK:=r.aK z,new:=r.new })
    |none=>.stuck 16).run=some r->(∃dc r',dW tt dc d (bg st).o (bg st).dP op o.type=some r'/\r'.pre/\Qc r'.val fun z =>∃te:ku,({ x:=r'.dst z,aK:=r'.aK z,new:=r'.new }:Eff)=te.er/\(K te).run=some r)\/(match kernel tt d (bg st).o (bg st).dP op o.type with
   |some r'=>r'.pre/\bif Fe op then Qc r'.val fun z=>(∃te:ku,({ x:=r'.dst z,aK:=r'.aK z,new:=r'.new }:Eff)=te.er/\(K te).run=some r) else (∃te:ku,({ x:=r'.dst r'.val,aK:=r'.aK r'.val,new:=r'.new }:Eff)=te.er/\(K te).run=some r)
   |none=>False):=by
  intro op h;split at h
  .rename_i rr hk;obtain ⟨h1,h2⟩:=Xz h;obtain ⟨dc,r',hk',hs⟩:=Ry op rr hk;refine .inl ⟨dc,r',by rw [C9];exact hk',hs.pre h1,Qc.iff.2 ⟨{ x:=rr.dst rr.val,aK:=rr.aK rr.val,new:=rr.new },?_,h2⟩⟩;simp only [ku.er,hs.dst,hs.aK,hs.new]
  refine .inr ?_;split at h
  .rename_i rr hk;obtain ⟨h1,h2⟩:=Xz h;obtain ⟨r',hk',hs,hn⟩:=Vh op rr hk;have hs:=hs h1;have hk':kernel tt d (bg st).o (bg st).dP op o.type=some r':=by rw [C9];exact hk'
   rw [hk'];refine ⟨hs.pre h1,?_⟩;have key :∃te:ku,({ x:=r'.dst r'.val,aK:=r'.aK r'.val,new:=r'.new }:Eff)=te.er/\(K te).run=some r:=
    ⟨{ x:=rr.dst rr.val,aK:=rr.aK rr.val,new:=rr.new },by simp only [ku.er,hs.dst,hs.aK,hn],h2⟩
   cases Fe op with
   |true=>exact Qc.iff.2 key
   |false=>exact key
  .exact (dD h).elim
 unfold ZJ at h;unfold jo;split at h
 .rename_i f args ts hop;rw [hop];simp only;split at h
  .rename_i fn caps hf;have hf':=XA hf;rw [pI,hf'];simp only;split at h
   .rename_i sp hT;have hT':pick (nC T) fn (args.toList.map (bg st).dP)=some sp.er:=by rw [JL,hT];rfl
    rw [hT'];simp only;split at h
    .rename_i c hc;obtain ⟨k1,k2⟩:=JH hc;have k1:iM sp.er.sig (bg st).o ((args.toList.map (bg st).dP)++(caps.map bW).map fun x=>S.v (.one x))=some c.er:=by
      rw [JM];exact k1
     rw [k1];simp only;split at h
     .rename_i WY;split at h
      .rename_i x hx;split at h
       rotate_left
       .exact (dD h).elim
       rename_i apQ;obtain ⟨y,hy,h⟩:=acJ h;obtain ⟨f1,f2⟩:=iJ WY;refine ⟨?_,(Tup.lW sp.sig.aT.tys y).map dB,JI sp.sig d st.go c (Tup.lW sp.sig.aT.tys y),⟨x,y,hy,?_,rfl⟩,Sj apQ k1 f1 (G_ _ hx) hy,zf sp.sig d st.go c (Tup.lW sp.sig.aT.tys y),?_,h⟩
       .have f2:=Q4 f2;simp only [Qt,decide_eq_true_eq,ZD];exact ⟨f1,f2⟩
       .rw [G_ _ hx];rfl
       .rw [O9];exact congrArg _ (R_ (wB _ _) (ZK hc)).symm
      .exact (dD h).elim
     .exact (dD h).elim
    .exact (dD h).elim
   .exact (dD h).elim
  .exact (dD h).elim
 .rename_i hno;have h:=plain _ h;split
  .rename_i f args ts hop;exact (hno _ _ _ hop).elim
  .exact h
structure rV (q q':jO):Prop where
 s :∀t,hasK t q'.st.s=true->fZ t q'.ds=false->hasK t q.st.s=true/\fZ t q.ds=false/\q'.st.gs t=q.st.gs t
 o :∀g,hasK g q'.st.o=true->fZ g q'.od=false->hasK g q.st.o=true/\fZ g q.od=false/\q'.st.go g=q.st.go g
theorem rV.refl (q:jO):rV q q:=⟨fun t h1 h2=>⟨h1,h2,rfl⟩,fun t h1 h2=>⟨h1,h2,rfl⟩⟩
theorem rV.trans {a b c:jO} (h1:rV a b) (h2:rV b c):rV a c:=
 ⟨fun t k1 k2=>let ⟨x1,x2,x3⟩:=h2.s t k1 k2;let ⟨y1,y2,y3⟩:=h1.s t x1 x2;⟨y1,y2,x3.trans y3⟩,
  fun t k1 k2=>let ⟨x1,x2,x3⟩:=h2.o t k1 k2;let ⟨y1,y2,y3⟩:=h1.o t x1 x2;⟨y1,y2,x3.trans y3⟩⟩
theorem uK {α:Type} (k:Nat) (v:α) (t:Nat) :∀(l:List (Nat×α)),hasK t (xX k v l)=(Nat.beq t k||hasK t l)
 | []=>by simp [xX,hasK]
 |(k',v')::r=>by
  simp only [xX];cases h:Nat.beq k k' with
  |true=>
   have e:=Q4 h;subst e;simp only [cond_true,hasK];cases Nat.beq t k<;>simp
  |false=>
   simp only [cond_false,hasK,uK k v t r];cases Nat.beq t k<;>cases Nat.beq t k'<;>simp
theorem uM {α:Type} (d:α) :∀(l:List (Nat×α)) (t:Nat),hasK t l=false->jH d l t=d
 | [],t,_=>rfl
 |(k,v)::r,t,h=>by
  simp only [hasK,VV] at h;simp only [jH,h.1,cond_false];exact uM d r t h.2
theorem Sl (l:List (Nat×TO)) (g:Nat) :∀(u:List (Nat×TO)),hasK g (En l u)=(fZ g (u.map (·.1))||hasK g l)
 | []=>rfl
 |(k,x)::u=>by simp only [En,uK,Sl l g u,Qf,fZ,Bool.or_assoc]
theorem wR {α:Type} (g:Nat) :∀{u:List (Nat×α)},fZ g (u.map (·.1))=false->u.lookup g=none
 | [],_=>rfl
 |(k,x)::u,h=>by
  simp only [Qf,fZ,VV] at h;simp only [List.lookup,G9,h.1];exact wR g h.2
theorem rV.eff (q:jO) (dst:Option Tmp) (e:ku):rV q (q.eff dst e):=by
 refine ⟨fun t h1 h2 => ?_,fun g h1 h2 => ?_⟩
 .cases dst with
  |none=>exact ⟨h1,h2,rfl⟩
  |some d=>
   have h2:fZ t (d::q.ds)=false:=h2;have h1:hasK t (xX d e.x q.st.s)=true:=h1;simp only [fZ,VV] at h2;rw [uK,h2.1,J0] at h1;refine ⟨h1,h2.2,?_⟩;show jH .no (xX d e.x q.st.s) t=jH .no q.st.s t;rw [qA,h2.1];rfl
 .have h1:hasK g (En q.st.o e.aK)=true:=h1;have h2:fZ g (e.aK.map (·.1)++q.od)=false:=h2;rw [bU] at h2;simp only [qn,VV] at h2;rw [<-bU,<-bU] at h2;rw [Sl,h2.1,J0] at h1;refine ⟨h1,h2.2,?_⟩;show jH .none (En q.st.o e.aK) g=jH .none q.st.o g;rw [yD,wR g h2.1]
theorem XB {q:jO} {t:Tmp} {a i b:Bool} (h:q.st.gs t=.v (.one (.p a i (jf b)))) (u:Nat):(q.know t a i b).st.gs u=q.st.gs u:=by
 show jH .no (xX t (.v (.one (.p a i (jf b)))) q.st.s) u=jH .no q.st.s u;rw [qA];cases hb:Nat.beq u t with
 |false=>rfl
 |true=>
  have e:=Q4 hb;subst e;exact h.symm
theorem acM {q:jO} {t:Tmp} {a i b:Bool} (h:q.st.gs t=.v (.one (.p a i (jf b)))) (u:Nat):hasK u (q.know t a i b).st.s=hasK u q.st.s:=by
 show hasK u (xX t (.v (.one (.p a i (jf b)))) q.st.s)=hasK u q.st.s;rw [uK];cases hb:Nat.beq u t with
 |false=>rfl
 |true=>
  have e:=Q4 hb;subst e;cases hk:hasK u q.st.s with
  |true=>rfl
  |false=>
   have:=uM TS.no q.st.s u hk;rw [kF.gs] at h;rw [this] at h;cases h
theorem yE {q:jO} {t:Tmp} {a i b:Bool} (h:q.st.gs t=.v (.one (.p a i (jf b)))):bg (q.know t a i b).st=bg q.st:=
 St.ext' (fun u=>by show bn _=bn _;rw [XB h]) (fun g=>rfl) fun g=>rfl
theorem yF {q:jO} {t:Tmp} {a i b:Bool} (h:q.st.gs t=.v (.one (.p a i (jf b)))):rV q (q.know t a i b):=
 ⟨fun u h1 h2=>⟨by rw [<-acM h];exact h1,h2,XB h u⟩,fun g h1 h2=>⟨h1,h2,rfl⟩⟩
theorem Sm {q:jO} {t:Tmp} {a i:Bool} {k:IntKind} {n:Int} (h:q.st.gs t=.v (.one (.p a i (je k n)))) (u:Nat):(q.RD t a i k n).st.gs u=q.st.gs u:=by
 show jH .no (xX t (.v (.one (.p a i (je k n)))) q.st.s) u=jH .no q.st.s u;rw [qA];cases hb:Nat.beq u t with
 |false=>rfl
 |true=>
  have e:=Q4 hb;subst e;exact h.symm
theorem ZM {q:jO} {t:Tmp} {a i:Bool} {k:IntKind} {n:Int} (h:q.st.gs t=.v (.one (.p a i (je k n)))) (u:Nat):hasK u (q.RD t a i k n).st.s=hasK u q.st.s:=by
 show hasK u (xX t (.v (.one (.p a i (je k n)))) q.st.s)=hasK u q.st.s;rw [uK];cases hb:Nat.beq u t with
 |false=>rfl
 |true=>
  have e:=Q4 hb;subst e;cases hk:hasK u q.st.s with
  |true=>rfl
  |false=>
   have:=uM TS.no q.st.s u hk;rw [kF.gs] at h;rw [this] at h;cases h
theorem ZN {q:jO} {t:Tmp} {a i:Bool} {k:IntKind} {n:Int} (h:q.st.gs t=.v (.one (.p a i (je k n)))):bg (q.RD t a i k n).st=bg q.st:=
 St.ext' (fun u=>by show bn _=bn _;rw [Sm h]) (fun g=>rfl) fun g=>rfl
theorem ZO {q:jO} {t:Tmp} {a i:Bool} {k:IntKind} {n:Int} (h:q.st.gs t=.v (.one (.p a i (je k n)))):rV q (q.RD t a i k n):=
 ⟨fun u h1 h2=>⟨by rw [<-ZM h];exact h1,h2,Sm h u⟩,fun g h1 h2=>⟨h1,h2,rfl⟩⟩
theorem Sr {R:Type} {v:Int} {k:Int->Prog R} {r:R} :∀(n m:Nat),(Xi v k m n).run=some r->(k v).run=some r
 |0,_,h=>(dD h).elim
 |1,m,h=>by
  have h:ck (eqI v (Int.ofNat m)) (k (Int.ofNat m)).run=some r:=h;cases hb:eqI v (Int.ofNat m) with
  |true=>
   rw [hb] at h;have e:v=Int.ofNat m:=of_decide_eq_true hb;rw [e];exact h
  |false=>rw [hb] at h;cases h
 |n+2,m,h=>by
  have h:(bif eqI v (Int.ofNat m) then (k (Int.ofNat m)).run else (Xi v k (m+1) (n+1)).run)=some r:=h;cases hb:eqI v (Int.ofNat m) with
  |true=>
   rw [hb] at h;have e:v=Int.ofNat m:=of_decide_eq_true hb;rw [e];exact h
  |false=>rw [hb] at h;exact Sr (n+1) (m+1) h
theorem acN {tt:TT} {st:kF} {t:TypeId} {x:Operand} {j:Tmp} {a i:Bool} {k:IntKind} {v:Int} {n:Nat} (h:acp tt st t x j=some (a,i,k,v,n)):st.gs j=.v (.one (.p a i (je k v))):=by
 have key :∀{y:TS} {m:Nat},(match y with
   |.v (.one (.p a i ⟨.int k,v⟩))=>bif Nat.ble m 4 then some (a,i,k,v,m) else none
   |_=>none)=some (a,i,k,v,n)->y=.v (.one (.p a i (je k v))):=by
  intro y m h;split at h
  .cases hb:Nat.ble m 4 with
   |true=>
    rw [hb] at h;simp only [cond_true,Q0,Q1] at h;obtain ⟨rfl,rfl,rfl,rfl,rfl⟩:=h;rfl
   |false=>rw [hb] at h;cases h
  .cases h
 unfold acp at h;split at h
 .split at h
  .exact key h
  .exact key h
  .exact key h
  .cases h
 .cases h
theorem afH {tt:TT} {st:kF} {o:Oper} {t:Tmp} {a i:Bool} {k:IntKind} {v:Int} {n:Nat} (h:aju tt st o=some (t,a,i,k,v,n)):st.gs t=.v (.one (.p a i (je k v))):=by
 unfold aju at h;split at h
 .split at h
  .rename_i r hr;simp only [Q0,Q1] at h;obtain ⟨rfl,rfl⟩:=h;exact acN hr
  .cases h
 .cases h
theorem JO {u:List Nat} :∀{gs:List Nat},Aw u gs=true->(gs.all fun g=>!fZ g u)=true
 | [],_=>rfl
 |g::gs,h=>by
  simp only [Aw,Qt] at h;simp only [List.all_cons,Qt];exact ⟨h.1,JO h.2⟩
theorem AL {N:Nat} :∀(dst:Option Tmp),Xh N dst=true->(match dst with | some d=>decide (d<N) | none=>true)=true
 |none,_=>rfl
 |some d,h=>decide_eq_true (W2 h)
def XC {R:Type} (q:jO) (K:jO->ku->Prog R) (r:R) (e:Eff):Prop :=∃(q':jO) (te:ku),e=te.er/\bg q'.st=bg q.st/\rV q q'/\(K q' te).run=some r
theorem O_ {R:Type} {T:mG} {tt:TT} {ety:TypeId->Option Ty} {d:Nat} {q0 q:jO} {o:Oper} {K:jO->ku->Prog R} {r:R} (he:bg q.st=bg q0.st) (hr:rV q0 q)
  (h:(ZJ T tt ety d q.st o fun e=>match Aw q.st.u e.new with | true=>K q e | false=>.stuck 21).run=some r) :
  jo (nC T) tt d (bg q0.st) o fun e=>(e.new.all fun g=>!(bg q0.st).used g)=true/\XC q0 K r e:=by
 have h:=acL h;rw [he] at h;refine oI ?_ h;rintro e ⟨te,rfl,h⟩;split at h
 .rename_i hf;refine ⟨?_,q,te,rfl,he,hr,h⟩;rw [<-he];exact JO hf
 .exact (dD h).elim
theorem Sv {R:Type} {T:mG} {tt:TT} {ety:TypeId->Option Ty} {N:Nat} {ops:Array Oper} {o:Oper} {q:jO} {K:jO->ku->Prog R} {r:R} (h:(stepT T tt ety N ops o q K).run=some r) :
  stepW (nC T) tt N ops o (bg q.st) (XC q K r):=by
 unfold stepT at h;split at h
 .exact (dD h).elim
 .rename_i hd;unfold stepW;refine ⟨AL _ hd,?_⟩;split at h
  .rename_i hg;rw [hg];split at h
   .exact O_ rfl (rV.refl q) h
   .rename_i t a i k v n hs;have h:=Sr _ _ h;simp only [tq] at h;have hgs:=afH hs;exact O_ (ZN hgs) (ZO hgs) h
  .rename_i j want hg;rw [hg];simp only;split at h
   .exact (dD h).elim
   .rename_i t ht;have:guardOf ops (bg q.st) j want=some false:=by
     unfold Vq at ht;split at ht
     .rename_i t' ht';split at ht
      .cases ht
      .rename_i hs;simp only [guardOf,ht'];show (match bn (q.st.gs t') with | .v (.one (.p _ _ (.bool b)))=>_ | .jq []=>_ | _=>_)=_;rw [hs];rfl
      .cases ht
     .cases ht
    rw [this];exact ⟨q,ku.skip,rfl,rfl,rV.refl q,h⟩
   .rename_i t a i b ht;have hb:q.st.gs t=.v (.one (.p a i (jf b)))/\guardOf ops (bg q.st) j want=some (bif want then b else !b):=by
     unfold Vq at ht;split at ht
     .rename_i t' ht';split at ht
      .rename_i a' i' b' hs;simp only [Q0,Q1] at ht;obtain ⟨rfl,rfl,rfl,rfl⟩:=ht;refine ⟨hs,?_⟩;simp only [guardOf,ht'];show (match bn (q.st.gs t') with | .v (.one (.p _ _ (.bool b)))=>_ | .jq []=>_ | _=>_)=_;rw [hs];rfl
      .cases ht
      .cases ht
     .cases ht
    obtain ⟨hgs,hgd⟩:=hb;rw [hgd];simp only;have h:(bif b then _ else _:Option R)=some r:=h;cases b with
    |true=>
     have h:(frX (q.know t a i true) fun q=>bif want then _ else K q ku.skip).run=some r:=h;rw [tq] at h;cases want with
     |true=>exact O_ (yE hgs) (yF hgs) h
     |false=>exact ⟨_,ku.skip,rfl,yE hgs,yF hgs,h⟩
    |false=>
     have h:(frX (q.know t a i false) fun q=>bif want then K q ku.skip else _).run=some r:=h;rw [tq] at h;cases want with
     |true=>exact ⟨_,ku.skip,rfl,yE hgs,yF hgs,h⟩
     |false=>exact O_ (yE hgs) (yF hgs) h
end
end Go.Fg

namespace Go.Fg
open Go.Fw
section
variable [eX]
theorem yG {T:Tab} {tt:TT} {N:Nat} {ops:Array Oper} {K K':St->Prop} (hK :∀st,K st->K' st) :∀{is:List Nat} {st:St},vU T tt N ops is st K->vU T tt N ops is st K'
 | [],st,h=>hK st h
 |i::is,st,h=>by
  simp only [vU] at h ⊢;split at h
  .exact JK (fun e he=>yG hK he) h
  .exact h
theorem wC {T:Tab} {tt:TT} {N:Nat} {ops:Array Oper} {K K':St->List sU->Prop} (hK :∀st fs,K st fs->K' st fs) :∀{is:List Nat} {st:St} {fs:List sU},oZ T tt N ops is st fs K->oZ T tt N ops is st fs K'
 | [],st,fs,h=>hK st fs h
 |i::is,st,fs,h=>by
  simp only [oZ] at h ⊢;split at h
  .exact Et (fun e he=>wC hK he) h
  .exact h
end
section
variable [RE]
def OV.ok (c:OV) (b:Bool):Prop:=match c with
 |.yes=>b=true
 |.no=>b=false
 |.may e=>e=false->b=false
def Sz (a:Option OV) (b:Option (Bool->Prop)):Prop:=(a=none->b=none)/\∀c,a=some c->∃p,b=some p/\∀b,p b->c.ok b
theorem Sz.none:Sz none none:=⟨fun _=>rfl,fun _ h=>(nomatch h)⟩
theorem Sz.some {c:OV} {p:Bool->Prop} (h :∀b,p b->c.ok b):Sz (some c) (some p):=⟨fun h=>(nomatch h),fun c' e=>⟨p,rfl,by cases e;exact h⟩⟩
theorem ZP {o:Nat->TO} {x:TS}:Sz (Jt o x) (LX (bZ o) (bn x)):=by
 cases x with
 |v x=>
  cases x with
  |one x=>
   cases x with
   |p a i w=>
    obtain ⟨t,x⟩:=w;cases t with
    |sl e=>
     change List (Dt e) at x;cases x with
     |nil=>exact .some fun b hb h=>by simp at h
     |cons y ys=>exact .some fun b hb h=>hb (by intro h;cases h)
    |_=>exact .none
   |own g=>
    cases hg:o g with
    |arr fz a i e l=>
     have hd:(bZ o g).dim=some (size e,l.length):=pF (by simp only [La,hg]);simp only [Jt,hg,bn,jM,bW,LX,hd];refine .some fun b hb h=>hb fun h' => ?_;cases l with
     |nil=>simp at h
     |cons y ys=>cases h'
    |aO a i e aj l hole=>
     have hd:(bZ o g).dim=some (size e,l.length):=pF (by simp only [La,hg]);simp only [Jt,hg,bn,jM,bW,LX,hd];refine .some fun b hb h=>hb fun h' => ?_;cases l with
     |nil=>simp at h
     |cons y ys=>cases h'
    |_=>simp only [Jt,hg,bn,jM,bW,LX,bZ,eF,O.dim];exact .none
   |dF=>exact .some fun b hb=>hb
   |_=>exact .none
  |agg xs=>exact .none
 |_=>exact .none
theorem ZQ {o:Nat->TO} {x:TS}:Sz (Ju o x) (FB (bZ o) (bn x)):=by
 cases x with
 |v x=>
  cases x with
  |one x=>
   cases x with
   |p a i w=>
    obtain ⟨t,x⟩:=w;cases t with
    |opq=>
     change Value at x;unfold Ju;split
     .rename_i h;cases h
     .rename_i h;cases h;exact .some fun b hb=>hb
     .rename_i h1 h2;have:FB (bZ o) (bn (.v (.one (.p a i ⟨.opq,x⟩))))=Option.none:=by
       show FB (bZ o) (.v (.one (.p a i (.opq x))))=Option.none;unfold FB;split
       .rename_i h;cases h
       .rename_i h;cases h;exact (h2 _ _ rfl).elim
       .rfl
      rw [this];exact .none
    |sl e=>
     change List (Dt e) at x;cases x<;>exact .none
    |_=>exact .none
   |box g off=>
    cases hg:o g with
    |box ws=>
     simp only [Ju,hg,bn,jM,bW,FB,oN hg];exact .some fun b hb=>hb
    |_=>simp only [Ju,hg,bn,jM,bW,FB,bZ,eF];exact .none
   |_=>exact .none
  |agg xs=>exact .none
 |_=>exact .none
theorem ZR {o:Nat->TO} {x:TS} {k:Fw.TK} {c:Value}:Sz (OW o x k c) (xQ (bZ o) (bn x) k c):=by
 unfold OW;split
 .exact ZP
 .exact ZQ
 .rename_i h1 h2;have:xQ (bZ o) (bn x) k c=Option.none:=by
   unfold xQ;split
   .exact (h1 _ rfl rfl).elim
   .exact (h2 rfl rfl).elim
   .rfl
  rw [this];exact .none
def acO (a:Option (Bool×OV)) (b:Option (Bool×(Bool->Prop))):Prop:=(a=none->b=none)/\∀pos c,a=some (pos,c)->∃p,b=some (pos,p)/\∀b,p b->c.ok b
theorem acO.none:acO none none:=⟨fun _=>rfl,fun _ _ h=>(nomatch h)⟩
theorem afI {tt:TT} {st:kF} {o:Oper}:acO (ajv tt st o) (Ou tt (bg st) o):=by
 unfold ajv Ou;cases hgd:o.guard with
 |some g=>exact .none
 |none=>
  simp only;cases hop:o.op with
  |binOp op t x y u=>
   cases y with
   |const c=>
    simp only;cases ht:tt t with
    |none=>exact .none
    |some i=>
     simp only;have hs:=ZR (o:=st.go) (x:=st.dP x) (k:=i.k) (c:=c);rw [<-pI] at hs;change Sz _ (xQ (bg st).o ((bg st).dP x) i.k c) at hs;generalize OW st.go (st.dP x) i.k c=A at hs ⊢;generalize xQ (bg st).o ((bg st).dP x) i.k c=B at hs ⊢;cases A with
     |none=>
      have:=hs.1 rfl;subst this;cases op<;>exact .none
     |some c'=>
      obtain ⟨p,rfl,hp⟩:=hs.2 c' rfl;cases op<;>first
       |exact .none
       |(
         refine ⟨fun h=>(nomatch h),fun pos c'' h => ?_⟩;simp only [Q0,Q1] at h;obtain ⟨rfl,rfl⟩:=h;exact ⟨p,rfl,hp⟩)
   |_=>exact .none
  |_=>exact .none
theorem run_any {R:Type} {x y:Prog R} {r:R} (h:(Prog.any x y).run=some r):x.run=some r/\y.run=some r:=ZL h
theorem apR (pos b:Bool):({ x:=scalar (.bool (bif pos then b else !b)),aK:=[],new:=[] }:Eff)=(qN (bif pos then b else !b)).er:=rfl
theorem acP {st:kF} {o:Oper}:Ov (bg st) o=(acr st o).map fun x=>(x.1,P.str ⟨x.2.1.toArray⟩,P.int .i64 x.2.2):=by
 unfold Ov acr;cases o.guard with
 |some g=>rfl
 |none=>
  simp only;cases o.op with
  |next x b=>
   cases b with
   |false=>rfl
   |true=>
    simp only [pI];cases st.dP x with
    |v x=>
     cases x with
     |one x=>
      cases x with
      |ni g=>
       simp only [bn,jM,bW];have e:(bg st).o g=eF (st.go g):=rfl;rw [e];cases st.go g<;>rfl
      |_=>rfl
     |agg xs=>rfl
    |_=>rfl
  |_=>rfl
theorem itE (g:Nat) (s:List UInt8) (n:Int):I4 g (.str ⟨s.toArray⟩) (.int .i64 n)=(OX g s n).er:=rfl
theorem ZT {R:Type} {T:mG} {tt:TT} {ety:TypeId->Option Ty} {N:Nat} {ops:Array Oper} {o:Oper} {q:jO} {K:jO->ku->Prog R} {r:R} (h:(Vs T tt ety N ops o q K).run=some r) :
  B_ (nC T) tt N ops o (bg q.st) (XC q K r):=by
 unfold Vs at h;have hn:=afI (tt:=tt) (st:=q.st) (o:=o);split at h
 .rename_i pos c hc;obtain ⟨p,hp,hok⟩:=hn.2 pos c hc;unfold B_;rw [hp];simp only;split at h
  .exact (dD h).elim
  .rename_i hd;refine ⟨AL _ hd,fun b hb => ?_⟩;have hok:=hok b hb;rw [apR];have done:(K q (qN (bif pos then b else !b))).run=some r->XC q K r (qN (bif pos then b else !b)).er:=fun h=>⟨q,_,rfl,rfl,rV.refl q,h⟩;refine done ?_;cases c with
   |yes=>
    have hok:b=true:=hok;subst hok;cases pos<;>exact h
   |no=>
    have hok:b=false:=hok;subst hok;cases pos<;>exact h
   |may e=>
    have h:(bif e then (Prog.any (K q (qN true)) (K q (qN false))).run else (K q (qN (!pos))).run)=some r:=h;cases e with
    |true=>
     obtain ⟨h1,h2⟩:=run_any h;cases (bif pos then b else !b) with
     |true=>exact h1
     |false=>exact h2
    |false=>
     have hok:b=false:=hok rfl;subst hok;cases pos<;>exact h
 .rename_i hc;unfold B_;rw [hn.1 hc,acP];simp only;split at h
  .rename_i g s n hnx;rw [hnx];simp only [Z3];split at h
   .exact (dD h).elim
   .rename_i hd;have h:(bif RF s n then (K q (OX g s n)).run else (K q Vr).run)=some r:=h;have hb:QV (.str ⟨s.toArray⟩) (.int .i64 n)=RF s n:=by
     unfold QV RF;have:(P.str ⟨s.toArray⟩).bytes.size=s.length:=by show s.toArray.size=_;simp
     rw [this];rfl
    rw [hb];refine ⟨AL _ hd,fun e => ?_,fun e => ?_⟩
    .rw [e] at h;exact ⟨q,OX g s n,itE g s n,rfl,rV.refl q,h⟩
    .rw [e] at h;exact ⟨q,Vr,rfl,rfl,rV.refl q,h⟩
  .rename_i hnx;rw [hnx];exact Sv h
theorem XD {R:Type} {T:mG} {tt:TT} {ety:TypeId->Option Ty} {N:Nat} {ops:Array Oper} {r:R} {K:jO->Prog R} :∀{l:List Oper} {i:Nat} {q:jO},l=ops.toList.drop i->(runT T tt ety N ops l q K).run=some r->
  vU (nC T) tt N ops (List.range' i l.length) (bg q.st) fun st' =>∃q':jO,st'=bg q'.st/\rV q q'/\(K q').run=some r
 | [],i,q,hl,h=>⟨q,rfl,rV.refl q,h⟩
 |o::os,i,q,hl,h=>by
  have h0:ops[i]?=some o:=by
   have:=congrArg (·[0]?) hl;simpa using this.symm
  have h1:os=ops.toList.drop (i+1):=by
   have:=congrArg List.tail hl;simpa using this
  simp only [Wg,Ks,vU,h0];refine JK ?_ (ZT h);rintro e ⟨q',te,rfl,he,hr,h⟩;simp only [tq] at h;have ih:=XD h1 h;rw [<-he,<-MS];refine yG ?_ ih;rintro st' ⟨q'',rfl,hr',h⟩;exact ⟨q'',rfl,(hr.trans (rV.eff q' o.dst te)).trans hr',h⟩
theorem jZ {α β:Type} {f g:α->List β} :∀{l:List α},(∀x∈l,f x=g x)->l.flatMap f=l.flatMap g
 | [],_=>rfl
 |x::l,h=>by simp only [Z6,h x (by simp),jZ (l:=l) fun y hy=>h y (by simp [hy])]
theorem tY (f:FuncId) (caps:List W):(W.clo f caps).names=caps.flatMap W.names:=by
 rw [W.names];have :∀(l:List {x // x∈caps}),(l.flatMap fun x=>x.1.names)=(l.map (·.1)).flatMap W.names:=fun l=>by rw [List.flatMap_map]
 rw [this,List.attach_map_subtype_val]
theorem FY :∀(caps:List TW),yw caps=(nO caps).flatMap W.names
 | []=>rfl
 |c::cs=>by cases c<;>simp [yw,nO,bW,W.names,FY cs]
theorem JQ (x:TW):W.namesT x=(bW x).names:=by
 cases x with
 |clo f caps=>simp only [W.namesT,bW,tY,FY]
 |_=>simp only [W.namesT,bW,W.names]
theorem JR (x:TV):V.namesT x=(jM x).names:=by
 cases x with
 |one x=>exact JQ x
 |agg xs=>
  simp only [V.namesT,jM,V.names,List.flatMap_map];exact jZ fun x _=>JQ x
theorem VA (x:TS):S.namesT x=(bn x).names:=by
 cases x with
 |v x=>exact JR x
 |jq xs=>
  simp only [S.namesT,bn,S.names,List.flatMap_map];exact jZ fun x _=>JR x
 |no=>rfl
end
end Go.Fg

namespace Go.Fg
open Go.Fw
section
variable [RE]
theorem acQ {x:TS} {fn:FuncId} {caps:List W} (h:bn x=.v (.one (.clo fn caps))) :∃cs,x=.v (.one (.clo fn cs))/\caps=cs.map bW:=by
 cases x with
 |v x=>
  cases x with
  |one x=>
   cases x with
   |clo f cs=>
    simp only [bn,jM,bW,S.v.injEq,V.one.injEq,W.clo.injEq,y7] at h;obtain ⟨rfl,rfl⟩:=h;exact ⟨cs,rfl,rfl⟩
   |_=>simp [bn,jM,bW] at h
  |agg xs=>simp [bn,jM] at h
 |_=>simp [bn] at h
theorem MW {o:Nat->O} {args:List TS} :∀{l:List (Nat×kL)},Xj args l=true->fD o (args.map bn) (l.map fun p=>(p.1,p.2.er))=none
 | [],h=>by cases h
 |(t,k)::rest,h=>by
  unfold Xj at h;simp only [Qf,fD];split at h
  .rename_i hn;have e:(args.map bn).getD t .no=.no:=by
    simp only [List.getD_eq_getElem?_getD,XS] at hn ⊢;cases hz:args[t]? with
    |none=>simp
    |some z=>rw [hz] at hn;simp at hn;subst hn;rfl
   rw [e];cases k.er<;>simp [oH]
  .rename_i ys hn;have e :∃zs,(args.map bn).getD t .no=.jq zs:=by
    simp only [List.getD_eq_getElem?_getD,XS] at hn ⊢;cases hz:args[t]? with
    |none=>rw [hz] at hn;simp at hn
    |some z=>rw [hz] at hn;simp at hn;subst hn;exact ⟨_,rfl⟩
   obtain ⟨zs,e⟩:=e;rw [e];cases k.er<;>simp [oH]
  .rw [MW h];split
   .rename_i h1 h2;cases h2
   .rfl
theorem ZU {T:mG} {st:kF} {o:Oper} {l:List Nat} (h:Vt T st o=some l):QT (nC T) (bg st) o=l:=by
 unfold Vt at h;unfold QT;split at h
 .rename_i f args ts hop;rw [hop];simp only;rw [pI];split at h
  .rename_i fn caps hf;rw [XA hf];simp only;split at h
   .rename_i sp hT;have hT':pick (nC T) fn (args.toList.map (bg st).dP)=some sp.er:=by rw [JL,hT];rfl
    rw [hT'];simp only;split at h
    .rename_i c hc;simp only [Q0] at h;subst h;obtain ⟨k1,k2⟩:=JH hc;have k1:iM sp.er.sig (bg st).o ((args.toList.map (bg st).dP)++(caps.map bW).map fun x=>S.v (.one x))=some c.er:=by
      rw [JM];exact k1
     rw [k1];rfl
    .obtain ⟨hm,h⟩:=bQ h;simp only [Q0] at h;subst h;have k1:iM sp.er.sig (bg st).o ((args.toList.map (bg st).dP)++(caps.map bW).map fun x=>S.v (.one x))=none:=by
      rw [JM];unfold iM;have e:fD (bg st).o (List.map bn (List.map st.dP args.toList++List.map (fun x=>TS.v (TV.one x)) caps)) sp.er.sig.pin.slots=none:=MW hm;rw [e]
     rw [k1]
   .rename_i hT;simp only [Q0] at h;subst h;have hT':pick (nC T) fn (args.toList.map (bg st).dP)=none:=by rw [JL,hT];rfl
    rw [hT']
  .rename_i hno;simp only [Q0] at h;subst h;split
   .rename_i fn caps hf;obtain ⟨cs,hx,_⟩:=acQ hf;exact (hno _ _ hx).elim
   .rfl
 .rename_i hno;simp only [Q0] at h;subst h;split
  .rename_i f args ts hop;exact (hno _ _ _ hop).elim
  .rfl
theorem acR {T:mG} {st:kF} {o:Oper} {l:List Nat} (h:acs T st o=some l):qK (nC T) (bg st) o=l:=by
 unfold acs at h;split at h
 .rename_i r hr;simp only [Q0] at h;subst h;unfold qK;rw [ZU hr];congr 1;congr 1;refine jZ fun x _ => ?_;rw [pI,<-VA];refine jZ fun g _ => ?_;have:((bg st).o g).hn=lT (st.go g):=by
   show (eF (st.go g)).hn=_;cases st.go g with
   |aO a i e aj l hole=>cases hole<;>rfl
   |_=>rfl
  rw [this]
 .cases h
theorem JU (l:List (Nat×TO)):(iT l).map (·.1)=l.map (·.1):=by simp only [iT,Vv];rfl
theorem ZV (x y:TW):abC (bW x) (bW y)=acu x y:=by cases x<;>cases y<;>rfl
theorem MX (g:Nat) :∀(j:Nat) (xs ys:List TW),Cb g j (xs.map bW) (ys.map bW)=Ep g j xs ys
 |_,[],[]=>rfl
 |_,[],y::ys=>rfl
 |_,x::xs,[]=>rfl
 |j,x::xs,y::ys=>by
  simp only [Qf,Cb,Ep,MX g (j+1) xs ys,ZV];cases Ep g (j+1) xs ys<;>rfl
theorem ZW (g:Nat) (x:TO) (y:Option TO):QW g (eF x) (y.map eF)=Vu g x y:=by
 cases x with
 |box ws=>
  cases y with
  |none=>rfl
  |some y=>
   cases y with
   |box ws'=>
    simp only [eF,Z3,QW,Vu,MX];cases Ep g 0 ws ws'<;>rfl
   |_=>rfl
 |_=>cases y<;>rfl
theorem yH (g:Nat) :∀(l:List (Nat×TO)),(iT l).lookup g=(l.lookup g).map eF
 | []=>rfl
 |(k,x)::r=>by
  show (List.lookup g ((k,eF x)::iT r))=_;simp only [List.lookup];cases hb:g==k with
  |true=>rfl
  |false=>exact yH g r
theorem ajD {st:kF} {e:ku}:UY (bg st) e.er=kpT st e.aK:=by
 unfold UY kpT;show ((iT e.aK).map (·.1)).flatMap _=_;rw [JU];refine jZ fun g _ => ?_;show QW g (eF (st.go g)) ((iT e.aK).lookup g)=_;rw [yH,ZW]
theorem acS (x:TO):kindOf (eF x)=acv x:=by cases x<;>rfl
theorem uN {α β:Type} {f g:α->Option β} :∀{l:List α},(∀x∈l,f x=g x)->l.filterMap f=l.filterMap g
 | [],_=>rfl
 |x::l,h=>by
  have ih:l.filterMap f=l.filterMap g:=uN fun y hy=>h y (VM _ hy);simp only [List.filterMap_cons,h x (by simp),ih]
theorem ajE {st:kF} {e:ku}:UZ (bg st) e.er=kdT st e.aK:=by
 unfold UZ kdT;show ((iT e.aK).map (·.1)).filterMap _=_;rw [JU];refine uN fun g _ => ?_;show (match (iT e.aK).lookup g with
  |some x=>bif Nat.beq (kindOf x) (kindOf (eF (st.go g))) then some g else none
  |none=>none)=_
 rw [yH];cases e.aK.lookup g with
 |none=>rfl
 |some x=>simp only [Z3,acS]
theorem ajF {tt:TT} {st:kF} {o:Oper}:I5 tt (bg st) o=ldT tt st o:=by
 unfold I5 ldT;cases o.op with
 |load t x=>
  simp only [pI];cases tt t with
  |none=>rfl
  |some i=>
   cases st.dP x with
   |v x=>
    cases x with
    |one x=>cases x<;>rfl
    |agg xs=>rfl
   |_=>rfl
 |_=>rfl
theorem SA {R:Type} {T:mG} {tt:TT} {ety:TypeId->Option Ty} {N:Nat} {ops:Array Oper} {r:R} {K:jO->List sU->Prog R} :∀{l:List Oper} {i:Nat} {q:jO} {fs:List sU},l=ops.toList.drop i->(runNT T tt ety N ops l q fs K).run=some r->
  oZ (nC T) tt N ops (List.range' i l.length) (bg q.st) fs fun st' fs' =>∃q':jO,st'=bg q'.st/\rV q q'/\(K q' fs').run=some r
 | [],i,q,fs,hl,h=>⟨q,rfl,rV.refl q,h⟩
 |o::os,i,q,fs,hl,h=>by
  have h0:ops[i]?=some o:=by
   have:=congrArg (·[0]?) hl;simpa using this.symm
  have h1:os=ops.toList.drop (i+1):=by
   have:=congrArg List.tail hl;simpa using this
  simp only [Wg,Ks,oZ,h0];unfold runNT at h;split at h
  .exact (dD h).elim
  .rename_i rd hrd;refine Et ?_ (Sv h);rintro e ⟨q',te,rfl,he,hr,h⟩;simp only [tq,ajC] at h;have ih:=SA h1 h;rw [<-ajF,<-ajD,<-ajE,<-he] at ih;rw [acR hrd,<-he,<-MS];have e1:te.er.aK.map (·.1)=te.aK.map (·.1):=JU te.aK;have e2:te.er.new=te.new:=rfl;rw [e1,e2];refine wC ?_ ih;rintro st' fs' ⟨q'',rfl,hr',h⟩;exact ⟨q'',rfl,(hr.trans (rV.eff q' o.dst te)).trans hr',h⟩
theorem JV {R:Type} {T:mG} {tt:TT} {ety:TypeId->Option Ty} {N:Nat} {ops:Array Oper} {draw:Bool} {r:R} {K:jO->Prog R} {q:jO} {Kp:St->Prop} (h:(vZ T tt ety N ops draw q K).run=some r)
  (hK :∀q',rV q q'->(K q').run=some r->Kp (bg q'.st)):rM (nC T) tt N ops draw (bg q.st) Kp:=by
 unfold vZ at h;unfold rM;cases draw with
 |false=>
  have:=XD (i:=0) (by simp) h;rw [<-qf,Array.length_toList] at this;refine yG ?_ this;rintro st' ⟨q',rfl,hr,h⟩;exact hK q' hr h
 |true=>
  have:=SA (i:=0) (by simp) h;rw [<-qf,Array.length_toList] at this;refine wC ?_ this;rintro st' fs ⟨q',rfl,hr,h⟩;split at h
  .rename_i hf;exact ⟨hf,hK q' hr h⟩
  .exact (dD h).elim
theorem acT {A R:Type} {x:Prog A} {k:A->Prog R} {r:R} (h:(Prog.join x k).run=some r) :∃a,x.run=some a/\(k a).run=some r:=by
 have h:x.run.bind (fun z=>(k z).run)=some r:=h;cases hx:x.run with
 |none=>rw [hx] at h;cases h
 |some a=>rw [hx] at h;exact ⟨a,rfl,h⟩
theorem ZX {A R:Type} {x:Prog (A ⊕ R)} {k:A->Prog R} {r:R} (h:(Prog.MF x k).run=some r):(∃a,x.run=some (.inl a)/\(k a).run=some r)\/x.run=some (.inr r):=by
 have h:dM x.run (fun z=>(k z).run)=some r:=h;cases hx:x.run with
 |none=>rw [hx] at h;cases h
 |some a=>
  rw [hx] at h;cases a with
  |inl a=>exact .inl ⟨a,rfl,h⟩
  |inr r'=>
   have h:some r'=some r:=h;cases h;exact .inr rfl
theorem VB {A R:Type} {body:A->Option (A ⊕ R)} {a:A} {r:R} (h:bF body a=some r) :∃n,jK body n a=some r:=by
 unfold bF at h;split at h
 .exact ⟨_,h⟩
 .cases h
theorem acU {A R:Type} {a:A} {body:A->Prog (A ⊕ R)} {r:R} (h:(Prog.loop a body).run=some r) :∃n,jK (fun z=>(body z).run) n a=some r:=VB h
theorem AO {A R:Type} {body:A->Option (A ⊕ R)} :∀{n m:Nat} {a:A} {r:R},n<=m->jK body n a=some r->jK body m a=some r
 |0,m,a,r,_,h=>by cases h
 |n+1,0,a,r,hm,h=>by omega
 |n+1,m+1,a,r,hm,h=>by
  simp only [jK] at h ⊢;cases hb:body a with
  |none=>rw [hb] at h;cases h
  |some v=>
   rw [hb] at h;cases v with
   |inl a'=>exact AO (n:=n) (by omega) h
   |inr r'=>exact h
theorem yI {A R:Type} {body:A->Option (A ⊕ R)} {n:Nat} {a:A} {r:R} (h:jK body n a=some r):bF body a=some r:=by
 have hex :∃n r,jK body n a=some r:=⟨n,r,h⟩;unfold bF;rw [dif_pos hex];obtain ⟨r',h'⟩:=Classical.choose_spec hex;rw [h'];rcases Nat.le_total n (Classical.choose hex) with hle | hle
 .have:=AO hle h;rw [this] at h';exact h'.symm
 .have:=AO hle h';rw [this] at h;exact h
theorem AP {A R:Type} (body:A->Option (A ⊕ R)) (a:A):bF body a=(body a).bind fun
  |.inl a'=>bF body a'
  |.inr r=>some r:=by
 cases hb:body a with
 |none=>
  have:¬∃n r,jK body n a=some r:=by
   rintro ⟨n,r,h⟩;cases n with
   |zero=>cases h
   |succ n=>simp only [jK,hb] at h;cases h
  unfold bF;rw [dif_neg this];rfl
 |some v=>
  cases v with
  |inr r=>exact yI (n:=1) (by simp only [jK,hb];rfl)
  |inl a'=>
   show bF body a=bF body a';by_cases hex :∃n r,jK body n a'=some r
   .obtain ⟨n,r,hn⟩:=hex;rw [yI hn];exact yI (n:=n+1) (by simp only [jK,hb];exact hn)
   .have hex':¬∃n r,jK body n a=some r:=by
     rintro ⟨n,r,h⟩;cases n with
     |zero=>cases h
     |succ n=>simp only [jK,hb] at h;exact hex ⟨n,r,h⟩
    unfold bF;rw [dif_neg hex,dif_neg hex']
theorem XE {A R R':Type} {f:R->R'} (hf :∀a b,f a=f b->a=b) :∀a b:A ⊕ R,Sum.map id f a=Sum.map id f b->a=b
 |.inl a,.inl b,h=>by cases h;rfl
 |.inl a,.inr b,h=>by cases h
 |.inr a,.inl b,h=>by cases h
 |.inr a,.inr b,h=>by
  have h:(Sum.inr (f a):A ⊕ R')=.inr (f b):=h;simp only [Sum.inr.injEq] at h;rw [hf _ _ h]
theorem run_map {R R':Type} (f:R->R') (hf :∀a b,f a=f b->a=b) (p:Prog R):(p.map f).run=p.run.map f:=by
 induction p generalizing R' with
 |ret r=>rfl
 |stuck n=>rfl
 |cond b x y Xa ihy=>
  show (bif b then (x.map f).run else (y.map f).run)=(bif b then x.run else y.run).map f;rw [Xa f hf,ihy f hf];cases b<;>rfl
 |chk b x ih=>
  show ck b (x.map f).run=(ck b x.run).map f;rw [ih f hf];cases b<;>rfl
 |any x y Xa ihy=>
  show both (x.map f).run (y.map f).run=(both x.run y.run).map f;rw [Xa f hf,ihy f hf];unfold both;by_cases e:x.run=y.run
  .rw [if_pos e,if_pos (by rw [e])]
  .rw [if_neg e,if_neg]
   .rfl
   .intro h;apply e;cases hx:x.run with
    |none=>
     cases hy:y.run with
     |none=>rfl
     |some b=>rw [hx,hy] at h;cases h
    |some a=>
     cases hy:y.run with
     |none=>rw [hx,hy] at h;cases h
     |some b=>
      rw [hx,hy] at h;simp only [Z3,Q0] at h;rw [hf a b h]
 |let_ x k ih=>exact ih x f hf
 |join x k Xa ihk=>
  show x.run.bind (fun z=>((k z).map f).run)=(x.run.bind fun z=>(k z).run).map f;cases x.run with
  |none=>rfl
  |some a=>exact ihk a f hf
 |MF x k Xa ihk=>
  show dM (x.map (Sum.map id f)).run (fun z=>((k z).map f).run)=(dM x.run fun z=>(k z).run).map f;rw [Xa _ (XE hf)];cases x.run with
  |none=>rfl
  |some a=>
   cases a with
   |inl a=>exact ihk a f hf
   |inr r=>rfl
 |loop a body ih=>
  show bF (fun z=>((body z).map (Sum.map id f)).run) a=(bF (fun z=>(body z).run) a).map f;have e:(fun z=>((body z).map (Sum.map id f)).run)=fun z=>(body z).run.map (Sum.map id f):=funext fun z=>ih z _ (XE hf);rw [e];have key :∀n a,jK (fun z=>(body z).run.map (Sum.map id f)) n a=(jK (fun z=>(body z).run) n a).map f:=by
   intro n
   induction n with
   |zero=>intro a;rfl
   |succ n ihn=>
    intro a;simp only [jK];cases (body a).run with
    |none=>rfl
    |some v=>
     cases v with
     |inl a'=>exact ihn a'
     |inr r=>rfl
  have hiff:(∃n r,jK (fun z=>(body z).run.map (Sum.map id f)) n a=some r)↔∃n r,jK (fun z=>(body z).run) n a=some r:=by
   constructor
   .rintro ⟨n,r,h⟩;rw [key] at h;cases hx:jK (fun z=>(body z).run) n a with
    |none=>rw [hx] at h;cases h
    |some r'=>exact ⟨n,r',hx⟩
   .rintro ⟨n,r,h⟩;exact ⟨n,f r,by rw [key,h];rfl⟩
  by_cases hex :∃n r,jK (fun z=>(body z).run) n a=some r
  .obtain ⟨n,r,hn⟩:=hex;have u1:=yI hn;have u2:jK (fun z=>(body z).run.map (Sum.map id f)) n a=some (f r):=by rw [key,hn];rfl
   rw [u1,yI u2];rfl
  .have hex':=fun h=>hex (hiff.1 h);unfold bF;rw [dif_neg hex,dif_neg hex'];rfl
 |call n g a k ih=>
  show (g a).bind (fun z=>((k z).map f).run)=((g a).bind fun z=>(k z).run).map f;cases g a with
  |none=>rfl
  |some y=>exact ih y f hf
end
end Go.Fg

namespace Go.Fg
open Go.Fw
section
variable [RE] {m:Ren}
theorem zO :∀{caps:List TW} {gs:List Nat},CU caps=some gs->Ei gs=caps
 | [],gs,h=>by simp only [CU,Q0] at h;subst h;rfl
 |c::cs,gs,h=>by
  cases c with
  |box g off=>
   unfold CU at h;obtain ⟨hb,h⟩:=bQ h;have hb:=Q4 hb;subst hb;split at h
   .rename_i gs' hg;cases h;simp only [Ei,zO hg]
   .cases h
  |_=>cases h
theorem XF {x:TW} {k:kG} {u u':List Wd} (h:RI x=some (k,u)) (hc:Ej m k x=some u'):u'=u/\u.length=k.tys.length:=by
 cases x<;>try simp only [RI,Q0,Q1,reduceCtorEq] at h
 case p a i w=>
  obtain ⟨rfl,rfl⟩:=h;simp only [Ej] at hc;split at hc
  .obtain ⟨_,rfl⟩:=CY hc;exact ⟨rfl,rfl⟩
  .cases hc
 case dF=>obtain ⟨rfl,rfl⟩:=h;simp only [Ej,Q0] at hc;subst hc;exact ⟨rfl,rfl⟩
 case own g=>
  obtain ⟨rfl,rfl⟩:=h;simp only [Ej] at hc;split at hc
  .cases hc;exact ⟨rfl,rfl⟩
  .cases hc
 case box g off=>
  obtain ⟨rfl,rfl⟩:=h;simp only [Ej] at hc;split at hc
  .cases hc;exact ⟨rfl,rfl⟩
  .cases hc
 case clo f caps=>
  split at h
  .simp only [Q0,Q1] at h;obtain ⟨rfl,rfl⟩:=h;simp only [Ej] at hc;obtain ⟨_,rfl⟩:=CY hc;exact ⟨rfl,rfl⟩
  .cases h
 case vw g lo hi=>
  obtain ⟨rfl,rfl⟩:=h;simp only [Ej] at hc;split at hc
  .cases hc;exact ⟨rfl,rfl⟩
  .cases hc
 case ep g n off=>
  obtain ⟨rfl,rfl⟩:=h;simp only [Ej] at hc;split at hc
  .cases hc;exact ⟨rfl,rfl⟩
  .cases hc
 case ni g=>
  obtain ⟨rfl,rfl⟩:=h;simp only [Ej] at hc;split at hc
  .cases hc;exact ⟨rfl,rfl⟩
  .cases hc
theorem JW :∀{xs:List TW} {ks:List kG} {u u':List Wd},wP xs=some (ks,u)->yj m ks xs=some u'->u'=u/\u.length=(ks.flatMap kG.tys).length
 | [],ks,u,u',h,hc=>by
  simp only [wP,Q0,Q1] at h;obtain ⟨rfl,rfl⟩:=h;simp only [yj,Q0] at hc;subst hc;exact ⟨rfl,rfl⟩
 |x::xs,ks,u,u',h,hc=>by
  simp only [wP] at h;split at h
  .rename_i h1 h2;simp only [Q0,Q1] at h;obtain ⟨rfl,rfl⟩:=h;simp only [yj] at hc;split at hc
   .rename_i h3 h4;simp only [Q0] at hc;subst hc;obtain ⟨rfl,e1⟩:=XF h1 h3;obtain ⟨rfl,e2⟩:=JW h2 h4;exact ⟨rfl,by simp only [Ys,Z6,e1,e2]⟩
   .cases hc
  .cases h
theorem afJ {x:TS} {k:kL} {u u':List Wd} (h:OY x=some (k,u)) (hc:afs m k x=some u'):u'=u/\u.length=k.tys.length:=by
 unfold OY at h;split at h
 .split at h
  .rename_i h1;simp only [Q0,Q1] at h;obtain ⟨rfl,rfl⟩:=h;exact XF h1 hc
  .cases h
 .split at h
  .rename_i h1;simp only [Q0,Q1] at h;obtain ⟨rfl,rfl⟩:=h;exact JW h1 hc
  .cases h
 .cases h
theorem afK {x:TO} {k:iO} {u u':List Wd} (h:wZ x=some (k,u)) (hc:Vo m k x=some u'):u'=u/\u.length=k.tys.length:=by
 cases x with
 |none=>cases h
 |box ws=>
  simp only [wZ] at h;split at h
  .rename_i h1;simp only [Q0,Q1] at h;obtain ⟨rfl,rfl⟩:=h;exact JW h1 hc
  .cases h
 |arr fz a i e l=>
  simp only [wZ,Q0,Q1] at h;obtain ⟨rfl,rfl⟩:=h;simp only [Vo] at hc;split at hc
  .rename_i l' hl;split at hc
   .simp only [Q0] at hc;subst hc;have:=h_ hl;exact ⟨congrArg (fun w=>[w]) this.symm,rfl⟩
   .cases hc
  .cases hc
 |it s n=>
  simp only [wZ,Q0,Q1] at h;obtain ⟨rfl,rfl⟩:=h;simp only [Vo,Q0] at hc;exact ⟨hc.symm,rfl⟩
 |aO a i e aj l hole=>
  simp only [wZ] at h;split at h
  .simp only [Q0,Q1] at h;obtain ⟨rfl,rfl⟩:=h;simp only [Vo] at hc;split at hc
   .rename_i l' hl _;split at hc
    .simp only [Q0] at hc;subst hc;have:=h_ hl;exact ⟨congrArg (fun w=>[w]) this.symm,rfl⟩
    .cases hc
   .cases hc
  .cases h
theorem XG {x:TW} {k:kG} {u vs:List Wd} {n:Nat} (h:RI x=some (k,u)) (ha :∀(j:Nat) w,u[j]?=some w->vs[n+j]?=some w):(Au vs n k).1=x/\u.length=k.tys.length:=by
 cases x<;>try simp only [RI,Q0,Q1,reduceCtorEq] at h
 case p a i w=>
  obtain ⟨rfl,rfl⟩:=h;have:=ha 0 w rfl;refine ⟨?_,rfl⟩;show TW.p a i (vs.getD n Ar)=.p a i w;rw [List.getD_eq_getElem?_getD,show vs[n]?=some w from this];rfl
 case vw g lo hi=>
  obtain ⟨rfl,rfl⟩:=h;refine ⟨?_,rfl⟩;have h0:=ha 0 (je .i64 lo) rfl;have h1:=ha 1 (je .i64 hi) rfl;have e0:vs.getD n Ar=je .i64 lo:=by rw [List.getD_eq_getElem?_getD,show vs[n]?=some (je .i64 lo) from h0];rfl
  have e1:vs.getD (n+1) Ar=je .i64 hi:=by rw [List.getD_eq_getElem?_getD,show vs[n+1]?=some (je .i64 hi) from h1];rfl
  show TW.vw g ((vs.getD n Ar).as (.int .i64)) ((vs.getD (n+1) Ar).as (.int .i64))=.vw g lo hi;rw [e0,e1];have a0:TP.as (.int .i64) (je .i64 lo)=lo:=rO (.int .i64) lo;have a1:TP.as (.int .i64) (je .i64 hi)=hi:=rO (.int .i64) hi;rw [a0,a1]
 case ep g q off=>
  obtain ⟨rfl,rfl⟩:=h;refine ⟨?_,rfl⟩;have h0:=ha 0 (je .i64 q) rfl;have e0:vs.getD n Ar=je .i64 q:=by rw [List.getD_eq_getElem?_getD,show vs[n]?=some (je .i64 q) from h0];rfl
  show TW.ep g ((vs.getD n Ar).as (.int .i64)) off=.ep g q off;rw [e0];have a0:TP.as (.int .i64) (je .i64 q)=q:=rO (.int .i64) q;rw [a0]
 case clo f caps=>
  split at h
  .rename_i gs hgs;simp only [Q0,Q1] at h;obtain ⟨rfl,rfl⟩:=h;exact ⟨by simp only [Au,zO hgs],rfl⟩
  .cases h
 all_goals (obtain ⟨rfl,rfl⟩:=h;exact ⟨rfl,rfl⟩)
theorem afL {α:Type} {vs a b:List α} {n:Nat} (h :∀(j:Nat) w,(a++b)[j]?=some w->vs[n+j]?=some w) :∀(j:Nat) w,a[j]?=some w->vs[n+j]?=some w:=fun j w hw=>h j w (by rw [W8 (Q3.1 hw).1];exact hw)
theorem acV {α:Type} {vs a b:List α} {n:Nat} (h :∀(j:Nat) w,(a++b)[j]?=some w->vs[n+j]?=some w) :∀(j:Nat) w,b[j]?=some w->vs[n+a.length+j]?=some w:=fun j w hw=>by
 rw [Uv];exact h (a.length+j) w (by rw [W5 (by omega)];simpa using hw)
theorem JX :∀{xs:List TW} {ks:List kG} {u vs:List Wd} {n:Nat},wP xs=some (ks,u)->(∀(j:Nat) w,u[j]?=some w->vs[n+j]?=some w)->(uF vs n ks).1=xs/\u.length=(ks.flatMap kG.tys).length
 | [],ks,u,vs,n,h,ha=>by
  simp only [wP,Q0,Q1] at h;obtain ⟨rfl,rfl⟩:=h;exact ⟨rfl,rfl⟩
 |x::xs,ks,u,vs,n,h,ha=>by
  simp only [wP] at h;split at h
  .rename_i k1 u1 ks1 us1 h1 h2;simp only [Q0,Q1] at h;obtain ⟨rfl,rfl⟩:=h;obtain ⟨a1,a2⟩:=XG h1 (afL ha);obtain ⟨b1,b2⟩:=JX (n:=n+u1.length) h2 (acV ha);refine ⟨?_,by simp only [Ys,Z6,a2,b2]⟩;simp only [uF,a1,CW];rw [<-a2,b1]
  .cases h
theorem afM {x:TS} {k:kL} {u vs:List Wd} {n:Nat} (h:OY x=some (k,u)) (ha :∀(j:Nat) w,u[j]?=some w->vs[n+j]?=some w):(Gz vs n k).1=x/\u.length=k.tys.length:=by
 unfold OY at h;split at h
 .split at h
  .rename_i h1;simp only [Q0,Q1] at h;obtain ⟨rfl,rfl⟩:=h;obtain ⟨a1,a2⟩:=XG h1 ha;exact ⟨by simp only [Gz,a1],a2⟩
  .cases h
 .split at h
  .rename_i h1;simp only [Q0,Q1] at h;obtain ⟨rfl,rfl⟩:=h;obtain ⟨a1,a2⟩:=JX h1 ha;exact ⟨by simp only [Gz,a1],a2⟩
  .cases h
 .cases h
theorem afN {x:TO} {k:iO} {u vs:List Wd} {n:Nat} (h:wZ x=some (k,u)) (ha :∀(j:Nat) w,u[j]?=some w->vs[n+j]?=some w):(Em vs n k).1=x/\u.length=k.tys.length:=by
 cases x with
 |none=>cases h
 |box ws=>
  simp only [wZ] at h;split at h
  .rename_i h1;simp only [Q0,Q1] at h;obtain ⟨rfl,rfl⟩:=h;obtain ⟨a1,a2⟩:=JX h1 ha;exact ⟨by simp only [Em,a1],a2⟩
  .cases h
 |arr fz a i e l=>
  simp only [wZ,Q0,Q1] at h;obtain ⟨rfl,rfl⟩:=h;refine ⟨?_,rfl⟩;have:=ha 0 (um e l) rfl;have e1:vs.getD n Ar=um e l:=by rw [List.getD_eq_getElem?_getD,show vs[n]?=some (um e l) from this];rfl
  show TO.arr fz a i e ((vs.getD n Ar).as (.sl e))=.arr fz a i e l;rw [e1];congr 1;exact rO (.sl e) l
 |it s p=>
  simp only [wZ,Q0,Q1] at h;obtain ⟨rfl,rfl⟩:=h;refine ⟨?_,rfl⟩;have h0:=ha 0 (Rh s) rfl;have h1:=ha 1 (je .i64 p) rfl;have e0:vs.getD n Ar=Rh s:=by rw [List.getD_eq_getElem?_getD,show vs[n]?=some (Rh s) from h0];rfl
  have e1:vs.getD (n+1) Ar=je .i64 p:=by rw [List.getD_eq_getElem?_getD,show vs[n+1]?=some (je .i64 p) from h1];rfl
  show TO.it ((vs.getD n Ar).as .str) ((vs.getD (n+1) Ar).as (.int .i64))=.it s p;rw [e0,e1];have a0:TP.as .str (Rh s)=s:=rO .str s;have a1:TP.as (.int .i64) (je .i64 p)=p:=rO (.int .i64) p;rw [a0,a1]
 |aO a i e aj l hole=>
  simp only [wZ] at h;split at h
  .simp only [Q0,Q1] at h;obtain ⟨rfl,rfl⟩:=h;refine ⟨?_,rfl⟩;have:=ha 0 (um e l) rfl;have e1:vs.getD n Ar=um e l:=by rw [List.getD_eq_getElem?_getD,show vs[n]?=some (um e l) from this];rfl
   show TO.aO a i e aj ((vs.getD n Ar).as (.sl e)) none=.aO a i e aj l none;rw [e1];congr 1;exact rO (.sl e) l
  .cases h
theorem XH {x:TW} {k:kG} {u:List Wd} (h:RI x=some (k,u)):u.map (·.t)=k.tys:=by
 cases x<;>try simp only [RI,Q0,Q1,reduceCtorEq] at h
 case clo f caps=>
  split at h
  .simp only [Q0,Q1] at h;obtain ⟨rfl,rfl⟩:=h;rfl
  .cases h
 all_goals (obtain ⟨rfl,rfl⟩:=h;rfl)
theorem JY :∀{xs:List TW} {ks:List kG} {u:List Wd},wP xs=some (ks,u)->u.map (·.t)=ks.flatMap kG.tys
 | [],ks,u,h=>by
  simp only [wP,Q0,Q1] at h;obtain ⟨rfl,rfl⟩:=h;rfl
 |x::xs,ks,u,h=>by
  simp only [wP] at h;split at h
  .rename_i h1 h2;simp only [Q0,Q1] at h;obtain ⟨rfl,rfl⟩:=h;simp only [Xs,Z6,XH h1,JY h2]
  .cases h
theorem XI {x:TS} {k:kL} {u:List Wd} (h:OY x=some (k,u)):u.map (·.t)=k.tys:=by
 unfold OY at h;split at h
 .split at h
  .rename_i h1;simp only [Q0,Q1] at h;obtain ⟨rfl,rfl⟩:=h;exact XH h1
  .cases h
 .split at h
  .rename_i h1;simp only [Q0,Q1] at h;obtain ⟨rfl,rfl⟩:=h;exact JY h1
  .cases h
 .cases h
theorem afO {x:TO} {k:iO} {u:List Wd} (h:wZ x=some (k,u)):u.map (·.t)=k.tys:=by
 cases x with
 |none=>cases h
 |box ws=>
  simp only [wZ] at h;split at h
  .rename_i h1;simp only [Q0,Q1] at h;obtain ⟨rfl,rfl⟩:=h;exact JY h1
  .cases h
 |arr fz a i e l=>
  simp only [wZ,Q0,Q1] at h;obtain ⟨rfl,rfl⟩:=h;rfl
 |it s n=>
  simp only [wZ,Q0,Q1] at h;obtain ⟨rfl,rfl⟩:=h;rfl
 |aO a i e aj l hole=>
  simp only [wZ] at h;split at h
  .simp only [Q0,Q1] at h;obtain ⟨rfl,rfl⟩:=h;rfl
  .cases h
def SB (s:Nat->TS) (l:List (Nat×kL×Option (List Wd))):Prop :=∀t k u,(t,k,some u)∈l->OY (s t)=some (k,u)
def XJ (s:Nat->TO) (l:List (Nat×iO×Option (List Wd))):Prop :=∀t k u,(t,k,some u)∈l->wZ (s t)=some (k,u)
theorem yJ {s:Nat->TS} :∀{l:List (Nat×Md)} {r:List (Nat×kL×Option (List Wd))},Az s l=some r->SB s r
 | [],r,h=>by simp only [Az,Q0] at h;subst h;intro t k u hm;cases hm
 |(t,.keep)::l,r,h=>by
  simp only [Az] at h;split at h
  .rename_i h1 h2;simp only [Q0] at h;subst h;intro t' k u hm;rcases QQ.1 hm with hm | hm
   .cases hm;exact h1
   .exact yJ h2 t' k u hm
  .cases h
 |(t,.sl k0)::l,r,h=>by
  simp only [Az] at h;split at h
  .rename_i h2;simp only [Q0] at h;subst h;intro t' k u hm;rcases QQ.1 hm with hm | hm
   .cases hm
   .exact yJ h2 t' k u hm
  .cases h
theorem AQ {s:Nat->TO} :∀{l:List (Nat×Mo)} {r:List (Nat×iO×Option (List Wd))},Jv s l=some r->XJ s r
 | [],r,h=>by simp only [Jv,Q0] at h;subst h;intro t k u hm;cases hm
 |(t,.keep)::l,r,h=>by
  simp only [Jv] at h;split at h
  .rename_i h1 h2;simp only [Q0] at h;subst h;intro t' k u hm;rcases QQ.1 hm with hm | hm
   .cases hm;exact h1
   .exact AQ h2 t' k u hm
  .cases h
 |(t,.ob k0)::l,r,h=>by
  simp only [Jv] at h;split at h
  .rename_i h2;simp only [Q0] at h;subst h;intro t' k u hm;rcases QQ.1 hm with hm | hm
   .cases hm
   .exact AQ h2 t' k u hm
  .cases h
theorem C_ {s s':Nat->TS} :∀{l:List (Nat×kL×Option (List Wd))} {us rest lF:List Wd},SB s l->(∀t k u,(t,k,some u)∈l->s' t=s t)->nS m s' (l.map fun p=>(p.1,p.2.1))=some us->
  ∃e,OZ l (us++rest)=(e,rest)/\mJ l (e++lF)=(us,lF)/\e.map (·.t)=jL l
 | [],us,rest,lF,hk,hs,h=>by
  simp only [Vn,nS,Q0] at h;subst h;exact ⟨[],rfl,rfl,rfl⟩
 |(t,k,some u)::l,us,rest,lF,hk,hs,h=>by
  simp only [Qf,nS] at h;split at h
  .rename_i u1 v h1 h2;simp only [Q0] at h;subst h;rw [hs t k u (by simp)] at h1;obtain ⟨rfl,hl⟩:=afJ (hk t k u (by simp)) h1;obtain ⟨e,e1,e2,e3⟩:=C_ (rest:=rest) (lF:=lF) (fun t k u hm=>hk t k u (by simp [hm])) (fun t k u hm=>hs t k u (by simp [hm])) h2;refine ⟨e,?_,?_,by simp only [jL,e3]⟩
   .simp only [OZ,Wa,Uq,e1]
   .simp only [mJ,e2]
  .cases h
 |(t,k,none)::l,us,rest,lF,hk,hs,h=>by
  simp only [Qf,nS] at h;split at h
  .rename_i u1 v h1 h2;simp only [Q0] at h;subst h;have hty:=(Xu h1).2;have hl:u1.length=k.tys.length:=by rw [<-hty,ZD]
   obtain ⟨e,e1,e2,e3⟩:=C_ (rest:=rest) (lF:=lF) (fun t k u hm=>hk t k u (by simp [hm])) (fun t k u hm=>hs t k u (by simp [hm])) h2;refine ⟨u1++e,?_,?_,by simp only [Xs,hty,jL,e3]⟩
   .simp only [OZ,Wa,<-hl,K6,Uq,e1]
   .simp only [mJ,Wa,<-hl,K6,Uq,e2]
  .cases h
theorem Dc {s s':Nat->TO} :∀{l:List (Nat×iO×Option (List Wd))} {us rest lF:List Wd},XJ s l->(∀t k u,(t,k,some u)∈l->s' t=s t/\m.lookup t=some (some t))->ql m s' (l.map fun p=>(p.1,p.2.1))=some us->
  ∃e,RJ l (us++rest)=(e,rest)/\qO l (e++lF)=(us,lF)/\e.map (·.t)=pK l
 | [],us,rest,lF,hk,hs,h=>by
  simp only [Vn,ql,Q0] at h;subst h;exact ⟨[],rfl,rfl,rfl⟩
 |(t,k,some u)::l,us,rest,lF,hk,hs,h=>by
  simp only [Qf,ql] at h;split at h
  .rename_i u1 v h1 h2;simp only [Q0] at h;subst h;obtain ⟨hs1,hm1⟩:=hs t k u (by simp);rw [hm1] at h1;simp only at h1;rw [hs1] at h1;obtain ⟨rfl,hl⟩:=afK (hk t k u (by simp)) h1;obtain ⟨e,e1,e2,e3⟩:=Dc (rest:=rest) (lF:=lF) (fun t k u hm=>hk t k u (by simp [hm])) (fun t k u hm=>hs t k u (by simp [hm])) h2;refine ⟨e,?_,?_,by simp only [pK,e3]⟩
   .simp only [RJ,Wa,Uq,e1]
   .simp only [qO,e2]
  .cases h
 |(t,k,none)::l,us,rest,lF,hk,hs,h=>by
  simp only [Qf,ql] at h;split at h
  .rename_i u1 v h1 h2;simp only [Q0] at h;subst h;have hty:u1.map (·.t)=k.tys:=by
    cases hg:m.lookup t with
    |none=>rw [hg] at h1;cases h1
    |some og=>
     rw [hg] at h1;cases og with
     |some g=>exact (Xv h1).2
     |none=>
      simp only at h1;split at h1
      .cases h1;rfl
      .cases h1;rfl
      .cases h1
   have hl:u1.length=k.tys.length:=by rw [<-hty,ZD]
   obtain ⟨e,e1,e2,e3⟩:=Dc (rest:=rest) (lF:=lF) (fun t k u hm=>hk t k u (by simp [hm])) (fun t k u hm=>hs t k u (by simp [hm])) h2;refine ⟨u1++e,?_,?_,by simp only [Xs,hty,pK,e3]⟩
   .simp only [RJ,Wa,<-hl,K6,Uq,e1]
   .simp only [qO,Wa,<-hl,K6,Uq,e2]
  .cases h
theorem AU {s:List (Nat×TS)} {ds:List Nat} :∀{l:List (Nat×kL×Option (List Wd))},RN s ds l=true->∀t k u,(t,k,some u)∈l->hasK t s=true/\fZ t ds=false
 | [],h,t,k,u,hm=>by cases hm
 |(t0,k0,some u0)::l,h,t,k,u,hm=>by
  simp only [RN,Qt,Wf] at h;rcases QQ.1 hm with hm | hm
  .cases hm;exact h.1
  .exact AU h.2 t k u hm
 |(t0,k0,none)::l,h,t,k,u,hm=>by
  rcases QQ.1 hm with hm | hm
  .cases hm
  .exact AU (l:=l) h t k u hm
theorem AV {s:List (Nat×TO)} {ds:List Nat} :∀{l:List (Nat×iO×Option (List Wd))},RP s ds l=true->∀t k u,(t,k,some u)∈l->hasK t s=true/\fZ t ds=false
 | [],h,t,k,u,hm=>by cases hm
 |(t0,k0,some u0)::l,h,t,k,u,hm=>by
  simp only [RP,Qt,Wf] at h;rcases QQ.1 hm with hm | hm
  .cases hm;exact h.1
  .exact AV h.2 t k u hm
 |(t0,k0,none)::l,h,t,k,u,hm=>by
  rcases QQ.1 hm with hm | hm
  .cases hm
  .exact AV (l:=l) h t k u hm
end
end Go.Fg

namespace Go.Fw
variable [eX]
def al2:TypeDesc->TK
 |.int k=>.int k
 |.bool=>.bool
 |.string=>.str
 |.slice e=>.slice e
 |.pointer _=>.ptr
 |.struct gs=>.struct (gs.toList.map fun f=>(f.offset,f.type))
 |.array n e=>.arr n e
 |_=>.other
theorem pV.of {Pg:Program} {t:TypeId} {i:TI} (h1:(Pg.info? t).map (fun x=>(x.size,x.bytes,x.zero.map (·.cells.toList),x.zero.map fun z=>match z with | .agg _=>true | _=>false))=some (i.size,i.bytes,some i.zero,some i.agg))
  (h2:i.zero.all (·.oneCell')=true) (h3:i.zero.length=i.size) (hk:(Pg.underlying t).map al2=some i.k)
  (he:(!i.eq||(!Pg.stoodInHeld t&&!Pg.eqGuardType Pg.depth t&&(Pg.fieldsOf t).toList.all fun f=>!(f.name == "_")))=true):pV Pg t i:=by
 refine ⟨h1,h2,h3,?_,fun h => ?_⟩
 rotate_left
 .rw [h] at he;simp only [Bool.not_true,J0,Qt,Wf,XX] at he;exact ⟨he.1.1,he.1.2,fun f hf e=>by have:=he.2 f hf;rw [e] at this;simp at this⟩
 cases hu:Pg.underlying t with
 |none=>rw [hu] at hk;cases hk
 |some d=>
  rw [hu] at hk;simp only [Z3,Q0] at hk;rw [<-hk];cases d<;>simp [al2,oD,hu]
def ahQ (Pg:Program):List (Nat×TI)->Prop
 | []=>True
 |p::r=>pV Pg p.1 p.2/\ahQ Pg r
theorem afP {Pg:Program} (rows:List (Nat×TI)) (h:ahQ Pg rows):iR Pg fun t=>rows.lookup t:=by
 intro t i ht
 induction rows with
 |nil=>cases ht
 |cons p r ih=>
  obtain ⟨h1,h2⟩:=h;simp only [List.lookup] at ht;split at ht
  .rename_i e;have e:t=p.1:=by simpa using e
   simp only [Q0] at ht;subst ht;subst e;exact h1
  .exact ih h2 ht
theorem wrap64 {x:Int} (h1:-9223372036854775808<=x) (h2:x<=9223372036854775807):IntKind.i64.wrap x=x:=by
 have e:IntKind.i64.wrap x=if x % 18446744073709551616≥9223372036854775808 then x % 18446744073709551616-18446744073709551616 else x % 18446744073709551616:=by
  simp [IntKind.wrap,IntKind.bits,IntKind.signed]
 rw [e];split<;>omega
end Go.Fw

namespace Go.Fg
open Go.Fw
section
variable [RE]
theorem wE :∀{l:List (Nat×iO×Option (List Wd))} {r:Ren} {t:Nat} {k:iO} {u:List Wd},(t,k,some u)∈l->(MK l++r).lookup t=some (some t)
 | [],r,t,k,u,h=>by cases h
 |(t0,k0,some u0)::l,r,t,k,u,h=>by
  simp only [MK,K5,List.lookup,G9];cases hb:Nat.beq t t0 with
  |true=>have:=Q4 hb;subst this;rfl
  |false=>
   rcases QQ.1 h with h | h
   .cases h;simp at hb
   .exact wE h
 |(t0,k0,none)::l,r,t,k,u,h=>by
  rcases QQ.1 h with h | h
  .cases h
  .exact wE (l:=l) h
structure JOk (st:kF) (j:JF):Prop where
 s:SB st.gs j.slots
 o:XJ st.go j.bf
 ds :∀t k u,(t,k,some u)∈j.slots->fZ t (newS j.slots)=false
 dO :∀t k u,(t,k,some u)∈j.bf->fZ t (uI j.bf)=false
theorem Eu {nw:List Nat} :∀{l:List (Nat×kL×Option (List Wd))},acA nw l=true->∀t k u,(t,k,some u)∈l->fZ t nw=false
 | [],h,t,k,u,hm=>by cases hm
 |(t0,k0,some u0)::l,h,t,k,u,hm=>by
  simp only [acA,Qt,Wf] at h;rcases QQ.1 hm with hm | hm
  .cases hm;exact h.1
  .exact Eu h.2 t k u hm
 |(t0,k0,none)::l,h,t,k,u,hm=>by
  rcases QQ.1 hm with hm | hm
  .cases hm
  .exact Eu (l:=l) h t k u hm
theorem Ew {nw:List Nat} :∀{l:List (Nat×iO×Option (List Wd))},acB nw l=true->∀t k u,(t,k,some u)∈l->fZ t nw=false
 | [],h,t,k,u,hm=>by cases hm
 |(t0,k0,some u0)::l,h,t,k,u,hm=>by
  simp only [acB,Qt,Wf] at h;rcases QQ.1 hm with hm | hm
  .cases hm;exact h.1
  .exact Ew h.2 t k u hm
 |(t0,k0,none)::l,h,t,k,u,hm=>by
  rcases QQ.1 hm with hm | hm
  .cases hm
  .exact Ew (l:=l) h t k u hm
theorem acW {st:kF} {jt:JT} {j:JF} (h:jOf st jt=some j):JOk st j:=by
 unfold jOf at h;split at h
 .rename_i h1 h2;split at h
  .rename_i hd;simp only [Q0] at h;subst h;simp only [Qt] at hd;exact ⟨yJ h1,AQ h2,Eu hd.1,Ew hd.2⟩
  .cases h
 .cases h
theorem VD {st:kF} {j:JF} (hj:JOk st j) (x:Tup j.tys):(j.pay (Tup.lW j.tys x)).map (·.t)=j.sh.tys:=by
 have slots :∀(l:List (Nat×kL×Option (List Wd))) (hk :∀t k u,(t,k,some u)∈l->u.map (·.t)=k.tys) (ws rest:List Wd),ws.map (·.t)=jL l->(mJ l (ws++rest)).1.map (·.t)=(l.map fun p=>(p.1,p.2.1)).flatMap (fun p=>p.2.tys)/\(mJ l (ws++rest)).2=rest:=by
  intro l
  induction l with
  |nil=>intro hk ws rest h;simp only [jL,List.map_eq_nil_iff] at h;subst h;exact ⟨rfl,rfl⟩
  |cons p l ih=>
   intro hk ws rest h;obtain ⟨t,k,ou⟩:=p;cases ou with
   |some u=>
    obtain ⟨a1,a2⟩:=ih (fun t k u hm=>hk t k u (by simp [hm])) ws rest h;exact ⟨by simp only [mJ,Xs,Qf,Z6,a1,hk t k u (by simp)],a2⟩
   |none=>
    simp only [jL] at h;have hl:k.tys.length<=ws.length:=by
     have:=congrArg List.length h;simp only [ZD,Ys] at this;omega
    have h1:(ws.take k.tys.length).map (·.t)=k.tys:=by rw [V0,h,K6]
    have h2:(ws.drop k.tys.length).map (·.t)=jL l:=by rw [Wo,h,Uq]
    have e1:(ws++rest).take k.tys.length=ws.take k.tys.length:=K2 hl;have e2:(ws++rest).drop k.tys.length=ws.drop k.tys.length++rest:=UV hl;obtain ⟨a1,a2⟩:=ih (fun t k u hm=>hk t k u (by simp [hm])) _ rest h2;simp only [mJ,e1,e2];exact ⟨by simp only [Xs,Qf,Z6,a1,h1],a2⟩
 have bf :∀(l:List (Nat×iO×Option (List Wd))) (hk :∀t k u,(t,k,some u)∈l->u.map (·.t)=k.tys) (ws rest:List Wd),ws.map (·.t)=pK l->(qO l (ws++rest)).1.map (·.t)=(l.map fun p=>(p.1,p.2.1)).flatMap (fun p=>p.2.tys)/\(qO l (ws++rest)).2=rest:=by
  intro l
  induction l with
  |nil=>intro hk ws rest h;simp only [pK,List.map_eq_nil_iff] at h;subst h;exact ⟨rfl,rfl⟩
  |cons p l ih=>
   intro hk ws rest h;obtain ⟨t,k,ou⟩:=p;cases ou with
   |some u=>
    obtain ⟨a1,a2⟩:=ih (fun t k u hm=>hk t k u (by simp [hm])) ws rest h;exact ⟨by simp only [qO,Xs,Qf,Z6,a1,hk t k u (by simp)],a2⟩
   |none=>
    simp only [pK] at h;have hl:k.tys.length<=ws.length:=by
     have:=congrArg List.length h;simp only [ZD,Ys] at this;omega
    have h1:(ws.take k.tys.length).map (·.t)=k.tys:=by rw [V0,h,K6]
    have h2:(ws.drop k.tys.length).map (·.t)=pK l:=by rw [Wo,h,Uq]
    have e1:(ws++rest).take k.tys.length=ws.take k.tys.length:=K2 hl;have e2:(ws++rest).drop k.tys.length=ws.drop k.tys.length++rest:=UV hl;obtain ⟨a1,a2⟩:=ih (fun t k u hm=>hk t k u (by simp [hm])) _ rest h2;simp only [qO,e1,e2];exact ⟨by simp only [Xs,Qf,Z6,a1,h1],a2⟩
 have hS :∀t k u,(t,k,some u)∈j.slots->u.map (·.t)=k.tys:=fun t k u hm=>XI (hj.s t k u hm);have hO :∀t k u,(t,k,some u)∈j.bf->u.map (·.t)=k.tys:=fun t k u hm=>afO (hj.o t k u hm);have hx:(Tup.lW j.tys x).map (·.t)=jL j.slots++pK j.bf:=wB _ _;generalize Tup.lW j.tys x=ws at hx;obtain ⟨w1,w2,rfl,h1,h2⟩ :∃w1 w2,ws=w1++w2/\w1.map (·.t)=jL j.slots/\w2.map (·.t)=pK j.bf:=by
  refine ⟨ws.take (jL j.slots).length,ws.drop (jL j.slots).length,(J2 _ _).symm,?_,?_⟩
  .rw [V0,hx,K6]
  .rw [Wo,hx,Uq]
 obtain ⟨a1,a2⟩:=slots j.slots hS w1 w2 h1;have ob:=bf j.bf hO w2 [] h2;rw [Ki] at ob;unfold JF.pay;rw [a2,Xs,a1,ob.1];rfl
theorem Ey {s:Nat->TS} :∀{l:List (Nat×kL×Option (List Wd))} {pre post ws rest:List Wd} {t:Nat},SB s l->ws.map (·.t)=jL l->hasK t (gQ (pre++(mJ l (ws++rest)).1++post) pre.length (l.map fun p=>(p.1,p.2.1))).1=true->fZ t (newS l)=false->
  jH .no (gQ (pre++(mJ l (ws++rest)).1++post) pre.length (l.map fun p=>(p.1,p.2.1))).1 t=s t/\∃k u,(t,k,some u)∈l
 | [],pre,post,ws,rest,t,hk,hw,h,hn=>by cases h
 |(t0,k,some u)::l,pre,post,ws,rest,t,hk,hw,h,hn=>by
  have hu:=hk t0 k u (by simp);have hmk:=afM (vs:=pre++(u++(mJ l (ws++rest)).1)++post) (n:=pre.length) hu (fun j w hj=>by
   rw [Wa,W5 (by omega),KM,Wa,W8 (Q3.1 hj).1];exact hj)
  simp only [mJ,Qf,gQ,hmk.1,CX,<-hmk.2] at h ⊢;have e:pre++(u++(mJ l (ws++rest)).1)++post=(pre++u)++(mJ l (ws++rest)).1++post:=by simp only [Wa]
  rw [e] at h ⊢;have en:pre.length+u.length=(pre++u).length:=by rw [Ys]
  rw [en] at h ⊢;simp only [hasK,jH] at h ⊢;cases hb:Nat.beq t t0 with
  |true=>
   have:=Q4 hb;subst this;exact ⟨rfl,k,u,by simp⟩
  |false=>
   rw [hb,J0] at h;obtain ⟨a1,k',u',a2⟩:=Ey (l:=l) (pre:=pre++u) (fun t k u hm=>hk t k u (by simp [hm])) hw h hn;exact ⟨a1,k',u',by simp [a2]⟩
 |(t0,k,none)::l,pre,post,ws,rest,t,hk,hw,h,hn=>by
  simp only [jL] at hw;simp only [newS,fZ,VV] at hn;have hl:k.tys.length<=ws.length:=by
   have:=congrArg List.length hw;simp only [ZD,Ys] at this;omega
  have h2:(ws.drop k.tys.length).map (·.t)=jL l:=by rw [Wo,hw,Uq]
  have e1:(ws++rest).take k.tys.length=ws.take k.tys.length:=K2 hl;have e2:(ws++rest).drop k.tys.length=ws.drop k.tys.length++rest:=UV hl;have hlen:(ws.take k.tys.length).length=k.tys.length:=by rw [UI];omega
  simp only [mJ,Qf,gQ,CX,e1,e2] at h ⊢;have e:pre++(ws.take k.tys.length++(mJ l (ws.drop k.tys.length++rest)).1)++post=(pre++ws.take k.tys.length)++(mJ l (ws.drop k.tys.length++rest)).1++post:=by simp only [Wa]
  rw [e] at h ⊢;have en:pre.length+k.tys.length=(pre++ws.take k.tys.length).length:=by rw [Ys,hlen]
  rw [en] at h ⊢;simp only [hasK,jH,hn.1,J0,cond_false] at h ⊢;obtain ⟨a1,k',u',a2⟩:=Ey (pre:=pre++ws.take k.tys.length) (fun t k u hm=>hk t k u (by simp [hm])) h2 h hn.2;exact ⟨a1,k',u',by simp [a2]⟩
theorem JZ {s:Nat->TO} :∀{l:List (Nat×iO×Option (List Wd))} {pre post ws rest:List Wd} {t:Nat},XJ s l->ws.map (·.t)=pK l->hasK t (jQ (pre++(qO l (ws++rest)).1++post) pre.length (l.map fun p=>(p.1,p.2.1))).1=true->fZ t (uI l)=false->
  jH .none (jQ (pre++(qO l (ws++rest)).1++post) pre.length (l.map fun p=>(p.1,p.2.1))).1 t=s t/\∃k u,(t,k,some u)∈l
 | [],pre,post,ws,rest,t,hk,hw,h,hn=>by cases h
 |(t0,k,some u)::l,pre,post,ws,rest,t,hk,hw,h,hn=>by
  have hu:=hk t0 k u (by simp);have hmk:=afN (vs:=pre++(u++(qO l (ws++rest)).1)++post) (n:=pre.length) hu (fun j w hj=>by
   rw [Wa,W5 (by omega),KM,Wa,W8 (Q3.1 hj).1];exact hj)
  simp only [qO,Qf,jQ,hmk.1,JA,<-hmk.2] at h ⊢;have e:pre++(u++(qO l (ws++rest)).1)++post=(pre++u)++(qO l (ws++rest)).1++post:=by simp only [Wa]
  rw [e] at h ⊢;have en:pre.length+u.length=(pre++u).length:=by rw [Ys]
  rw [en] at h ⊢;simp only [hasK,jH] at h ⊢;cases hb:Nat.beq t t0 with
  |true=>
   have:=Q4 hb;subst this;exact ⟨rfl,k,u,by simp⟩
  |false=>
   rw [hb,J0] at h;obtain ⟨a1,k',u',a2⟩:=JZ (l:=l) (pre:=pre++u) (fun t k u hm=>hk t k u (by simp [hm])) hw h hn;exact ⟨a1,k',u',by simp [a2]⟩
 |(t0,k,none)::l,pre,post,ws,rest,t,hk,hw,h,hn=>by
  simp only [pK] at hw;simp only [uI,fZ,VV] at hn;have hl:k.tys.length<=ws.length:=by
   have:=congrArg List.length hw;simp only [ZD,Ys] at this;omega
  have h2:(ws.drop k.tys.length).map (·.t)=pK l:=by rw [Wo,hw,Uq]
  have e1:(ws++rest).take k.tys.length=ws.take k.tys.length:=K2 hl;have e2:(ws++rest).drop k.tys.length=ws.drop k.tys.length++rest:=UV hl;have hlen:(ws.take k.tys.length).length=k.tys.length:=by rw [UI];omega
  simp only [qO,Qf,jQ,JA,e1,e2] at h ⊢;have e:pre++(ws.take k.tys.length++(qO l (ws.drop k.tys.length++rest)).1)++post=(pre++ws.take k.tys.length)++(qO l (ws.drop k.tys.length++rest)).1++post:=by simp only [Wa]
  rw [e] at h ⊢;have en:pre.length+k.tys.length=(pre++ws.take k.tys.length).length:=by rw [Ys,hlen]
  rw [en] at h ⊢;simp only [hasK,jH,hn.1,J0,cond_false] at h ⊢;obtain ⟨a1,k',u',a2⟩:=JZ (pre:=pre++ws.take k.tys.length) (fun t k u hm=>hk t k u (by simp [hm])) h2 h hn.2;exact ⟨a1,k',u',by simp [a2]⟩
end
end Go.Fg

namespace Go.Fg
open Go.Fw
section
variable [RE]
theorem ZY {st:kF} {j:JF} (x:Tup j.tys) :∃w1 w2,Tup.lW j.tys x=w1++w2/\w1.map (·.t)=jL j.slots/\w2.map (·.t)=pK j.bf:=by
 have hx:(Tup.lW j.tys x).map (·.t)=jL j.slots++pK j.bf:=wB _ _;generalize Tup.lW j.tys x=ws at hx;exact ⟨ws.take (jL j.slots).length,ws.drop (jL j.slots).length,(J2 _ _).symm,by rw [V0,hx,K6],by rw [Wo,hx,Uq]⟩
theorem Ez :∀{l:List (Nat×kL×Option (List Wd))} {ws rest:List Wd},ws.map (·.t)=jL l->(mJ l (ws++rest)).2=rest
 | [],ws,rest,h=>by simp only [jL,List.map_eq_nil_iff] at h;subst h;rfl
 |(t,k,some u)::l,ws,rest,h=>Ez (l:=l) h
 |(t,k,none)::l,ws,rest,h=>by
  simp only [jL] at h;have hl:k.tys.length<=ws.length:=by
   have:=congrArg List.length h;simp only [ZD,Ys] at this;omega
  have h2:(ws.drop k.tys.length).map (·.t)=jL l:=by rw [Wo,h,Uq]
  have e2:(ws++rest).drop k.tys.length=ws.drop k.tys.length++rest:=UV hl;simp only [mJ,e2];exact Ez h2
theorem EC {st:kF} {j:JF} (hj:JOk st j) (x:Tup j.tys):(∀t,hasK t (yx j x).s=true->fZ t (newS j.slots)=false->(yx j x).gs t=st.gs t/\∃k u,(t,k,some u)∈j.slots)/\
  ∀g,hasK g (yx j x).o=true->fZ g (uI j.bf)=false->(yx j x).go g=st.go g/\∃k u,(g,k,some u)∈j.bf:=by
 obtain ⟨w1,w2,hw,h1,h2⟩:=ZY (st:=st) x;have hr:=Ez (rest:=w2) h1;have hp:j.pay (Tup.lW j.tys x)=(mJ j.slots (w1++w2)).1++(qO j.bf w2).1:=by rw [hw];unfold JF.pay;rw [hr]
 have hs:=fun t a b=>Ey (pre:=[]) (post:=(qO j.bf w2).1) (rest:=w2) (t:=t) hj.s h1 a b;have ho:=fun t a b=>JZ (pre:=(mJ j.slots (w1++w2)).1) (post:=[]) (rest:=[]) (t:=t) hj.o h2 a b;simp only [KS,Jn] at hs;simp only [Ki] at ho;rw [<-hp] at hs ho;have hty:=VD hj x;have hn:(gQ (j.pay (Tup.lW j.tys x)) 0 j.sh.slots).2=(mJ j.slots (w1++w2)).1.length:=by
  rw [wu,Wm];rw [hp] at hty;have hS :∀(l:List (Nat×kL×Option (List Wd))) (hk:SB st.gs l) (ws rest:List Wd),ws.map (·.t)=jL l->(mJ l (ws++rest)).1.length=((l.map fun p=>(p.1,p.2.1)).flatMap fun p=>p.2.tys).length:=by
   intro l
   induction l with
   |nil=>intro hk ws rest h;rfl
   |cons p l ih=>
    intro hk ws rest h;obtain ⟨t,k,ou⟩:=p;cases ou with
    |some u=>
     have e:=XI (hk t k u (by simp));have e:=congrArg List.length e;rw [ZD] at e;simp only [mJ,Ys,Qf,Z6,e];rw [ih (fun t k u hm=>hk t k u (by simp [hm])) ws rest h]
    |none=>
     simp only [jL] at h;have hl:k.tys.length<=ws.length:=by
      have:=congrArg List.length h;simp only [ZD,Ys] at this;omega
     have h2:(ws.drop k.tys.length).map (·.t)=jL l:=by rw [Wo,h,Uq]
     have e1:(ws++rest).take k.tys.length=ws.take k.tys.length:=K2 hl;have e2:(ws++rest).drop k.tys.length=ws.drop k.tys.length++rest:=UV hl;simp only [mJ,e1,e2,Ys,Qf,Z6,UI];rw [ih (fun t k u hm=>hk t k u (by simp [hm])) _ rest h2];omega
  exact (hS j.slots hj.s w1 w2 h1).symm
 refine ⟨fun t a b=>hs t a b,fun g a b => ?_⟩;have e1:(yx j x).o=(jQ (j.pay (Tup.lW j.tys x)) (mJ j.slots (w1++w2)).1.length (j.bf.map fun p=>(p.1,p.2.1))).1:=by
  rw [<-hn];rfl
 have e2:(yx j x).go g=jH .none (jQ (j.pay (Tup.lW j.tys x)) (mJ j.slots (w1++w2)).1.length (j.bf.map fun p=>(p.1,p.2.1))).1 g:=by
  rw [<-hn];rfl
 rw [e1] at a;rw [e2];exact ho g a b
theorem Ph {gs:List Nat} {o:Nat->TO} (hp:Pl o gs) (x:TW):bW (tpW gs o x)=W_ gs (bZ o) (bW x):=by
 cases x with
 |own g=>
  simp only [tpW,bW,W_,bU];cases hc:gs.contains g with
  |false=>rfl
  |true=>
   obtain ⟨⟨a,i,e,l⟩,hg⟩:=hp g (by simpa using hc);simp only [cond_true,if_true,hg,(oO hg).1];rfl
 |vw g lo hi=>
  simp only [tpW,bW,W_,bU];cases hc:gs.contains g with
  |false=>rfl
  |true=>
   obtain ⟨⟨a,i,e,l⟩,hg⟩:=hp g (by simpa using hc);simp only [cond_true,if_true,hg,(oO hg).1,rQ];rfl
 |_=>simp only [tpW,bW,W_]
theorem XK {gs:List Nat} {o:Nat->TO} (hp:Pl o gs) (x:TV):jM (tpV gs o x)=plV gs (bZ o) (jM x):=by
 cases x with
 |one x=>simp only [tpV,jM,plV,Ph hp]
 |agg xs=>
  simp only [tpV,jM,plV,Vv,V.agg.injEq];exact ZZ fun x _=>Ph hp x
theorem afQ {gs:List Nat} {o:Nat->TO} (hp:Pl o gs) (x:TS):bn (tpS gs o x)=plS gs (bZ o) (bn x):=by
 cases x with
 |v x=>simp only [tpS,bn,plS,XK hp]
 |jq xs=>
  simp only [tpS,bn,plS,Vv,S.jq.injEq];exact ZZ fun x _=>XK hp x
 |no=>rfl
theorem J3 {α:Type} (d:α) (f:Nat->α->α) (hd :∀t,f t d=d) :∀(l:List (Nat×α)) (t:Nat),jH d (l.map fun p=>(p.1,f p.1 p.2)) t=f t (jH d l t)
 | [],t=>(hd t).symm
 |(k,v)::r,t=>by
  simp only [Qf,jH];cases hb:Nat.beq t k with
  |true=>have:=Q4 hb;subst this;rfl
  |false=>exact J3 d f hd r t
theorem XL (gs:List Nat) (st:kF) (t:Nat):(Lh gs st).gs t=match gs with | []=>st.gs t | g::r=>tpS (g::r) st.go (st.gs t):=by
 cases gs with
 |nil=>rfl
 |cons g r=>exact J3 .no (fun _ x=>tpS (g::r) st.go x) (fun _=>rfl) st.s t
theorem XM (gs:List Nat) (st:kF) (t:Nat):(Lh gs st).go t=match gs with | []=>st.go t | g::r=>tpO (g::r) st.go t (st.go t):=by
 cases gs with
 |nil=>rfl
 |cons g r=>exact J3 .none (fun t x=>tpO (g::r) st.go t x) (fun _=>rfl) st.o t
theorem Pj (o:Nat->O) (x:W):W_ [] o x=x:=by
 unfold W_;split<;>first | rfl | simp
theorem XO (o:Nat->O) (x:V):plV [] o x=x:=by
 cases x with
 |one x=>simp only [plV,Pj]
 |agg xs=>
  simp only [plV,V.agg.injEq]
  conv=>rhs;rw [<-List.map_id xs]
  exact ZZ fun x _=>Pj o x
theorem Pm (st:St):fE [] st=st:=by
 refine St.ext' (fun t => ?_) (fun g => ?_) fun g=>rfl
 .show plS [] st.o (st.s t)=st.s t;cases st.s t with
  |v x=>simp only [plS,XO]
  |jq xs=>
   simp only [plS,S.jq.injEq]
   conv=>rhs;rw [<-List.map_id xs]
   exact ZZ fun x _=>XO _ x
  |no=>rfl
 .show plO [] st.o g=st.o g;unfold plO;cases st.o g with
  |box ws=>
   simp only [O.box.injEq]
   conv=>rhs;rw [<-List.map_id ws]
   exact ZZ fun x _=>Pj _ x
  |_=>simp
theorem SC {gs:List Nat} {st:kF} (hp:Pl st.go gs):bg (Lh gs st)=fE gs (bg st):=by
 cases gs with
 |nil=>rw [Pm];rfl
 |cons g r=>
  refine St.ext' (fun t => ?_) (fun k => ?_) fun k=>rfl
  .show bn ((Lh (g::r) st).gs t)=plS (g::r) (bZ st.go) (bn (st.gs t));rw [XL];exact afQ hp _
  .show eF ((Lh (g::r) st).go k)=plO (g::r) (bZ st.go) k;rw [XM];simp only;have hk:bZ st.go k=eF (st.go k):=rfl;cases ho:st.go k with
   |none=>
    have hd:bZ st.go k=.none:=by rw [hk,ho];rfl
    simp only [tpO,plO,hd];split
    .simp [Fw.aW,plainO,hd,eF]
    .rfl
   |box ws=>
    simp only [tpO,plO,oN ho,eF,Vv,O.box.injEq];exact ZZ fun x _=>Ph hp x
   |arr fz a i e l=>
    simp only [tpO,plO,iy ho,eF,bU];cases hc:(g::r).contains k with
    |false=>simp
    |true=>simp [Fw.aW,plainO,iy ho]
   |it s n=>
    have hd:bZ st.go k=.it (.str ⟨s.toArray⟩) (.int .i64 n):=by rw [hk,ho];rfl
    simp only [tpO,plO,hd];split
    .simp [Fw.aW,plainO,hd,eF]
    .rfl
   |aO a i e aj l hole=>
    have hd:bZ st.go k=.aO a i (size e) (jd aj) (aI e l) hole:=by rw [hk,ho];rfl
    simp only [tpO,plO,hd,bU];cases hc:(g::r).contains k with
    |false=>simp only [cond_false,W3,if_false];rfl
    |true=>
     simp only [cond_true,if_true];have:=Jh (hp k (by simpa using hc));rw [this]
theorem acX {gs:List Nat} {o:Nat->TO} {x:TW} (h:(W.namesT x).all (fun g=>!fZ g gs)=true):tpW gs o x=x:=by
 cases x with
 |own g=>
  have h:fZ g gs=false:=by simpa [W.namesT] using h
  simp only [tpW,h,cond_false]
 |vw g lo hi=>
  have h:fZ g gs=false:=by simpa [W.namesT] using h
  simp only [tpW,h,cond_false]
 |_=>rfl
theorem Pn {gs:List Nat} {o:Nat->TO} :∀{xs:List TW},((xs.flatMap W.namesT).all fun g=>!fZ g gs)=true->xs.map (tpW gs o)=xs
 | [],_=>rfl
 |x::xs,h=>by
  simp only [Z6,List.all_append,Qt] at h;simp only [Qf,acX h.1,Pn h.2]
theorem acY {gs:List Nat} {o:Nat->TO} {x:TV} (h:((V.namesT x).all fun g=>!fZ g gs)=true):tpV gs o x=x:=by
 cases x with
 |one x=>simp only [tpV,acX (x:=x) h]
 |agg xs=>simp only [tpV,Pn (xs:=xs) h]
theorem SE {gs:List Nat} {o:Nat->TO} {x:TS} (h:Vy gs x=true):tpS gs o x=x:=by
 cases x with
 |v x=>simp only [tpS,acY (x:=x) h]
 |jq xs=>
  simp only [tpS,TS.jq.injEq];have :∀(xs:List TV),((xs.flatMap V.namesT).all fun g=>!fZ g gs)=true->xs.map (tpV gs o)=xs:=by
   intro xs
   induction xs with
   |nil=>intro _;rfl
   |cons x xs ih=>
    intro h;simp only [Z6,List.all_append,Qt] at h;simp only [Qf,acY h.1,ih h.2]
  exact this xs h
 |no=>rfl
theorem SG {gs:List Nat} {o:Nat->TO} {g:Nat} {x:TO} (h:Jw gs g x=true):tpO gs o g x=x:=by
 cases x with
 |none=>rfl
 |box ws=>simp only [tpO,Pn (xs:=ws) h]
 |arr fz a i e l=>
  have h:fZ g gs=false:=by simpa [Jw] using h
  simp only [tpO,h,vj]
 |it s n=>rfl
 |aO a i e aj l hole=>
  have h:fZ g gs=false:=by simpa [Jw] using h
  simp only [tpO,h,cond_false]
theorem ED {gs:List Nat} {s:Nat->TS} :∀{l:List (Nat×kL×Option (List Wd))},acy gs s l=true->∀t k u,(t,k,some u)∈l->Vy gs (s t)=true
 | [],h,t,k,u,hm=>by cases hm
 |(t0,k0,some u0)::l,h,t,k,u,hm=>by
  simp only [acy,Qt] at h;rcases QQ.1 hm with hm | hm
  .cases hm;exact h.1
  .exact ED h.2 t k u hm
 |(t0,k0,none)::l,h,t,k,u,hm=>by
  rcases QQ.1 hm with hm | hm
  .cases hm
  .exact ED (l:=l) h t k u hm
theorem EF {gs:List Nat} {s:Nat->TO} :∀{l:List (Nat×iO×Option (List Wd))},acz gs s l=true->∀t k u,(t,k,some u)∈l->Jw gs t (s t)=true
 | [],h,t,k,u,hm=>by cases hm
 |(t0,k0,some u0)::l,h,t,k,u,hm=>by
  simp only [acz,Qt] at h;rcases QQ.1 hm with hm | hm
  .cases hm;exact h.1
  .exact EF h.2 t k u hm
 |(t0,k0,none)::l,h,t,k,u,hm=>by
  rcases QQ.1 hm with hm | hm
  .cases hm
  .exact EF (l:=l) h t k u hm
theorem XP {gs:List Nat} {st:kF} (h:ajw st.go gs=true):afh (bg st).o gs=true/\Pl st.go gs:=by
 have hp:Pl st.go gs:=fun g hg=>by
  have:=(XX.1 h) g hg;simp only [plB,Qt] at this;cases hx:nP st.go g with
  |some p=>exact ⟨p,rfl⟩
  |none=>rw [hx] at this;cases this.1
 refine ⟨XX.2 fun g hg => ?_,hp⟩;obtain ⟨⟨a,i,e,l⟩,hx⟩:=hp g hg;have:=(XX.1 h) g hg;simp only [Qt] at this;obtain ⟨k1,k2⟩:=oO hx;have k1:plainO (bg st).o g=_:=k1;have k2:((bg st).o g).names=_:=k2;rw [k1,k2];simp only [Option.isSome_some,Bool.true_and];have h2:=this.2;simp only [bU] at h2;exact h2
theorem Z4 {o:Nat->TO} {g d:Nat} {a i:Bool} {e:Ty} {aj:List (Nat×Ty)} {l:List (Dt e)} (h1:Xk (o g)=some d) (h2:yh o g=some ⟨a,i,e,aj,l⟩):Fw.xH (bZ o) g=iT [(g,.aO a i e aj l none),(d,.none)]:=by
 unfold yh at h2;cases ho:o g with
 |aO a0 i0 e0 kQ l0 hole=>
  rw [ho] at h1 h2;have hg:bZ o g=.aO a0 i0 (size e0) (jd kQ) (aI e0 l0) hole:=by simp [bZ,ho,eF]
  rcases hole with _ | ⟨n,c,d'⟩
  .cases h1
  .simp only [Xk,Q0] at h1;subst h1;simp only at h2;cases hd:o d' with
   |arr fz a' i' e' l'=>
    rw [hd] at h2;cases fz with
    |true=>cases h2
    |false=>
     simp only at h2;split at h2
     .rename_i hc;cases h2;obtain ⟨k1,k2,k3⟩:=uw hc;simp only [Fw.xH,hg,iy hd];rw [if_pos ⟨k1,k3⟩,<-Ap k2];rfl
     .cases h2
   |_=>rw [hd] at h2;cases h2
 |_=>rw [ho] at h1;cases h1
theorem VE (st:kF) (u:List (Nat×TO)):bg { st with o:=En st.o u }=(bg st).aK (iT u) []:=by
 refine St.ext' (fun t=>rfl) (fun g => ?_) fun g=>by simp [bg,St.aK]
 show eF (jH .none (En st.o u) g)=match (iT u).lookup g with | some x=>x | none=>eF (jH .none st.o g)
 rw [yD];have:(iT u).lookup g=(u.lookup g).map eF:=pO eF g u;rw [this];cases u.lookup g<;>rfl
theorem oU (keep:List Nat) :∀(hs:List Nat) (st:kF),bg (nU keep hs st).2=Fw.shuts (nU keep hs st).1 (bg st)
 | [],st=>rfl
 |g::gs,st=>by
  simp only [nU];split
  .rename_i d a i e aj l h1 h2;split
   .simp only [Fw.shuts];rw [oU keep gs,VE];have:=Z4 h1 h2;have this:Fw.xH (bg st).o g=_:=this;rw [this]
   .exact oU keep gs st
  .exact oU keep gs st
theorem rW {keep:List Nat} {t:Nat} (ht:fZ t keep=true) :∀(hs:List Nat) (st:kF),(nU keep hs st).2.go t=st.go t
 | [],st=>rfl
 |g::gs,st=>by
  simp only [nU];split
  .rename_i d a i e aj l h1 h2;split
   .rename_i hk;obtain ⟨k1,k2⟩:=iJ hk;rw [rW ht gs];show jH .none (En st.o [(g,.aO a i e aj l none),(d,.none)]) t=jH .none st.o t;rw [yD];have e1:(t==g)=false:=by
     simp only [beq_eq_false_iff_ne];intro e;subst e;rw [ht] at k1;cases k1
    have e2:(t==d)=false:=by
     simp only [beq_eq_false_iff_ne];intro e;subst e;rw [ht] at k2;cases k2
    simp only [List.lookup,e1,e2]
   .exact rW ht gs st
  .exact rW ht gs st
theorem Df (keep:List Nat) :∀(hs:List Nat) (st:kF),(nU keep hs st).2.s=st.s
 | [],st=>rfl
 |g::gs,st=>by
  simp only [nU];split
  .split
   .rw [Df keep gs]
   .exact Df keep gs st
  .exact Df keep gs st
theorem EG :∀{l:List (Nat×iO×Option (List Wd))} {t:Nat} {k:iO} {u:List Wd},(t,k,some u)∈l->fZ t (zN l)=true
 | [],t,k,u,h=>by cases h
 |(t0,k0,some u0)::l,t,k,u,h=>by
  simp only [zN,fZ,Jx];rcases QQ.1 h with h | h
  .cases h;exact .inl (by simp)
  .exact .inr (EG h)
 |(t0,k0,none)::l,t,k,u,h=>by
  rcases QQ.1 h with h | h
  .cases h
  .exact EG (l:=l) h
theorem pR {R:Type} {bD:List Nat} {j:JF} {q0 q:jO} {K:Tup j.tys->Prog R} {r:R} (hj:JOk q0.st j) (hr:rV q0 q) (h:(wQ bD j q K).run=some r) :
  ∃x,(K x).run=some r/\Back bD j.sh.er (bg q.st) fun vs=>vs=(j.pay (Tup.lW j.tys x)).map dB:=by
 unfold wQ at h;simp only at h;split at h
 .exact (dD h).elim
 .rename_i hk;obtain ⟨hk,h6⟩:=iJ hk;obtain ⟨hk,h5⟩:=iJ hk;obtain ⟨hk,h4⟩:=iJ hk;obtain ⟨hk,h3⟩:=iJ hk;obtain ⟨h1,h2⟩:=iJ hk;have henc:=oU (zN j.bf) (O1 q.st.o) q.st;have hkeep:=fun t (ht:fZ t (zN j.bf)=true)=>rW ht (O1 q.st.o) q.st;have hss:=Df (zN j.bf) (O1 q.st.o) q.st;generalize (nU (zN j.bf) (O1 q.st.o) q.st).1=hs0 at henc;generalize (nU (zN j.bf) (O1 q.st.o) q.st).2=st0 at h h3 h4 h5 h6 henc hkeep hss;generalize hgs:ajy bD j.sh st0=gs at h h3 h4 h5 h6;split at h
  .exact (dD h).elim
  .rename_i vs hvs;split at h
   .exact (dD h).elim
   .rename_i x hx;refine ⟨x,h,?_⟩;have hpay:j.pay (Tup.lW j.tys x)=vs:=by
     rw [G_ _ hx];unfold CQ at hvs;split at hvs
     .split at hvs
      .rename_i u v hu hv;simp only [Q0] at hvs;subst hvs;have kS :∀t k u,(t,k,some u)∈j.slots->(Lh gs st0).gs t=q0.st.gs t:=fun t k u hm=>by
        obtain ⟨a1,a2⟩:=AU h1 t k u hm;have a3:=ED h5 t k u hm;have a4:st0.gs t=q.st.gs t:=by unfold kF.gs;rw [hss]
        rw [<-(hr.s t a1 a2).2.2,XL,<-a4];cases gs with
        |nil=>rfl
        |cons g r=>exact SE a3
       have kO :∀t k u,(t,k,some u)∈j.bf->(Lh gs st0).go t=q0.st.go t/\(MK j.bf++derive bD j.sh (Lh gs st0)).lookup t=some (some t):=fun t k u hm=>by
        obtain ⟨a1,a2⟩:=AV h2 t k u hm;have a3:=EF h6 t k u hm;refine ⟨?_,wE hm⟩;rw [<-(hr.o t a1 a2).2.2,XM,<-hkeep t (EG hm)];cases gs with
        |nil=>rfl
        |cons g r=>exact SG a3
       obtain ⟨e,e1,_,e3⟩:=C_ (rest:=v) (lF:=[]) hj.s kS hu;obtain ⟨e',e1',_,e3'⟩:=Dc (rest:=[]) (lF:=[]) hj.o kO hv;obtain ⟨e2,e12,e22,_⟩:=C_ (rest:=v) (lF:=e') hj.s kS hu;rw [e1] at e12;have:e=e2:=(Prod.mk.inj e12).1;subst this;obtain ⟨e4,e14,e24,_⟩:=Dc (rest:=[]) (lF:=[]) hj.o kO hv;rw [e1'] at e14;have:e'=e4:=(Prod.mk.inj e14).1;subst this;rw [Ki] at e1' e24;unfold JF.ext;rw [e1];simp only;rw [e1'];unfold JF.pay;simp only;rw [e22];simp only;rw [e24]
      .cases hvs
     .cases hvs
    rw [hpay];obtain ⟨c1,c2⟩:=JG hvs;obtain ⟨f1,f2⟩:=XP h4;rw [SC f2,henc] at c1;rw [henc] at f1;exact .mk hs0 gs _ _ f1 h3 c1 rfl
theorem rV.fresh {q q':jO} (h:rV q.fresh q'):rV q (q'.since q):=by
 refine ⟨fun t h1 h2 => ?_,fun g h1 h2 => ?_⟩
 .have h2:fZ t (q'.ds++q.ds)=false:=h2;rw [bU] at h2;simp only [qn,VV] at h2;rw [<-bU,<-bU] at h2;obtain ⟨a1,a2,a3⟩:=h.s t h1 h2.1;exact ⟨a1,h2.2,a3⟩
 .have h2:fZ g (q'.od++q.od)=false:=h2;rw [bU] at h2;simp only [qn,VV] at h2;rw [<-bU,<-bU] at h2;obtain ⟨a1,a2,a3⟩:=h.o g h1 h2.1;exact ⟨a1,h2.2,a3⟩
theorem uO {t:Nat} {a b:List Nat} (h:fZ t (a++b)=false):fZ t a=false/\fZ t b=false:=by
 rw [bU] at h;simp only [qn,VV] at h;rw [<-bU,<-bU] at h;exact h
theorem acZ {st:kF} {t:Nat} (h:st.gs t≠.no):hasK t st.s=true:=by
 cases hk:hasK t st.s with
 |true=>rfl
 |false=>exact absurd (uM TS.no st.s t hk) h
theorem ac0 {st:kF} {t:Nat} (h:st.go t≠.none):hasK t st.o=true:=by
 cases hk:hasK t st.o with
 |true=>rfl
 |false=>exact absurd (uM TO.none st.o t hk) h
theorem XQ {x:TS} {y:kL×List Wd} (h:OY x=some y):x≠.no:=by intro e;subst e;cases h
theorem XR {x:TO} {y:iO×List Wd} (h:wZ x=some y):x≠.none:=by intro e;subst e;cases h
theorem afR {q:jO} {j:JF} (hj:JOk q.st j) (x:Tup j.tys):rV q ⟨yx j x,newS j.slots++q.ds,uI j.bf++q.od⟩:=by
 obtain ⟨hs,ho⟩:=EC hj x;refine ⟨fun t h1 h2 => ?_,fun g h1 h2 => ?_⟩
 .obtain ⟨n1,n2⟩:=uO (a:=newS j.slots) (b:=q.ds) h2;obtain ⟨a1,k,u,hm⟩:=hs t h1 n1;exact ⟨acZ (XQ (hj.s t k u hm)),n2,a1⟩
 .obtain ⟨n1,n2⟩:=uO (a:=uI j.bf) (b:=q.od) h2;obtain ⟨a1,k,u,hm⟩:=ho g h1 n1;exact ⟨ac0 (XR (hj.o g k u hm)),n2,a1⟩
theorem MZ {q q':jO} {j:JF} (hj:JOk q.st j) {x:Tup j.tys} (h:rV ⟨yx j x,[],[]⟩ q'):rV q (q'.since ⟨q'.st,newS j.slots++q.ds,uI j.bf++q.od⟩):=by
 obtain ⟨hs,ho⟩:=EC hj x;refine ⟨fun t h1 h2 => ?_,fun g h1 h2 => ?_⟩
 .obtain ⟨n1,n2⟩:=uO (a:=q'.ds) (b:=newS j.slots++q.ds) h2;obtain ⟨n2,n3⟩:=uO n2;obtain ⟨a1,a2,a3⟩:=h.s t h1 n1;obtain ⟨b1,k,u,hm⟩:=hs t a1 n2;exact ⟨acZ (XQ (hj.s t k u hm)),n3,a3.trans b1⟩
 .obtain ⟨n1,n2⟩:=uO (a:=q'.od) (b:=uI j.bf++q.od) h2;obtain ⟨n2,n3⟩:=uO n2;obtain ⟨a1,a2,a3⟩:=h.o g h1 n1;obtain ⟨b1,k,u,hm⟩:=ho g a1 n2;exact ⟨ac0 (XR (hj.o g k u hm)),n3,a3.trans b1⟩
theorem FZ (vs:List Wd) (t:Nat) :∀(n:Nat) (l:List (Nat×kL)),hasK t (gQ vs n l).1=hasK t l
 |n,[]=>rfl
 |n,(t0,k)::l=>by simp only [gQ,hasK,FZ vs t]
theorem F6 (vs:List Wd) (t:Nat) :∀(n:Nat) (l:List (Nat×iO)),hasK t (jQ vs n l).1=hasK t l
 |n,[]=>rfl
 |n,(t0,k)::l=>by simp only [jQ,hasK,F6 vs t]
theorem J4 {α:Type} {t:Nat} {x:α} :∀{l:List (Nat×α)},(t,x)∈l->hasK t l=true
 | [],h=>by cases h
 |(t0,y)::l,h=>by
  simp only [hasK,Jx];rcases QQ.1 h with h | h
  .cases h;exact .inl (by simp)
  .exact .inr (J4 h)
theorem afS {st:kF} {j:JF} (hj:JOk st j) (x:Tup j.tys):JOk (yx j x) j:=by
 obtain ⟨hs,ho⟩:=EC hj x;refine ⟨fun t k u hm => ?_,fun t k u hm => ?_,hj.ds,hj.dO⟩
 .have hh:hasK t (yx j x).s=true:=by
   show hasK t (gQ _ 0 j.sh.slots).1=true;rw [FZ];exact J4 (x:=k) (X1.2 ⟨(t,k,some u),hm,rfl⟩)
  rw [(hs t hh (hj.ds t k u hm)).1];exact hj.s t k u hm
 .have hh:hasK t (yx j x).o=true:=by
   show hasK t (jQ _ _ j.sh.bf).1=true;rw [F6];exact J4 (x:=k) (X1.2 ⟨(t,k,some u),hm,rfl⟩)
  rw [(ho t hh (hj.dO t k u hm)).1];exact hj.o t k u hm
structure KSm {R:Type} (q:jO) (K:TK R) (r:R) (Kp:Ce):Prop where
 n :∀q',rV q q'->(K.n q').run=some r->Kp.n (bg q'.st)
 x :∀id q',rV q q'->(K.x id q').run=some r->Kp.x id (bg q'.st)
 r :∀q',rV q q'->(K.r q').run=some r->Kp.r (bg q'.st)
theorem KSm.from {R:Type} {q q1:jO} {K:TK R} {r:R} {Kp:Ce} (h:KSm q K r Kp) (hr:rV q q1):KSm q1 K r Kp:=
 ⟨fun q' a b=>h.n q' (hr.trans a) b,fun id q' a b=>h.x id q' (hr.trans a) b,fun q' a b=>h.r q' (hr.trans a) b⟩
theorem He {R R':Type} {p:Prog R} {r:R} (h:(p.map (Sum.inr:R->R' ⊕ R)).run=some (.inr r)):p.run=some r:=by
 rw [run_map _ (fun a b e=>Sum.inr.inj e)] at h;cases hp:p.run with
 |none=>rw [hp] at h;cases h
 |some a=>rw [hp] at h;cases h;rfl
theorem wF {R R':Type} {p:Prog R} {x:R'} (h:(p.map (Sum.inr:R->R' ⊕ R)).run=some (.inl x)):False:=by
 rw [run_map _ (fun a b e=>Sum.inr.inj e)] at h;cases hp:p.run with
 |none=>rw [hp] at h;cases h
 |some a=>rw [hp] at h;cases h
theorem J5 {R:Type} {bD:List Nat} {early:Bool} {jt:JT} {here:Nat->Bool} {q:jO} {inner:(R':Type)->jO->TK R'->Prog R'} {K:TK R} {r:R} {E:St->Ce->Prop} {Kp:Ce}
  (hin :∀(R':Type) (q':jO) (K':TK R') (r':R') (Kp':Ce),(inner R' q' K').run=some r'->KSm q' K' r' Kp'->E (bg q'.st) Kp')
  (h:(ML bD early jt here q inner K).run=some r) (hK:KSm q K r Kp):E (bg q.st) { n:=Wk bD Kp.n,x:=fun id st=>bif here id then Wk bD Kp.n st else Kp.x id st,r:=Kp.r }:=by
 unfold ML at h;split at h
 .exact (dD h).elim
 .rename_i j hjo;have hj:=acW hjo;have hjf:JOk q.fresh.st j:=hj;have fin :∀(x:Tup j.tys),(frX ⟨yx j x,newS j.slots++q.ds,uI j.bf++q.od⟩ K.n).run=some r->∀q':jO,Back bD j.sh.er (bg q'.st) (fun vs=>vs=(j.pay (Tup.lW j.tys x)).map dB)->Wk bD Kp.n (bg q'.st):=by
   intro x hx q' hb;rw [tq] at hx;have hn:=hK.n _ (afR hj x) hx;refine .back j.sh.er ?_;obtain ⟨hs,gs,m,vs,h0,h1,h2,rfl⟩:=hb;refine ⟨hs,gs,m,_,h0,h1,h2,?_⟩;have e:=yB (VD hj x);have hn:Kp.n (bg (mkT j.sh (j.pay (Tup.lW j.tys x)))):=hn;rw [e] at hn;exact hn
  split at h
  .obtain ⟨x,hi,hx⟩:=acT h;refine hin _ q.fresh _ x _ hi ⟨fun q' hr hq => ?_,fun id q' hr hq => ?_,fun q' hr hq=>(dD hq).elim⟩
   .obtain ⟨y,hy,hb⟩:=pR hjf hr hq;have hy:some y=some x:=hy;cases hy;exact fin _ hx q' hb
   .show (bif here id then Wk bD Kp.n (bg q'.st) else Kp.x id (bg q'.st));have hq:(bif here id then wQ bD j q' .ret else .stuck 41:Prog _).run=some x:=hq;cases hh:here id with
    |true=>
     rw [hh] at hq;obtain ⟨y,hy,hb⟩:=pR hjf hr hq;have hy:some y=some x:=hy;cases hy;exact fin _ hx q' hb
    |false=>rw [hh] at hq;exact (dD hq).elim
  .rcases ZX h with ⟨x,hi,hx⟩ | hi
   .refine hin _ q.fresh _ (Sum.inl x) _ hi ⟨fun q' hr hq => ?_,fun id q' hr hq => ?_,fun q' hr hq=>(wF hq).elim⟩
    .obtain ⟨y,hy,hb⟩:=pR hjf hr hq;have hy:some (Sum.inl y:Tup j.tys ⊕ R)=some (.inl x):=hy;cases hy;exact fin _ hx q' hb
    .show (bif here id then Wk bD Kp.n (bg q'.st) else Kp.x id (bg q'.st));have hq:(bif here id then wQ bD j q' (fun x=>.ret (.inl x)) else (K.x id (q'.since q)).map .inr:Prog (Tup j.tys ⊕ R)).run=some (.inl x):=hq;cases hh:here id with
     |true=>
      rw [hh] at hq;obtain ⟨y,hy,hb⟩:=pR hjf hr hq;have hy:some (Sum.inl y:Tup j.tys ⊕ R)=some (.inl x):=hy;cases hy;exact fin _ hx q' hb
     |false=>rw [hh] at hq;exact (wF hq).elim
   .refine hin _ q.fresh _ (Sum.inr r) _ hi ⟨fun q' hr hq => ?_,fun id q' hr hq => ?_,fun q' hr hq => ?_⟩
    .obtain ⟨y,hy,hb⟩:=pR hjf hr hq;have hy:some (Sum.inl y:Tup j.tys ⊕ R)=some (.inr r):=hy;cases hy
    .show (bif here id then Wk bD Kp.n (bg q'.st) else Kp.x id (bg q'.st));have hq:(bif here id then wQ bD j q' (fun x=>.ret (.inl x)) else (K.x id (q'.since q)).map .inr:Prog (Tup j.tys ⊕ R)).run=some (.inr r):=hq;cases hh:here id with
     |true=>
      rw [hh] at hq;obtain ⟨y,hy,hb⟩:=pR hjf hr hq;have hy:some (Sum.inl y:Tup j.tys ⊕ R)=some (.inr r):=hy;cases hy
     |false=>
      rw [hh] at hq;exact hK.x id (q'.since q) (rV.fresh hr) (He hq)
    .exact hK.r (q'.since q) (rV.fresh hr) (He hq)
theorem least {p:Nat->Prop}:(∃n,p n)->∃n,p n/\∀k,k<n->¬ p k:=by
 rintro ⟨n,hn⟩
 induction n using Nat.strongRecOn with
 |ind n ih=>
  by_cases h :∃k,k<n/\p k
  .obtain ⟨k,hk,hp⟩:=h;exact ih k hk hp
  .exact ⟨n,hn,fun k hk hp=>h ⟨k,hk,hp⟩⟩
open Classical in
noncomputable def J6 (p:Nat->Prop):Nat:=if h :∃n,p n then Classical.choose (least h) else 0
theorem F7 {p:Nat->Prop} (h :∃n,p n):p (J6 p)/\∀k,p k->J6 p<=k:=by
 unfold J6;rw [dif_pos h];obtain ⟨h1,h2⟩:=Classical.choose_spec (least h);exact ⟨h1,fun k hk=>qi fun hlt=>h2 k hlt hk⟩
theorem Z5 {T:mG} {tt:TT} {ety:TypeId->Option Ty} {N:Nat} :∀(c:Code) {bD:List Nat} {R:Type} {a:fQ} {q:jO} {K:TK R} {r:R} {Kp:Ce},(nV T tt ety N bD c R a q K).run=some r->KSm q K r Kp->
  exec (nC T) tt N bD c (bg q.st) Kp:=by
 intro c
 induction c with
 |skip=>intro bD R a q K r Kp h hK;exact hK.n q (rV.refl q) h
 |region id ops draw=>
  intro bD R a q K r Kp h hK;show rM (nC T) tt N ops draw (bg q.st) (Wk bD Kp.n);have h:(match a with
   |.meet e j _=>ML bD e j (fun _=>false) q (fun _ q K=>vZ T tt ety N ops draw q K.n) K
   |_=>vZ T tt ety N ops draw q K.n).run=some r:=h
  have plain:(vZ T tt ety N ops draw q K.n).run=some r->rM (nC T) tt N ops draw (bg q.st) (Wk bD Kp.n):=fun h=>JV h fun q' hr hq=>.now (hK.n q' hr hq);cases a with
  |meet e j a=>
   exact J5 (E:=fun st K=>rM (nC T) tt N ops draw st K.n) (fun R' q' K' r' Kp' h hK'=>JV h fun q'' hr hq=>hK'.n q'' hr hq) h hK
  |_=>exact plain h
 |seq x y Xa ihy=>
  intro bD R a q K r Kp h hK;refine Xa h ⟨fun q' hr hq=>ihy hq (hK.from hr),hK.x,hK.r⟩
 |cond c x y Xa ihy=>
  intro bD R a q K r Kp h hK;have body :∀(R:Type) (a:fQ) (q:jO) (K:TK R) (r:R) (Kp:Ce),(Xm c q (fun q=>nV T tt ety N bD x R a.fst q K) fun q=>nV T tt ety N bD y R a.snd q K).run=some r->KSm q K r Kp->(match (bg q.st).dP c with
    |.v (.one (.p _ _ (.bool b)))=>bif b then exec (nC T) tt N bD x (bg q.st) Kp else exec (nC T) tt N bD y (bg q.st) Kp
    |_=>False):=by
   intro R a q K r Kp h hK;unfold Xm at h;split at h
   .rename_i a' i' b hb;change Bool at b;have hb':(bg q.st).dP c=.v (.one (.p a' i' (.bool b))):=by rw [pI,hb];rfl
    rw [hb'];simp only;have kn:bg (knT c a' i' b q).st=bg q.st/\rV q (knT c a' i' b q):=by
     unfold knT;cases c with
     |tmp t=>
      have hb:q.st.gs t=.v (.one (.p a' i' (jf b))):=hb;exact ⟨yE hb,yF hb⟩
     |_=>exact ⟨rfl,rV.refl q⟩
    cases b with
    |true=>
     have h:(frX (knT c a' i' true q) fun q=>nV T tt ety N bD x R a.fst q K).run=some r:=h;rw [tq] at h;have:=Xa h (hK.from kn.2);rw [kn.1] at this;exact this
    |false=>
     have h:(frX (knT c a' i' false q) fun q=>nV T tt ety N bD y R a.snd q K).run=some r:=h;rw [tq] at h;have:=ihy h (hK.from kn.2);rw [kn.1] at this;exact this
   .exact (dD h).elim
  cases a with
  |meet e j a=>
   exact J5 (E:=fun st K=>match st.dP c with
    |.v (.one (.p _ _ (.bool b)))=>bif b then exec (nC T) tt N bD x st K else exec (nC T) tt N bD y st K
    |_=>False) (fun R' q' K' r' Kp' h hK'=>body R' a q' K' r' Kp' h hK') h hK
  |nil=>exact body R .nil q K r { n:=Wk bD Kp.n,x:=Kp.x,r:=Kp.r } h ⟨fun q' a b=>.now (hK.n q' a b),hK.x,hK.r⟩
  |seq a b=>exact body R (.seq a b) q K r { n:=Wk bD Kp.n,x:=Kp.x,r:=Kp.r } h ⟨fun q' a b=>.now (hK.n q' a b),hK.x,hK.r⟩
  |range j s a=>exact body R (.range j s a) q K r { n:=Wk bD Kp.n,x:=Kp.x,r:=Kp.r } h ⟨fun q' a b=>.now (hK.n q' a b),hK.x,hK.r⟩
  |loop j a=>exact body R (.loop j a) q K r { n:=Wk bD Kp.n,x:=Kp.x,r:=Kp.r } h ⟨fun q' a b=>.now (hK.n q' a b),hK.x,hK.r⟩
 |block id c ih=>
  intro bD R a q K r Kp h hK;have plain :∀(a:fQ),(nV T tt ety N bD c R a q { n:=K.n,x:=fun id' q'=>bif Nat.beq id' id then K.n q' else K.x id' q',r:=K.r }).run=some r->exec (nC T) tt N bD (.block id c) (bg q.st) Kp:=by
   intro a h;refine ih h ⟨fun q' hr hq=>.now (hK.n q' hr hq),fun id' q' hr hq => ?_,hK.r⟩;show (bif Nat.beq id' id then Wk bD Kp.n (bg q'.st) else Kp.x id' (bg q'.st));have hq:(bif Nat.beq id' id then K.n q' else K.x id' q').run=some r:=hq;cases hb:Nat.beq id' id with
   |true=>rw [hb] at hq;exact .now (hK.n q' hr hq)
   |false=>rw [hb] at hq;exact hK.x id' q' hr hq
  cases a with
  |meet e j a=>
   have:=J5 (E:=fun st K=>exec (nC T) tt N bD c st K) (fun R' q' K' r' Kp' h hK'=>ih h hK') h hK;have e :∀id',Nat.beq id id'=Nat.beq id' id:=fun id'=>by rw [vp];simp;exact ⟨fun h=>h.symm,fun h=>h.symm⟩
   show exec (nC T) tt N bD c (bg q.st) { n:=Wk bD Kp.n,x:=fun id' st'=>bif Nat.beq id' id then Wk bD Kp.n st' else Kp.x id' st',r:=Kp.r };simp only [e] at this;exact this
  |nil=>exact plain _ h
  |seq a b=>exact plain _ h
  |loop j a=>exact plain _ h
  |range j s a=>exact plain _ h
 |loop c ih=>
  intro bD R a q K r Kp h hK;cases a with
  |loop jt a=>
   unfold nV at h;simp only at h;split at h
   .exact (dD h).elim
   .rename_i j hjo;have hj:=acW hjo;have hjf:JOk q.fresh.st j:=hj;obtain ⟨x0,hx0,hb0⟩:=pR hjf (rV.refl q.fresh) h;obtain ⟨n0,hn0⟩:=acU hx0;generalize hB:(fun z=>(frX ⟨yx j z,[],[]⟩ fun q'=>nV T tt ety N bD c (Tup j.tys ⊕ R) a q'
      { n:=fun q'=>wQ bD j q' fun x=>.ret (.inl x),x:=fun id q'=>(K.x id (q'.since ⟨q'.st,newS j.slots++q.ds,uI j.bf++q.od⟩)).map .inr,r:=fun q'=>(K.r (q'.since ⟨q'.st,newS j.slots++q.ds,uI j.bf++q.od⟩)).map .inr }).run)=B at hn0
    let P:List P->Nat->Prop:=fun vs n =>∃x,vs=(j.pay (Tup.lW j.tys x)).map dB/\jK B n x=some r
    refine .mk j.sh.er (fun vs =>∃n,P vs n) (fun vs=>J6 (P vs)) ?_ ?_
    .obtain ⟨hs,gs,m,vs,h0,h1,h2,rfl⟩:=hb0;exact ⟨hs,gs,m,_,h0,h1,h2,n0,x0,rfl,hn0⟩
    .intro us hI;obtain ⟨⟨x,hus,hl⟩,hmin⟩:=F7 hI;generalize hn:J6 (P us)=n at hl hmin;cases n with
     |zero=>cases hl
     |succ n=>
      simp only [jK] at hl;cases hb:B x with
      |none=>rw [hb] at hl;cases hl
      |some v=>
       rw [hb] at hl;have hb2:=hb;rw [<-hB] at hb2;simp only [tq] at hb2;have e:=yB (VD hj x);rw [<-hus] at e;rw [<-e];refine ih hb2 ⟨fun q' hr hq => ?_,fun id q' hr hq => ?_,fun q' hr hq => ?_⟩
       .obtain ⟨y,hy,hbk⟩:=pR (q0:=⟨yx j x,[],[]⟩) (afS hj x) hr hq;have hy:some (Sum.inl y:Tup j.tys ⊕ R)=some v:=hy;cases hy;have hl:jK B n y=some r:=hl;obtain ⟨hs,gs,m,vs,h0,h1,h2,rfl⟩:=hbk;have hP:P ((j.pay (Tup.lW j.tys y)).map dB) n:=⟨y,rfl,hl⟩;refine ⟨hs,gs,m,_,h0,h1,h2,⟨n,hP⟩,?_⟩;have:=(F7 ⟨n,hP⟩).2 n hP;omega
       .cases v with
        |inl y=>exact (wF hq).elim
        |inr r'=>
         have hl:some r'=some r:=hl;cases hl;exact hK.x id (q'.since ⟨q'.st,newS j.slots++q.ds,uI j.bf++q.od⟩) (MZ hj hr) (He hq)
       .cases v with
        |inl y=>exact (wF hq).elim
        |inr r'=>
         have hl:some r'=some r:=hl;cases hl;exact hK.r (q'.since ⟨q'.st,newS j.slots++q.ds,uI j.bf++q.od⟩) (MZ hj hr) (He hq)
  |nil=>exact (dD h).elim
  |seq a b=>exact (dD h).elim
  |meet e j a=>exact (dD h).elim
  |range j s a=>exact (dD h).elim
 |exit id=>intro bD R a q K r Kp h hK;exact hK.x id q (rV.refl q) h
 |ret=>intro bD R a q K r Kp h hK;exact hK.r q (rV.refl q) h
 |label l=>intro bD R a q K r Kp h hK;exact hK.n q (rV.refl q) h
 |scope c ih=>intro bD R a q K r Kp h hK;exact ih h hK
 |_=>intro bD R a q K r Kp h;exact (dD h).elim
end
end Go.Fg

namespace Go.Fg
open Go.Fw
section
variable [RE]
theorem ac1 {tt:TT} {st:kF} {r:ResultVar} {x:TS} (h:Xn tt st r=some x):Zu tt (bg st) r=some (bn x):=by
 cases r with
 |tmp t=>simp only [Xn,Q0] at h;subst h;rfl
 |cell a t=>
  simp only [Xn] at h;split at h
  .rename_i i g off ht hs;split at h
   .rename_i ws hg;obtain ⟨hb,h⟩:=bQ h;simp only [Q0] at h;subst h;obtain ⟨h1,h2⟩:=iJ hb;have hs':(bg st).s a=.v (.one (.box g off)):=by show bn (st.gs a)=_;rw [hs];rfl
    have hg':(bg st).o g=.box (ws.map bW):=oN hg;simp only [Zu,ht,hs',hg',ZD];rw [if_pos ⟨W2 h1,Jl h2⟩,lu,V0,Wo]
   .cases h
  .cases h
theorem M_ {tt:TT} {st:kF} :∀{rs:List ResultVar} {xs:List TS},Jy tt st rs=some xs->FK tt (bg st) rs=some (xs.map bn)
 | [],xs,h=>by simp only [Jy,Q0] at h;subst h;rfl
 |r::rs,xs,h=>by
  simp only [Jy] at h;split at h
  .rename_i h1 h2;simp only [Q0] at h;subst h;simp only [FK,ac1 h1,M_ h2,Qf]
  .cases h
theorem SH :∀(xs:List TS) (n k:Nat),jH .no (Vz n xs) (n+k)=xs.getD k .no
 | [],n,k=>rfl
 |x::xs,n,0=>by simp [Vz,jH]
 |x::xs,n,k+1=>by
  have:Nat.beq (n+(k+1)) n=false:=by
   cases h:Nat.beq (n+(k+1)) n with
   |false=>rfl
   |true=>have:=Q4 h;omega
  simp only [Vz,jH,this,cond_false,List.getD_cons_succ];have e:n+(k+1)=(n+1)+k:=by omega
  rw [e];exact SH xs (n+1) k
theorem XT {tt:TT} {sp:cZ} {ts:List ResultVar} {q:jO} {y:Tup sp.aT.tys} (h:(afz tt sp ts q).run=some y):Fw.Fin tt sp.er ts ((Tup.lW sp.aT.tys y).map dB) (bg q.st):=by
 unfold afz at h;split at h
 .exact (dD h).elim
 .rename_i xs hxs;simp only at h;split at h
  .exact (dD h).elim
  .rename_i hk;obtain ⟨hk,hk2⟩:=iJ hk;split at h
   .exact (dD h).elim
   .rename_i vs hvs;split at h
    .exact (dD h).elim
    .rename_i x hx;have h:some x=some y:=h;cases h;unfold Fw.Fin;rw [M_ hxs];simp only;obtain ⟨c1,c2⟩:=JG hvs;have e:bg { s:=Vz 0 xs,o:=q.st.o,u:=q.st.u }=Q_ (xs.map bn) (bg q.st):=by
      refine St.ext' (fun t => ?_) (fun g=>rfl) fun g=>rfl;show bn (jH .no (Vz 0 xs) t)=(xs.map bn).getD t .no;have:=SH xs 0 t;rw [Wm] at this;rw [this,MP]
     obtain ⟨f1,f2⟩:=XP hk2;rw [SC f2,oU,e] at c1;rw [oU,e] at f1;refine .mk _ _ _ _ f1 hk c1 ?_;rw [G_ _ hx]
def au (Pg:Program) (f:FuncId) (sp:aU):Prop:=Sound Pg f sp.er
def mG.of (l:List (Nat×aU)):mG:=fun f=>l.lookup f
def Z7 (Pg:Program):List (Nat×aU)->Prop
 | []=>True
 |p::r=>au Pg (p.1 % 1000000) p.2/\Z7 Pg r
theorem Z7.sound {Pg:Program} :∀{l:List (Nat×aU)},Z7 Pg l->∀f sp,nC (mG.of l) f=some sp->Sound Pg (f % 1000000) sp
 | [],_,f,sp,h=>by cases h
 |(g,s)::l,⟨h1,h2⟩,f,sp,h=>by
  simp only [nC,mG.of,List.lookup] at h;split at h
  .rename_i e;have e:f=g:=by simpa using e
   subst e;cases h;exact h1
  .exact Z7.sound h2 f sp h
theorem dV {Pg:Program} {f:FuncId} {fn:Func} {c:Code} {sp:aU} (hf:Pg.funcs[f]?=some fn) (hb:fn.body=some c) (hname:(fn.name == "runtime.NumGoroutine")=false) (hok:sp.sig.er.ok=true) (h :∀x,sp.f x=none):au Pg f sp:=by
 refine ⟨hok,fun args w => ?_,fun E w vals gh ins dH hR => ?_⟩
 .have hname':¬ fn.name = "runtime.NumGoroutine" := by simpa using hname
  simp [callFunc,hf,hname',hb]
 .obtain ⟨x,y,hy,_⟩:=hR;have hy:=(O8 hy).1;rw [h x] at hy;cases hy
theorem wG (e:Ty) (l:List (Dt e)):(aI e l).length=List.length (α:=Dt e) l:=by simp [aI]
theorem EH {R:Type} {a b:Nat->TO} {K:Prog R} {y:R} :∀{gs:List Nat},(AA a b K gs).run=some y->K.run=some y/\∀g∈gs,(eF (a g)).like (eF (b g))
 | [],h=>⟨h,fun g hg=>by cases hg⟩
 |g::gs,h=>by
  unfold AA at h;have key :∀{x y:TO},RQ x y=.yes->(eF x).like (eF y):=by
   intro x y hxy;cases x<;>cases y<;>simp only [RQ] at hxy<;>first | trivial | (cases hxy) | (exfalso;revert hxy;cases Nat.beq _ _<;>intro hxy<;>cases hxy)
  have key2 :∀{x y:TO} {n m:Nat},RQ x y=.len n m->n=m->(eF x).like (eF y):=by
   intro x y n m hxy hnm;cases x<;>cases y<;>simp only [RQ] at hxy<;>first | (cases hxy) | skip
   .rename_i e l _ _ _ e' l';cases hb:Nat.beq (size e) (size e') with
    |false=>rw [hb] at hxy;cases hxy
    |true=>
     rw [hb] at hxy;cases hxy;exact ⟨Q4 hb,by rw [wG,wG];exact hnm⟩
   .rename_i e _ l _ _ _ e' _ l' _;cases hb:Nat.beq (size e) (size e') with
    |false=>rw [hb] at hxy;cases hxy
    |true=>
     rw [hb] at hxy;cases hxy;exact ⟨Q4 hb,by rw [wG,wG];exact hnm⟩
  split at h
  .rename_i hc;obtain ⟨h1,h2⟩:=EH h;refine ⟨h1,fun g' hg => ?_⟩;rcases QQ.1 hg with rfl | hg
   .exact key hc
   .exact h2 g' hg
  .exact (dD h).elim
  .rename_i n m hc;have h:ck (decide (n=m)) (AA a b K gs).run=some y:=h;unfold ck at h;cases hd:decide (n=m) with
   |false=>rw [hd] at h;cases h
   |true=>
    rw [hd] at h;obtain ⟨h1,h2⟩:=EH (gs:=gs) h;refine ⟨h1,fun g' hg => ?_⟩;rcases QQ.1 hg with rfl | hg
    .exact key2 hc (of_decide_eq_true hd)
    .exact h2 g' hg
theorem Z8 {Pg:Program} {tt:TT} {T:mG} {ety:TypeId->Option Ty} {f:FuncId} {fn:Func} {c:Code} {sp:aU} (ts:List ResultVar) (a:fQ) (hf:Pg.funcs[f]?=some fn) (hb:fn.body=some c) (hname:(fn.name == "runtime.NumGoroutine")=false) (hres:fn.results=ts.toArray)
  (hok:sp.sig.er.ok=true) (KF:(sp.sig.bD.all fun g=>sp.sig.pin.er.nms.contains g)=true) (hn:sp.sig.aZ<=fn.ntmps) (hnr:ts.length=sp.sig.cu)
  (hT :∀f sp,nC T f=some sp->Sound Pg (f % 1000000) sp) (htt:iR Pg tt) (hm:Fit Pg)
  (h :∀x,(acC T tt ety fn.ntmps sp.sig ts c a x).run=sp.f x):au Pg f sp:=by
 have hcase :∀x y,sp.ff x=some y->(tfun T tt ety fn.ntmps sp.sig ts c a x).run=some y/\∀g∈sp.sig.er.bD,((Fw.mk sp.sig.pin.er ((Tup.lW sp.sig.pin.tys x).map dB)).o g).like ((Fw.mk sp.sig.aT.er ((Tup.lW sp.sig.aT.tys y).map dB)).o g):=by
  intro x y hy0;have hy:=(O8 hy0).1;have hx:=h x;rw [hy] at hx;unfold acC at hx;cases hbx:sp.sig.er.ai2 with
  |true=>
   rw [hbx] at hx;exact ⟨hx,zJ.Zc hbx⟩
  |false=>
   rw [hbx] at hx;have hx:(tfun T tt ety fn.ntmps sp.sig ts c a x).run.bind (fun z=>(AA (mkT sp.sig.pin (Tup.lW sp.sig.pin.tys x)).go (mkT sp.sig.aT (Tup.lW sp.sig.aT.tys z)).go (.ret z) sp.sig.bD).run)=some y:=hx;cases hr:(tfun T tt ety fn.ntmps sp.sig ts c a x).run with
   |none=>rw [hr] at hx;cases hx
   |some z=>
    rw [hr] at hx;obtain ⟨h1,h2⟩:=EH (R:=Tup sp.sig.aT.tys) (K:=.ret z) hx;have h1:some z=some y:=h1;cases h1;refine ⟨rfl,fun g hg => ?_⟩;have e1:=congrArg (fun s=>s.o g) (yB (wB _ x));have e2:=congrArg (fun s=>s.o g) (yB (wB _ y));rw [<-e1,<-e2];exact h2 g hg
 refine abR (T:=nC T) (tt:=tt) (c:=c) ts hf hb hname hres hok KF (fun ins dH ⟨x,y,hy,hi,ho⟩=>by subst hi;subst ho;exact (hcase x y hy).2) hn hnr hT htt hm ?_;rintro ins dH ⟨x,y,hy,rfl,rfl⟩;have hx:=(hcase x y hy).1;unfold tfun at hx;rw [tq] at hx;have e:=yB (wB _ x);have hx:=Z5 c hx (Kp:=ajf tt sp.sig.er ts ((Tup.lW sp.sig.aT.tys y).map dB)) ⟨fun q' _ hq=>XT hq,fun id q' _ hq=>(dD hq).elim,fun q' _ hq=>XT hq⟩;have hx:exec (nC T) tt fn.ntmps sp.sig.er.bD c (bg (mkT sp.sig.pin (Tup.lW sp.sig.pin.tys x))) (ajf tt sp.sig.er ts ((Tup.lW sp.sig.aT.tys y).map dB)):=hx;rw [e] at hx;exact hx
end
end Go.Fg

namespace Go.Fg
open Go.Fw Go.Proofs
def Po (w:World) (l:List Int) (G:Gh):Prop:=
 (G.ad=none/\G.cap=0/\l=[])\/
 ∃b o c e,G.ad=some ⟨b,o,none⟩ /\w.heap[b]?=some (.cells c e (0,0))/\o+G.cap<=c.size/\(l.length<=G.cap/\G.cap<=9223372036854775807)/\
  ∀(n:Nat) x,l[n]?=some x->c[o+n]?=some (.int .i64 x)
section
variable [RE]
theorem m_ (l:List Int):aI (.int .i64) l=l.map fun x=>[P.int .i64 x]:=rfl
theorem afT {E:Env} {st:St} {gh:Nat->Gh} {w:World} {a i:Bool} {l:List Int} {G:Gh} (h:iK E st gh w a i 1 (aI (.int .i64) l) G):Po w l G:=by
 rcases h with ⟨h1,h2,h3⟩ | ⟨ad,c,e,h1,h2,h3,h4,h5,h6,h7⟩
 .refine .inl ⟨h1,h2,?_⟩;rw [m_] at h3;simpa using h3
 .obtain ⟨b,o,sp⟩:=ad;simp only at h2 h3 h4 h7;subst h2;refine .inr ⟨b,o,c,e,h1,h3,by omega,by simpa [m_] using h5,fun n x hx => ?_⟩;have hx':(aI (.int .i64) l)[n]?=some [P.int .i64 x]:=by
   rw [m_,XS,hx];rfl
  obtain ⟨v,hv,hr⟩:=h7 n _ hx' 0 (P.int .i64 x) rfl;rw [hr.eU] at hv;rw [<-hv];congr 1;omega
theorem afU {E:Env} {st:St} {gh:Nat->Gh} {w:World} {a i:Bool} {l:List Int} {G:Gh} (h:Po w l G):iK E st gh w a i 1 (aI (.int .i64) l) G:=by
 rcases h with ⟨h1,h2,h3⟩ | ⟨b,o,c,e,h1,h3,h4,h5,h7⟩
 .exact .inl ⟨h1,h2,by rw [h3];rfl⟩
 .refine .inr ⟨⟨b,o,none⟩,c,e,h1,rfl,h3,by simpa using h4,by simpa [m_] using h5,fun x hx => ?_,fun n x hx j y hy => ?_⟩
  .rw [m_,X1] at hx;obtain ⟨z,_,rfl⟩:=hx;rfl
  .rw [m_,XS] at hx;cases hl:l[n]? with
   |none=>rw [hl] at hx;cases hx
   |some z=>
    rw [hl] at hx;simp only [Z3,Q0] at hx;subst hx;cases j with
    |succ j=>simp at hy
    |zero=>
     simp only [US,Q0] at hy;subst hy;refine ⟨_,?_,.int .i64 z⟩;rw [<-h7 n z hl];congr 1;simp
end
theorem heap_setCell (w:World) (b o:Nat) (v:Value) (c:Array Value) (e:TypeId) (h:w.heap[b]?=some (.cells c e (0,0))) :
  (w.setCell ⟨b,o,none⟩ v).heap[b]?=some (.cells (c.setIfInBounds o v) e (0,0))/\∀b',b'≠b->(w.setCell ⟨b,o,none⟩ v).heap[b']?=w.heap[b']?:=by
 refine ⟨?_,fun b' hb => ?_⟩
 .simp [World.setCell,qd,h]
 .simp [World.setCell,qd,Ne.symm hb]
theorem zQ (b:Nat) (e:TypeId) :∀(vs:List Value) (o:Nat) (w:World) (c:Array Value),w.heap[b]?=some (.cells c e (0,0))->o+vs.length<=c.size->
  ∃c',(w.setCells b o vs).heap[b]?=some (.cells c' e (0,0))/\c'.size=c.size/\(∀k,c'[k]?=if o<=k/\k<o+vs.length then vs[k-o]? else c[k]?)/\
   (∀b',b'≠b->(w.setCells b o vs).heap[b']?=w.heap[b']?)/\(w.setCells b o vs).heap.size=w.heap.size
 | [],o,w,c,h,hs=>⟨c,h,rfl,fun k=>by rw [if_neg (by simp)],fun _ _=>rfl,rfl⟩
 |v::vs,o,w,c,h,hs=>by
  simp only [Wg] at hs;obtain ⟨h1,h2⟩:=heap_setCell w b o v c e h;obtain ⟨c',k1,k2,k3,k4,k5⟩:=zQ b e vs (o+1) (w.setCell ⟨b,o,none⟩ v) (c.setIfInBounds o v) h1 (by simp;omega);refine ⟨c',k1,by simpa using k2,fun k => ?_,fun b' hb=>(k4 b' hb).trans (h2 b' hb),k5.trans (by simp [World.setCell])⟩;rw [k3];simp only [Wg];by_cases e1:k=o
  .subst e1;rw [if_neg (by omega),if_pos (by omega)];simp [Kc];omega
  .by_cases e2:o+1<=k/\k<o+1+vs.length
   .rw [if_pos e2,if_pos (by omega)];rw [show k-o=(k-(o+1))+1 by omega,Vi]
   .rw [if_neg e2,if_neg (by omega)];simp [Kc,Ne.symm e1]
theorem F8 (b:Nat) :∀(vs:List Value) (o:Nat) (w:World),(w.setCells b o vs).os=w.os/\(w.setCells b o vs).tape=w.tape/\(w.setCells b o vs).output=w.output
 | [],_,_=>⟨rfl,rfl,rfl⟩
 |_::vs,o,w=>F8 b vs (o+1) _
theorem enters_of {Pg:Program} {f:FuncId} {fn:Func} {c:Code} (hf:Pg.funcs[f]?=some fn) (hb:fn.body=some c) (hname:(fn.name == "runtime.NumGoroutine")=false):Fw.Enters Pg f:=fun args w=>by
 have hname':¬ fn.name = "runtime.NumGoroutine" := by simpa using hname
 simp [callFunc,hf,hname',hb]
section
variable [RE]
end
end Go.Fg

namespace Go.Fg
open Go.Fw Go.Proofs
section
variable [RE]
def qP:MG:=⟨[],[(70000,.arr false false true (.int .i64))]⟩
theorem ac2 {E:Env} {st:St} {gh:Nat->Gh} {val:Nat->Value} {w w':World} (h:Rel E st gh val w) (hB:E.B0=w.heap.size) (l:List Int) (G:Gh) (hG:Po w' l G)
  (hsz:w.heap.size<=w'.heap.size) (hfr :∀b,b<w.heap.size->¬ E.Wr b->w'.heap[b]?=w.heap[b]?)
  (hin :∀ad,G.ad=some ad->(w.heap.size<=ad.block\/E.Wr ad.block)/\ad.block<w'.heap.size) (hos:w'.os=w.os/\w'.tape=w.tape/\w'.output=w.output) (bM:Nat->Gh) (hgh:bM 70000=G) (hsub :∀b,G.sub b=none:=by first | exact fun _=>rfl | assumption) :
  Rel E (Fw.mk qP.er ((Tup.lW qP.tys l).map dB)) bM (fun k=>([]:List Value).getD k undef) w':=by
 have hs1 :∀t,(Fw.mk qP.er ((Tup.lW qP.tys l).map dB)).s t=.no:=fun t=>rfl;have ho:(Fw.mk qP.er ((Tup.lW qP.tys l).map dB)).o 70000=.arr false false true 1 (aI (.int .i64) l):=by
  exact congrArg (O.arr false false true 1) (jy (.int .i64) l)
 have hon :∀g,g≠70000->(Fw.mk qP.er ((Tup.lW qP.tys l).map dB)).o g=.none:=fun g hg=>by
  have e1:(g==70000)=false:=by simpa using hg
  show (match List.lookup g [(70000,_)] with | some x=>x | none=>O.none)=_;simp only [List.lookup,e1]
 have hu:(Fw.mk qP.er ((Tup.lW qP.tys l).map dB)).used 70000=true:=rfl;have hown :∀g,((Fw.mk qP.er ((Tup.lW qP.tys l).map dB)).o g).bP=true->g=70000:=fun g hg=>by
  by_cases e:g=70000
  .exact e
  .rw [hon g e] at hg;simp [O.bP] at hg
 generalize Fw.mk qP.er ((Tup.lW qP.tys l).map dB)=s at *;exact {
  slots:=fun t=>by rw [hs1];exact .no _
  bf:=fun g=>by
   by_cases e:g=70000
   .subst e;rw [ho,hgh];exact afU hG
   .rw [hon g e];trivial
  inj:=fun g g' _ h1 h2 _ _=>(hown g h1).trans (hown g' h2).symm
  wr:=fun g a h1 h2=>by
   have:=hown g h1;subst this;rw [hgh] at h2;rw [hB];rcases h2 with ⟨ad,q1,q2⟩ | q
   .rw [<-q2];exact hin ad q1
   .rw [hsub a] at q;cases q
  wi:=fun g i b h1 h2 h3=>by
   by_cases e:g=70000
   .subst e;rw [ho] at h1;cases h1;rfl
   .rw [hon g e] at h1;cases h1
  ns:=fun g h1 _ b=>by
   have:=hown g h1;subst this;rw [hgh];exact hsub b
  wb:=h.wb
  frame:=fun b hb hw=>by
   rw [hfr b (by omega) hw];exact h.frame b hb hw
  size:=by rw [hB];exact hsz
  os:=hos.1.trans h.os
  tape:=hos.2.1.trans h.tape
  output:=hos.2.2.trans h.output
  us:=fun t g hg=>by rw [hs1] at hg;simp [S.names] at hg
  uo:=fun g g' hg=>by
   by_cases e:g=70000
   .subst e;rw [ho] at hg;simp [O.names] at hg
   .rw [hon g e] at hg;simp [O.names] at hg
  ul:=fun g hg=>by
   by_cases e:g=70000
   .subst e;exact hu
   .exact absurd (hon g e) hg }
def uP:cZ:={ aZ:=1,pin:=⟨[(0,.one (.own 70000))],[(70000,.arr false false true (.int .i64))]⟩,aT:=qP,cu:=0,bD:=[70000],aV:=[] }
def Z9 (l:List Int):Option (List Int):=match decide (l.length<4611686018427387904) with
 |true=>some (l.mergeSort fun x y=>decide (x<=y))
 |false=>none
def XU:aU:=⟨uP,fun x=>Z9 x⟩
theorem Z_ {Pg:Program} {f:FuncId} (apS:Fw.Enters Pg f)
  (hD :∀(b off c:Nat) (zs:List Int) (w:World),Go.Sort.Holds (Value.int .i64) w b off zs.toArray->b<w.heap.size->zs.length<4611686018427387904->
   Calls Pg f #[.slice (some ⟨b,off,none⟩) zs.length c] w fun e w'=>e=.returned (.tuple #[])/\∃n os,w'=Go.Sort.grow (Go.Sort.putRow (Value.int .i64) (Go.Sort.ahead w n) b off (zs.mergeSort fun x y=>decide (x<=y)).toArray) os)
  (hE :∀(a:Option Addr) (c:Nat) (w:World),Calls Pg f #[.slice a 0 c] w fun e w'=>e=.returned (.tuple #[])/\w'=w):au Pg f XU:=by
 refine ⟨rfl,apS,fun E w vals gh ins dH hR hB hw0 KU hlen => ?_⟩;obtain ⟨l,y,hy,rfl,rfl⟩:=hR;change List Int at l;change List Int at y;have hy:Z9 l=some y:=hy;unfold Z9 at hy;split at hy
 .rename_i hc;simp only [decide_eq_true_eq] at hc;simp only [Q0] at hy;subst hy;have ho:(Fw.mk uP.pin.er ((Tup.lW uP.pin.tys l).map dB)).o 70000=.arr false false true 1 (aI (.int .i64) l):=by
   exact congrArg (O.arr false false true 1) (jy (.int .i64) l)
  have ho2:(Fw.mk uP.aT.er ((Tup.lW uP.aT.tys (l.mergeSort fun x y=>decide (x<=y))).map dB)).o 70000=.arr false false true 1 (aI (.int .i64) (l.mergeSort fun x y=>decide (x<=y))):=by
   exact congrArg (O.arr false false true 1) (jy (.int .i64) (l.mergeSort fun x y=>decide (x<=y)))
  have r0:vals.getD 0 undef=.slice (gh 70000).ad l.length (gh 70000).cap:=by
   have h0:=(KU.slots 0).dK;cases h0 with
   |own _ _ hv hx=>exact (hx _ _ (O.jP ho)).trans (congrArg (fun n=>Value.slice (gh 70000).ad n (gh 70000).cap) (fK (.int .i64) l))
  have al3:vals.toArray=#[.slice (gh 70000).ad l.length (gh 70000).cap]:=by
   have hl3:vals.length=1:=hlen
   match vals,hl3 with
   | [a],_=>simp at r0;simp [r0]
  rw [al3];have apT :∀b,(gh 70000).sub b=none:=KU.ns 70000 rfl rfl;have hA:Po w l (gh 70000):=by
   have h0:=KU.bf 70000;have h1:lX E _ gh w (.arr false false true 1 (aI (.int .i64) l)) (gh 70000):=ho▸h0;exact afT h1
  have EX:((Fw.mk uP.pin.er ((Tup.lW uP.pin.tys l).map dB)).o 70000).like ((Fw.mk uP.aT.er ((Tup.lW uP.aT.tys (l.mergeSort fun x y=>decide (x<=y))).map dB)).o 70000):=by
   rw [ho,ho2];refine ⟨rfl,?_⟩;exact (fK (.int .i64) l).trans ((List.length_mergeSort l).symm.trans (fK (.int .i64) (l.mergeSort fun x y=>decide (x<=y))).symm)
  have UO :∀(bM:Nat->Gh),bM 70000=gh 70000->∀g∈XU.er.sig.bD,((bM g).ad=(gh g).ad/\(bM g).cap=(gh g).cap)/\((Fw.mk uP.pin.er ((Tup.lW uP.pin.tys l).map dB)).o g).like ((Fw.mk uP.aT.er ((Tup.lW uP.aT.tys (l.mergeSort fun x y=>decide (x<=y))).map dB)).o g):=fun bM e g hg=>by
   have:g=70000:=QP.1 hg;subst this;exact ⟨⟨by rw [e],by rw [e]⟩,EX⟩
  rcases hA with ⟨h1,h2,h3⟩ | ⟨b,o,c,e,h1,h3,h4,h5,h7⟩
  .subst h3;refine (hE (gh 70000).ad (gh 70000).cap w).mono fun e w' ⟨he,hw⟩ => ?_;subst hw;refine ⟨[],gh,rfl,by rw [he];rfl,?_,UO gh rfl⟩;have:([]:List Int).mergeSort (fun x y=>decide (x<=y))=[]:=by simp
   rw [this];exact ac2 KU hB [] (gh 70000) (.inl ⟨h1,h2,rfl⟩) (Z1 _) (fun _ _ _=>rfl) (fun ad had=>by rw [h1] at had;cases had) ⟨rfl,rfl,rfl⟩ _ rfl
  .rw [h1];have hwr:=KU.wr 70000 b rfl (Gh.jT h1);have hcell :∀k,k<l.length->w.cell? ⟨b,o+k,none⟩=some (.int .i64 (l.getD k 0)):=fun k hk=>by
    have:=h7 k l[k] (Q2 hk);simp [World.cell?,h3,this,hk]
   have hH:Go.Sort.Holds (Value.int .i64) w b o l.toArray:=by
    have:=Lib.holds_of_ints (n:=l.length) (Z1 _) hcell (fun k hk=>by simp [World.frozen?,h3])
    rwa [JN] at this
   refine (hD b o (gh 70000).cap l w hH hwr.2 hc).mono fun e' w' ⟨he,q,os,hw⟩ => ?_;rw [Lib.putRow_eq_setCells (Value.int .i64) w b o l.toArray _ q hH (by simp)] at hw;generalize hm:(l.mergeSort fun x y=>decide (x<=y))=m at *;have hlen2:m.length=l.length:=by rw [<-hm];exact List.length_mergeSort l
   obtain ⟨c',k1,k2,k3,k4,k5⟩:=zQ b e (m.map (Value.int .i64)) o (w.drewN q) c h3 (by rw [ZD];omega);have hos:=F8 b (m.map (Value.int .i64)) o (w.drewN q);generalize (w.drewN q).setCells b o (m.map (Value.int .i64))=w1 at *;have hlt :∀b',b'<w.heap.size->w'.heap[b']?=w1.heap[b']?:=fun b' hb'=>by
    subst hw;show (w1.heap++os)[b']?=_;exact JP (by rw [k5];exact hb')
   have hsz:w.heap.size<=w'.heap.size:=by
    subst hw;show _<=(w1.heap++os).size;rw [ve,k5];exact Nat.le_add_right _ _
   have apU:w'.os=w.os/\w'.tape=w.tape/\w'.output=w.output:=by subst hw;exact hos
   have hwr2:=hwr.2;refine ⟨[],gh,rfl,by rw [he];rfl,?_,UO gh rfl⟩;refine ac2 KU hB _ (gh 70000) (.inr ⟨b,o,c',e,h1,by rw [hlt b hwr2];exact k1,by rw [k2];exact h4,⟨by omega,h5.2⟩,fun n x hx => ?_⟩)
    hsz (fun b' hb' hnw=>(hlt b' hb').trans (k4 b' fun eb => ?_)) (fun ad had => ?_) apU _ rfl
   .have hn:=(Q3.1 hx).1;rw [k3,if_pos (by simp;omega)];simp [hx]
   .subst eb;rcases hwr.1 with hq | hq
    .rw [hB] at hq;omega
    .exact hnw hq
   .rw [h1] at had;cases had;refine ⟨?_,WF hwr2 hsz⟩;have:=hwr.1;rw [hB] at this;exact this
 .cases hy
end
end Go.Fg

namespace Go.Fw
open Go.RowKit
variable [eX]
def EI (w:World):Prop :=∀g sz rows,eX.gt g=some (sz,rows)->g<w.heap.size/\∀(n:Nat) x,rows[n]?=some x->x.length=sz/\∀(j:Nat) y,x[j]?=some y->∃u,w.cell? ⟨g,n*sz+j,none⟩=some u/\dh w (fun _=>False) y u
def E0 (w:World) (hw:EI w):Env:={ FA:=fun _=>True,FI:=fun _=>False,B0:=w.heap.size,w0:=w,Wr:=fun _=>False,hg:=fun g sz rows hg=>⟨(hw g sz rows hg).1,fun h=>h,(hw g sz rows hg).2⟩ }
def G0:Nat->Gh:=fun _=>Gh.nil
theorem aac {Pg:Program} {f:FuncId} {sp:Spec} (hs:Sound Pg f sp) (abv:sp.sig.pin.bf=[]) (hnr:sp.sig.cu=1) (WQ:sp.sig.aT=⟨[(0,.one (.p false false))],[]⟩) {vals:List Value} (hlen:vals.length=sp.sig.aZ) {w:World} (hw:EI w) {ins:List P}
  (hR:sp.R ins [.bool true]) (sO :∀t,dL (E0 w hw) (Fw.mk sp.sig.pin ins) G0 w ((Fw.mk sp.sig.pin ins).s t) (vals.getD t undef)) :
  Calls Pg f vals.toArray w fun e w'=>e=.returned (.bool true)/\Below w.heap.size w w':=by
 obtain ⟨hok,_,hS⟩:=hs;have hno :∀g,(Fw.mk sp.sig.pin ins).o g=.none:=fun g=>LQ (by simp [Shape.nms,abv]);have hok':=hok;simp only [zJ.ok,Qt] at hok';have hus:=ahB hok'.1.1.1.1.1.1.1.1 ins;have hrel:Rel (E0 w hw) (Fw.mk sp.sig.pin ins) G0 (fun k=>vals.getD k undef) w:=
  ⟨sO,fun g=>by rw [hno];trivial,fun g g' a (h:((Fw.mk sp.sig.pin ins).o g).bP=true)=>(by rw [hno] at h;cases h),fun g a (h:((Fw.mk sp.sig.pin ins).o g).bP=true)=>(by rw [hno] at h;cases h),fun g i b (h:((Fw.mk sp.sig.pin ins).o g).inner=some i)=>(by rw [hno] at h;cases h),fun g (h:((Fw.mk sp.sig.pin ins).o g).bP=true)=>(by rw [hno] at h;cases h),fun b hb=>hb.elim,fun b _ _=>rfl,Z1 _,rfl,rfl,rfl,hus.1,hus.2.1,hus.2.2⟩
 refine Calls.mono (hS (E0 w hw) w vals G0 ins [.bool true] hR rfl rfl hrel hlen) fun e w' he => ?_;obtain ⟨rs,bM,hrl,rfl,hx,_⟩:=he;rw [hnr] at hrl
 match rs,hrl with
 | [v],_=>
 refine ⟨?_,⟨hx.os,hx.tape,hx.output,hx.size,fun b hb=>hx.frame b hb (fun h=>h)⟩⟩;have h0:=hx.slots 0;rw [WQ] at h0;have h1:dL (E0 w hw) (Fw.mk ⟨[(0,.one (.p false false))],[]⟩ [.bool true]) bM w' (.v (.one (.p false false (.bool true)))) v:=h0;rw [show v=.bool true from h1.fP.nH];rfl
theorem afV {w:World} {k:IntKind} {a:Option Addr} {len cap:Nat} {zs:List Int} {ok:Nat->Prop} (hok :∀b,b<w.heap.size->ok b)
  (h:(a=none/\len=0/\cap=0/\zs=[])\/∃x,a=some x/\len<=cap/\zs.length=cap/\∀i,i<zs.length->w.cell? (x.add i)=some (.int k (zs.getD i 0))) :
  dh w ok (.sl 1 ((zs.take len).map fun z=>[.int k z])) (.slice a len cap):=by
 rcases h with ⟨rfl,rfl,rfl,rfl⟩ | ⟨x,rfl,hl,hz,hc⟩
 .exact .nil _ _ _
 .by_cases h0:len=0
  .subst h0;exact .nil _ _ _
  .have hc0:=hc 0 (by omega);have hs:x.spot=none:=by
    unfold World.cell? Addr.add at hc0;cases hx:x.spot with
    |none=>rfl
    |some s=>
     exfalso;split at hc0
     .simp [hx] at hc0
     .cases hc0
   have hb:x.block<w.heap.size:=by
    unfold World.cell? at hc0;have e:(x.add 0).block=x.block:=by simp [Addr.add]
    rw [e] at hc0;by_cases hlt:x.block<w.heap.size
    .exact hlt
    .rw [Array.getElem?_eq_none (by omega)] at hc0;cases hc0
   have hlen:((zs.take len).map fun z=>[P.int k z]).length=len:=by simp;omega
   have:=dh.sl (w:=w) (ok:=ok) 1 ((zs.take len).map fun z=>[P.int k z]) x cap (fun i _=>.int k (zs.getD i 0)) hs (fun _=>hok _ hb) (by omega) (fun r hr=>by
     obtain ⟨z,_,rfl⟩:=X1.1 hr;rfl) (fun i r hr j y hj => ?_) (fun i r hr j y hj => ?_)
   .rw [hlen] at this;exact this
   all_goals
    have hi:i<len:=by have:=(Q3.1 hr).1;omega
    rw [XS,Z2,if_pos hi] at hr;obtain ⟨z,hz',rfl⟩:=ZS.1 hr;have hj0:j=0:=by
     cases j with
     |zero=>rfl
     |succ j=>simp at hj
    subst hj0;simp only [US,Q0] at hj;subst hj
   .have:=hc i (by omega);rw [<-this];have e:x.add i=⟨x.block,x.off+i,none⟩:=by
     obtain ⟨b,o,sp⟩:=x;simp only at hs;subst hs;exact Addr.iG b o i
    rw [e];simp
   .rw [List.getD_eq_getElem?_getD,hz'];exact .int k z
end Go.Fw
namespace Go.Fg
open Go.Fw Go.RowKit
section
variable [RE]
theorem XV {w:World} {k:IntKind} {a:Option Addr} {len cap:Nat} {zs:List Int} {ok:Nat->Prop} (hok :∀b,b<w.heap.size->ok b)
  (h:(a=none/\len=0/\cap=0/\zs=[])\/∃x,a=some x/\len<=cap/\zs.length=cap/\∀i,i<zs.length->w.cell? (x.add i)=some (.int k (zs.getD i 0))) :
  dh w ok (dB ⟨.sl (.int k),zs.take len⟩) (.slice a len cap):=by
 have h0:=afV hok h;have e:aI (.int k) (zs.take len)=(zs.take len).map fun z=>[P.int k z]:=rfl;rw [G6,e];have hlen:len=(zs.take len).length:=by
  rcases h with ⟨_,rfl,_,rfl⟩ | ⟨x,_,h1,h2,_⟩
  .rfl
  .simp;omega
 cases hl:zs.take len with
 |nil=>
  rw [hl] at hlen;have hlen:len=0:=hlen;subst hlen;exact .nil _ _ _
 |cons z l=>rw [hl] at h0;exact h0
end
end Go.Fg

namespace Go.Fg
open Go.Fw
def Ok {α:Type} (x:Option α) (Q:α->Prop):Prop :=∃y,x=some y/\Q y
def J7 {α β:Type} (P:α->Prop) (Q:β->Prop):α ⊕ β->Prop
 |.inl a=>P a
 |.inr b=>Q b
theorem zh {α:Type} {y:α} {Q:α->Prop}:Ok (some y) Q↔Q y:=⟨fun ⟨_,h,hq⟩=>by cases h;exact hq,fun h=>⟨_,rfl,h⟩⟩
theorem Hf {α β:Type} {x:Option α} {f:α->Option β} {Q:β->Prop}:Ok (Option.bind x f) Q↔Ok x fun y=>Ok (f y) Q:=by
 cases x with
 |none=>exact ⟨fun ⟨_,h,_⟩=>(by cases h),fun ⟨_,h,_⟩=>(by cases h)⟩
 |some z=>rw [zh];rfl
theorem ac3 {α:Type} {b:Bool} {x:Option α} {Q:α->Prop}:Ok (ck b x) Q↔b=true/\Ok x Q:=by
 cases b with
 |false=>exact ⟨fun ⟨_,h,_⟩=>(by cases h),fun ⟨h,_⟩=>(by cases h)⟩
 |true=>exact ⟨fun h=>⟨rfl,h⟩,fun h=>h.2⟩
theorem VF {α:Type} {b:Bool} {x y:Option α} {Q:α->Prop}:Ok (bif b then x else y) Q↔(b=true->Ok x Q)/\(b=false->Ok y Q):=by
 cases b with
 |false=>exact ⟨fun h=>⟨fun e=>(by cases e),fun _=>h⟩,fun h=>h.2 rfl⟩
 |true=>exact ⟨fun h=>⟨fun _=>h,fun e=>(by cases e)⟩,fun h=>h.1 rfl⟩
theorem ac4 {α β:Type} {x:Option (α ⊕ β)} {f:α->Option β} {Q:β->Prop}:Ok (dM x f) Q↔Ok x (J7 (fun a=>Ok (f a) Q) Q):=by
 unfold dM;refine Hf.trans ⟨fun ⟨y,hy,h⟩=>⟨y,hy,?_⟩,fun ⟨y,hy,h⟩=>⟨y,hy,?_⟩⟩
 .cases y with
  |inl a=>exact h
  |inr b=>exact (zh (Q:=Q)).1 h
 .cases y with
  |inl a=>exact h
  |inr b=>exact (zh (Q:=Q)).2 h
theorem jR {α:Type} {x:Option α} {Q Q':α->Prop} (h:Ok x Q) (hq :∀y,Q y->Q' y):Ok x Q':=let ⟨y,hy,hz⟩:=h;⟨y,hy,hq y hz⟩
theorem ok_eq {α:Type} {x:Option α} {y:α} (h:Ok x fun z=>z=y):x=some y:=let ⟨_,hy,e⟩:=h;e▸hy
section
variable [RE]
theorem bJ {A R:Type} {body:A->Option (A ⊕ R)} {Q:R->Prop} (I:A->Prop) (μ:A->Nat) {a:A} (ha:I a)
  (h :∀a,I a->Ok (body a) (J7 (fun a'=>I a'/\μ a'<μ a) Q)):Ok (bF body a) Q:=by
 have key :∀n a,I a->μ a<n->Ok (bF body a) Q:=by
  intro n
  induction n with
  |zero=>intro a _ hn;omega
  |succ n ih=>
   intro a ha hn;obtain ⟨y,hy,hz⟩:=h a ha;rw [AP,hy];cases y with
   |inl a'=>
    obtain ⟨h1,h2⟩:I a'/\μ a'<μ a:=hz;exact ih a' h1 (by omega)
   |inr r=>exact ⟨r,rfl,hz⟩
 exact key _ a ha (Nat.lt_succ_self _)
end
theorem aH {x:Int} (h:-9223372036854775808<=x/\x<=9223372036854775807):dJ x=x:=@wrap64 ⟨fun _=>none,fun _ _ _ _=>False,fun _ h=>h⟩ x h.1 h.2
theorem aG {n:Int} {len:Nat}:inB n len=true↔0<=n/\n<len:=by simp [inB]
theorem J8 {lo hi:Int} {len:Nat}:Cj lo hi len=true↔(0<=lo/\lo<=hi)/\hi<=(len:Int):=by simp [Cj]
theorem qQ {b:Nat} {n c:Int}:Cm b n c=true↔((0<=n/\n<=c)/\b*c<=281474976710656)/\c<=9223372036854775807:=by simp [Cm]
theorem XW {p:Prop} [Decidable p]:(decide p=true)=p:=by simp
theorem SI {p:Prop} [Decidable p]:(decide p=false)=¬p:=by simp
theorem not_iff {b:Bool}:((!b)=true)=(b=false):=by cases b<;>simp
theorem afW (a b:Int):Zy a b=min a b:=by unfold Zy;split<;>omega
theorem Hg (a b:Int):Eb a b=max a b:=by unfold Eb;split<;>omega
theorem tmod_lt {a b:Int} (ha:0<=a) (hb:0<b):0<=Int.tmod a b/\Int.tmod a b<b:=⟨Int.tmod_nonneg b ha,Int.tmod_lt_of_pos a hb⟩
theorem getD_at {α:Type} {l:List α} {n:Nat} (d:α) (h:n<l.length):l.getD n d=l[n]:=by
 rw [List.getD_eq_getElem?_getD,Q2 h];rfl
end Go.Fg

namespace Go.Fg
open Go.Fw
theorem take_snoc {α:Type} {l:List α} {i:Nat} (h:i<l.length):l.take (i+1)=l.take i++[l[i]]:=by
 rw [List.take_add_one,Q2 h];rfl
theorem bC {α β:Type} {x:Option α} {f:α->Option β} {Q:β->Prop} (Q':α->Prop) (h:Ok x Q') (k :∀y,Q' y->Ok (f y) Q):Ok (Option.bind x f) Q:=Hf.2 (jR h k)
theorem fA {α β:Type} {x:Option α} {f:α->Option β} {Q:β->Prop} {y:α} (h:x=some y) (k:Ok (f y) Q):Ok (Option.bind x f) Q:=by rw [h];exact k
theorem dG {α:Type} {b:Bool} {x y:Option α} {Q:α->Prop} (h1:b=true->Ok x Q) (h2:b=false->Ok y Q):Ok (bif b then x else y) Q:=VF.2 ⟨h1,h2⟩
theorem b_ {α:Type} {b:Bool} {x y:Option α} {Q:α->Prop} (hb:b=false) (h2:Ok y Q):Ok (bif b then x else y) Q:=by rw [hb];exact h2
theorem goT {α:Type} {b:Bool} {x y:Option α} {Q:α->Prop} (hb:b=true) (h2:Ok x Q):Ok (bif b then x else y) Q:=by rw [hb];exact h2
theorem bT {α:Type} {b:Bool} {x:Option α} {Q:α->Prop} (hb:b=true) (h2:Ok x Q):Ok (ck b x) Q:=ac3.2 ⟨hb,h2⟩
theorem iF {α β:Type} {x:Option (α ⊕ β)} {f:α->Option β} {Q:β->Prop} (Q':α->Prop) (h:Ok x (J7 Q' Q)) (k :∀y,Q' y->Ok (f y) Q):Ok (dM x f) Q:=
 ac4.2 (jR h fun y hy=>by cases y with
  |inl a=>exact k a hy
  |inr b=>exact hy)
theorem aF {α:Type} {y:α} {Q:α->Prop} (h:Q y):Ok (some y) Q:=zh.2 h
section
variable [RE]
theorem ajH {A R S E:Type} {body:A->Option (A ⊕ R)} {Q:R->Prop} (l:List E) (st:Int->S->A) (g:S->E->S) (I:Nat->S->Prop) {s0:S} {a0:A} (ha:a0=st 0 s0) (h0:I 0 s0)
  (hs :∀i (h:i<l.length) s,I i s->s=(l.take i).foldl g s0->Ok (body (st i s)) (J7 (fun a=>a=st ((i:Int)+1) (g s l[i])/\I (i+1) (g s l[i])) Q))
  (he :∀s,I l.length s->s=l.foldl g s0->Ok (body (st l.length s)) (J7 (fun _=>False) Q)):Ok (bF body a0) Q:=by
 have key :∀k i s,i<=l.length->l.length-i=k->I i s->s=(l.take i).foldl g s0->Ok (bF body (st i s)) Q:=by
  intro k
  induction k with
  |zero=>
   intro i s hi hk h1 h2;have e:i=l.length:=by omega
   subst e;rw [JN] at h2;obtain ⟨y,hy,hq⟩:=he s h1 h2;rw [AP,hy];cases y with
   |inl a=>exact hq.elim
   |inr r=>exact ⟨r,rfl,hq⟩
  |succ k ih=>
   intro i s hi hk h1 h2;have hlt:i<l.length:=by omega
   obtain ⟨y,hy,hq⟩:=hs i hlt s h1 h2;rw [AP,hy];cases y with
   |inl a=>
    obtain ⟨rfl,h3⟩:a=st ((i:Int)+1) (g s l[i])/\I (i+1) (g s l[i]):=hq;have:=ih (i+1) (g s l[i]) (by omega) (by omega) h3 (by rw [take_snoc hlt,List.foldl_append,<-h2];rfl);exact this
   |inr r=>exact ⟨r,rfl,hq⟩
 rw [ha];exact key l.length 0 s0 (by omega) (by omega) h0 (by simp)
end
end Go.Fg

namespace Go.Fg
open Go.Fw Go.RowKit
section
variable {H:Type} {enc:TypeId×Value->H} {P:Program} {w:World} {base:Nat} {spare:Nat->Bool} {held:Bool}
end
theorem ahS [eX] {pin:Shape} (h:pin.bf=[]) (ins:List P) (w:World) (hw:EI w) :∀b,b<w.heap.size->(E0 w hw).ok (Fw.mk pin ins) G0 w true false b:=by
 intro b hb;refine ⟨.inl ⟨rfl,trivial⟩,hb,fun g ad hg => ?_⟩;rw [LQ (by simp [Shape.nms,h])] at ad;cases ad
section
variable [RE]
end
end Go.Fg

namespace Go.Fg
open Go.Fw Go.RowKit
theorem J9 [eX] {P:Program} {w:World} {name:String} {g n:Nat} {t e:TypeId} {bs:List (List UInt8)} (hg:P.globalNamed name=some g) (ht:(P.globals[g]?).map (·.type)=some t)
  (hu:P.underlying t=some (.array n e)) (hs:P.underlying e=some .string) (hc:P.cellsOf e=1) (hn:bs.length=n)
  (hG :∀g' sz rows,eX.gt g'=some (sz,rows)->g'=g/\sz=1/\rows=bs.map fun b=>[Fw.P.str ⟨b.toArray⟩])
  (h:laidMet P [(name,.agg (bs.map fun b=>.lit (.string b)))] w):EI w:=by
 obtain ⟨ps,⟨g1,t1,cs,fuel,p,q,hg1,ht1,hv,hd,_,_⟩,_,_⟩:=h;obtain rfl:=Wc (hg.symm.trans hg1);obtain rfl:=Wc (ht.symm.trans ht1);intro g' sz rows hrow;obtain ⟨rfl,rfl,rfl⟩:=hG g' sz rows hrow;refine ⟨?_,fun i x hx => ?_⟩
 .simp only [World.var?,hg1,Option.bind_some] at hv;have:w.heap[g']?≠none:=by
   intro hnone;rw [hnone] at hv;simp at hv
  rw [ne_eq,Array.getElem?_eq_none_iff] at this;omega
 .obtain ⟨xs,m,_,ex,_,hl,hel⟩:=DataW.trod_array hu hd;have hi:i<bs.length:=by
   rw [XS] at hx;rcases qD i bs.length with h | h
   .exact h
   .rw [WD h] at hx;cases hx
  rw [XS,Q2 hi] at hx;obtain rfl:=Wc hx;refine ⟨rfl,fun j y hy => ?_⟩;have hj:j=0:=by
   cases j with
   |zero=>rfl
   |succ j=>cases hy
  subst hj;obtain rfl:=Wc hy;have hE:=hel i (by omega);rw [hc,Nat.mul_one,Q2 (by omega)] at hE;obtain ⟨s,e1,e2,_⟩:=DataW.trod_string hs hE;have e3:(xs.map (·.1))=bs.map fun b=>(DataW.lit (.string b):DataW Unit):=(DataW.agg.inj (Prod.mk.inj ex).1).symm;have e4:(xs.map (·.1))[i]?=(bs.map fun b=>(DataW.lit (.string b):DataW Unit))[i]?:=by rw [e3]
  rw [XS,XS,Q2 (by omega:i<xs.length),Q2 hi,e2] at e4;have e5:s.data.toList=bs[i]:=by
   simp only [Z3,Q0,DataW.lit.injEq,Lit.string.injEq] at e4;exact e4
  have e6:(⟨bs[i].toArray⟩:ByteArray)=s:=by rw [<-e5]
  refine ⟨.string s,?_,by rw [e6];exact .str s⟩;rw [Nat.mul_one,Up,World.var?_cell hg1 hv i];have h0:((cs.toList.drop i).take 1)[0]?=some (.string s):=by rw [e1];rfl
  simpa using h0
end Go.Fg

