/-
  The framework (a machine on plain data that answers as the program does), part 4.
-/
import Derived.Below
import Derived.Test.YtfklooeiipkijaaZc
set_option linter.unusedSimpArgs false
set_option linter.unusedVariables false
set_option linter.unusedSectionVars false
namespace Go.Fg
open Go.Fw
theorem G8 (a b:Nat):(a==b)=Nat.beq a b:=by rw [Bool.eq_iff_iff];simp
theorem yE {α:Type} (d:α) :∀(l:List (Nat×α)) (t:Nat),jd d l t=match l.lookup t with | some x=>x | none=>d
 | [],t=>rfl
 |(k,v)::r,t=>by
  simp only [jd,List.lookup,G8]
  cases h:Nat.beq t k with
  |true=>rfl
  |false=>exact yE d r t
theorem oK {α:Type} (d:α) (k:Nat) (v:α) :∀(l:List (Nat×α)) (t:Nat),jd d (xk k v l) t=bif Nat.beq t k then v else jd d l t
 | [],t=>rfl
 |(k',v')::r,t=>by
  simp only [xk]
  cases h:Nat.beq k k' with
  |true=>
   simp only [cond_true,jd]
   have:k=k':=Q4 h
   subst this
   cases Nat.beq t k<;>rfl
  |false=>
   simp only [cond_false,jd,oK d k v r t]
   cases h1:Nat.beq t k' with
   |true=>
    have:t=k':=Q4 h1
    subst this
    have:Nat.beq t k=false:=by
     cases h2:Nat.beq t k with
     |false=>rfl
     |true=>have:=Q4 h2;subst this;simp at h
    rw [this];rfl
   |false=>rfl
theorem pq {α β:Type} (g:α→β) (t:Nat) :∀(l:List (Nat×α)),(l.map fun p=>(p.1,g p.2)).lookup t=(l.lookup t).map g
 | []=>rfl
 |(k,v)::r=>by
  simp only [Qf,List.lookup]
  cases t==k with
  |true=>rfl
  |false=>exact pq g t r
section
variable [RE] {β:Type 1}
theorem O6 (b:Bool) (k:Bool→β):frB b k=k b:=by cases b<;>rfl
theorem abI (x:TW) (k:TW→β):frW x k=k x:=by
 cases x with
 |p a i w=>obtain ⟨t,x⟩:=w;simp only [frW,O6]
 |sp a i t x off=>simp only [frW,O6]
 |_=>rfl
theorem O7 :∀(x:List TW) (k:List TW→β),abu x k=k x
 | [],k=>rfl
 |x::xs,k=>by simp only [abu,abI,O7 xs]
theorem abJ (x:TV) (k:TV→β):frV x k=k x:=by cases x<;>simp only [frV,abI,O7]
theorem Xa :∀(x:List TV) (k:List TV→β),aez x k=k x
 | [],k=>rfl
 |x::xs,k=>by simp only [aez,abJ,Xa xs]
theorem aii (x:TS) (k:TS→β):frS x k=k x:=by cases x<;>simp only [frS,abJ,Xa]
theorem C_ :∀(t:Ty) (k:Ty→β),OV t k=k t
 |.int ik,k=>by cases ik<;>rfl
 |.bool,k=>rfl
 |.str,k=>rfl
 |.sl e,k=>by simp only [OV,C_ e]
 |.prod a b,k=>by simp only [OV,C_ a,C_ b]
 |.st n,k=>rfl
 |.opq,k=>rfl
 |.sq e,k=>by simp only [OV,C_ e]
theorem abK :∀(x:List (Nat×Ty)) (k:List (Nat×Ty)→β),frC x k=k x
 | [],k=>rfl
 |(c,t)::xs,k=>by simp only [frC,C_,abK xs]
theorem abL (x:Option (Nat×Nat×Nat)) (k:Option (Nat×Nat×Nat)→β):frH x k=k x:=by
 cases x with
 |none=>rfl
 |some p=>obtain ⟨n,c,d⟩:=p;rfl
theorem aij (x:TO) (k:TO→β):frO x k=k x:=by cases x<;>simp only [frO,O7,O6,abK,abL]
theorem Xb :∀(x:List (Nat×TS)) (k:List (Nat×TS)→β),aeA x k=k x
 | [],k=>rfl
 |(t,x)::xs,k=>by simp only [aeA,aii,Xb xs]
theorem Xc :∀(x:List (Nat×TO)) (k:List (Nat×TO)→β),aeB x k=k x
 | [],k=>rfl
 |(t,x)::xs,k=>by simp only [aeB,aij,Xc xs]
theorem O8 :∀(x:List Nat) (k:List Nat→β),Ld x k=k x
 | [],k=>rfl
 |x::xs,k=>by simp only [Ld,O8 xs]
theorem oL (q:iW) (k:iW→β):frX q k=k q:=by
 obtain ⟨⟨s,o,u⟩,ds,od⟩:=q
 simp only [frX,Xb,Xc,O8]
theorem aeJ (l:List (Nat×Nat)) (k:List (Nat×Nat)→β):aeD l k=k l:=by
 induction l generalizing k with
 |nil=>rfl
 |cons p r ih=>obtain ⟨a,b⟩:=p;simp only [aeD,ih]
theorem aik (f:tV) (k:tV→β):frF f k=k f:=by simp only [frF,O8,abL,aeJ,O6]
end
section
variable [RE]
theorem uQ (vs:List Wd) (n:Nat):cZ (vs.getD n AX)=(vs.map cZ).getD n default:=by
 simp only [List.getD_eq_getElem?_getD,XS]
 cases vs[n]?<;>rfl
theorem Dc (vs:List Wd) (n:Nat) (k:jT):(AY vs n k).2=n+k.tys.length:=by cases k<;>simp [AY,jT.tys]
def wz (vs:List Wd) (n:Nat) (ts:List Ty):Prop :=∀(k:Nat) t,ts[k]?=some t→∃w,vs[n+k]?=some w∧w.t=t
theorem wz.left {vs:List Wd} {n:Nat} {a b:List Ty} (h:wz vs n (a++b)):wz vs n a:=fun k t hk=>h k t (by rw [Zs (Q3.1 hk).1];exact hk)
theorem wz.right {vs:List Wd} {n:Nat} {a b:List Ty} (h:wz vs n (a++b)):wz vs (n+a.length) b:=fun k t hk=>by
 obtain ⟨w,h1,h2⟩:=h (a.length+k) t (by rw [Z2 (by omega)];simpa using hk)
 exact ⟨w,by rw [←h1];congr 1;omega,h2⟩
theorem wz.of {vs:List Wd} {ts:List Ty} (h:vs.map (·.t)=ts):wz vs 0 ts:=fun k t hk=>by
 rw [←h,XS,W0] at hk
 obtain ⟨w,h1,h2⟩:=hk
 exact ⟨w,by simpa using h1,h2⟩
theorem wz.get {vs:List Wd} {n k:Nat} {t:Ty} {ts:List Ty} (h:wz vs n ts) (hk:ts[k]?=some t):cZ (vs.getD (n+k) AX)=cZ ⟨t,(vs.getD (n+k) AX).as t⟩:=by
 obtain ⟨w,h1,h2⟩:=h k t hk
 have e1:vs.getD (n+k) AX=w:=by rw [List.getD_eq_getElem?_getD,h1];rfl
 rw [e1,wS h2]
theorem MN :∀(gs:List Nat),nK (Ee gs)=f_ gs
 | []=>rfl
 |g::gs=>by simp only [Ee,nK,bW,f_,MN gs]
theorem Xd {vs:List Wd} {n:Nat} {k:jT} (h:wz vs n k.tys):qo (vs.map cZ) n k.er=(bW (AY vs n k).1,(AY vs n k).2):=by
 cases k with
 |vw g=>
  have h0:=h.get (k:=0) (t:=.int .i64) rfl
  have h1:=h.get (k:=1) (t:=.int .i64) rfl
  simp only [jT.er,qo,AY,bW,←uQ]
  rw [WK] at h0
  rw [h0,h1];rfl
 |ep g off=>
  have h0:=h.get (k:=0) (t:=.int .i64) rfl
  simp only [jT.er,qo,AY,bW,←uQ]
  rw [WK] at h0
  rw [h0];rfl
 |fn f gs=>simp only [jT.er,qo,AY,bW,MN]
 |_=>simp only [jT.er,qo,AY,bW,nK,uQ]
theorem En (vs:List Wd) :∀(n:Nat) (ks:List jT),(uP vs n ks).2=n+(ks.flatMap jT.tys).length
 |n,[]=>rfl
 |n,k::ks=>by simp only [uP,En vs,Dc,ZS,Z0];omega
theorem Jw {vs:List Wd} :∀{n:Nat} {ks:List jT},wz vs n (ks.flatMap jT.tys)→kN (vs.map cZ) n (ks.map jT.er)=((uP vs n ks).1.map bW,(uP vs n ks).2)
 |n,[],_=>rfl
 |n,k::ks,h=>by
  rw [ZS] at h
  have h2:=h.right
  simp only [Qf,kN,uP,Xd h.left,Dc]
  rw [Jw h2]
theorem Df (vs:List Wd) (n:Nat) (k:lH):(GL vs n k).2=n+k.tys.length:=by
 cases k<;>simp only [GL,lH.tys,Dc,En]
theorem aeK {vs:List Wd} {n:Nat} {k:lH} (h:wz vs n k.tys):mkS (vs.map cZ) n k.er=(bn (GL vs n k).1,(GL vs n k).2):=by
 cases k with
 |one k=>simp only [lH.er,mkS,GL,bn,jD,Xd h]
 |agg ks=>simp only [lH.er,mkS,GL,bn,jD,Jw h]
theorem FM {vs:List Wd} :∀{n:Nat} {l:List (Nat×lH)},wz vs n (l.flatMap fun p=>p.2.tys)→dB (vs.map cZ) n (l.map fun p=>(p.1,p.2.er))=((fV vs n l).1.map fun p=>(p.1,bn p.2),(fV vs n l).2)
 |n,[],_=>rfl
 |n,(t,k)::l,h=>by
  rw [ZS] at h
  have h2:=h.right
  simp only [Qf,dB,fV,aeK h.left,Df]
  rw [FM h2]
theorem wB (vs:List Wd) :∀(n:Nat) (l:List (Nat×lH)),(fV vs n l).2=n+(l.flatMap fun p=>p.2.tys).length
 |n,[]=>rfl
 |n,(t,k)::l=>by simp only [fV,wB vs,Df,ZS,Z0];omega
theorem aeL {vs:List Wd} {n:Nat} {k:iD} (h:wz vs n k.tys):uq (vs.map cZ) n k.er=(dY (Eh vs n k).1,(Eh vs n k).2):=by
 cases k with
 |box ws=>simp only [iD.er,uq,Eh,dY,Jw h]
 |arr fz a i e=>
  obtain ⟨w,h1,h2⟩:=h 0 (.sl e) rfl
  have e1:(vs.getD n AX)=w:=by simp only [List.getD_eq_getElem?_getD];rw [show vs[n]?=some w from h1];rfl
  simp only [iD.er,uq,Eh,dY,←uQ,e1]
  have e2:=wS h2
  have e3:(cZ w).list=aN e (w.as (.sl e)):=by
   conv=>lhs;rw [←e2]
   exact lq e _
  rw [e3]
 |it=>
  obtain ⟨w1,h1,h2⟩:=h 0 .str rfl
  obtain ⟨w2,h3,h4⟩:=h 1 (.int .i64) rfl
  have e1:(vs.getD n AX)=w1:=by simp only [List.getD_eq_getElem?_getD];rw [show vs[n]?=some w1 from h1];rfl
  have e2:(vs.getD (n+1) AX)=w2:=by simp only [List.getD_eq_getElem?_getD];rw [show vs[n+1]?=some w2 from h3];rfl
  simp only [iD.er,uq,Eh,dY,←uQ,e1,e2]
  have a1:=wS h2
  have a2:=wS h4
  conv=>lhs;rw [←a1,←a2]
  rfl
 |aP a i e au=>
  obtain ⟨w,h1,h2⟩:=h 0 (.sl e) rfl
  have e1:(vs.getD n AX)=w:=by simp only [List.getD_eq_getElem?_getD];rw [show vs[n]?=some w from h1];rfl
  simp only [iD.er,uq,Eh,dY,←uQ,e1]
  have e2:=wS h2
  have e3:(cZ w).list=aN e (w.as (.sl e)):=by
   conv=>lhs;rw [←e2]
   exact lq e _
  rw [e3]
theorem Jy (vs:List Wd) (n:Nat) (k:iD):(Eh vs n k).2=n+k.tys.length:=by cases k<;>simp only [Eh,iD.tys,En]<;>rfl
theorem Jz {vs:List Wd} :∀{n:Nat} {l:List (Nat×iD)},wz vs n (l.flatMap fun p=>p.2.tys)→gq (vs.map cZ) n (l.map fun p=>(p.1,p.2.er))=((jG vs n l).1.map fun p=>(p.1,dY p.2),(jG vs n l).2)
 |n,[],_=>rfl
 |n,(g,k)::l,h=>by
  rw [ZS] at h
  simp only [Qf,gq,jG,aeL h.left,Jy]
  rw [Jz h.right]
theorem qW {j:OT} {vs:List Wd} (h:vs.map (·.t)=j.tys):aU (mkT j vs)=mk j.er (vs.map cZ):=by
 have hs:=FM (vs:=vs) (n:=0) (l:=j.slots) (by
  have:=(wz.of h)
  unfold OT.tys at this
  exact this.left)
 have h2:wz vs (fV vs 0 j.slots).2 (j.bf.flatMap fun p=>p.2.tys):=by
  have:=(wz.of h)
  unfold OT.tys at this
  have:=this.right
  rw [wB];exact this
 have ho:=Jz h2
 have e1:(dB (vs.map cZ) 0 j.er.slots)=_:=hs
 have e2:gq (vs.map cZ) (fV vs 0 j.slots).2 j.er.bf=_:=ho
 unfold Fw.mk
 rw [e1]
 simp only [e2]
 refine St.ext' (fun t => ?_) (fun g => ?_) fun g => ?_
 ·simp only [aU,jw.gs,mkT,yE,pq]
  cases (fV vs 0 j.slots).1.lookup t<;>rfl
 ·simp only [aU,jw.go,mkT,yE,pq]
  cases (jG vs (fV vs 0 j.slots).2 j.bf).1.lookup g<;>rfl
 ·simp only [aU,mkT,bT,Shape.nms,OT.er,V1];rfl
variable {m:Ren}
theorem Dh {a:Bool} {α:Type} {x y:α} (h:(bif a then some x else none)=some y):a=true∧x=y:=by
 cases a
 ·cases h
 ·exact ⟨rfl,by simpa using h⟩
theorem JA :∀{gs:List Nat} {caps:List TW},G6 m gs caps=tC m gs (nK caps)
 | [],[]=>rfl
 | [],c::cs=>by cases c<;>rfl
 |g::gs,[]=>rfl
 |g::gs,c::cs=>by
  cases c<;>first | (simp only [G6,nK,bW,tC,JA (gs:=gs) (caps:=cs)];done) | rfl
theorem Xe {k:jT} {x:TW} {us:List Wd} (h:Ef m k x=some us):KG m k.er (bW x)=some (us.map cZ)∧us.map (·.t)=k.tys:=by
 cases k<;>cases x<;>try simp only [Ef,reduceCtorEq] at h
 case p.p a i t a' i' w=>
  split at h
  ·rename_i z hz
   obtain ⟨h1,rfl⟩:=Dh h
   have hc:((imp a' a&&imp i' i)||(cZ w).flat)=true:=by
    simp only [UX] at h1 ⊢
    exact h1.imp id YZ
   refine ⟨?_,by simp [jT.tys,ahY hz]⟩
   show (if ((imp a' a&&imp i' i)||(cZ w).flat)=true then some [cZ w] else none)=_
   rw [if_pos hc];rfl
  ·cases h
 case p.cO a i t=>
  split at h
  ·simp only [Q0] at h;subst h;exact ⟨rfl,rfl⟩
  ·cases h
 case cO.cO=>simp only [Q0] at h;subst h;exact ⟨rfl,rfl⟩
 case own.own g g'=>
  split at h
  ·rename_i hc
   simp only [Q0] at h;subst h
   refine ⟨?_,rfl⟩
   show (if m.lookup g=some (some g') then some [] else none)=_
   rw [if_pos hc];rfl
  ·cases h
 case own.cO g=>
  split at h
  ·rename_i hc
   simp only [Q0] at h;subst h
   refine ⟨?_,rfl⟩
   show (if m.lookup g=some none then some [] else none)=_
   rw [if_pos hc];rfl
  ·cases h
 case box.box g off g' off'=>
  split at h
  ·rename_i hc
   simp only [Q0] at h;subst h
   refine ⟨?_,rfl⟩
   show (if m.lookup g=some (some g')∧off=off' then some [] else none)=_
   rw [if_pos hc];rfl
  ·cases h
 case fn.clo f gs f' caps=>
  obtain ⟨hc,rfl⟩:=Dh h
  simp only [Q6] at hc
  refine ⟨?_,rfl⟩
  show (if f=f'∧tC m gs (nK caps)=true then some [] else none)=_
  rw [if_pos ⟨Q4 hc.1,by rw [←JA];exact hc.2⟩];rfl
 case m_.m_ g g'=>
  split at h
  ·rename_i hc
   simp only [Q0] at h;subst h
   refine ⟨?_,rfl⟩
   show (if m.lookup g=some (some g') then some [] else none)=_
   rw [if_pos hc];rfl
  ·cases h
 case vw.vw g g' lo hi=>
  split at h
  ·rename_i hc
   simp only [Q0] at h;subst h
   refine ⟨?_,rfl⟩
   show (if m.lookup g=some (some g') then some [P.int .i64 lo,P.int .i64 hi] else none)=_
   rw [if_pos hc];rfl
  ·cases h
 case ep.ep g off g' n off'=>
  split at h
  ·rename_i hc
   simp only [Q0] at h;subst h
   refine ⟨?_,rfl⟩
   show (if m.lookup g=some (some g')∧off=off' then some [P.int .i64 n] else none)=_
   rw [if_pos hc];rfl
  ·cases h
 all_goals (simp only [Q0] at h;subst h;exact ⟨rfl,rfl⟩)
theorem JB :∀{ks:List jT} {xs:List TW} {us:List Wd},yx m ks xs=some us→KR m (ks.map jT.er) (xs.map bW)=some (us.map cZ)∧us.map (·.t)=ks.flatMap jT.tys
 | [],[],us,h=>by simp only [yx,Q0] at h;subst h;exact ⟨rfl,rfl⟩
 | [],x::xs,us,h=>by simp [yx] at h
 |k::ks,[],us,h=>by simp [yx] at h
 |k::ks,x::xs,us,h=>by
  simp only [yx] at h
  split at h
  ·rename_i u v h1 h2
   simp only [Q0] at h;subst h
   obtain ⟨a1,a2⟩:=Xe h1
   obtain ⟨b1,b2⟩:=JB h2
   exact ⟨by simp only [Qf,KR,a1,b1,Z1],by simp only [Z1,a2,b2,ZS]⟩
  ·cases h
theorem Xf {k:lH} {x:TS} {us:List Wd} (h:aey m k x=some us):coS m k.er (bn x)=some (us.map cZ)∧us.map (·.t)=k.tys:=by
 unfold aey at h
 split at h
 ·exact Xe h
 ·exact JB h
 ·cases h
theorem Xg {k:iD} {x:TO} {us:List Wd} (h:U_ m k x=some us):Z5 m k.er (dY x)=some (us.map cZ)∧us.map (·.t)=k.tys:=by
 unfold U_ at h
 split at h
 ·exact JB h
 ·rename_i fz a i e fz' a' i' e' l
  split at h
  ·rename_i l' hl
   split at h
   ·rename_i hc
    simp only [Q0] at h;subst h
    obtain ⟨ee,hl⟩:=oI hl
    cases ee
    subst hl
    refine ⟨?_,rfl⟩
    show (if fz=fz'∧size e=size e∧(imp a' a&&imp i' i)=true then some [P.fF (size e) (aN e _)] else none)=_
    rw [if_pos ⟨hc.1,rfl,hc.2⟩];rfl
   ·cases h
  ·cases h
 ·simp only [Q0] at h;subst h;exact ⟨rfl,rfl⟩
 ·rename_i a i e au a' i' e' jX l hole
  split at h
  ·rename_i l' hl hcb
   split at h
   ·rename_i hc
    simp only [Q0] at h;subst h
    obtain ⟨ee,hl⟩:=oI hl
    cases ee
    subst hl
    have:=oJ hcb
    subst this
    refine ⟨?_,rfl⟩
    show (if size e=size e∧iI au=iI au∧(imp a' a&&imp i' i)=true then some [P.fF (size e) (aN e _)] else none)=_
    rw [if_pos ⟨rfl,rfl,hc⟩];rfl
   ·cases h
  ·cases h
 ·cases h
theorem FN {st:jw} :∀{l:List (Nat×lH)} {us:List Wd},nP m st.gs l=some us→rY m (aU st).s (l.map fun p=>(p.1,p.2.er))=some (us.map cZ)∧us.map (·.t)=l.flatMap fun p=>p.2.tys
 | [],us,h=>by simp only [nP,Q0] at h;subst h;exact ⟨rfl,rfl⟩
 |(t,k)::l,us,h=>by
  simp only [nP] at h
  split at h
  ·rename_i u v h1 h2
   simp only [Q0] at h;subst h
   obtain ⟨a1,a2⟩:=Xf h1
   obtain ⟨b1,b2⟩:=FN h2
   refine ⟨?_,by simp only [Z1,a2,b2,ZS]⟩
   have a1:coS m k.er ((aU st).s t)=_:=a1
   simp only [Qf,rY,a1,b1,Z1]
  ·cases h
theorem JC {st:jw} :∀{l:List (Nat×iD)} {us:List Wd},qh m st.go l=some us→vO m (aU st).o (l.map fun p=>(p.1,p.2.er))=some (us.map cZ)∧us.map (·.t)=l.flatMap fun p=>p.2.tys
 | [],us,h=>by simp only [qh,Q0] at h;subst h;exact ⟨rfl,rfl⟩
 |(g',k)::l,us,h=>by
  simp only [qh] at h
  split at h
  ·rename_i u v h1 h2
   simp only [Q0] at h;subst h
   obtain ⟨b1,b2⟩:=JC h2
   cases hg:m.lookup g' with
   |none=>rw [hg] at h1;cases h1
   |some og=>
    rw [hg] at h1
    cases og with
    |some g=>
     obtain ⟨a1,a2⟩:=Xg h1
     have a1:Z5 m k.er ((aU st).o g)=_:=a1
     refine ⟨?_,by simp only [Z1,a2,b2,ZS]⟩
     simp only [Qf,vO,hg,a1,b1,Z1]
    |none=>
     simp only at h1
     split at h1
     ·simp only [Q0] at h1;subst h1
      refine ⟨?_,by simp only [Z1,b2,ZS];rfl⟩
      simp only [Qf,vO,hg,b1,Z1];rfl
     ·simp only [Q0] at h1;subst h1
      refine ⟨?_,by simp only [Z1,b2,ZS];rfl⟩
      simp only [Qf,vO,hg,b1,Z1];rfl
     ·cases h1
  ·cases h
theorem Ba {j:OT} {st:jw} {vs:List Wd} (h:zo j m st=some vs):coerce j.er m (aU st)=some (vs.map cZ)∧vs.map (·.t)=j.tys:=by
 unfold zo at h
 split at h
 ·rename_i hok
  split at h
  ·rename_i u v h1 h2
   simp only [Q0] at h;subst h
   obtain ⟨a1,a2⟩:=FN h1
   obtain ⟨b1,b2⟩:=JC h2
   refine ⟨?_,by simp only [Z1,a2,b2,OT.tys]⟩
   unfold coerce
   rw [if_pos hok]
   show (match rY m (aU st).s (j.slots.map fun p=>(p.1,p.2.er)),vO m (aU st).o (j.bf.map fun p=>(p.1,p.2.er)) with | some u,some v=>some (u++v) | _,_=>none)=_
   rw [a1,b1,Z1]
  ·cases h
 ·cases h
end
end Go.Fg

namespace Go.Fg
open Go.Fw
section
variable [RE] {o:Nat→TO}
theorem yF :∀{gs:List Nat} {caps:List TW} {r:List (Nat×Nat)},o9 gs caps=some r→nH gs (nK caps)=some r
 | [],[],r,h=>h
 | [],_::_,r,h=>by simp [o9] at h
 |_::_,[],r,h=>by simp [o9] at h
 |g::gs,c::cs,r,h=>by
  cases c with
  |box g' off=>
   simp only [o9] at h
   obtain ⟨hb,h⟩:=bQ h
   have hb:=Q4 hb
   subst hb
   split at h
   ·rename_i r' hr
    simp only [nK,bW,nH,yF hr]
    exact h
   ·cases h
  |_=>simp [o9] at h
theorem RI {k:jT} {x:TW} {us:List Wd} {c:Bool×Bool} {gs:List Nat} {r:List (Nat×Nat)} (h:MI o k x=some (us,c,gs,r)) :
  fG (bY o) k.er (bW x)=some (us.map cZ,c,gs,r)∧us.map (·.t)=k.tys:=by
 unfold MI at h
 split at h
 ·rename_i a i t x
  split at h
  ·rename_i y a' i' gs' hx
   simp only [Q0,Q1] at h
   obtain ⟨rfl,rfl,rfl,rfl⟩:=h
   exact ⟨by simp only [jT.er,fG,OE hx,Qf,Uv],rfl⟩
  ·cases h
 ·simp only [Q0,Q1] at h
  obtain ⟨rfl,rfl,rfl,rfl⟩:=h
  exact ⟨rfl,rfl⟩
 ·rename_i g' off' g off
  obtain ⟨hb,h⟩:=bQ h
  simp only [Q0,Q1] at h
  obtain ⟨rfl,rfl,rfl,rfl⟩:=h
  obtain ⟨h1,h2⟩:=gQ hb
  have h1:=Q4 h1
  have h2:=Q4 h2
  subst h1;subst h2
  exact ⟨rfl,rfl⟩
 ·rename_i f gs0 f' caps
  obtain ⟨hb,h⟩:=bQ h
  split at h
  ·rename_i r' hr
   simp only [Q0,Q1] at h
   obtain ⟨rfl,rfl,rfl,rfl⟩:=h
   refine ⟨?_,rfl⟩
   simp only [jT.er,bW,fG,yF hr]
   rw [if_pos (Q4 hb)];rfl
  ·cases h
 ·cases h
theorem MO :∀{ks:List jT} {xs:List TW} {us:List Wd} {c:Bool×Bool} {gs:List Nat} {r:List (Nat×Nat)},pR o ks xs=some (us,c,gs,r)→
  jB (bY o) (ks.map jT.er) (xs.map bW)=some (us.map cZ,c,gs,r)∧us.map (·.t)=ks.flatMap jT.tys
 | [],[],us,c,gs,r,h=>by
  simp only [pR,Q0,Q1] at h
  obtain ⟨rfl,rfl,rfl,rfl⟩:=h
  exact ⟨rfl,rfl⟩
 | [],x::xs,us,c,gs,r,h=>by simp [pR] at h
 |k::ks,[],us,c,gs,r,h=>by simp [pR] at h
 |k::ks,x::xs,us,c,gs,r,h=>by
  simp only [pR] at h
  split at h
  ·rename_i h1 h2
   simp only [Q0,Q1] at h
   obtain ⟨rfl,rfl,rfl,rfl⟩:=h
   obtain ⟨a1,a2⟩:=RI h1
   obtain ⟨b1,b2⟩:=MO h2
   exact ⟨by simp only [Qf,jB,a1,b1,Z1],by simp only [Z1,a2,b2,ZS]⟩
  ·cases h
theorem abM {k:lH} {x:TS} {us:List Wd} {c:Bool×Bool} {gs:List Nat} {r:List (Nat×Nat)} (h:WT o k x=some (us,c,gs,r)) :
  n_ (bY o) k.er (bn x)=some (us.map cZ,c,gs,r)∧us.map (·.t)=k.tys:=by
 unfold WT at h
 split at h
 ·exact RI h
 ·exact MO h
 ·cases h
theorem MP (args:List TS) (t:Nat):(args.map bn).getD t .no=bn (args.getD t .no):=by
 simp only [List.getD_eq_getElem?_getD,XS]
 cases args[t]?<;>rfl
theorem Di {args:List TS} :∀{l:List (Nat×lH)} {us:List Wd} {c:Bool×Bool} {gs:List Nat} {r:List (Nat×Nat)},mW o args l=some (us,c,gs,r)→
  eH (bY o) (args.map bn) (l.map fun p=>(p.1,p.2.er))=some (us.map cZ,c,gs,r)∧us.map (·.t)=l.flatMap fun p=>p.2.tys
 | [],us,c,gs,r,h=>by
  simp only [mW,Q0,Q1] at h
  obtain ⟨rfl,rfl,rfl,rfl⟩:=h
  exact ⟨rfl,rfl⟩
 |(t,k)::l,us,c,gs,r,h=>by
  simp only [mW] at h
  split at h
  ·rename_i h1 h2
   simp only [Q0,Q1] at h
   obtain ⟨rfl,rfl,rfl,rfl⟩:=h
   obtain ⟨a1,a2⟩:=abM h1
   obtain ⟨b1,b2⟩:=Di h2
   rw [←MP] at a1
   exact ⟨by simp only [Qf,eH,a1,b1,Z1],by simp only [Z1,a2,b2,ZS]⟩
  ·cases h
theorem aeM {k:jT} {x:TW} {us:List Wd} {c:Bool×Bool} {r:List (Nat×Nat)} (h:ah8 k x=some (us,c,r)):T_ k.er (bW x)=some (us.map cZ,c,r)∧us.map (·.t)=k.tys:=by
 unfold ah8 at h
 split at h
 ·rename_i a' i' t a i w
  split at h
  ·rename_i y hy
   simp only [Q0,Q1] at h
   obtain ⟨rfl,rfl,rfl⟩:=h
   rw [gU hy]
   exact ⟨rfl,rfl⟩
  ·cases h
 ·split at h
  ·simp only [Q0,Q1] at h
   obtain ⟨rfl,rfl,rfl⟩:=h
   exact ⟨rfl,rfl⟩
  ·cases h
 ·simp only [Q0,Q1] at h
  obtain ⟨rfl,rfl,rfl⟩:=h
  exact ⟨rfl,rfl⟩
 ·rename_i g' off' g off
  obtain ⟨hb,h⟩:=bQ h
  simp only [Q6] at hb
  have e1:=Q4 hb.1
  have e2:=Q4 hb.2
  subst e1
  subst e2
  injection h with h
  injection h with h1 h
  injection h with h2 h3
  subst h1 h2 h3
  exact ⟨rfl,rfl⟩
 ·rename_i f gs0 f' caps
  obtain ⟨hb,h⟩:=bQ h
  split at h
  ·rename_i r' hr
   simp only [Q0,Q1] at h
   obtain ⟨rfl,rfl,rfl⟩:=h
   refine ⟨?_,rfl⟩
   simp only [jT.er,bW,T_,yF hr]
   rw [if_pos (Q4 hb)];rfl
  ·cases h
 ·cases h
theorem RJ :∀{ks:List jT} {xs:List TW} {us:List Wd} {c:Bool×Bool} {r:List (Nat×Nat)},Jo ks xs=some (us,c,r)→
  Og (ks.map jT.er) (xs.map bW)=some (us.map cZ,c,r)∧us.map (·.t)=ks.flatMap jT.tys
 | [],[],us,c,r,h=>by
  simp only [Jo,Q0,Q1] at h
  obtain ⟨rfl,rfl,rfl⟩:=h
  exact ⟨rfl,rfl⟩
 | [],x::xs,us,c,r,h=>by simp [Jo] at h
 |k::ks,[],us,c,r,h=>by simp [Jo] at h
 |k::ks,x::xs,us,c,r,h=>by
  simp only [Jo] at h
  split at h
  ·rename_i h1 h2
   simp only [Q0,Q1] at h
   obtain ⟨rfl,rfl,rfl⟩:=h
   obtain ⟨a1,a2⟩:=aeM h1
   obtain ⟨b1,b2⟩:=RJ h2
   exact ⟨by simp only [Qf,Og,a1,b1,Z1],by simp only [Z1,a2,b2,ZS]⟩
  ·cases h
theorem wC :∀{l:List (Nat×iD)} {ren ren':List (Nat×Nat)} {us:List Wd} {c:Bool×Bool},vZ o ren l=some (us,c,ren')→
  jv (bY o) ren (l.map fun p=>(p.1,p.2.er))=some (us.map cZ,c,ren')∧us.map (·.t)=l.flatMap fun p=>p.2.tys
 | [],ren,ren',us,c,h=>by
  simp only [vZ,Q0,Q1] at h
  obtain ⟨rfl,rfl,rfl⟩:=h
  exact ⟨rfl,rfl⟩
 |(g',k)::l,ren,ren',us,c,h=>by
  simp only [vZ] at h
  split at h
  ·rename_i g hg
   split at h
   ·rename_i ks ws hog
    split at h
    ·rename_i u c1 r1 h1
     split at h
     ·rename_i u' c2 r2 h2
      simp only [Q0,Q1] at h
      obtain ⟨rfl,rfl,rfl⟩:=h
      obtain ⟨a1,a2⟩:=RJ h1
      obtain ⟨b1,b2⟩:=wC h2
      have hk:(iD.box ks).er=.box (ks.map jT.er):=rfl
      exact ⟨by simp only [Qf,jv,hg,hk,oG hog,a1,b1,Z1],by simp only [Z1,a2,b2,ZS];rfl⟩
     ·cases h
    ·cases h
   ·rename_i fz a0 i0 e a i e' l' hog
    split at h
    ·rename_i l2 hl
     split at h
     ·rename_i u' c2 r2 h2
      simp only [Q0,Q1] at h
      obtain ⟨rfl,rfl,rfl⟩:=h
      obtain ⟨b1,b2⟩:=wC h2
      obtain ⟨ee,hl⟩:=oI hl
      cases ee
      subst hl
      refine ⟨?_,by simp only [Qf,b2,ZS];rfl⟩
      have hk:(iD.arr fz a0 i0 e).er=.arr fz a0 i0 (size e):=rfl
      simp only [Qf,jv,hg,hk,gY hog,if_true,b1]
      rfl
     ·cases h
    ·cases h
   ·rename_i a0 i0 e au a i e' jX l' hole hog
    split at h
    ·rename_i l2 hl hcb
     split at h
     ·rename_i u' c2 r2 h2
      simp only [Q0,Q1] at h
      obtain ⟨rfl,rfl,rfl⟩:=h
      obtain ⟨b1,b2⟩:=wC h2
      obtain ⟨ee,hl⟩:=oI hl
      cases ee
      subst hl
      have:=oJ hcb
      subst this
      refine ⟨?_,by simp only [Qf,b2,ZS];rfl⟩
      have hk:(iD.aP a0 i0 e au).er=.aP a0 i0 (size e) (iI au):=rfl
      have hg':bY o g=.aP a i (size e) (iI au) (aN e l2) none:=by simp only [bY,hog,dY]
      simp only [Qf,jv,hg,hk,hg',and_self,if_true,b1]
      rfl
     ·cases h
    ·cases h
   ·cases h
  ·cases h
theorem Xh {k:jT} {x:TW} {us:List Wd} {c:Bool×Bool} {gs:List Nat} {r:List (Nat×Nat)} (h:MI o k x=some (us,c,gs,r)):Pl o gs:=by
 unfold MI at h
 split at h
 ·split at h
  ·rename_i hx
   simp only [Q0,Q1] at h
   obtain ⟨_,_,rfl,_⟩:=h
   exact UW hx
  ·cases h
 ·simp only [Q0,Q1] at h
  obtain ⟨_,_,rfl,_⟩:=h;exact Pl.nil
 ·obtain ⟨hb,h⟩:=bQ h
  simp only [Q0,Q1] at h
  obtain ⟨_,_,rfl,_⟩:=h;exact Pl.nil
 ·obtain ⟨hb,h⟩:=bQ h
  split at h
  ·simp only [Q0,Q1] at h
   obtain ⟨_,_,rfl,_⟩:=h;exact Pl.nil
  ·cases h
 ·cases h
theorem RN :∀{ks:List jT} {xs:List TW} {us:List Wd} {c:Bool×Bool} {gs:List Nat} {r:List (Nat×Nat)},pR o ks xs=some (us,c,gs,r)→Pl o gs
 | [],[],us,c,gs,r,h=>by
  simp only [pR,Q0,Q1] at h
  obtain ⟨_,_,rfl,_⟩:=h;exact Pl.nil
 | [],x::xs,us,c,gs,r,h=>by simp [pR] at h
 |k::ks,[],us,c,gs,r,h=>by simp [pR] at h
 |k::ks,x::xs,us,c,gs,r,h=>by
  simp only [pR] at h
  split at h
  ·rename_i h1 h2
   simp only [Q0,Q1] at h
   obtain ⟨_,_,rfl,_⟩:=h
   exact (Xh h1).append (RN h2)
  ·cases h
theorem FP {args:List TS} :∀{l:List (Nat×lH)} {us:List Wd} {c:Bool×Bool} {gs:List Nat} {r:List (Nat×Nat)},mW o args l=some (us,c,gs,r)→Pl o gs
 | [],us,c,gs,r,h=>by
  simp only [mW,Q0,Q1] at h
  obtain ⟨_,_,rfl,_⟩:=h;exact Pl.nil
 |(t,k)::l,us,c,gs,r,h=>by
  simp only [mW] at h
  split at h
  ·rename_i h1 h2
   simp only [Q0,Q1] at h
   obtain ⟨_,_,rfl,_⟩:=h
   refine Pl.append ?_ (FP h2)
   unfold WT at h1
   split at h1
   ·exact Xh h1
   ·exact RN h1
   ·cases h1
  ·cases h
theorem MQ {s:dD} {args:List TS} {c:GN} (h:wo s o args=some c):Pl o c.vg:=by
 unfold wo at h
 split at h
 ·rename_i h1
  split at h
  ·simp only [Q0] at h;subst h
   exact FP h1
  ·cases h
 ·cases h
theorem Bc {s:dD} {args:List TS} {c:GN} (h:wo s o args=some c):gX s.er (bY o) (args.map bn)=some c.er∧c.ins.map (·.t)=s.pin.tys:=by
 unfold wo at h
 split at h
 ·rename_i u A gs r h1
  split at h
  ·rename_i u' I r' h2
   simp only [Q0] at h;subst h
   obtain ⟨a1,a2⟩:=Di h1
   obtain ⟨b1,b2⟩:=wC h2
   refine ⟨?_,by simp only [Z1,a2,b2,OT.tys]⟩
   unfold gX
   have a1:eH (bY o) (args.map bn) s.er.pin.slots=_:=a1
   have b1:jv (bY o) r s.er.pin.bf=_:=b1
   rw [a1]
   simp only
   rw [b1]
   simp only [GN.er,Z1]
  ·cases h
 ·cases h
theorem FQ (f:Nat→Nat) :∀(caps:List TW),nK (yB f caps)=kF f (nK caps)
 | []=>rfl
 |c::cs=>by cases c<;>simp only [yB,nK,bW,kF,FQ f cs]
theorem Xi (A I:Bool×Bool) (f:Nat→Nat) (x:TW):bW (Za A I f x)=Ua A I f (bW x):=by cases x<;>simp only [Za,bW,Ua,FQ]
theorem RP (A I:Bool×Bool) (f:Nat→Nat) (xs:List TW):(xs.map (Za A I f)).map bW=(xs.map bW).map (Ua A I f):=by
 simp only [V1];exact W8 fun x _=>Xi A I f x
theorem aeN (A I:Bool×Bool) (f:Nat→Nat) (x:TV):jD (ah9 A I f x)=reV A I f (jD x):=by
 cases x<;>simp only [ah9,jD,reV,Xi,RP]
theorem aeO (A I:Bool×Bool) (f:Nat→Nat) (x:TS):jD (abq A I f x)=Wp A I f (bn x):=by
 cases x with
 |v x=>exact aeN A I f x
 |lG xs=>simp only [abq,bn,Wp,jD,bW]
 |no=>simp only [abq,bn,Wp,jD,bW]
theorem O9 (A I:Bool×Bool) (f:Nat→Nat) (x:TO):dY (OU A I f x)=xg A I f (dY x):=by
 cases x<;>simp only [OU,dY,xg,RP]
theorem abN (vs:List TV):bn (abr vs)=YB (vs.map jD):=by
 match vs with
 | []=>rfl
 | [x]=>rfl
 |x::y::vs=>rfl
theorem Xj {α β:Type} (g:α→β) (b:Bool) (x y:α):g (bif b then x else y)=if b=true then g x else g y:=by cases b<;>rfl
theorem FT {s:dD} {d:Nat} {c:GN} {bZ:List Wd} (h:bZ.map (·.t)=s.aS.tys) (hpl:Pl o c.vg):(jZ s d o c bZ).er=iC s.er d (bY o) c.er (bZ.map cZ):=by
 have hm:=qW h
 have hs :∀k,bn ((mkT s.aS bZ).gs k)=(mk s.aS.er (bZ.map cZ)).s k:=fun k=>by rw [←hm];rfl
 have ho :∀k,dY ((mkT s.aS bZ).go k)=(mk s.aS.er (bZ.map cZ)).o k:=fun k=>by rw [←hm];rfl
 have e1:s.er.aS=s.aS.er:=rfl
 have e2:s.er.bg=s.bg:=rfl
 have e3:s.er.aX=s.aX:=rfl
 have e4:s.er.dA=s.dA:=rfl
 have c1:c.er.A=c.A:=rfl
 have c2:c.er.I=c.I:=rfl
 have c3:c.er.vg=c.vg:=rfl
 have c4:c.er.ren=c.ren:=rfl
 unfold jZ iC jO.er
 rw [e1,e2,e3,e4,c1,c2,c3,c4]
 generalize mk s.aS.er (bZ.map cZ)=M at hs ho
 generalize mkT s.aS bZ=X at hs ho
 generalize s.er.lV=L
 have k1:bn (abr ((List.range s.dA).map fun k=>abq c.A c.I (callName d s.er c.ren) (X.gs k)))=YB ((List.range s.dA).map fun k=>Wp c.A c.I (callName d s.er c.ren) (M.s k)):=by
  rw [abN,V1]
  congr 1
  refine W8 fun k _ => ?_
  simp only [Function.comp,aeO,hs]
 have k2:iF (bif L then c.vg.map (lu o) else [])=if L=true then c.vg.map (Fw.aV (bY o)) else []:=by
  rw [Xj iF,o8 hpl];rfl
 have k3:iF (c.ren.map fun p=>(p.2,bif s.bg.contains p.1 then OU c.A c.I (callName d s.er c.ren) (X.go p.1) else .none))=c.ren.map fun p=>(p.2,if s.bg.contains p.1=true then xg c.A c.I (callName d s.er c.ren) (M.o p.1) else .none):=by
  simp only [iF,V1]
  refine W8 fun p _ => ?_
  simp only [Function.comp,Xj dY,O9,ho]
  rfl
 have k4:iF (s.aX.map fun g=>(callName d s.er c.ren g,OU c.A c.I (callName d s.er c.ren) (X.go g)))=s.aX.map fun g=>(callName d s.er c.ren g,xg c.A c.I (callName d s.er c.ren) (M.o g)):=by
  simp only [iF,V1]
  refine W8 fun p _ => ?_
  simp only [Function.comp,O9,ho]
 simp only [kT,k1,k2,k3,k4]
theorem zu (ts:List Ty) :∀{ws:List Wd} {x:Tup ts},Tup.ofL ts ws=some x→Tup.lX ts x=ws:=by
 induction ts with
 |nil=>
  intro ws x h
  cases ws with
  |nil=>rfl
  |cons w ws=>cases h
 |cons t ts ih=>
  cases ts with
  |nil=>
   intro ws x h
   cases ws with
   |nil=>cases h
   |cons w ws=>
    cases ws with
    |nil=>
     have h:w.BJ t=some x:=h
     rw [gU h];rfl
    |cons u ws=>cases h
  |cons u ts=>
   intro ws x h
   cases ws with
   |nil=>cases h
   |cons w ws=>
    have h:(match w.BJ t,Tup.ofL (u::ts) ws with | some x,some xs=>some (x,xs) | _,_=>none)=some x:=h
    split at h
    ·rename_i y ys h1 h2
     cases h
     show (⟨t,y⟩:Wd)::Tup.lX (u::ts) ys=w::ws
     rw [ih h2,gU h1]
    ·cases h
theorem qX :∀(ts:List Ty) (x:Tup ts),(Tup.lX ts x).map (·.t)=ts
 | [],x=>rfl
 | [t],x=>rfl
 |t::u::ts,x=>by simp only [Tup.lX,Qf,qX (u::ts)]
def aZ.er (s:aZ):Fw.Spec:={ sig:=s.sig.er,R:=fun ins bZ =>∃x y,s.ff x=some y∧ins=(Tup.lX s.sig.pin.tys x).map cZ∧bZ=(Tup.lX s.sig.aS.tys y).map cZ }
theorem RQ {A R:Type} {x y:A} {r:Option R} {z:R} (h:yA x y r=some z):x=y∧r=some z:=by
 unfold yA at h
 split at h
 ·rename_i e;exact ⟨e,h⟩
 ·cases h
theorem Bf {R:Type} {a b:Nat→TO} {r z:R} :∀{gs:List Nat},Jm a b r gs=some z→r=z∧∀g∈gs,rZ (dY (b g))=rZ (dY (a g))
 | [],h=>by simp only [Jm,Q0] at h;exact ⟨h,fun g hg=>by cases hg⟩
 |g::gs,h=>by
  simp only [Jm] at h
  split at h
  ·rename_i e l _ _ e' l' h1 h2
   split at h
   ·rename_i l'' hl
    obtain ⟨e1,h⟩:=RQ h
    obtain ⟨q1,q2⟩:=Bf h
    refine ⟨q1,fun g' hg => ?_⟩
    rcases QR.1 hg with rfl | hg
    ·rw [h1,h2]
     subst e1
     obtain ⟨ee,hl⟩:=oI hl
     cases ee
     subst hl
     rfl
    ·exact q2 g' hg
   ·cases h
  ·rename_i e au l _ _ e' jX l' h1 h2
   split at h
   ·rename_i l'' hl hcb
    obtain ⟨e1,h⟩:=RQ h
    obtain ⟨q1,q2⟩:=Bf h
    refine ⟨q1,fun g' hg => ?_⟩
    rcases QR.1 hg with rfl | hg
    ·rw [h1,h2]
     subst e1
     obtain ⟨ee,hl⟩:=oI hl
     cases ee
     subst hl
     have:=oJ hcb
     subst this
     rfl
    ·exact q2 g' hg
   ·cases h
  ·cases h
theorem O_ {s:aZ} {x:Tup s.sig.pin.tys} {y:Tup s.sig.aS.tys} (h:s.ff x=some y):s.f x=some y∧∀g∈s.sig.kept,rZ (dY ((mkT s.sig.aS (Tup.lX s.sig.aS.tys y)).go g))=rZ (dY ((mkT s.sig.pin (Tup.lX s.sig.pin.tys x)).go g)):=by
 obtain ⟨⟨na,pin,aS,nr,bg,aX,kept⟩,f⟩:=s
 cases kept with
 |nil=>exact ⟨h,fun g hg=>by cases hg⟩
 |cons g0 gs=>
  have h:(f x).bind (fun y=>Jm (mkT pin (Tup.lX pin.tys x)).go (mkT aS (Tup.lX aS.tys y)).go y (g0::gs))=some y:=h
  cases hf:f x with
  |none=>rw [hf] at h;cases h
  |some z=>
   rw [hf] at h
   obtain ⟨e,h2⟩:=Bf h
   subst e
   exact ⟨hf,h2⟩
theorem MR (same:List Nat) :∀(l:List (Nat×TO)),iF (MJ same l)=(iF l).filter fun p=>!same.contains p.1
 | []=>rfl
 |(g,x)::r=>by
  have ih:=MR same r
  simp only [MJ]
  have e:iF ((g,x)::r)=(g,dY x)::iF r:=rfl
  rw [e,qT,←bT]
  cases h:fH g same with
  |true=>simp only [Bool.not_true,W7,if_false];exact ih
  |false=>
   simp only [qz,if_true]
   show (g,dY x)::iF (MJ same r)=_
   rw [ih]
def JD (s:dD) (d:Nat) (o:Nat→TO) (c:GN) (bZ:List Wd):List Nat:=match s.kept with
 | []=>[]
 |_::_=>CZ s o (fun g'=>OU c.A c.I (callName d s.er c.ren) ((mkT s.aS bZ).go g')) c.ren
theorem Pj {s:dD} {d:Nat} {o:Nat→TO} {c:GN} {bZ:List Wd}:(zq s d o c bZ).er=Ci (JD s d o c bZ) (jZ s d o c bZ).er:=by
 obtain ⟨na,pin,aS,nr,bg,aX,kept⟩:=s
 cases kept with
 |nil=>
  show (jZ _ d o c bZ).er=Ci [] _
  have :∀(e:Eff),e=Ci [] e:=fun e=>by
   unfold Ci
   have:e.aK.filter (fun p=>!([]:List Nat).contains p.1)=e.aK:=List.filter_eq_self.2 fun p _=>rfl
   rw [this]
  exact this _
 |cons g0 gs=>
  unfold zq Ci JD jO.er
  simp only [MR]
theorem MS {a b:Bool} (h:ah_ a b=true):a=b:=by cases a<;>cases b<;>first | rfl | cases h
theorem FU {x:TO} {a i:Bool} (h:Va x=some (a,i)):tN (dY x)=(a,i)∧Ut (dY x)=true:=by
 cases x with
 |arr fz a' i' e l=>cases fz<;>cases h;exact ⟨rfl,rfl⟩
 |aP a' i' e au l hole=>cases hole<;>cases h;exact ⟨rfl,rfl⟩
 |_=>cases h
theorem JE {s:dD} {o f:Nat→TO} {g:Nat} :∀{r:List (Nat×Nat)},g∈CZ s o f r→∃g',(g',g)∈r∧g'∈s.kept∧s.bg.contains g'=true∧tN (dY (f g'))=tN (dY (o g))∧Ut (dY (o g))=true
 | [],h=>by cases h
 |(g1',g1)::r,h=>by
  simp only [CZ] at h
  have old:g∈CZ s o f r→∃g',(g',g)∈(g1',g1)::r∧g'∈s.kept∧s.bg.contains g'=true∧tN (dY (f g'))=tN (dY (o g))∧Ut (dY (o g))=true:=fun h=>
   let ⟨g',h1,h2⟩:=JE h
   ⟨g',US _ h1,h2⟩
  split at h
  ·rename_i a i a' i' k1 k2 k3
   split at h
   ·rename_i k4
    rcases QR.1 h with rfl | h
    ·obtain ⟨e1,e2⟩:=gQ k4
     have e1:=MS e1
     have e2:=MS e2
     subst e1;subst e2
     obtain ⟨m1,m2⟩:=gQ k1
     obtain ⟨f1,f2⟩:=FU k2
     obtain ⟨f3,_⟩:=FU k3
     rw [bT] at m1
     exact ⟨g1',by simp,by simpa using m1,m2,by rw [f1,f3],f2⟩
    ·exact old h
   ·exact old h
  ·exact old h
theorem RS {sp:aZ} (hok:sp.sig.er.ok=true) {d:Nat} {o:Nat→TO} {args:List S} {c:GN} (hc:gX sp.sig.er (bY o) args=some c.er) (hf:c.er.fine sp.sig.er=true) {x:Tup sp.sig.pin.tys} {y:Tup sp.sig.aS.tys} (hx:Tup.lX sp.sig.pin.tys x=c.ins) (hy:sp.ff x=some y) :
  ∀g∈JD sp.sig d o c (Tup.lX sp.sig.aS.tys y),g∈c.er.ren.map (·.2)∧(iC sp.sig.er d (bY o) c.er ((Tup.lX sp.sig.aS.tys y).map cZ)).aK.lookup g=some (bY o g):=by
 intro g hg
 have hg:g∈CZ sp.sig o (fun g'=>OU c.A c.I (callName d sp.sig.er c.ren) ((mkT sp.sig.aS (Tup.lX sp.sig.aS.tys y)).go g')) c.ren:=by
  unfold JD at hg
  split at hg
  ·cases hg
  ·exact hg
 obtain ⟨g',h1,h2,h3,h4,h5⟩:=JE hg
 have hp:(g',g)∈c.er.ren:=h1
 refine ⟨QQ.2 ⟨(g',g),hp,rfl⟩,?_⟩
 have e1:dY ((mkT sp.sig.aS (Tup.lX sp.sig.aS.tys y)).go g')=(Fw.mk sp.sig.er.aS ((Tup.lX sp.sig.aS.tys y).map cZ)).o g':=congrArg (fun s=>s.o g') (qW (qX _ y))
 have e2:dY ((mkT sp.sig.pin (Tup.lX sp.sig.pin.tys x)).go g')=(Fw.mk sp.sig.er.pin c.er.ins).o g':=by
  have:=congrArg (fun s=>s.o g') (qW (qX _ x))
  rw [hx] at this ⊢
  exact this
 refine YI hok hc hf hp h3 ?_ h5 ?_
 ·rw [←e1,←e2]
  exact (O_ hy).2 g' h2
 ·rw [O9] at h4
  rw [←e1]
  exact h4
def ng (T:lY):Tab:=fun f=>(T f).map aZ.er
theorem yG (l:List (Nat×TO)) :∀(u:List (Nat×TO)) (g:Nat),jd .none (Ei l u) g=match u.lookup g with | some x=>x | none=>jd .none l g
 | [],g=>rfl
 |(k,x)::u,g=>by
  simp only [Ei,oK,List.lookup,G8,yG l u g]
  cases h:Nat.beq g k<;>rfl
theorem Eo (q:iW) (dst:Option Tmp) (e:jO):aU (q.eff dst e).st=(aU q.st).eff dst e.er:=by
 have ho :∀g,dY (jd .none (Ei q.st.o e.aK) g)=match (iF e.aK).lookup g with | some x=>x | none=>dY (jd .none q.st.o g):=fun g=>by
  rw [yG]
  have:(iF e.aK).lookup g=(e.aK.lookup g).map dY:=pq dY g e.aK
  rw [this]
  cases e.aK.lookup g<;>rfl
 have hu :∀g,fH g (e.new++q.st.u)=(e.new.contains g||fH g q.st.u):=fun g=>by simp [bT]
 cases dst with
 |none=>
  refine St.ext' (fun t=>rfl) (fun g => ?_) fun g => ?_
  ·exact ho g
  ·exact hu g
 |some d=>
  refine St.ext' (fun t => ?_) (fun g => ?_) fun g => ?_
  ·show bn (jd .no (xk d e.x q.st.s) t)=bif Nat.beq t d then bn e.x else bn (jd .no q.st.s t)
   rw [oK]
   cases Nat.beq t d<;>rfl
  ·exact ho g
  ·exact hu g
end
end Go.Fg

namespace Go.Fg
open Go.Fw
section
variable [d_]
theorem Ep {T:Tab} {tt:TT} {N:Nat} {ops:Array Oper} {o:Oper} {st:St} {K K':Eff→Prop} (hK :∀e,K e→K' e) (h:stepW T tt N ops o st K):stepW T tt N ops o st K':=by
 unfold stepW at *
 refine ⟨h.1,?_⟩
 have h:=h.2
 split at h
 ·exact oh (fun e he=>⟨he.1,hK e he.2⟩) h
 ·split at h
  ·rename_i b hb
   cases b with
   |true=>
    simp only [cond_true] at h ⊢
    exact oh (fun e he=>⟨he.1,hK e he.2⟩) h
   |false=>exact hK _ h
  ·exact h
theorem JG {T:Tab} {tt:TT} {N:Nat} {ops:Array Oper} {o:Oper} {st:St} {K K':Eff→Prop} (hK :∀e,K e→K' e) (h:CG T tt N ops o st K):CG T tt N ops o st K':=by
 unfold CG at *
 split at h
 ·exact ⟨h.1,fun b hb=>hK _ (h.2 b hb)⟩
 ·split at h
  ·exact ⟨h.1,fun hb=>hK _ (h.2.1 hb),fun hb=>hK _ (h.2.2 hb)⟩
  ·exact Ep hK h
end
theorem aeP {R:Type} {b:Bool} {x:Option R} {r:R} (h:ck b x=some r):b=true∧x=some r:=by
 cases b
 ·cases h
 ·exact ⟨rfl,h⟩
theorem Zd {R:Type} {x y:Option R} {r:R} (h:both x y=some r):x=some r∧y=some r:=by
 unfold both at h
 split at h
 ·rename_i e;exact ⟨h,e▸h⟩
 ·cases h
section
variable [RE]
theorem Xk {R:Type} {b:Bool} {x:Prog R} {r:R} (h:(Prog.chk b x).run=some r):b=true∧x.run=some r:=aeP h
theorem abO {A B R:Type} {n:Nat} {f:A→Option B} {a:A} {k:B→Prog R} {r:R} (h:(Prog.call n f a k).run=some r) :∃y,f a=some y∧(k y).run=some r:=by
 have h:(f a).bind (fun z=>(k z).run)=some r:=h
 cases hf:f a with
 |none=>rw [hf] at h;cases h
 |some y=>rw [hf] at h;exact ⟨y,rfl,h⟩
theorem aY {R:Type} {n:Nat} {r:R} (h:(Prog.stuck n:Prog R).run=some r):False:=by cases h
theorem Dj (st:jw):(aU st).dH=fun x=>bn (st.dH x):=funext (nN st)
theorem abP (x:TS):aj1 (bn x)=abv x:=by
 cases x with
 |v x=>cases x with
  |one x=>cases x<;>rfl
  |agg xs=>rfl
 |lG xs=>rfl
 |no=>rfl
theorem MV :∀l:List TS,Wq (l.map bn)=Jp l
 | []=>rfl
 |x::l=>by
  simp only [Qf,Wq,Jp,abP x,MV l]
  cases abv x<;>rfl
theorem JH {T:lY} {fn:Nat} {st:jw} {args:List Operand}:pick (ng T) fn (args.map (aU st).dH)=(WU T fn (args.map st.dH)).map aZ.er:=by
 have e:args.map (aU st).dH=(args.map st.dH).map bn:=by rw [Dj,V1];rfl
 have ek:QA fn ((args.map st.dH).map bn)=Ej fn (args.map st.dH):=by
  unfold QA Ej;rw [MV]
  cases Jp (args.map st.dH)<;>rfl
 rw [e]
 unfold pick WU
 rw [ek]
 cases Nat.blt fn 1000000 with
 |false=>rfl
 |true=>
  simp only [ng]
  cases T (Ej fn (args.map st.dH))<;>rfl
theorem Xl {x:TS} {fn:FuncId} {caps:List TW} (h:x=.v (.one (.clo fn caps))):bn x=.v (.one (.clo fn (caps.map bW))):=by
 subst h;simp only [bn,jD,bW,zl]
theorem JI (st:jw) (args:List Operand) (caps:List TW) :
  (args.map (aU st).dH)++(caps.map bW).map (fun x=>S.v (.one x))=((args.map st.dH)++caps.map fun x=>TS.v (.one x)).map bn:=by
 simp only [Z1,V1,Dj]
 rfl
theorem abQ {R:Type} {T:lY} {tt:TT} {ety:TypeId→Option Ty} {d:Nat} {st:jw} {o:Oper} {K:jO→Prog R} {r:R} (h:(Zb T tt ety d st o K).run=some r) :
  iZ (ng T) tt d (aU st) o fun e =>∃te:jO,e=te.er∧(K te).run=some r:=by
 have plain :∀op,(match jl tt ety d st.go st.dH op o.type with
   |some r=>Prog.chk r.pre (.let_ r.val fun z=>K { x:=r.dst z,aK:=r.aK z,new:=r.new })
   |none=>match dN tt ety d st.go st.dH op o.type with
    |some r=>Prog.chk r.pre (.let_ r.val fun z=>K { x:=r.dst z,aK:=r.aK z,new:=r.new })
    |none=>.stuck 16).run=some r→(∃dc r',dU tt dc d (aU st).o (aU st).dH op o.type=some r'∧r'.pre∧P9 r'.val fun z =>∃te:jO,({ x:=r'.dst z,aK:=r'.aK z,new:=r'.new }:Eff)=te.er∧(K te).run=some r)∨(match kernel tt d (aU st).o (aU st).dH op o.type with
   |some r'=>r'.pre∧bif E8 op then P9 r'.val fun z=>(∃te:jO,({ x:=r'.dst z,aK:=r'.aK z,new:=r'.new }:Eff)=te.er∧(K te).run=some r) else (∃te:jO,({ x:=r'.dst r'.val,aK:=r'.aK r'.val,new:=r'.new }:Eff)=te.er∧(K te).run=some r)
   |none=>False):=by
  intro op h
  split at h
  ·rename_i rr hk
   obtain ⟨h1,h2⟩:=Xk h
   obtain ⟨dc,r',hk',hs⟩:=Ru op rr hk
   refine .inl ⟨dc,r',by rw [Dj];exact hk',hs.pre h1,P9.iff.2 ⟨{ x:=rr.dst rr.val,aK:=rr.aK rr.val,new:=rr.new },?_,h2⟩⟩
   simp only [jO.er,hs.dst,hs.aK,hs.new]
  refine .inr ?_
  split at h
  ·rename_i rr hk
   obtain ⟨h1,h2⟩:=Xk h
   obtain ⟨r',hk',hs,hn⟩:=U5 op rr hk
   have hs:=hs h1
   have hk':kernel tt d (aU st).o (aU st).dH op o.type=some r':=by rw [Dj];exact hk'
   rw [hk']
   refine ⟨hs.pre h1,?_⟩
   have key :∃te:jO,({ x:=r'.dst r'.val,aK:=r'.aK r'.val,new:=r'.new }:Eff)=te.er∧(K te).run=some r:=
    ⟨{ x:=rr.dst rr.val,aK:=rr.aK rr.val,new:=rr.new },by simp only [jO.er,hs.dst,hs.aK,hn],h2⟩
   cases E8 op with
   |true=>exact P9.iff.2 key
   |false=>exact key
  ·exact (aY h).elim
 unfold Zb at h
 unfold iZ
 split at h
 ·rename_i f args ts hop
  rw [hop]
  simp only
  split at h
  ·rename_i fn caps hf
   have hf':=Xl hf
   rw [nN,hf']
   simp only
   split at h
   ·rename_i sp hT
    have hT':pick (ng T) fn (args.toList.map (aU st).dH)=some sp.er:=by rw [JH,hT];rfl
    rw [hT']
    simp only
    split at h
    ·rename_i c hc
     obtain ⟨k1,k2⟩:=Bc hc
     have k1:gX sp.er.sig (aU st).o ((args.toList.map (aU st).dH)++(caps.map bW).map fun x=>S.v (.one x))=some c.er:=by
      rw [JI];exact k1
     rw [k1]
     simp only
     split at h
     ·rename_i WG
      split at h
      ·rename_i x hx
       split at h
       rotate_left
       ·exact (aY h).elim
       rename_i anH
       obtain ⟨y,hy,h⟩:=abO h
       obtain ⟨f1,f2⟩:=gQ WG
       refine ⟨?_,(Tup.lX sp.sig.aS.tys y).map cZ,JD sp.sig d st.go c (Tup.lX sp.sig.aS.tys y),⟨x,y,hy,?_,rfl⟩,RS anH k1 f1 (zu _ hx) hy,zq sp.sig d st.go c (Tup.lX sp.sig.aS.tys y),?_,h⟩
       ·have f2:=Q4 f2
        simp only [Q6,decide_eq_true_eq,Z3]
        exact ⟨f1,f2⟩
       ·rw [zu _ hx];rfl
       ·rw [Pj];exact congrArg _ (FT (qX _ _) (MQ hc)).symm
      ·exact (aY h).elim
     ·exact (aY h).elim
    ·exact (aY h).elim
   ·exact (aY h).elim
  ·exact (aY h).elim
 ·rename_i hno
  have h:=plain _ h
  split
  ·rename_i f args ts hop
   exact (hno _ _ _ hop).elim
  ·exact h
structure qY (q q':iW):Prop where
 s :∀t,hasK t q'.st.s=true→fH t q'.ds=false→hasK t q.st.s=true∧fH t q.ds=false∧q'.st.gs t=q.st.gs t
 o :∀g,hasK g q'.st.o=true→fH g q'.od=false→hasK g q.st.o=true∧fH g q.od=false∧q'.st.go g=q.st.go g
theorem qY.refl (q:iW):qY q q:=⟨fun t h1 h2=>⟨h1,h2,rfl⟩,fun t h1 h2=>⟨h1,h2,rfl⟩⟩
theorem qY.trans {a b c:iW} (h1:qY a b) (h2:qY b c):qY a c:=
 ⟨fun t k1 k2=>let ⟨x1,x2,x3⟩:=h2.s t k1 k2;let ⟨y1,y2,y3⟩:=h1.s t x1 x2;⟨y1,y2,x3.trans y3⟩,
  fun t k1 k2=>let ⟨x1,x2,x3⟩:=h2.o t k1 k2;let ⟨y1,y2,y3⟩:=h1.o t x1 x2;⟨y1,y2,x3.trans y3⟩⟩
theorem uS {α:Type} (k:Nat) (v:α) (t:Nat) :∀(l:List (Nat×α)),hasK t (xk k v l)=(Nat.beq t k||hasK t l)
 | []=>by simp [xk,hasK]
 |(k',v')::r=>by
  simp only [xk]
  cases h:Nat.beq k k' with
  |true=>
   have e:=Q4 h
   subst e
   simp only [cond_true,hasK]
   cases Nat.beq t k<;>simp
  |false=>
   simp only [cond_false,hasK,uS k v t r]
   cases Nat.beq t k<;>cases Nat.beq t k'<;>simp
theorem uT {α:Type} (d:α) :∀(l:List (Nat×α)) (t:Nat),hasK t l=false→jd d l t=d
 | [],t,_=>rfl
 |(k,v)::r,t,h=>by
  simp only [hasK,Vv] at h
  simp only [jd,h.1,cond_false]
  exact uT d r t h.2
theorem RU (l:List (Nat×TO)) (g:Nat) :∀(u:List (Nat×TO)),hasK g (Ei l u)=(fH g (u.map (·.1))||hasK g l)
 | []=>rfl
 |(k,x)::u=>by simp only [Ei,uS,RU l g u,Qf,fH,Bool.or_assoc]
theorem wW {α:Type} (g:Nat) :∀{u:List (Nat×α)},fH g (u.map (·.1))=false→u.lookup g=none
 | [],_=>rfl
 |(k,x)::u,h=>by
  simp only [Qf,fH,Vv] at h
  simp only [List.lookup,G8,h.1]
  exact wW g h.2
theorem qY.eff (q:iW) (dst:Option Tmp) (e:jO):qY q (q.eff dst e):=by
 refine ⟨fun t h1 h2 => ?_,fun g h1 h2 => ?_⟩
 ·cases dst with
  |none=>exact ⟨h1,h2,rfl⟩
  |some d=>
   have h2:fH t (d::q.ds)=false:=h2
   have h1:hasK t (xk d e.x q.st.s)=true:=h1
   simp only [fH,Vv] at h2
   rw [uS,h2.1,UT] at h1
   refine ⟨h1,h2.2,?_⟩
   show jd .no (xk d e.x q.st.s) t=jd .no q.st.s t
   rw [oK,h2.1];rfl
 ·have h1:hasK g (Ei q.st.o e.aK)=true:=h1
  have h2:fH g (e.aK.map (·.1)++q.od)=false:=h2
  rw [bT] at h2
  simp only [KS,Vv] at h2
  rw [←bT,←bT] at h2
  rw [RU,h2.1,UT] at h1
  refine ⟨h1,h2.2,?_⟩
  show jd .none (Ei q.st.o e.aK) g=jd .none q.st.o g
  rw [yG,wW g h2.1]
theorem Xm {q:iW} {t:Tmp} {a i b:Bool} (h:q.st.gs t=.v (.one (.p a i (iM b)))) (u:Nat):(q.know t a i b).st.gs u=q.st.gs u:=by
 show jd .no (xk t (.v (.one (.p a i (iM b)))) q.st.s) u=jd .no q.st.s u
 rw [oK]
 cases hb:Nat.beq u t with
 |false=>rfl
 |true=>
  have e:=Q4 hb
  subst e
  exact h.symm
theorem abR {q:iW} {t:Tmp} {a i b:Bool} (h:q.st.gs t=.v (.one (.p a i (iM b)))) (u:Nat):hasK u (q.know t a i b).st.s=hasK u q.st.s:=by
 show hasK u (xk t (.v (.one (.p a i (iM b)))) q.st.s)=hasK u q.st.s
 rw [uS]
 cases hb:Nat.beq u t with
 |false=>rfl
 |true=>
  have e:=Q4 hb
  subst e
  cases hk:hasK u q.st.s with
  |true=>rfl
  |false=>
   have:=uT TS.no q.st.s u hk
   rw [jw.gs] at h
   rw [this] at h;cases h
theorem yH {q:iW} {t:Tmp} {a i b:Bool} (h:q.st.gs t=.v (.one (.p a i (iM b)))):aU (q.know t a i b).st=aU q.st:=
 St.ext' (fun u=>by show bn _=bn _;rw [Xm h]) (fun g=>rfl) fun g=>rfl
theorem yI {q:iW} {t:Tmp} {a i b:Bool} (h:q.st.gs t=.v (.one (.p a i (iM b)))):qY q (q.know t a i b):=
 ⟨fun u h1 h2=>⟨by rw [←abR h];exact h1,h2,Xm h u⟩,fun g h1 h2=>⟨h1,h2,rfl⟩⟩
theorem RV {q:iW} {t:Tmp} {a i:Bool} {k:IntKind} {n:Int} (h:q.st.gs t=.v (.one (.p a i (iJ k n)))) (u:Nat):(q.Rx t a i k n).st.gs u=q.st.gs u:=by
 show jd .no (xk t (.v (.one (.p a i (iJ k n)))) q.st.s) u=jd .no q.st.s u
 rw [oK]
 cases hb:Nat.beq u t with
 |false=>rfl
 |true=>
  have e:=Q4 hb
  subst e
  exact h.symm
theorem Ze {q:iW} {t:Tmp} {a i:Bool} {k:IntKind} {n:Int} (h:q.st.gs t=.v (.one (.p a i (iJ k n)))) (u:Nat):hasK u (q.Rx t a i k n).st.s=hasK u q.st.s:=by
 show hasK u (xk t (.v (.one (.p a i (iJ k n)))) q.st.s)=hasK u q.st.s
 rw [uS]
 cases hb:Nat.beq u t with
 |false=>rfl
 |true=>
  have e:=Q4 hb
  subst e
  cases hk:hasK u q.st.s with
  |true=>rfl
  |false=>
   have:=uT TS.no q.st.s u hk
   rw [jw.gs] at h
   rw [this] at h;cases h
theorem Zf {q:iW} {t:Tmp} {a i:Bool} {k:IntKind} {n:Int} (h:q.st.gs t=.v (.one (.p a i (iJ k n)))):aU (q.Rx t a i k n).st=aU q.st:=
 St.ext' (fun u=>by show bn _=bn _;rw [RV h]) (fun g=>rfl) fun g=>rfl
theorem Zg {q:iW} {t:Tmp} {a i:Bool} {k:IntKind} {n:Int} (h:q.st.gs t=.v (.one (.p a i (iJ k n)))):qY q (q.Rx t a i k n):=
 ⟨fun u h1 h2=>⟨by rw [←Ze h];exact h1,h2,RV h u⟩,fun g h1 h2=>⟨h1,h2,rfl⟩⟩
theorem RX {R:Type} {v:Int} {k:Int→Prog R} {r:R} :∀(n m:Nat),(WW v k m n).run=some r→(k v).run=some r
 |0,_,h=>(aY h).elim
 |1,m,h=>by
  have h:ck (Z8 v (Int.ofNat m)) (k (Int.ofNat m)).run=some r:=h
  cases hb:Z8 v (Int.ofNat m) with
  |true=>
   rw [hb] at h
   have e:v=Int.ofNat m:=of_decide_eq_true hb
   rw [e];exact h
  |false=>rw [hb] at h;cases h
 |n+2,m,h=>by
  have h:(bif Z8 v (Int.ofNat m) then (k (Int.ofNat m)).run else (WW v k (m+1) (n+1)).run)=some r:=h
  cases hb:Z8 v (Int.ofNat m) with
  |true=>
   rw [hb] at h
   have e:v=Int.ofNat m:=of_decide_eq_true hb
   rw [e];exact h
  |false=>rw [hb] at h;exact RX (n+1) (m+1) h
theorem abS {tt:TT} {st:jw} {t:TypeId} {x:Operand} {j:Tmp} {a i:Bool} {k:IntKind} {v:Int} {n:Nat} (h:abw tt st t x j=some (a,i,k,v,n)):st.gs j=.v (.one (.p a i (iJ k v))):=by
 have key :∀{y:TS} {m:Nat},(match y with
   |.v (.one (.p a i ⟨.int k,v⟩))=>bif Nat.ble m 4 then some (a,i,k,v,m) else none
   |_=>none)=some (a,i,k,v,n)→y=.v (.one (.p a i (iJ k v))):=by
  intro y m h
  split at h
  ·cases hb:Nat.ble m 4 with
   |true=>
    rw [hb] at h
    simp only [cond_true,Q0,Q1] at h
    obtain ⟨rfl,rfl,rfl,rfl,rfl⟩:=h
    rfl
   |false=>rw [hb] at h;cases h
  ·cases h
 unfold abw at h
 split at h
 ·split at h
  ·exact key h
  ·exact key h
  ·exact key h
  ·cases h
 ·cases h
theorem aeQ {tt:TT} {st:jw} {o:Oper} {t:Tmp} {a i:Bool} {k:IntKind} {v:Int} {n:Nat} (h:aia tt st o=some (t,a,i,k,v,n)):st.gs t=.v (.one (.p a i (iJ k v))):=by
 unfold aia at h
 split at h
 ·split at h
  ·rename_i r hr
   simp only [Q0,Q1] at h
   obtain ⟨rfl,rfl⟩:=h
   exact abS hr
  ·cases h
 ·cases h
theorem Bg {u:List Nat} :∀{gs:List Nat},yC u gs=true→(gs.all fun g=>!fH g u)=true
 | [],_=>rfl
 |g::gs,h=>by
  simp only [yC,Q6] at h
  simp only [List.all_cons,Q6]
  exact ⟨h.1,Bg h.2⟩
theorem Bh {N:Nat} :∀(dst:Option Tmp),WV N dst=true→(match dst with | some d=>decide (d<N) | none=>true)=true
 |none,_=>rfl
 |some d,h=>decide_eq_true (W6 h)
def Xn {R:Type} (q:iW) (K:iW→jO→Prog R) (r:R) (e:Eff):Prop :=∃(q':iW) (te:jO),e=te.er∧aU q'.st=aU q.st∧qY q q'∧(K q' te).run=some r
theorem Pm {R:Type} {T:lY} {tt:TT} {ety:TypeId→Option Ty} {d:Nat} {q0 q:iW} {o:Oper} {K:iW→jO→Prog R} {r:R} (he:aU q.st=aU q0.st) (hr:qY q0 q)
  (h:(Zb T tt ety d q.st o fun e=>match yC q.st.u e.new with | true=>K q e | false=>.stuck 21).run=some r) :
  iZ (ng T) tt d (aU q0.st) o fun e=>(e.new.all fun g=>!(aU q0.st).used g)=true∧Xn q0 K r e:=by
 have h:=abQ h
 rw [he] at h
 refine oh ?_ h
 rintro e ⟨te,rfl,h⟩
 split at h
 ·rename_i hf
  refine ⟨?_,q,te,rfl,he,hr,h⟩
  rw [←he]
  exact Bg hf
 ·exact (aY h).elim
theorem RY {R:Type} {T:lY} {tt:TT} {ety:TypeId→Option Ty} {N:Nat} {ops:Array Oper} {o:Oper} {q:iW} {K:iW→jO→Prog R} {r:R} (h:(stepT T tt ety N ops o q K).run=some r) :
  stepW (ng T) tt N ops o (aU q.st) (Xn q K r):=by
 unfold stepT at h
 split at h
 ·exact (aY h).elim
 ·rename_i hd
  unfold stepW
  refine ⟨Bh _ hd,?_⟩
  split at h
  ·rename_i hg
   rw [hg]
   split at h
   ·exact Pm rfl (qY.refl q) h
   ·rename_i t a i k v n hs
    have h:=RX _ _ h
    simp only [oL] at h
    have hgs:=aeQ hs
    exact Pm (Zf hgs) (Zg hgs) h
  ·rename_i j want hg
   rw [hg]
   simp only
   split at h
   ·exact (aY h).elim
   ·rename_i t ht
    have:guardOf ops (aU q.st) j want=some false:=by
     unfold Vb at ht
     split at ht
     ·rename_i t' ht'
      split at ht
      ·cases ht
      ·rename_i hs
       simp only [guardOf,ht']
       show (match bn (q.st.gs t') with | .v (.one (.p _ _ (.bool b)))=>_ | .lG []=>_ | _=>_)=_
       rw [hs];rfl
      ·cases ht
     ·cases ht
    rw [this]
    exact ⟨q,jO.skip,rfl,rfl,qY.refl q,h⟩
   ·rename_i t a i b ht
    have hb:q.st.gs t=.v (.one (.p a i (iM b)))∧guardOf ops (aU q.st) j want=some (bif want then b else !b):=by
     unfold Vb at ht
     split at ht
     ·rename_i t' ht'
      split at ht
      ·rename_i a' i' b' hs
       simp only [Q0,Q1] at ht
       obtain ⟨rfl,rfl,rfl,rfl⟩:=ht
       refine ⟨hs,?_⟩
       simp only [guardOf,ht']
       show (match bn (q.st.gs t') with | .v (.one (.p _ _ (.bool b)))=>_ | .lG []=>_ | _=>_)=_
       rw [hs];rfl
      ·cases ht
      ·cases ht
     ·cases ht
    obtain ⟨hgs,hgd⟩:=hb
    rw [hgd]
    simp only
    have h:(bif b then _ else _:Option R)=some r:=h
    cases b with
    |true=>
     have h:(frX (q.know t a i true) fun q=>bif want then _ else K q jO.skip).run=some r:=h
     rw [oL] at h
     cases want with
     |true=>exact Pm (yH hgs) (yI hgs) h
     |false=>exact ⟨_,jO.skip,rfl,yH hgs,yI hgs,h⟩
    |false=>
     have h:(frX (q.know t a i false) fun q=>bif want then K q jO.skip else _).run=some r:=h
     rw [oL] at h
     cases want with
     |true=>exact ⟨_,jO.skip,rfl,yH hgs,yI hgs,h⟩
     |false=>exact Pm (yH hgs) (yI hgs) h
end
end Go.Fg

namespace Go.Fg
open Go.Fw
section
variable [d_]
theorem yJ {T:Tab} {tt:TT} {N:Nat} {ops:Array Oper} {K K':St→Prop} (hK :∀st,K st→K' st) :∀{is:List Nat} {st:St},vV T tt N ops is st K→vV T tt N ops is st K'
 | [],st,h=>hK st h
 |i::is,st,h=>by
  simp only [vV] at h ⊢
  split at h
  ·exact JG (fun e he=>yJ hK he) h
  ·exact h
theorem wE {T:Tab} {tt:TT} {N:Nat} {ops:Array Oper} {K K':St→List tV→Prop} (hK :∀st fs,K st fs→K' st fs) :∀{is:List Nat} {st:St} {fs:List tV},oO T tt N ops is st fs K→oO T tt N ops is st fs K'
 | [],st,fs,h=>hK st fs h
 |i::is,st,fs,h=>by
  simp only [oO] at h ⊢
  split at h
  ·exact Ep (fun e he=>wE hK he) h
  ·exact h
end
section
variable [RE]
def OW.ok (c:OW) (b:Bool):Prop:=match c with
 |.yes=>b=true
 |.no=>b=false
 |.may e=>e=false→b=false
def RZ (a:Option OW) (b:Option (Bool→Prop)):Prop:=(a=none→b=none)∧∀c,a=some c→∃p,b=some p∧∀b,p b→c.ok b
theorem RZ.none:RZ none none:=⟨fun _=>rfl,fun _ h=>(nomatch h)⟩
theorem RZ.some {c:OW} {p:Bool→Prop} (h :∀b,p b→c.ok b):RZ (some c) (some p):=⟨fun h=>(nomatch h),fun c' e=>⟨p,rfl,by cases e;exact h⟩⟩
theorem Zh {o:Nat→TO} {x:TS}:RZ (Jq o x) (LZ (bY o) (bn x)):=by
 cases x with
 |v x=>
  cases x with
  |one x=>
   cases x with
   |p a i w=>
    obtain ⟨t,x⟩:=w
    cases t with
    |sl e=>
     change List (Dt e) at x
     cases x with
     |nil=>exact .some fun b hb h=>by simp at h
     |cons y ys=>exact .some fun b hb h=>hb (by intro h;cases h)
    |_=>exact .none
   |own g=>
    cases hg:o g with
    |arr fz a i e l=>
     have hd:(bY o g).dim=some (size e,l.length):=o7 (by simp only [K_,hg])
     simp only [Jq,hg,bn,jD,bW,LZ,hd]
     refine .some fun b hb h=>hb fun h' => ?_
     cases l with
     |nil=>simp at h
     |cons y ys=>cases h'
    |aP a i e au l hole=>
     have hd:(bY o g).dim=some (size e,l.length):=o7 (by simp only [K_,hg])
     simp only [Jq,hg,bn,jD,bW,LZ,hd]
     refine .some fun b hb h=>hb fun h' => ?_
     cases l with
     |nil=>simp at h
     |cons y ys=>cases h'
    |_=>simp only [Jq,hg,bn,jD,bW,LZ,bY,dY,O.dim];exact .none
   |cO=>exact .some fun b hb=>hb
   |_=>exact .none
  |agg xs=>exact .none
 |_=>exact .none
theorem Zi {o:Nat→TO} {x:TS}:RZ (Jr o x) (Fq (bY o) (bn x)):=by
 cases x with
 |v x=>
  cases x with
  |one x=>
   cases x with
   |p a i w=>
    obtain ⟨t,x⟩:=w
    cases t with
    |opq=>
     change Value at x
     unfold Jr
     split
     ·rename_i h;cases h
     ·rename_i h
      cases h
      exact .some fun b hb=>hb
     ·rename_i h1 h2
      have:Fq (bY o) (bn (.v (.one (.p a i ⟨.opq,x⟩))))=Option.none:=by
       show Fq (bY o) (.v (.one (.p a i (.opq x))))=Option.none
       unfold Fq
       split
       ·rename_i h;cases h
       ·rename_i h
        cases h
        exact (h2 _ _ rfl).elim
       ·rfl
      rw [this];exact .none
    |sl e=>
     change List (Dt e) at x
     cases x<;>exact .none
    |_=>exact .none
   |box g off=>
    cases hg:o g with
    |box ws=>
     simp only [Jr,hg,bn,jD,bW,Fq,oG hg]
     exact .some fun b hb=>hb
    |_=>simp only [Jr,hg,bn,jD,bW,Fq,bY,dY];exact .none
   |_=>exact .none
  |agg xs=>exact .none
 |_=>exact .none
theorem Zj {o:Nat→TO} {x:TS} {k:Fw.TK} {c:Value}:RZ (OX o x k c) (xX (bY o) (bn x) k c):=by
 unfold OX
 split
 ·exact Zh
 ·exact Zi
 ·rename_i h1 h2
  have:xX (bY o) (bn x) k c=Option.none:=by
   unfold xX
   split
   ·exact (h1 _ rfl rfl).elim
   ·exact (h2 rfl rfl).elim
   ·rfl
  rw [this];exact .none
def abT (a:Option (Bool×OW)) (b:Option (Bool×(Bool→Prop))):Prop:=(a=none→b=none)∧∀pos c,a=some (pos,c)→∃p,b=some (pos,p)∧∀b,p b→c.ok b
theorem abT.none:abT none none:=⟨fun _=>rfl,fun _ _ h=>(nomatch h)⟩
theorem aeR {tt:TT} {st:jw} {o:Oper}:abT (aib tt st o) (Ot tt (aU st) o):=by
 unfold aib Ot
 cases hgd:o.guard with
 |some g=>exact .none
 |none=>
  simp only
  cases hop:o.op with
  |binOp op t x y u=>
   cases y with
   |const c=>
    simp only
    cases ht:tt t with
    |none=>exact .none
    |some i=>
     simp only
     have hs:=Zj (o:=st.go) (x:=st.dH x) (k:=i.k) (c:=c)
     rw [←nN] at hs
     change RZ _ (xX (aU st).o ((aU st).dH x) i.k c) at hs
     generalize OX st.go (st.dH x) i.k c=A at hs ⊢
     generalize xX (aU st).o ((aU st).dH x) i.k c=B at hs ⊢
     cases A with
     |none=>
      have:=hs.1 rfl
      subst this
      cases op<;>exact .none
     |some c'=>
      obtain ⟨p,rfl,hp⟩:=hs.2 c' rfl
      cases op<;>first
       |exact .none
       |(
         refine ⟨fun h=>(nomatch h),fun pos c'' h => ?_⟩
         simp only [Q0,Q1] at h
         obtain ⟨rfl,rfl⟩:=h
         exact ⟨p,rfl,hp⟩)
   |_=>exact .none
  |_=>exact .none
theorem run_any {R:Type} {x y:Prog R} {r:R} (h:(Prog.any x y).run=some r):x.run=some r∧y.run=some r:=Zd h
theorem anI (pos b:Bool):({ x:=scalar (.bool (bif pos then b else !b)),aK:=[],new:=[] }:Eff)=(qQ (bif pos then b else !b)).er:=rfl
theorem abU {st:jw} {o:Oper}:Ou (aU st) o=(abx st o).map fun x=>(x.1,P.str ⟨x.2.1.toArray⟩,P.int .i64 x.2.2):=by
 unfold Ou abx
 cases o.guard with
 |some g=>rfl
 |none=>
  simp only
  cases o.op with
  |next x b=>
   cases b with
   |false=>rfl
   |true=>
    simp only [nN]
    cases st.dH x with
    |v x=>
     cases x with
     |one x=>
      cases x with
      |m_ g=>
       simp only [bn,jD,bW]
       have e:(aU st).o g=dY (st.go g):=rfl
       rw [e]
       cases st.go g<;>rfl
      |_=>rfl
     |agg xs=>rfl
    |_=>rfl
  |_=>rfl
theorem itE (g:Nat) (s:List UInt8) (n:Int):II g (.str ⟨s.toArray⟩) (.int .i64 n)=(OY g s n).er:=rfl
theorem Zk {R:Type} {T:lY} {tt:TT} {ety:TypeId→Option Ty} {N:Nat} {ops:Array Oper} {o:Oper} {q:iW} {K:iW→jO→Prog R} {r:R} (h:(Ve T tt ety N ops o q K).run=some r) :
  CG (ng T) tt N ops o (aU q.st) (Xn q K r):=by
 unfold Ve at h
 have hn:=aeR (tt:=tt) (st:=q.st) (o:=o)
 split at h
 ·rename_i pos c hc
  obtain ⟨p,hp,hok⟩:=hn.2 pos c hc
  unfold CG
  rw [hp]
  simp only
  split at h
  ·exact (aY h).elim
  ·rename_i hd
   refine ⟨Bh _ hd,fun b hb => ?_⟩
   have hok:=hok b hb
   rw [anI]
   have done:(K q (qQ (bif pos then b else !b))).run=some r→Xn q K r (qQ (bif pos then b else !b)).er:=fun h=>⟨q,_,rfl,rfl,qY.refl q,h⟩
   refine done ?_
   cases c with
   |yes=>
    have hok:b=true:=hok
    subst hok
    cases pos<;>exact h
   |no=>
    have hok:b=false:=hok
    subst hok
    cases pos<;>exact h
   |may e=>
    have h:(bif e then (Prog.any (K q (qQ true)) (K q (qQ false))).run else (K q (qQ (!pos))).run)=some r:=h
    cases e with
    |true=>
     obtain ⟨h1,h2⟩:=run_any h
     cases (bif pos then b else !b) with
     |true=>exact h1
     |false=>exact h2
    |false=>
     have hok:b=false:=hok rfl
     subst hok
     cases pos<;>exact h
 ·rename_i hc
  unfold CG
  rw [hn.1 hc,abU]
  simp only
  split at h
  ·rename_i g s n hnx
   rw [hnx]
   simp only [ZZ]
   split at h
   ·exact (aY h).elim
   ·rename_i hd
    have h:(bif aeC s n then (K q (OY g s n)).run else (K q Vd).run)=some r:=h
    have hb:QT (.str ⟨s.toArray⟩) (.int .i64 n)=aeC s n:=by
     unfold QT aeC
     have:(P.str ⟨s.toArray⟩).bytes.size=s.length:=by show s.toArray.size=_;simp
     rw [this];rfl
    rw [hb]
    refine ⟨Bh _ hd,fun e => ?_,fun e => ?_⟩
    ·rw [e] at h
     exact ⟨q,OY g s n,itE g s n,rfl,qY.refl q,h⟩
    ·rw [e] at h
     exact ⟨q,Vd,rfl,rfl,qY.refl q,h⟩
  ·rename_i hnx
   rw [hnx]
   exact RY h
theorem Xo {R:Type} {T:lY} {tt:TT} {ety:TypeId→Option Ty} {N:Nat} {ops:Array Oper} {r:R} {K:iW→Prog R} :∀{l:List Oper} {i:Nat} {q:iW},l=ops.toList.drop i→(runT T tt ety N ops l q K).run=some r→
  vV (ng T) tt N ops (List.range' i l.length) (aU q.st) fun st' =>∃q':iW,st'=aU q'.st∧qY q q'∧(K q').run=some r
 | [],i,q,hl,h=>⟨q,rfl,qY.refl q,h⟩
 |o::os,i,q,hl,h=>by
  have h0:ops[i]?=some o:=by
   have:=congrArg (·[0]?) hl
   simpa using this.symm
  have h1:os=ops.toList.drop (i+1):=by
   have:=congrArg List.tail hl
   simpa using this
  simp only [K8,Kh,vV,h0]
  refine JG ?_ (Zk h)
  rintro e ⟨q',te,rfl,he,hr,h⟩
  simp only [oL] at h
  have ih:=Xo h1 h
  rw [←he,←Eo]
  refine yJ ?_ ih
  rintro st' ⟨q'',rfl,hr',h⟩
  exact ⟨q'',rfl,(hr.trans (qY.eff q' o.dst te)).trans hr',h⟩
theorem jK {α β:Type} {f g:α→List β} :∀{l:List α},(∀x∈l,f x=g x)→l.flatMap f=l.flatMap g
 | [],_=>rfl
 |x::l,h=>by simp only [ZS,h x (by simp),jK (l:=l) fun y hy=>h y (by simp [hy])]
theorem uy (f:FuncId) (caps:List W):(W.clo f caps).names=caps.flatMap W.names:=by
 rw [W.names]
 have :∀(l:List {x // x∈caps}),(l.flatMap fun x=>x.1.names)=(l.map (·.1)).flatMap W.names:=fun l=>by rw [List.flatMap_map]
 rw [this,List.attach_map_subtype_val]
theorem FV :∀(caps:List TW),yD caps=(nK caps).flatMap W.names
 | []=>rfl
 |c::cs=>by cases c<;>simp [yD,nK,bW,W.names,FV cs]
theorem JJ (x:TW):W.namesT x=(bW x).names:=by
 cases x with
 |clo f caps=>simp only [W.namesT,bW,uy,FV]
 |_=>simp only [W.namesT,bW,W.names]
theorem JK (x:TV):V.namesT x=(jD x).names:=by
 cases x with
 |one x=>exact JJ x
 |agg xs=>
  simp only [V.namesT,jD,V.names,List.flatMap_map]
  exact jK fun x _=>JJ x
theorem Vl (x:TS):S.namesT x=(bn x).names:=by
 cases x with
 |v x=>exact JK x
 |lG xs=>
  simp only [S.namesT,bn,S.names,List.flatMap_map]
  exact jK fun x _=>JK x
 |no=>rfl
end
end Go.Fg

namespace Go.Fg
open Go.Fw
section
variable [RE]
theorem abV {x:TS} {fn:FuncId} {caps:List W} (h:bn x=.v (.one (.clo fn caps))) :∃cs,x=.v (.one (.clo fn cs))∧caps=cs.map bW:=by
 cases x with
 |v x=>
  cases x with
  |one x=>
   cases x with
   |clo f cs=>
    simp only [bn,jD,bW,S.v.injEq,V.one.injEq,W.clo.injEq,zl] at h
    obtain ⟨rfl,rfl⟩:=h
    exact ⟨cs,rfl,rfl⟩
   |_=>simp [bn,jD,bW] at h
  |agg xs=>simp [bn,jD] at h
 |_=>simp [bn] at h
theorem MW {o:Nat→O} {args:List TS} :∀{l:List (Nat×lH)},WX args l=true→eH o (args.map bn) (l.map fun p=>(p.1,p.2.er))=none
 | [],h=>by cases h
 |(t,k)::rest,h=>by
  unfold WX at h
  simp only [Qf,eH]
  split at h
  ·rename_i hn
   have e:(args.map bn).getD t .no=.no:=by
    simp only [List.getD_eq_getElem?_getD,XS] at hn ⊢
    cases hz:args[t]? with
    |none=>simp
    |some z=>rw [hz] at hn;simp at hn;subst hn;rfl
   rw [e]
   cases k.er<;>simp [n_]
  ·rename_i ys hn
   have e :∃zs,(args.map bn).getD t .no=.lG zs:=by
    simp only [List.getD_eq_getElem?_getD,XS] at hn ⊢
    cases hz:args[t]? with
    |none=>rw [hz] at hn;simp at hn
    |some z=>rw [hz] at hn;simp at hn;subst hn;exact ⟨_,rfl⟩
   obtain ⟨zs,e⟩:=e
   rw [e]
   cases k.er<;>simp [n_]
  ·rw [MW h]
   split
   ·rename_i h1 h2;cases h2
   ·rfl
theorem Zl {T:lY} {st:jw} {o:Oper} {l:List Nat} (h:Vf T st o=some l):QO (ng T) (aU st) o=l:=by
 unfold Vf at h
 unfold QO
 split at h
 ·rename_i f args ts hop
  rw [hop]
  simp only
  rw [nN]
  split at h
  ·rename_i fn caps hf
   rw [Xl hf]
   simp only
   split at h
   ·rename_i sp hT
    have hT':pick (ng T) fn (args.toList.map (aU st).dH)=some sp.er:=by rw [JH,hT];rfl
    rw [hT']
    simp only
    split at h
    ·rename_i c hc
     simp only [Q0] at h;subst h
     obtain ⟨k1,k2⟩:=Bc hc
     have k1:gX sp.er.sig (aU st).o ((args.toList.map (aU st).dH)++(caps.map bW).map fun x=>S.v (.one x))=some c.er:=by
      rw [JI];exact k1
     rw [k1];rfl
    ·obtain ⟨hm,h⟩:=bQ h
     simp only [Q0] at h;subst h
     have k1:gX sp.er.sig (aU st).o ((args.toList.map (aU st).dH)++(caps.map bW).map fun x=>S.v (.one x))=none:=by
      rw [JI]
      unfold gX
      have e:eH (aU st).o (List.map bn (List.map st.dH args.toList++List.map (fun x=>TS.v (TV.one x)) caps)) sp.er.sig.pin.slots=none:=MW hm
      rw [e]
     rw [k1]
   ·rename_i hT
    simp only [Q0] at h;subst h
    have hT':pick (ng T) fn (args.toList.map (aU st).dH)=none:=by rw [JH,hT];rfl
    rw [hT']
  ·rename_i hno
   simp only [Q0] at h;subst h
   split
   ·rename_i fn caps hf
    obtain ⟨cs,hx,_⟩:=abV hf
    exact (hno _ _ hx).elim
   ·rfl
 ·rename_i hno
  simp only [Q0] at h;subst h
  split
  ·rename_i f args ts hop
   exact (hno _ _ _ hop).elim
  ·rfl
theorem abW {T:lY} {st:jw} {o:Oper} {l:List Nat} (h:aby T st o=some l):qM (ng T) (aU st) o=l:=by
 unfold aby at h
 split at h
 ·rename_i r hr
  simp only [Q0] at h;subst h
  unfold qM
  rw [Zl hr]
  congr 1
  congr 1
  refine jK fun x _ => ?_
  rw [nN,←Vl]
  refine jK fun g _ => ?_
  have:((aU st).o g).hn=lK (st.go g):=by
   show (dY (st.go g)).hn=_
   cases st.go g with
   |aP a i e au l hole=>cases hole<;>rfl
   |_=>rfl
  rw [this]
 ·cases h
theorem JL (l:List (Nat×TO)):(iF l).map (·.1)=l.map (·.1):=by simp only [iF,V1];rfl
theorem Zm (x y:TW):aaK (bW x) (bW y)=abz x y:=by cases x<;>cases y<;>rfl
theorem MX (g:Nat) :∀(j:Nat) (xs ys:List TW),CJ g j (xs.map bW) (ys.map bW)=Em g j xs ys
 |_,[],[]=>rfl
 |_,[],y::ys=>rfl
 |_,x::xs,[]=>rfl
 |j,x::xs,y::ys=>by
  simp only [Qf,CJ,Em,MX g (j+1) xs ys,Zm]
  cases Em g (j+1) xs ys<;>rfl
theorem Zn (g:Nat) (x:TO) (y:Option TO):QU g (dY x) (y.map dY)=Vg g x y:=by
 cases x with
 |box ws=>
  cases y with
  |none=>rfl
  |some y=>
   cases y with
   |box ws'=>
    simp only [dY,ZZ,QU,Vg,MX]
    cases Em g 0 ws ws'<;>rfl
   |_=>rfl
 |_=>cases y<;>rfl
theorem yK (g:Nat) :∀(l:List (Nat×TO)),(iF l).lookup g=(l.lookup g).map dY
 | []=>rfl
 |(k,x)::r=>by
  show (List.lookup g ((k,dY x)::iF r))=_
  simp only [List.lookup]
  cases hb:g==k with
  |true=>rfl
  |false=>exact yK g r
theorem ail {st:jw} {e:jO}:UE (aU st) e.er=kpT st e.aK:=by
 unfold UE kpT
 show ((iF e.aK).map (·.1)).flatMap _=_
 rw [JL]
 refine jK fun g _ => ?_
 show QU g (dY (st.go g)) ((iF e.aK).lookup g)=_
 rw [yK,Zn]
theorem abX (x:TO):kindOf (dY x)=abA x:=by cases x<;>rfl
theorem uU {α β:Type} {f g:α→Option β} :∀{l:List α},(∀x∈l,f x=g x)→l.filterMap f=l.filterMap g
 | [],_=>rfl
 |x::l,h=>by
  have ih:l.filterMap f=l.filterMap g:=uU fun y hy=>h y (US _ hy)
  simp only [List.filterMap_cons,h x (by simp),ih]
theorem ain {st:jw} {e:jO}:UG (aU st) e.er=kdT st e.aK:=by
 unfold UG kdT
 show ((iF e.aK).map (·.1)).filterMap _=_
 rw [JL]
 refine uU fun g _ => ?_
 show (match (iF e.aK).lookup g with
  |some x=>bif Nat.beq (kindOf x) (kindOf (dY (st.go g))) then some g else none
  |none=>none)=_
 rw [yK]
 cases e.aK.lookup g with
 |none=>rfl
 |some x=>simp only [ZZ,abX]
theorem aio {tt:TT} {st:jw} {o:Oper}:IJ tt (aU st) o=ldT tt st o:=by
 unfold IJ ldT
 cases o.op with
 |load t x=>
  simp only [nN]
  cases tt t with
  |none=>rfl
  |some i=>
   cases st.dH x with
   |v x=>
    cases x with
    |one x=>cases x<;>rfl
    |agg xs=>rfl
   |_=>rfl
 |_=>rfl
theorem R_ {R:Type} {T:lY} {tt:TT} {ety:TypeId→Option Ty} {N:Nat} {ops:Array Oper} {r:R} {K:iW→List tV→Prog R} :∀{l:List Oper} {i:Nat} {q:iW} {fs:List tV},l=ops.toList.drop i→(runNT T tt ety N ops l q fs K).run=some r→
  oO (ng T) tt N ops (List.range' i l.length) (aU q.st) fs fun st' fs' =>∃q':iW,st'=aU q'.st∧qY q q'∧(K q' fs').run=some r
 | [],i,q,fs,hl,h=>⟨q,rfl,qY.refl q,h⟩
 |o::os,i,q,fs,hl,h=>by
  have h0:ops[i]?=some o:=by
   have:=congrArg (·[0]?) hl
   simpa using this.symm
  have h1:os=ops.toList.drop (i+1):=by
   have:=congrArg List.tail hl
   simpa using this
  simp only [K8,Kh,oO,h0]
  unfold runNT at h
  split at h
  ·exact (aY h).elim
  ·rename_i rd hrd
   refine Ep ?_ (RY h)
   rintro e ⟨q',te,rfl,he,hr,h⟩
   simp only [oL,aik] at h
   have ih:=R_ h1 h
   rw [←aio,←ail,←ain,←he] at ih
   rw [abW hrd,←he,←Eo]
   have e1:te.er.aK.map (·.1)=te.aK.map (·.1):=JL te.aK
   have e2:te.er.new=te.new:=rfl
   rw [e1,e2]
   refine wE ?_ ih
   rintro st' fs' ⟨q'',rfl,hr',h⟩
   exact ⟨q'',rfl,(hr.trans (qY.eff q' o.dst te)).trans hr',h⟩
theorem JM {R:Type} {T:lY} {tt:TT} {ety:TypeId→Option Ty} {N:Nat} {ops:Array Oper} {draw:Bool} {r:R} {K:iW→Prog R} {q:iW} {Kp:St→Prop} (h:(wu T tt ety N ops draw q K).run=some r)
  (hK :∀q',qY q q'→(K q').run=some r→Kp (aU q'.st)):pY (ng T) tt N ops draw (aU q.st) Kp:=by
 unfold wu at h
 unfold pY
 cases draw with
 |false=>
  have:=Xo (i:=0) (by simp) h
  rw [←KK,qa] at this
  refine yJ ?_ this
  rintro st' ⟨q',rfl,hr,h⟩
  exact hK q' hr h
 |true=>
  have:=R_ (i:=0) (by simp) h
  rw [←KK,qa] at this
  refine wE ?_ this
  rintro st' fs ⟨q',rfl,hr,h⟩
  split at h
  ·rename_i hf
   exact ⟨hf,hK q' hr h⟩
  ·exact (aY h).elim
theorem Si {A R:Type} {x:Prog A} {k:A→Prog R} {r:R} (h:(Prog.join x k).run=some r) :∃a,x.run=some a∧(k a).run=some r:=by
 have h:x.run.bind (fun z=>(k z).run)=some r:=h
 cases hx:x.run with
 |none=>rw [hx] at h;cases h
 |some a=>rw [hx] at h;exact ⟨a,rfl,h⟩
theorem Zo {A R:Type} {x:Prog (A ⊕ R)} {k:A→Prog R} {r:R} (h:(Prog.MH x k).run=some r):(∃a,x.run=some (.inl a)∧(k a).run=some r)∨x.run=some (.inr r):=by
 have h:dP x.run (fun z=>(k z).run)=some r:=h
 cases hx:x.run with
 |none=>rw [hx] at h;cases h
 |some a=>
  rw [hx] at h
  cases a with
  |inl a=>exact .inl ⟨a,rfl,h⟩
  |inr r'=>
   have h:some r'=some r:=h
   cases h;exact .inr rfl
theorem Vm {A R:Type} {body:A→Option (A ⊕ R)} {a:A} {r:R} (h:bD body a=some r) :∃n,iO body n a=some r:=by
 unfold bD at h
 split at h
 ·exact ⟨_,h⟩
 ·cases h
theorem Sj {A R:Type} {a:A} {body:A→Prog (A ⊕ R)} {r:R} (h:(Prog.loop a body).run=some r) :∃n,iO (fun z=>(body z).run) n a=some r:=Vm h
theorem Bj {A R:Type} {body:A→Option (A ⊕ R)} :∀{n m:Nat} {a:A} {r:R},n≤m→iO body n a=some r→iO body m a=some r
 |0,m,a,r,_,h=>by cases h
 |n+1,0,a,r,hm,h=>by omega
 |n+1,m+1,a,r,hm,h=>by
  simp only [iO] at h ⊢
  cases hb:body a with
  |none=>rw [hb] at h;cases h
  |some v=>
   rw [hb] at h
   cases v with
   |inl a'=>exact Bj (n:=n) (by omega) h
   |inr r'=>exact h
theorem yL {A R:Type} {body:A→Option (A ⊕ R)} {n:Nat} {a:A} {r:R} (h:iO body n a=some r):bD body a=some r:=by
 have hex :∃n r,iO body n a=some r:=⟨n,r,h⟩
 unfold bD
 rw [dif_pos hex]
 obtain ⟨r',h'⟩:=Classical.choose_spec hex
 rw [h']
 rcases Nat.le_total n (Classical.choose hex) with hle | hle
 ·have:=Bj hle h
  rw [this] at h';exact h'.symm
 ·have:=Bj hle h'
  rw [this] at h;exact h
theorem Bl {A R:Type} (body:A→Option (A ⊕ R)) (a:A):bD body a=(body a).bind fun
  |.inl a'=>bD body a'
  |.inr r=>some r:=by
 cases hb:body a with
 |none=>
  have:¬∃n r,iO body n a=some r:=by
   rintro ⟨n,r,h⟩
   cases n with
   |zero=>cases h
   |succ n=>simp only [iO,hb] at h;cases h
  unfold bD
  rw [dif_neg this];rfl
 |some v=>
  cases v with
  |inr r=>exact yL (n:=1) (by simp only [iO,hb];rfl)
  |inl a'=>
   show bD body a=bD body a'
   by_cases hex :∃n r,iO body n a'=some r
   ·obtain ⟨n,r,hn⟩:=hex
    rw [yL hn]
    exact yL (n:=n+1) (by simp only [iO,hb];exact hn)
   ·have hex':¬∃n r,iO body n a=some r:=by
     rintro ⟨n,r,h⟩
     cases n with
     |zero=>cases h
     |succ n=>simp only [iO,hb] at h;exact hex ⟨n,r,h⟩
    unfold bD
    rw [dif_neg hex,dif_neg hex']
theorem Xp {A R R':Type} {f:R→R'} (hf :∀a b,f a=f b→a=b) :∀a b:A ⊕ R,Sum.map id f a=Sum.map id f b→a=b
 |.inl a,.inl b,h=>by cases h;rfl
 |.inl a,.inr b,h=>by cases h
 |.inr a,.inl b,h=>by cases h
 |.inr a,.inr b,h=>by
  have h:(Sum.inr (f a):A ⊕ R')=.inr (f b):=h
  simp only [Sum.inr.injEq] at h
  rw [hf _ _ h]
theorem run_map {R R':Type} (f:R→R') (hf :∀a b,f a=f b→a=b) (p:Prog R):(p.map f).run=p.run.map f:=by
 induction p generalizing R' with
 |ret r=>rfl
 |stuck n=>rfl
 |cond b x y GZ ihy=>
  show (bif b then (x.map f).run else (y.map f).run)=(bif b then x.run else y.run).map f
  rw [GZ f hf,ihy f hf];cases b<;>rfl
 |chk b x ih=>
  show ck b (x.map f).run=(ck b x.run).map f
  rw [ih f hf];cases b<;>rfl
 |any x y GZ ihy=>
  show both (x.map f).run (y.map f).run=(both x.run y.run).map f
  rw [GZ f hf,ihy f hf]
  unfold both
  by_cases e:x.run=y.run
  ·rw [if_pos e,if_pos (by rw [e])]
  ·rw [if_neg e,if_neg]
   ·rfl
   ·intro h
    apply e
    cases hx:x.run with
    |none=>
     cases hy:y.run with
     |none=>rfl
     |some b=>rw [hx,hy] at h;cases h
    |some a=>
     cases hy:y.run with
     |none=>rw [hx,hy] at h;cases h
     |some b=>
      rw [hx,hy] at h
      simp only [ZZ,Q0] at h
      rw [hf a b h]
 |let_ x k ih=>exact ih x f hf
 |join x k GZ ihk=>
  show x.run.bind (fun z=>((k z).map f).run)=(x.run.bind fun z=>(k z).run).map f
  cases x.run with
  |none=>rfl
  |some a=>exact ihk a f hf
 |MH x k GZ ihk=>
  show dP (x.map (Sum.map id f)).run (fun z=>((k z).map f).run)=(dP x.run fun z=>(k z).run).map f
  rw [GZ _ (Xp hf)]
  cases x.run with
  |none=>rfl
  |some a=>
   cases a with
   |inl a=>exact ihk a f hf
   |inr r=>rfl
 |loop a body ih=>
  show bD (fun z=>((body z).map (Sum.map id f)).run) a=(bD (fun z=>(body z).run) a).map f
  have e:(fun z=>((body z).map (Sum.map id f)).run)=fun z=>(body z).run.map (Sum.map id f):=funext fun z=>ih z _ (Xp hf)
  rw [e]
  have key :∀n a,iO (fun z=>(body z).run.map (Sum.map id f)) n a=(iO (fun z=>(body z).run) n a).map f:=by
   intro n
   induction n with
   |zero=>intro a;rfl
   |succ n ihn=>
    intro a
    simp only [iO]
    cases (body a).run with
    |none=>rfl
    |some v=>
     cases v with
     |inl a'=>exact ihn a'
     |inr r=>rfl
  have hiff:(∃n r,iO (fun z=>(body z).run.map (Sum.map id f)) n a=some r)↔∃n r,iO (fun z=>(body z).run) n a=some r:=by
   constructor
   ·rintro ⟨n,r,h⟩
    rw [key] at h
    cases hx:iO (fun z=>(body z).run) n a with
    |none=>rw [hx] at h;cases h
    |some r'=>exact ⟨n,r',hx⟩
   ·rintro ⟨n,r,h⟩
    exact ⟨n,f r,by rw [key,h];rfl⟩
  by_cases hex :∃n r,iO (fun z=>(body z).run) n a=some r
  ·obtain ⟨n,r,hn⟩:=hex
   have u1:=yL hn
   have u2:iO (fun z=>(body z).run.map (Sum.map id f)) n a=some (f r):=by rw [key,hn];rfl
   rw [u1,yL u2];rfl
  ·have hex':=fun h=>hex (hiff.1 h)
   unfold bD
   rw [dif_neg hex,dif_neg hex'];rfl
 |call n g a k ih=>
  show (g a).bind (fun z=>((k z).map f).run)=((g a).bind fun z=>(k z).run).map f
  cases g a with
  |none=>rfl
  |some y=>exact ih y f hf
end
end Go.Fg

namespace Go.Fg
open Go.Fw
section
variable [RE] {m:Ren}
theorem zX :∀{caps:List TW} {gs:List Nat},C9 caps=some gs→Ee gs=caps
 | [],gs,h=>by simp only [C9,Q0] at h;subst h;rfl
 |c::cs,gs,h=>by
  cases c with
  |box g off=>
   unfold C9 at h
   obtain ⟨hb,h⟩:=bQ h
   have hb:=Q4 hb
   subst hb
   split at h
   ·rename_i gs' hg
    cases h
    simp only [Ee,zX hg]
   ·cases h
  |_=>cases h
theorem Xq {x:TW} {k:jT} {u u':List Wd} (h:Rz x=some (k,u)) (hc:Ef m k x=some u'):u'=u∧u.length=k.tys.length:=by
 cases x<;>try simp only [Rz,Q0,Q1,reduceCtorEq] at h
 case p a i w=>
  obtain ⟨rfl,rfl⟩:=h
  simp only [Ef] at hc
  split at hc
  ·obtain ⟨_,rfl⟩:=Dh hc;exact ⟨rfl,rfl⟩
  ·cases hc
 case cO=>obtain ⟨rfl,rfl⟩:=h;simp only [Ef,Q0] at hc;subst hc;exact ⟨rfl,rfl⟩
 case own g=>
  obtain ⟨rfl,rfl⟩:=h
  simp only [Ef] at hc
  split at hc
  ·cases hc;exact ⟨rfl,rfl⟩
  ·cases hc
 case box g off=>
  obtain ⟨rfl,rfl⟩:=h
  simp only [Ef] at hc
  split at hc
  ·cases hc;exact ⟨rfl,rfl⟩
  ·cases hc
 case clo f caps=>
  split at h
  ·simp only [Q0,Q1] at h
   obtain ⟨rfl,rfl⟩:=h
   simp only [Ef] at hc
   obtain ⟨_,rfl⟩:=Dh hc;exact ⟨rfl,rfl⟩
  ·cases h
 case vw g lo hi=>
  obtain ⟨rfl,rfl⟩:=h
  simp only [Ef] at hc
  split at hc
  ·cases hc;exact ⟨rfl,rfl⟩
  ·cases hc
 case ep g n off=>
  obtain ⟨rfl,rfl⟩:=h
  simp only [Ef] at hc
  split at hc
  ·cases hc;exact ⟨rfl,rfl⟩
  ·cases hc
 case m_ g=>
  obtain ⟨rfl,rfl⟩:=h
  simp only [Ef] at hc
  split at hc
  ·cases hc;exact ⟨rfl,rfl⟩
  ·cases hc
theorem JO :∀{xs:List TW} {ks:List jT} {u u':List Wd},wU xs=some (ks,u)→yx m ks xs=some u'→u'=u∧u.length=(ks.flatMap jT.tys).length
 | [],ks,u,u',h,hc=>by
  simp only [wU,Q0,Q1] at h
  obtain ⟨rfl,rfl⟩:=h
  simp only [yx,Q0] at hc;subst hc;exact ⟨rfl,rfl⟩
 |x::xs,ks,u,u',h,hc=>by
  simp only [wU] at h
  split at h
  ·rename_i h1 h2
   simp only [Q0,Q1] at h
   obtain ⟨rfl,rfl⟩:=h
   simp only [yx] at hc
   split at hc
   ·rename_i h3 h4
    simp only [Q0] at hc;subst hc
    obtain ⟨rfl,e1⟩:=Xq h1 h3
    obtain ⟨rfl,e2⟩:=JO h2 h4
    exact ⟨rfl,by simp only [Z0,ZS,e1,e2]⟩
   ·cases hc
  ·cases h
theorem aeS {x:TS} {k:lH} {u u':List Wd} (h:OZ x=some (k,u)) (hc:aey m k x=some u'):u'=u∧u.length=k.tys.length:=by
 unfold OZ at h
 split at h
 ·split at h
  ·rename_i h1
   simp only [Q0,Q1] at h
   obtain ⟨rfl,rfl⟩:=h
   exact Xq h1 hc
  ·cases h
 ·split at h
  ·rename_i h1
   simp only [Q0,Q1] at h
   obtain ⟨rfl,rfl⟩:=h
   exact JO h1 hc
  ·cases h
 ·cases h
theorem aeT {x:TO} {k:iD} {u u':List Wd} (h:xq x=some (k,u)) (hc:U_ m k x=some u'):u'=u∧u.length=k.tys.length:=by
 cases x with
 |none=>cases h
 |box ws=>
  simp only [xq] at h
  split at h
  ·rename_i h1
   simp only [Q0,Q1] at h
   obtain ⟨rfl,rfl⟩:=h
   exact JO h1 hc
  ·cases h
 |arr fz a i e l=>
  simp only [xq,Q0,Q1] at h
  obtain ⟨rfl,rfl⟩:=h
  simp only [U_] at hc
  split at hc
  ·rename_i l' hl
   split at hc
   ·simp only [Q0] at hc;subst hc
    have:=gU hl
    exact ⟨congrArg (fun w=>[w]) this.symm,rfl⟩
   ·cases hc
  ·cases hc
 |it s n=>
  simp only [xq,Q0,Q1] at h
  obtain ⟨rfl,rfl⟩:=h
  simp only [U_,Q0] at hc
  exact ⟨hc.symm,rfl⟩
 |aP a i e au l hole=>
  simp only [xq] at h
  split at h
  ·simp only [Q0,Q1] at h
   obtain ⟨rfl,rfl⟩:=h
   simp only [U_] at hc
   split at hc
   ·rename_i l' hl _
    split at hc
    ·simp only [Q0] at hc;subst hc
     have:=gU hl
     exact ⟨congrArg (fun w=>[w]) this.symm,rfl⟩
    ·cases hc
   ·cases hc
  ·cases h
theorem Xr {x:TW} {k:jT} {u vs:List Wd} {n:Nat} (h:Rz x=some (k,u)) (ha :∀(j:Nat) w,u[j]?=some w→vs[n+j]?=some w):(AY vs n k).1=x∧u.length=k.tys.length:=by
 cases x<;>try simp only [Rz,Q0,Q1,reduceCtorEq] at h
 case p a i w=>
  obtain ⟨rfl,rfl⟩:=h
  have:=ha 0 w rfl
  refine ⟨?_,rfl⟩
  show TW.p a i (vs.getD n AX)=.p a i w
  rw [List.getD_eq_getElem?_getD,show vs[n]?=some w from this];rfl
 case vw g lo hi=>
  obtain ⟨rfl,rfl⟩:=h
  refine ⟨?_,rfl⟩
  have h0:=ha 0 (iJ .i64 lo) rfl
  have h1:=ha 1 (iJ .i64 hi) rfl
  have e0:vs.getD n AX=iJ .i64 lo:=by rw [List.getD_eq_getElem?_getD,show vs[n]?=some (iJ .i64 lo) from h0];rfl
  have e1:vs.getD (n+1) AX=iJ .i64 hi:=by rw [List.getD_eq_getElem?_getD,show vs[n+1]?=some (iJ .i64 hi) from h1];rfl
  show TW.vw g ((vs.getD n AX).as (.int .i64)) ((vs.getD (n+1) AX).as (.int .i64))=.vw g lo hi
  rw [e0,e1]
  have a0:TP.as (.int .i64) (iJ .i64 lo)=lo:=sD (.int .i64) lo
  have a1:TP.as (.int .i64) (iJ .i64 hi)=hi:=sD (.int .i64) hi
  rw [a0,a1]
 case ep g q off=>
  obtain ⟨rfl,rfl⟩:=h
  refine ⟨?_,rfl⟩
  have h0:=ha 0 (iJ .i64 q) rfl
  have e0:vs.getD n AX=iJ .i64 q:=by rw [List.getD_eq_getElem?_getD,show vs[n]?=some (iJ .i64 q) from h0];rfl
  show TW.ep g ((vs.getD n AX).as (.int .i64)) off=.ep g q off
  rw [e0]
  have a0:TP.as (.int .i64) (iJ .i64 q)=q:=sD (.int .i64) q
  rw [a0]
 case clo f caps=>
  split at h
  ·rename_i gs hgs
   simp only [Q0,Q1] at h
   obtain ⟨rfl,rfl⟩:=h
   exact ⟨by simp only [AY,zX hgs],rfl⟩
  ·cases h
 all_goals (obtain ⟨rfl,rfl⟩:=h;exact ⟨rfl,rfl⟩)
theorem aeU {α:Type} {vs a b:List α} {n:Nat} (h :∀(j:Nat) w,(a++b)[j]?=some w→vs[n+j]?=some w) :∀(j:Nat) w,a[j]?=some w→vs[n+j]?=some w:=fun j w hw=>h j w (by rw [Zs (Q3.1 hw).1];exact hw)
theorem abY {α:Type} {vs a b:List α} {n:Nat} (h :∀(j:Nat) w,(a++b)[j]?=some w→vs[n+j]?=some w) :∀(j:Nat) w,b[j]?=some w→vs[n+a.length+j]?=some w:=fun j w hw=>by
 rw [Up]
 exact h (a.length+j) w (by rw [Z2 (by omega)];simpa using hw)
theorem JQ :∀{xs:List TW} {ks:List jT} {u vs:List Wd} {n:Nat},wU xs=some (ks,u)→(∀(j:Nat) w,u[j]?=some w→vs[n+j]?=some w)→(uP vs n ks).1=xs∧u.length=(ks.flatMap jT.tys).length
 | [],ks,u,vs,n,h,ha=>by
  simp only [wU,Q0,Q1] at h
  obtain ⟨rfl,rfl⟩:=h
  exact ⟨rfl,rfl⟩
 |x::xs,ks,u,vs,n,h,ha=>by
  simp only [wU] at h
  split at h
  ·rename_i k1 u1 ks1 us1 h1 h2
   simp only [Q0,Q1] at h
   obtain ⟨rfl,rfl⟩:=h
   obtain ⟨a1,a2⟩:=Xr h1 (aeU ha)
   obtain ⟨b1,b2⟩:=JQ (n:=n+u1.length) h2 (abY ha)
   refine ⟨?_,by simp only [Z0,ZS,a2,b2]⟩
   simp only [uP,a1,Dc]
   rw [←a2,b1]
  ·cases h
theorem aeV {x:TS} {k:lH} {u vs:List Wd} {n:Nat} (h:OZ x=some (k,u)) (ha :∀(j:Nat) w,u[j]?=some w→vs[n+j]?=some w):(GL vs n k).1=x∧u.length=k.tys.length:=by
 unfold OZ at h
 split at h
 ·split at h
  ·rename_i h1
   simp only [Q0,Q1] at h
   obtain ⟨rfl,rfl⟩:=h
   obtain ⟨a1,a2⟩:=Xr h1 ha
   exact ⟨by simp only [GL,a1],a2⟩
  ·cases h
 ·split at h
  ·rename_i h1
   simp only [Q0,Q1] at h
   obtain ⟨rfl,rfl⟩:=h
   obtain ⟨a1,a2⟩:=JQ h1 ha
   exact ⟨by simp only [GL,a1],a2⟩
  ·cases h
 ·cases h
theorem aeW {x:TO} {k:iD} {u vs:List Wd} {n:Nat} (h:xq x=some (k,u)) (ha :∀(j:Nat) w,u[j]?=some w→vs[n+j]?=some w):(Eh vs n k).1=x∧u.length=k.tys.length:=by
 cases x with
 |none=>cases h
 |box ws=>
  simp only [xq] at h
  split at h
  ·rename_i h1
   simp only [Q0,Q1] at h
   obtain ⟨rfl,rfl⟩:=h
   obtain ⟨a1,a2⟩:=JQ h1 ha
   exact ⟨by simp only [Eh,a1],a2⟩
  ·cases h
 |arr fz a i e l=>
  simp only [xq,Q0,Q1] at h
  obtain ⟨rfl,rfl⟩:=h
  refine ⟨?_,rfl⟩
  have:=ha 0 (uH e l) rfl
  have e1:vs.getD n AX=uH e l:=by rw [List.getD_eq_getElem?_getD,show vs[n]?=some (uH e l) from this];rfl
  show TO.arr fz a i e ((vs.getD n AX).as (.sl e))=.arr fz a i e l
  rw [e1]
  congr 1
  exact sD (.sl e) l
 |it s p=>
  simp only [xq,Q0,Q1] at h
  obtain ⟨rfl,rfl⟩:=h
  refine ⟨?_,rfl⟩
  have h0:=ha 0 (Q_ s) rfl
  have h1:=ha 1 (iJ .i64 p) rfl
  have e0:vs.getD n AX=Q_ s:=by rw [List.getD_eq_getElem?_getD,show vs[n]?=some (Q_ s) from h0];rfl
  have e1:vs.getD (n+1) AX=iJ .i64 p:=by rw [List.getD_eq_getElem?_getD,show vs[n+1]?=some (iJ .i64 p) from h1];rfl
  show TO.it ((vs.getD n AX).as .str) ((vs.getD (n+1) AX).as (.int .i64))=.it s p
  rw [e0,e1]
  have a0:TP.as .str (Q_ s)=s:=sD .str s
  have a1:TP.as (.int .i64) (iJ .i64 p)=p:=sD (.int .i64) p
  rw [a0,a1]
 |aP a i e au l hole=>
  simp only [xq] at h
  split at h
  ·simp only [Q0,Q1] at h
   obtain ⟨rfl,rfl⟩:=h
   refine ⟨?_,rfl⟩
   have:=ha 0 (uH e l) rfl
   have e1:vs.getD n AX=uH e l:=by rw [List.getD_eq_getElem?_getD,show vs[n]?=some (uH e l) from this];rfl
   show TO.aP a i e au ((vs.getD n AX).as (.sl e)) none=.aP a i e au l none
   rw [e1]
   congr 1
   exact sD (.sl e) l
  ·cases h
theorem Xt {x:TW} {k:jT} {u:List Wd} (h:Rz x=some (k,u)):u.map (·.t)=k.tys:=by
 cases x<;>try simp only [Rz,Q0,Q1,reduceCtorEq] at h
 case clo f caps=>
  split at h
  ·simp only [Q0,Q1] at h
   obtain ⟨rfl,rfl⟩:=h;rfl
  ·cases h
 all_goals (obtain ⟨rfl,rfl⟩:=h;rfl)
theorem JR :∀{xs:List TW} {ks:List jT} {u:List Wd},wU xs=some (ks,u)→u.map (·.t)=ks.flatMap jT.tys
 | [],ks,u,h=>by
  simp only [wU,Q0,Q1] at h
  obtain ⟨rfl,rfl⟩:=h;rfl
 |x::xs,ks,u,h=>by
  simp only [wU] at h
  split at h
  ·rename_i h1 h2
   simp only [Q0,Q1] at h
   obtain ⟨rfl,rfl⟩:=h
   simp only [Z1,ZS,Xt h1,JR h2]
  ·cases h
theorem Xu {x:TS} {k:lH} {u:List Wd} (h:OZ x=some (k,u)):u.map (·.t)=k.tys:=by
 unfold OZ at h
 split at h
 ·split at h
  ·rename_i h1
   simp only [Q0,Q1] at h
   obtain ⟨rfl,rfl⟩:=h
   exact Xt h1
  ·cases h
 ·split at h
  ·rename_i h1
   simp only [Q0,Q1] at h
   obtain ⟨rfl,rfl⟩:=h
   exact JR h1
  ·cases h
 ·cases h
theorem aeX {x:TO} {k:iD} {u:List Wd} (h:xq x=some (k,u)):u.map (·.t)=k.tys:=by
 cases x with
 |none=>cases h
 |box ws=>
  simp only [xq] at h
  split at h
  ·rename_i h1
   simp only [Q0,Q1] at h
   obtain ⟨rfl,rfl⟩:=h
   exact JR h1
  ·cases h
 |arr fz a i e l=>
  simp only [xq,Q0,Q1] at h
  obtain ⟨rfl,rfl⟩:=h
  rfl
 |it s n=>
  simp only [xq,Q0,Q1] at h
  obtain ⟨rfl,rfl⟩:=h
  rfl
 |aP a i e au l hole=>
  simp only [xq] at h
  split at h
  ·simp only [Q0,Q1] at h
   obtain ⟨rfl,rfl⟩:=h
   rfl
  ·cases h
def Sl (s:Nat→TS) (l:List (Nat×lH×Option (List Wd))):Prop :=∀t k u,(t,k,some u)∈l→OZ (s t)=some (k,u)
def Xv (s:Nat→TO) (l:List (Nat×iD×Option (List Wd))):Prop :=∀t k u,(t,k,some u)∈l→xq (s t)=some (k,u)
theorem yM {s:Nat→TS} :∀{l:List (Nat×Md)} {r:List (Nat×lH×Option (List Wd))},AZ s l=some r→Sl s r
 | [],r,h=>by simp only [AZ,Q0] at h;subst h;intro t k u hm;cases hm
 |(t,.keep)::l,r,h=>by
  simp only [AZ] at h
  split at h
  ·rename_i h1 h2
   simp only [Q0] at h;subst h
   intro t' k u hm
   rcases QR.1 hm with hm | hm
   ·cases hm;exact h1
   ·exact yM h2 t' k u hm
  ·cases h
 |(t,.sl k0)::l,r,h=>by
  simp only [AZ] at h
  split at h
  ·rename_i h2
   simp only [Q0] at h;subst h
   intro t' k u hm
   rcases QR.1 hm with hm | hm
   ·cases hm
   ·exact yM h2 t' k u hm
  ·cases h
theorem Bo {s:Nat→TO} :∀{l:List (Nat×Mo)} {r:List (Nat×iD×Option (List Wd))},Js s l=some r→Xv s r
 | [],r,h=>by simp only [Js,Q0] at h;subst h;intro t k u hm;cases hm
 |(t,.keep)::l,r,h=>by
  simp only [Js] at h
  split at h
  ·rename_i h1 h2
   simp only [Q0] at h;subst h
   intro t' k u hm
   rcases QR.1 hm with hm | hm
   ·cases hm;exact h1
   ·exact Bo h2 t' k u hm
  ·cases h
 |(t,.ob k0)::l,r,h=>by
  simp only [Js] at h
  split at h
  ·rename_i h2
   simp only [Q0] at h;subst h
   intro t' k u hm
   rcases QR.1 hm with hm | hm
   ·cases hm
   ·exact Bo h2 t' k u hm
  ·cases h
theorem Dk {s s':Nat→TS} :∀{l:List (Nat×lH×Option (List Wd))} {us rest kV:List Wd},Sl s l→(∀t k u,(t,k,some u)∈l→s' t=s t)→nP m s' (l.map fun p=>(p.1,p.2.1))=some us→
  ∃e,O1 l (us++rest)=(e,rest)∧lZ l (e++kV)=(us,kV)∧e.map (·.t)=jC l
 | [],us,rest,kV,hk,hs,h=>by
  simp only [Uv,nP,Q0] at h;subst h
  exact ⟨[],rfl,rfl,rfl⟩
 |(t,k,some u)::l,us,rest,kV,hk,hs,h=>by
  simp only [Qf,nP] at h
  split at h
  ·rename_i u1 v h1 h2
   simp only [Q0] at h;subst h
   rw [hs t k u (by simp)] at h1
   obtain ⟨rfl,hl⟩:=aeS (hk t k u (by simp)) h1
   obtain ⟨e,e1,e2,e3⟩:=Dk (rest:=rest) (kV:=kV) (fun t k u hm=>hk t k u (by simp [hm])) (fun t k u hm=>hs t k u (by simp [hm])) h2
   refine ⟨e,?_,?_,by simp only [jC,e3]⟩
   ·simp only [O1,Wa,Vc,e1]
   ·simp only [lZ,e2]
  ·cases h
 |(t,k,none)::l,us,rest,kV,hk,hs,h=>by
  simp only [Qf,nP] at h
  split at h
  ·rename_i u1 v h1 h2
   simp only [Q0] at h;subst h
   have hty:=(Xf h1).2
   have hl:u1.length=k.tys.length:=by rw [←hty,Z3]
   obtain ⟨e,e1,e2,e3⟩:=Dk (rest:=rest) (kV:=kV) (fun t k u hm=>hk t k u (by simp [hm])) (fun t k u hm=>hs t k u (by simp [hm])) h2
   refine ⟨u1++e,?_,?_,by simp only [Z1,hty,jC,e3]⟩
   ·simp only [O1,Wa,←hl,K1,Vc,e1]
   ·simp only [lZ,Wa,←hl,K1,Vc,e2]
  ·cases h
theorem Dl {s s':Nat→TO} :∀{l:List (Nat×iD×Option (List Wd))} {us rest kV:List Wd},Xv s l→(∀t k u,(t,k,some u)∈l→s' t=s t∧m.lookup t=some (some t))→qh m s' (l.map fun p=>(p.1,p.2.1))=some us→
  ∃e,RD l (us++rest)=(e,rest)∧qR l (e++kV)=(us,kV)∧e.map (·.t)=o_ l
 | [],us,rest,kV,hk,hs,h=>by
  simp only [Uv,qh,Q0] at h;subst h
  exact ⟨[],rfl,rfl,rfl⟩
 |(t,k,some u)::l,us,rest,kV,hk,hs,h=>by
  simp only [Qf,qh] at h
  split at h
  ·rename_i u1 v h1 h2
   simp only [Q0] at h;subst h
   obtain ⟨hs1,hm1⟩:=hs t k u (by simp)
   rw [hm1] at h1
   simp only at h1
   rw [hs1] at h1
   obtain ⟨rfl,hl⟩:=aeT (hk t k u (by simp)) h1
   obtain ⟨e,e1,e2,e3⟩:=Dl (rest:=rest) (kV:=kV) (fun t k u hm=>hk t k u (by simp [hm])) (fun t k u hm=>hs t k u (by simp [hm])) h2
   refine ⟨e,?_,?_,by simp only [o_,e3]⟩
   ·simp only [RD,Wa,Vc,e1]
   ·simp only [qR,e2]
  ·cases h
 |(t,k,none)::l,us,rest,kV,hk,hs,h=>by
  simp only [Qf,qh] at h
  split at h
  ·rename_i u1 v h1 h2
   simp only [Q0] at h;subst h
   have hty:u1.map (·.t)=k.tys:=by
    cases hg:m.lookup t with
    |none=>rw [hg] at h1;cases h1
    |some og=>
     rw [hg] at h1
     cases og with
     |some g=>exact (Xg h1).2
     |none=>
      simp only at h1
      split at h1
      ·cases h1;rfl
      ·cases h1;rfl
      ·cases h1
   have hl:u1.length=k.tys.length:=by rw [←hty,Z3]
   obtain ⟨e,e1,e2,e3⟩:=Dl (rest:=rest) (kV:=kV) (fun t k u hm=>hk t k u (by simp [hm])) (fun t k u hm=>hs t k u (by simp [hm])) h2
   refine ⟨u1++e,?_,?_,by simp only [Z1,hty,o_,e3]⟩
   ·simp only [RD,Wa,←hl,K1,Vc,e1]
   ·simp only [qR,Wa,←hl,K1,Vc,e2]
  ·cases h
theorem Bq {s:List (Nat×TS)} {ds:List Nat} :∀{l:List (Nat×lH×Option (List Wd))},RF s ds l=true→∀t k u,(t,k,some u)∈l→hasK t s=true∧fH t ds=false
 | [],h,t,k,u,hm=>by cases hm
 |(t0,k0,some u0)::l,h,t,k,u,hm=>by
  simp only [RF,Q6,Wz] at h
  rcases QR.1 hm with hm | hm
  ·cases hm;exact h.1
  ·exact Bq h.2 t k u hm
 |(t0,k0,none)::l,h,t,k,u,hm=>by
  rcases QR.1 hm with hm | hm
  ·cases hm
  ·exact Bq (l:=l) h t k u hm
theorem Bv {s:List (Nat×TO)} {ds:List Nat} :∀{l:List (Nat×iD×Option (List Wd))},RG s ds l=true→∀t k u,(t,k,some u)∈l→hasK t s=true∧fH t ds=false
 | [],h,t,k,u,hm=>by cases hm
 |(t0,k0,some u0)::l,h,t,k,u,hm=>by
  simp only [RG,Q6,Wz] at h
  rcases QR.1 hm with hm | hm
  ·cases hm;exact h.1
  ·exact Bv h.2 t k u hm
 |(t0,k0,none)::l,h,t,k,u,hm=>by
  rcases QR.1 hm with hm | hm
  ·cases hm
  ·exact Bv (l:=l) h t k u hm
end
end Go.Fg

namespace Go.Fw
variable [d_]
def akq:TypeDesc→TK
 |.int k=>.int k
 |.bool=>.bool
 |.string=>.str
 |.slice e=>.slice e
 |.pointer _=>.ptr
 |.struct gs=>.struct (gs.toList.map fun f=>(f.offset,f.type))
 |.array n e=>.arr n e
 |_=>.other
theorem pJ.of {Pg:Program} {t:TypeId} {i:TI} (h1:(Pg.info? t).map (fun x=>(x.size,x.bytes,x.zero.map (·.cells.toList),x.zero.map fun z=>match z with | .agg _=>true | _=>false))=some (i.size,i.bytes,some i.zero,some i.agg))
  (h2:i.zero.all (·.oneCell')=true) (h3:i.zero.length=i.size) (hk:(Pg.underlying t).map akq=some i.k)
  (he:(!i.eq||(!Pg.stoodInHeld t&&!Pg.eqGuardType Pg.depth t&&(Pg.fieldsOf t).toList.all fun f=>!(f.name == "_")))=true):pJ Pg t i:=by
 refine ⟨h1,h2,h3,?_,fun h => ?_⟩
 rotate_left
 ·rw [h] at he
  simp only [Bool.not_true,UT,Q6,Wz,X2] at he
  exact ⟨he.1.1,he.1.2,fun f hf e=>by have:=he.2 f hf;rw [e] at this;simp at this⟩
 cases hu:Pg.underlying t with
 |none=>rw [hu] at hk;cases hk
 |some d=>
  rw [hu] at hk
  simp only [ZZ,Q0] at hk
  rw [←hk]
  cases d<;>simp [akq,nY,hu]
def ag9 (Pg:Program):List (Nat×TI)→Prop
 | []=>True
 |p::r=>pJ Pg p.1 p.2∧ag9 Pg r
theorem aeY {Pg:Program} (rows:List (Nat×TI)) (h:ag9 Pg rows):ig Pg fun t=>rows.lookup t:=by
 intro t i ht
 induction rows with
 |nil=>cases ht
 |cons p r ih=>
  obtain ⟨h1,h2⟩:=h
  simp only [List.lookup] at ht
  split at ht
  ·rename_i e
   have e:t=p.1:=by simpa using e
   simp only [Q0] at ht
   subst ht;subst e;exact h1
  ·exact ih h2 ht
theorem wrap64 {x:Int} (h1:-9223372036854775808≤x) (h2:x≤9223372036854775807):IntKind.i64.wrap x=x:=by
 have e:IntKind.i64.wrap x=if x % 18446744073709551616≥9223372036854775808 then x % 18446744073709551616-18446744073709551616 else x % 18446744073709551616:=by
  simp [IntKind.wrap,IntKind.bits,IntKind.signed]
 rw [e]
 split<;>omega
end Go.Fw

namespace Go.Fg
open Go.Fw
section
variable [RE]
theorem wF :∀{l:List (Nat×iD×Option (List Wd))} {r:Ren} {t:Nat} {k:iD} {u:List Wd},(t,k,some u)∈l→(MK l++r).lookup t=some (some t)
 | [],r,t,k,u,h=>by cases h
 |(t0,k0,some u0)::l,r,t,k,u,h=>by
  simp only [MK,JS,List.lookup,G8]
  cases hb:Nat.beq t t0 with
  |true=>have:=Q4 hb;subst this;rfl
  |false=>
   rcases QR.1 h with h | h
   ·cases h;simp at hb
   ·exact wF h
 |(t0,k0,none)::l,r,t,k,u,h=>by
  rcases QR.1 h with h | h
  ·cases h
  ·exact wF (l:=l) h
structure JOk (st:jw) (j:JF):Prop where
 s:Sl st.gs j.slots
 o:Xv st.go j.bf
 ds :∀t k u,(t,k,some u)∈j.slots→fH t (newS j.slots)=false
 dO :∀t k u,(t,k,some u)∈j.bf→fH t (rM j.bf)=false
theorem Es {nw:List Nat} :∀{l:List (Nat×lH×Option (List Wd))},abE nw l=true→∀t k u,(t,k,some u)∈l→fH t nw=false
 | [],h,t,k,u,hm=>by cases hm
 |(t0,k0,some u0)::l,h,t,k,u,hm=>by
  simp only [abE,Q6,Wz] at h
  rcases QR.1 hm with hm | hm
  ·cases hm;exact h.1
  ·exact Es h.2 t k u hm
 |(t0,k0,none)::l,h,t,k,u,hm=>by
  rcases QR.1 hm with hm | hm
  ·cases hm
  ·exact Es (l:=l) h t k u hm
theorem Et {nw:List Nat} :∀{l:List (Nat×iD×Option (List Wd))},abG nw l=true→∀t k u,(t,k,some u)∈l→fH t nw=false
 | [],h,t,k,u,hm=>by cases hm
 |(t0,k0,some u0)::l,h,t,k,u,hm=>by
  simp only [abG,Q6,Wz] at h
  rcases QR.1 hm with hm | hm
  ·cases hm;exact h.1
  ·exact Et h.2 t k u hm
 |(t0,k0,none)::l,h,t,k,u,hm=>by
  rcases QR.1 hm with hm | hm
  ·cases hm
  ·exact Et (l:=l) h t k u hm
theorem Vo {st:jw} {jt:JT} {j:JF} (h:jOf st jt=some j):JOk st j:=by
 unfold jOf at h
 split at h
 ·rename_i h1 h2
  split at h
  ·rename_i hd
   simp only [Q0] at h;subst h
   simp only [Q6] at hd
   exact ⟨yM h1,Bo h2,Es hd.1,Et hd.2⟩
  ·cases h
 ·cases h
theorem JU {st:jw} {j:JF} (hj:JOk st j) (x:Tup j.tys):(j.pay (Tup.lX j.tys x)).map (·.t)=j.sh.tys:=by
 have slots :∀(l:List (Nat×lH×Option (List Wd))) (hk :∀t k u,(t,k,some u)∈l→u.map (·.t)=k.tys) (ws rest:List Wd),ws.map (·.t)=jC l→(lZ l (ws++rest)).1.map (·.t)=(l.map fun p=>(p.1,p.2.1)).flatMap (fun p=>p.2.tys)∧(lZ l (ws++rest)).2=rest:=by
  intro l
  induction l with
  |nil=>intro hk ws rest h;simp only [jC,List.map_eq_nil_iff] at h;subst h;exact ⟨rfl,rfl⟩
  |cons p l ih=>
   intro hk ws rest h
   obtain ⟨t,k,ou⟩:=p
   cases ou with
   |some u=>
    obtain ⟨a1,a2⟩:=ih (fun t k u hm=>hk t k u (by simp [hm])) ws rest h
    exact ⟨by simp only [lZ,Z1,Qf,ZS,a1,hk t k u (by simp)],a2⟩
   |none=>
    simp only [jC] at h
    have hl:k.tys.length≤ws.length:=by
     have:=congrArg List.length h
     simp only [Z3,Z0] at this;omega
    have h1:(ws.take k.tys.length).map (·.t)=k.tys:=by rw [WF,h,K1]
    have h2:(ws.drop k.tys.length).map (·.t)=jC l:=by rw [Wt,h,Vc]
    have e1:(ws++rest).take k.tys.length=ws.take k.tys.length:=J1 hl
    have e2:(ws++rest).drop k.tys.length=ws.drop k.tys.length++rest:=Uq hl
    obtain ⟨a1,a2⟩:=ih (fun t k u hm=>hk t k u (by simp [hm])) _ rest h2
    simp only [lZ,e1,e2]
    exact ⟨by simp only [Z1,Qf,ZS,a1,h1],a2⟩
 have bf :∀(l:List (Nat×iD×Option (List Wd))) (hk :∀t k u,(t,k,some u)∈l→u.map (·.t)=k.tys) (ws rest:List Wd),ws.map (·.t)=o_ l→(qR l (ws++rest)).1.map (·.t)=(l.map fun p=>(p.1,p.2.1)).flatMap (fun p=>p.2.tys)∧(qR l (ws++rest)).2=rest:=by
  intro l
  induction l with
  |nil=>intro hk ws rest h;simp only [o_,List.map_eq_nil_iff] at h;subst h;exact ⟨rfl,rfl⟩
  |cons p l ih=>
   intro hk ws rest h
   obtain ⟨t,k,ou⟩:=p
   cases ou with
   |some u=>
    obtain ⟨a1,a2⟩:=ih (fun t k u hm=>hk t k u (by simp [hm])) ws rest h
    exact ⟨by simp only [qR,Z1,Qf,ZS,a1,hk t k u (by simp)],a2⟩
   |none=>
    simp only [o_] at h
    have hl:k.tys.length≤ws.length:=by
     have:=congrArg List.length h
     simp only [Z3,Z0] at this;omega
    have h1:(ws.take k.tys.length).map (·.t)=k.tys:=by rw [WF,h,K1]
    have h2:(ws.drop k.tys.length).map (·.t)=o_ l:=by rw [Wt,h,Vc]
    have e1:(ws++rest).take k.tys.length=ws.take k.tys.length:=J1 hl
    have e2:(ws++rest).drop k.tys.length=ws.drop k.tys.length++rest:=Uq hl
    obtain ⟨a1,a2⟩:=ih (fun t k u hm=>hk t k u (by simp [hm])) _ rest h2
    simp only [qR,e1,e2]
    exact ⟨by simp only [Z1,Qf,ZS,a1,h1],a2⟩
 have hS :∀t k u,(t,k,some u)∈j.slots→u.map (·.t)=k.tys:=fun t k u hm=>Xu (hj.s t k u hm)
 have hO :∀t k u,(t,k,some u)∈j.bf→u.map (·.t)=k.tys:=fun t k u hm=>aeX (hj.o t k u hm)
 have hx:(Tup.lX j.tys x).map (·.t)=jC j.slots++o_ j.bf:=qX _ _
 generalize Tup.lX j.tys x=ws at hx
 obtain ⟨w1,w2,rfl,h1,h2⟩ :∃w1 w2,ws=w1++w2∧w1.map (·.t)=jC j.slots∧w2.map (·.t)=o_ j.bf:=by
  refine ⟨ws.take (jC j.slots).length,ws.drop (jC j.slots).length,(UI _ _).symm,?_,?_⟩
  ·rw [WF,hx,K1]
  ·rw [Wt,hx,Vc]
 obtain ⟨a1,a2⟩:=slots j.slots hS w1 w2 h1
 have ob:=bf j.bf hO w2 [] h2
 rw [VS] at ob
 unfold JF.pay
 rw [a2,Z1,a1,ob.1]
 rfl
theorem Eu {s:Nat→TS} :∀{l:List (Nat×lH×Option (List Wd))} {pre post ws rest:List Wd} {t:Nat},Sl s l→ws.map (·.t)=jC l→hasK t (fV (pre++(lZ l (ws++rest)).1++post) pre.length (l.map fun p=>(p.1,p.2.1))).1=true→fH t (newS l)=false→
  jd .no (fV (pre++(lZ l (ws++rest)).1++post) pre.length (l.map fun p=>(p.1,p.2.1))).1 t=s t∧∃k u,(t,k,some u)∈l
 | [],pre,post,ws,rest,t,hk,hw,h,hn=>by cases h
 |(t0,k,some u)::l,pre,post,ws,rest,t,hk,hw,h,hn=>by
  have hu:=hk t0 k u (by simp)
  have hmk:=aeV (vs:=pre++(u++(lZ l (ws++rest)).1)++post) (n:=pre.length) hu (fun j w hj=>by
   rw [Wa,Z2 (by omega),Kl,Wa,Zs (Q3.1 hj).1];exact hj)
  simp only [lZ,Qf,fV,hmk.1,Df,←hmk.2] at h ⊢
  have e:pre++(u++(lZ l (ws++rest)).1)++post=(pre++u)++(lZ l (ws++rest)).1++post:=by simp only [Wa]
  rw [e] at h ⊢
  have en:pre.length+u.length=(pre++u).length:=by rw [Z0]
  rw [en] at h ⊢
  simp only [hasK,jd] at h ⊢
  cases hb:Nat.beq t t0 with
  |true=>
   have:=Q4 hb
   subst this
   exact ⟨rfl,k,u,by simp⟩
  |false=>
   rw [hb,UT] at h
   obtain ⟨a1,k',u',a2⟩:=Eu (l:=l) (pre:=pre++u) (fun t k u hm=>hk t k u (by simp [hm])) hw h hn
   exact ⟨a1,k',u',by simp [a2]⟩
 |(t0,k,none)::l,pre,post,ws,rest,t,hk,hw,h,hn=>by
  simp only [jC] at hw
  simp only [newS,fH,Vv] at hn
  have hl:k.tys.length≤ws.length:=by
   have:=congrArg List.length hw
   simp only [Z3,Z0] at this;omega
  have h2:(ws.drop k.tys.length).map (·.t)=jC l:=by rw [Wt,hw,Vc]
  have e1:(ws++rest).take k.tys.length=ws.take k.tys.length:=J1 hl
  have e2:(ws++rest).drop k.tys.length=ws.drop k.tys.length++rest:=Uq hl
  have hlen:(ws.take k.tys.length).length=k.tys.length:=by rw [WP];omega
  simp only [lZ,Qf,fV,Df,e1,e2] at h ⊢
  have e:pre++(ws.take k.tys.length++(lZ l (ws.drop k.tys.length++rest)).1)++post=(pre++ws.take k.tys.length)++(lZ l (ws.drop k.tys.length++rest)).1++post:=by simp only [Wa]
  rw [e] at h ⊢
  have en:pre.length+k.tys.length=(pre++ws.take k.tys.length).length:=by rw [Z0,hlen]
  rw [en] at h ⊢
  simp only [hasK,jd,hn.1,UT,cond_false] at h ⊢
  obtain ⟨a1,k',u',a2⟩:=Eu (pre:=pre++ws.take k.tys.length) (fun t k u hm=>hk t k u (by simp [hm])) h2 h hn.2
  exact ⟨a1,k',u',by simp [a2]⟩
theorem JV {s:Nat→TO} :∀{l:List (Nat×iD×Option (List Wd))} {pre post ws rest:List Wd} {t:Nat},Xv s l→ws.map (·.t)=o_ l→hasK t (jG (pre++(qR l (ws++rest)).1++post) pre.length (l.map fun p=>(p.1,p.2.1))).1=true→fH t (rM l)=false→
  jd .none (jG (pre++(qR l (ws++rest)).1++post) pre.length (l.map fun p=>(p.1,p.2.1))).1 t=s t∧∃k u,(t,k,some u)∈l
 | [],pre,post,ws,rest,t,hk,hw,h,hn=>by cases h
 |(t0,k,some u)::l,pre,post,ws,rest,t,hk,hw,h,hn=>by
  have hu:=hk t0 k u (by simp)
  have hmk:=aeW (vs:=pre++(u++(qR l (ws++rest)).1)++post) (n:=pre.length) hu (fun j w hj=>by
   rw [Wa,Z2 (by omega),Kl,Wa,Zs (Q3.1 hj).1];exact hj)
  simp only [qR,Qf,jG,hmk.1,Jy,←hmk.2] at h ⊢
  have e:pre++(u++(qR l (ws++rest)).1)++post=(pre++u)++(qR l (ws++rest)).1++post:=by simp only [Wa]
  rw [e] at h ⊢
  have en:pre.length+u.length=(pre++u).length:=by rw [Z0]
  rw [en] at h ⊢
  simp only [hasK,jd] at h ⊢
  cases hb:Nat.beq t t0 with
  |true=>
   have:=Q4 hb
   subst this
   exact ⟨rfl,k,u,by simp⟩
  |false=>
   rw [hb,UT] at h
   obtain ⟨a1,k',u',a2⟩:=JV (l:=l) (pre:=pre++u) (fun t k u hm=>hk t k u (by simp [hm])) hw h hn
   exact ⟨a1,k',u',by simp [a2]⟩
 |(t0,k,none)::l,pre,post,ws,rest,t,hk,hw,h,hn=>by
  simp only [o_] at hw
  simp only [rM,fH,Vv] at hn
  have hl:k.tys.length≤ws.length:=by
   have:=congrArg List.length hw
   simp only [Z3,Z0] at this;omega
  have h2:(ws.drop k.tys.length).map (·.t)=o_ l:=by rw [Wt,hw,Vc]
  have e1:(ws++rest).take k.tys.length=ws.take k.tys.length:=J1 hl
  have e2:(ws++rest).drop k.tys.length=ws.drop k.tys.length++rest:=Uq hl
  have hlen:(ws.take k.tys.length).length=k.tys.length:=by rw [WP];omega
  simp only [qR,Qf,jG,Jy,e1,e2] at h ⊢
  have e:pre++(ws.take k.tys.length++(qR l (ws.drop k.tys.length++rest)).1)++post=(pre++ws.take k.tys.length)++(qR l (ws.drop k.tys.length++rest)).1++post:=by simp only [Wa]
  rw [e] at h ⊢
  have en:pre.length+k.tys.length=(pre++ws.take k.tys.length).length:=by rw [Z0,hlen]
  rw [en] at h ⊢
  simp only [hasK,jd,hn.1,UT,cond_false] at h ⊢
  obtain ⟨a1,k',u',a2⟩:=JV (pre:=pre++ws.take k.tys.length) (fun t k u hm=>hk t k u (by simp [hm])) h2 h hn.2
  exact ⟨a1,k',u',by simp [a2]⟩
end
end Go.Fg

namespace Go.Fg
open Go.Fw
section
variable [RE]
theorem Zp {st:jw} {j:JF} (x:Tup j.tys) :∃w1 w2,Tup.lX j.tys x=w1++w2∧w1.map (·.t)=jC j.slots∧w2.map (·.t)=o_ j.bf:=by
 have hx:(Tup.lX j.tys x).map (·.t)=jC j.slots++o_ j.bf:=qX _ _
 generalize Tup.lX j.tys x=ws at hx
 exact ⟨ws.take (jC j.slots).length,ws.drop (jC j.slots).length,(UI _ _).symm,by rw [WF,hx,K1],by rw [Wt,hx,Vc]⟩
theorem Ew :∀{l:List (Nat×lH×Option (List Wd))} {ws rest:List Wd},ws.map (·.t)=jC l→(lZ l (ws++rest)).2=rest
 | [],ws,rest,h=>by simp only [jC,List.map_eq_nil_iff] at h;subst h;rfl
 |(t,k,some u)::l,ws,rest,h=>Ew (l:=l) h
 |(t,k,none)::l,ws,rest,h=>by
  simp only [jC] at h
  have hl:k.tys.length≤ws.length:=by
   have:=congrArg List.length h
   simp only [Z3,Z0] at this;omega
  have h2:(ws.drop k.tys.length).map (·.t)=jC l:=by rw [Wt,h,Vc]
  have e2:(ws++rest).drop k.tys.length=ws.drop k.tys.length++rest:=Uq hl
  simp only [lZ,e2]
  exact Ew h2
theorem Ey {st:jw} {j:JF} (hj:JOk st j) (x:Tup j.tys):(∀t,hasK t (qV j x).s=true→fH t (newS j.slots)=false→(qV j x).gs t=st.gs t∧∃k u,(t,k,some u)∈j.slots)∧
  ∀g,hasK g (qV j x).o=true→fH g (rM j.bf)=false→(qV j x).go g=st.go g∧∃k u,(g,k,some u)∈j.bf:=by
 obtain ⟨w1,w2,hw,h1,h2⟩:=Zp (st:=st) x
 have hr:=Ew (rest:=w2) h1
 have hp:j.pay (Tup.lX j.tys x)=(lZ j.slots (w1++w2)).1++(qR j.bf w2).1:=by rw [hw];unfold JF.pay;rw [hr]
 have hs:=fun t a b=>Eu (pre:=[]) (post:=(qR j.bf w2).1) (rest:=w2) (t:=t) hj.s h1 a b
 have ho:=fun t a b=>JV (pre:=(lZ j.slots (w1++w2)).1) (post:=[]) (rest:=[]) (t:=t) hj.o h2 a b
 simp only [K4,Kc] at hs
 simp only [VS] at ho
 rw [←hp] at hs ho
 have hty:=JU hj x
 have hn:(fV (j.pay (Tup.lX j.tys x)) 0 j.sh.slots).2=(lZ j.slots (w1++w2)).1.length:=by
  rw [wB,We]
  rw [hp] at hty
  have hS :∀(l:List (Nat×lH×Option (List Wd))) (hk:Sl st.gs l) (ws rest:List Wd),ws.map (·.t)=jC l→(lZ l (ws++rest)).1.length=((l.map fun p=>(p.1,p.2.1)).flatMap fun p=>p.2.tys).length:=by
   intro l
   induction l with
   |nil=>intro hk ws rest h;rfl
   |cons p l ih=>
    intro hk ws rest h
    obtain ⟨t,k,ou⟩:=p
    cases ou with
    |some u=>
     have e:=Xu (hk t k u (by simp))
     have e:=congrArg List.length e
     rw [Z3] at e
     simp only [lZ,Z0,Qf,ZS,e]
     rw [ih (fun t k u hm=>hk t k u (by simp [hm])) ws rest h]
    |none=>
     simp only [jC] at h
     have hl:k.tys.length≤ws.length:=by
      have:=congrArg List.length h
      simp only [Z3,Z0] at this;omega
     have h2:(ws.drop k.tys.length).map (·.t)=jC l:=by rw [Wt,h,Vc]
     have e1:(ws++rest).take k.tys.length=ws.take k.tys.length:=J1 hl
     have e2:(ws++rest).drop k.tys.length=ws.drop k.tys.length++rest:=Uq hl
     simp only [lZ,e1,e2,Z0,Qf,ZS,WP]
     rw [ih (fun t k u hm=>hk t k u (by simp [hm])) _ rest h2]
     omega
  exact (hS j.slots hj.s w1 w2 h1).symm
 refine ⟨fun t a b=>hs t a b,fun g a b => ?_⟩
 have e1:(qV j x).o=(jG (j.pay (Tup.lX j.tys x)) (lZ j.slots (w1++w2)).1.length (j.bf.map fun p=>(p.1,p.2.1))).1:=by
  rw [←hn];rfl
 have e2:(qV j x).go g=jd .none (jG (j.pay (Tup.lX j.tys x)) (lZ j.slots (w1++w2)).1.length (j.bf.map fun p=>(p.1,p.2.1))).1 g:=by
  rw [←hn];rfl
 rw [e1] at a
 rw [e2]
 exact ho g a b
theorem Pn {gs:List Nat} {o:Nat→TO} (hp:Pl o gs) (x:TW):bW (tpW gs o x)=WJ gs (bY o) (bW x):=by
 cases x with
 |own g=>
  simp only [tpW,bW,WJ,bT]
  cases hc:gs.contains g with
  |false=>rfl
  |true=>
   obtain ⟨⟨a,i,e,l⟩,hg⟩:=hp g (by simpa using hc)
   simp only [cond_true,if_true,hg,(oH hg).1];rfl
 |vw g lo hi=>
  simp only [tpW,bW,WJ,bT]
  cases hc:gs.contains g with
  |false=>rfl
  |true=>
   obtain ⟨⟨a,i,e,l⟩,hg⟩:=hp g (by simpa using hc)
   simp only [cond_true,if_true,hg,(oH hg).1,sG];rfl
 |_=>simp only [tpW,bW,WJ]
theorem Xw {gs:List Nat} {o:Nat→TO} (hp:Pl o gs) (x:TV):jD (tpV gs o x)=plV gs (bY o) (jD x):=by
 cases x with
 |one x=>simp only [tpV,jD,plV,Pn hp]
 |agg xs=>
  simp only [tpV,jD,plV,V1,V.agg.injEq]
  exact W8 fun x _=>Pn hp x
theorem aeZ {gs:List Nat} {o:Nat→TO} (hp:Pl o gs) (x:TS):bn (tpS gs o x)=plS gs (bY o) (bn x):=by
 cases x with
 |v x=>simp only [tpS,bn,plS,Xw hp]
 |lG xs=>
  simp only [tpS,bn,plS,V1,S.lG.injEq]
  exact W8 fun x _=>Xw hp x
 |no=>rfl
theorem JW {α:Type} (d:α) (f:Nat→α→α) (hd :∀t,f t d=d) :∀(l:List (Nat×α)) (t:Nat),jd d (l.map fun p=>(p.1,f p.1 p.2)) t=f t (jd d l t)
 | [],t=>(hd t).symm
 |(k,v)::r,t=>by
  simp only [Qf,jd]
  cases hb:Nat.beq t k with
  |true=>have:=Q4 hb;subst this;rfl
  |false=>exact JW d f hd r t
theorem Xx (gs:List Nat) (st:jw) (t:Nat):(Jt gs st).gs t=match gs with | []=>st.gs t | g::r=>tpS (g::r) st.go (st.gs t):=by
 cases gs with
 |nil=>rfl
 |cons g r=>exact JW .no (fun _ x=>tpS (g::r) st.go x) (fun _=>rfl) st.s t
theorem Xy (gs:List Nat) (st:jw) (t:Nat):(Jt gs st).go t=match gs with | []=>st.go t | g::r=>tpO (g::r) st.go t (st.go t):=by
 cases gs with
 |nil=>rfl
 |cons g r=>exact JW .none (fun t x=>tpO (g::r) st.go t x) (fun _=>rfl) st.o t
theorem Po (o:Nat→O) (x:W):WJ [] o x=x:=by
 unfold WJ
 split<;>first | rfl | simp
theorem Xz (o:Nat→O) (x:V):plV [] o x=x:=by
 cases x with
 |one x=>simp only [plV,Po]
 |agg xs=>
  simp only [plV,V.agg.injEq]
  conv=>rhs;rw [←List.map_id xs]
  exact W8 fun x _=>Po o x
theorem Pq (st:St):eP [] st=st:=by
 refine St.ext' (fun t => ?_) (fun g => ?_) fun g=>rfl
 ·show plS [] st.o (st.s t)=st.s t
  cases st.s t with
  |v x=>simp only [plS,Xz]
  |lG xs=>
   simp only [plS,S.lG.injEq]
   conv=>rhs;rw [←List.map_id xs]
   exact W8 fun x _=>Xz _ x
  |no=>rfl
 ·show Z7 [] st.o g=st.o g
  unfold Z7
  cases st.o g with
  |box ws=>
   simp only [O.box.injEq]
   conv=>rhs;rw [←List.map_id ws]
   exact W8 fun x _=>Po _ x
  |_=>simp
theorem JX {gs:List Nat} {st:jw} (hp:Pl st.go gs):aU (Jt gs st)=eP gs (aU st):=by
 cases gs with
 |nil=>rw [Pq];rfl
 |cons g r=>
  refine St.ext' (fun t => ?_) (fun k => ?_) fun k=>rfl
  ·show bn ((Jt (g::r) st).gs t)=plS (g::r) (bY st.go) (bn (st.gs t))
   rw [Xx];exact aeZ hp _
  ·show dY ((Jt (g::r) st).go k)=Z7 (g::r) (bY st.go) k
   rw [Xy]
   simp only
   have hk:bY st.go k=dY (st.go k):=rfl
   cases ho:st.go k with
   |none=>
    have hd:bY st.go k=.none:=by rw [hk,ho];rfl
    simp only [tpO,Z7,hd]
    split
    ·simp [Fw.aV,plainO,hd,dY]
    ·rfl
   |box ws=>
    simp only [tpO,Z7,oG ho,dY,V1,O.box.injEq]
    exact W8 fun x _=>Pn hp x
   |arr fz a i e l=>
    simp only [tpO,Z7,gY ho,dY,bT]
    cases hc:(g::r).contains k with
    |false=>simp
    |true=>simp [Fw.aV,plainO,gY ho]
   |it s n=>
    have hd:bY st.go k=.it (.str ⟨s.toArray⟩) (.int .i64 n):=by rw [hk,ho];rfl
    simp only [tpO,Z7,hd]
    split
    ·simp [Fw.aV,plainO,hd,dY]
    ·rfl
   |aP a i e au l hole=>
    have hd:bY st.go k=.aP a i (size e) (iI au) (aN e l) hole:=by rw [hk,ho];rfl
    simp only [tpO,Z7,hd,bT]
    cases hc:(g::r).contains k with
    |false=>simp only [cond_false,W7,if_false];rfl
    |true=>
     simp only [cond_true,if_true]
     have:=Je (hp k (by simpa using hc))
     rw [this]
theorem ab1 {gs:List Nat} {o:Nat→TO} {x:TW} (h:(W.namesT x).all (fun g=>!fH g gs)=true):tpW gs o x=x:=by
 cases x with
 |own g=>
  have h:fH g gs=false:=by simpa [W.namesT] using h
  simp only [tpW,h,cond_false]
 |vw g lo hi=>
  have h:fH g gs=false:=by simpa [W.namesT] using h
  simp only [tpW,h,cond_false]
 |_=>rfl
theorem Pv {gs:List Nat} {o:Nat→TO} :∀{xs:List TW},((xs.flatMap W.namesT).all fun g=>!fH g gs)=true→xs.map (tpW gs o)=xs
 | [],_=>rfl
 |x::xs,h=>by
  simp only [ZS,List.all_append,Q6] at h
  simp only [Qf,ab1 h.1,Pv h.2]
theorem ab2 {gs:List Nat} {o:Nat→TO} {x:TV} (h:((V.namesT x).all fun g=>!fH g gs)=true):tpV gs o x=x:=by
 cases x with
 |one x=>simp only [tpV,ab1 (x:=x) h]
 |agg xs=>simp only [tpV,Pv (xs:=xs) h]
theorem Sm {gs:List Nat} {o:Nat→TO} {x:TS} (h:Vj gs x=true):tpS gs o x=x:=by
 cases x with
 |v x=>simp only [tpS,ab2 (x:=x) h]
 |lG xs=>
  simp only [tpS,TS.lG.injEq]
  have :∀(xs:List TV),((xs.flatMap V.namesT).all fun g=>!fH g gs)=true→xs.map (tpV gs o)=xs:=by
   intro xs
   induction xs with
   |nil=>intro _;rfl
   |cons x xs ih=>
    intro h
    simp only [ZS,List.all_append,Q6] at h
    simp only [Qf,ab2 h.1,ih h.2]
  exact this xs h
 |no=>rfl
theorem Sr {gs:List Nat} {o:Nat→TO} {g:Nat} {x:TO} (h:Ju gs g x=true):tpO gs o g x=x:=by
 cases x with
 |none=>rfl
 |box ws=>simp only [tpO,Pv (xs:=ws) h]
 |arr fz a i e l=>
  have h:fH g gs=false:=by simpa [Ju] using h
  simp only [tpO,h,Bool.or_false]
 |it s n=>rfl
 |aP a i e au l hole=>
  have h:fH g gs=false:=by simpa [Ju] using h
  simp only [tpO,h,cond_false]
theorem Ez {gs:List Nat} {s:Nat→TS} :∀{l:List (Nat×lH×Option (List Wd))},abC gs s l=true→∀t k u,(t,k,some u)∈l→Vj gs (s t)=true
 | [],h,t,k,u,hm=>by cases hm
 |(t0,k0,some u0)::l,h,t,k,u,hm=>by
  simp only [abC,Q6] at h
  rcases QR.1 hm with hm | hm
  ·cases hm;exact h.1
  ·exact Ez h.2 t k u hm
 |(t0,k0,none)::l,h,t,k,u,hm=>by
  rcases QR.1 hm with hm | hm
  ·cases hm
  ·exact Ez (l:=l) h t k u hm
theorem EC {gs:List Nat} {s:Nat→TO} :∀{l:List (Nat×iD×Option (List Wd))},abD gs s l=true→∀t k u,(t,k,some u)∈l→Ju gs t (s t)=true
 | [],h,t,k,u,hm=>by cases hm
 |(t0,k0,some u0)::l,h,t,k,u,hm=>by
  simp only [abD,Q6] at h
  rcases QR.1 hm with hm | hm
  ·cases hm;exact h.1
  ·exact EC h.2 t k u hm
 |(t0,k0,none)::l,h,t,k,u,hm=>by
  rcases QR.1 hm with hm | hm
  ·cases hm
  ·exact EC (l:=l) h t k u hm
theorem Px {gs:List Nat} {st:jw} (h:aeG st.go gs=true):aei (aU st).o gs=true∧Pl st.go gs:=by
 have hp:Pl st.go gs:=fun g hg=>by
  have:=(X2.1 h) g hg
  simp only [plB,Q6] at this
  cases hx:nM st.go g with
  |some p=>exact ⟨p,rfl⟩
  |none=>rw [hx] at this;cases this.1
 refine ⟨X2.2 fun g hg => ?_,hp⟩
 obtain ⟨⟨a,i,e,l⟩,hx⟩:=hp g hg
 have:=(X2.1 h) g hg
 simp only [Q6] at this
 obtain ⟨k1,k2⟩:=oH hx
 have k1:plainO (aU st).o g=_:=k1
 have k2:((aU st).o g).names=_:=k2
 rw [k1,k2]
 simp only [Option.isSome_some,Bool.true_and]
 have h2:=this.2
 simp only [bT] at h2
 exact h2
theorem Zq {o:Nat→TO} {g d:Nat} {a i:Bool} {e:Ty} {au:List (Nat×Ty)} {l:List (Dt e)} (h1:WY (o g)=some d) (h2:yw o g=some ⟨a,i,e,au,l⟩):Fw.xJ (bY o) g=iF [(g,.aP a i e au l none),(d,.none)]:=by
 unfold yw at h2
 cases ho:o g with
 |aP a0 i0 e0 kE l0 hole=>
  rw [ho] at h1 h2
  have hg:bY o g=.aP a0 i0 (size e0) (iI kE) (aN e0 l0) hole:=by simp [bY,ho,dY]
  rcases hole with _ | ⟨n,c,d'⟩
  ·cases h1
  ·simp only [WY,Q0] at h1;subst h1
   simp only at h2
   cases hd:o d' with
   |arr fz a' i' e' l'=>
    rw [hd] at h2
    cases fz with
    |true=>cases h2
    |false=>
     simp only at h2
     split at h2
     ·rename_i hc
      cases h2
      obtain ⟨k1,k2,k3⟩:=uK hc
      simp only [Fw.xJ,hg,gY hd]
      rw [if_pos ⟨k1,k3⟩,←AU k2];rfl
     ·cases h2
   |_=>rw [hd] at h2;cases h2
 |_=>rw [ho] at h1;cases h1
theorem Vp (st:jw) (u:List (Nat×TO)):aU { st with o:=Ei st.o u }=(aU st).aK (iF u) []:=by
 refine St.ext' (fun t=>rfl) (fun g => ?_) fun g=>by simp [aU,St.aK]
 show dY (jd .none (Ei st.o u) g)=match (iF u).lookup g with | some x=>x | none=>dY (jd .none st.o g)
 rw [yG]
 have:(iF u).lookup g=(u.lookup g).map dY:=pq dY g u
 rw [this]
 cases u.lookup g<;>rfl
theorem kW (keep:List Nat) :∀(hs:List Nat) (st:jw),aU (mM keep hs st).2=Fw.shuts (mM keep hs st).1 (aU st)
 | [],st=>rfl
 |g::gs,st=>by
  simp only [mM]
  split
  ·rename_i d a i e au l h1 h2
   split
   ·simp only [Fw.shuts]
    rw [kW keep gs,Vp]
    have:=Zq h1 h2
    have this:Fw.xJ (aU st).o g=_:=this
    rw [this]
   ·exact kW keep gs st
  ·exact kW keep gs st
theorem sJ {keep:List Nat} {t:Nat} (ht:fH t keep=true) :∀(hs:List Nat) (st:jw),(mM keep hs st).2.go t=st.go t
 | [],st=>rfl
 |g::gs,st=>by
  simp only [mM]
  split
  ·rename_i d a i e au l h1 h2
   split
   ·rename_i hk
    obtain ⟨k1,k2⟩:=gQ hk
    rw [sJ ht gs]
    show jd .none (Ei st.o [(g,.aP a i e au l none),(d,.none)]) t=jd .none st.o t
    rw [yG]
    have e1:(t==g)=false:=by
     simp only [beq_eq_false_iff_ne];intro e;subst e;rw [ht] at k1;cases k1
    have e2:(t==d)=false:=by
     simp only [beq_eq_false_iff_ne];intro e;subst e;rw [ht] at k2;cases k2
    simp only [List.lookup,e1,e2]
   ·exact sJ ht gs st
  ·exact sJ ht gs st
theorem Dn (keep:List Nat) :∀(hs:List Nat) (st:jw),(mM keep hs st).2.s=st.s
 | [],st=>rfl
 |g::gs,st=>by
  simp only [mM]
  split
  ·split
   ·rw [Dn keep gs]
   ·exact Dn keep gs st
  ·exact Dn keep gs st
theorem ED :∀{l:List (Nat×iD×Option (List Wd))} {t:Nat} {k:iD} {u:List Wd},(t,k,some u)∈l→fH t (zW l)=true
 | [],t,k,u,h=>by cases h
 |(t0,k0,some u0)::l,t,k,u,h=>by
  simp only [zW,fH,UX]
  rcases QR.1 h with h | h
  ·cases h;exact .inl (by simp)
  ·exact .inr (ED h)
 |(t0,k0,none)::l,t,k,u,h=>by
  rcases QR.1 h with h | h
  ·cases h
  ·exact ED (l:=l) h
theorem mg {R:Type} {bg:List Nat} {j:JF} {q0 q:iW} {K:Tup j.tys→Prog R} {r:R} (hj:JOk q0.st j) (hr:qY q0 q) (h:(qU bg j q K).run=some r) :
  ∃x,(K x).run=some r∧Back bg j.sh.er (aU q.st) fun vs=>vs=(j.pay (Tup.lX j.tys x)).map cZ:=by
 unfold qU at h
 simp only at h
 split at h
 ·exact (aY h).elim
 ·rename_i hk
  obtain ⟨hk,h6⟩:=gQ hk
  obtain ⟨hk,h5⟩:=gQ hk
  obtain ⟨hk,h4⟩:=gQ hk
  obtain ⟨hk,h3⟩:=gQ hk
  obtain ⟨h1,h2⟩:=gQ hk
  have henc:=kW (zW j.bf) (Le q.st.o) q.st
  have hkeep:=fun t (ht:fH t (zW j.bf)=true)=>sJ ht (Le q.st.o) q.st
  have hss:=Dn (zW j.bf) (Le q.st.o) q.st
  generalize (mM (zW j.bf) (Le q.st.o) q.st).1=hs0 at henc
  generalize (mM (zW j.bf) (Le q.st.o) q.st).2=st0 at h h3 h4 h5 h6 henc hkeep hss
  generalize hgs:aeH bg j.sh st0=gs at h h3 h4 h5 h6
  split at h
  ·exact (aY h).elim
  ·rename_i vs hvs
   split at h
   ·exact (aY h).elim
   ·rename_i x hx
    refine ⟨x,h,?_⟩
    have hpay:j.pay (Tup.lX j.tys x)=vs:=by
     rw [zu _ hx]
     unfold zo at hvs
     split at hvs
     ·split at hvs
      ·rename_i u v hu hv
       simp only [Q0] at hvs;subst hvs
       have kS :∀t k u,(t,k,some u)∈j.slots→(Jt gs st0).gs t=q0.st.gs t:=fun t k u hm=>by
        obtain ⟨a1,a2⟩:=Bq h1 t k u hm
        have a3:=Ez h5 t k u hm
        have a4:st0.gs t=q.st.gs t:=by unfold jw.gs;rw [hss]
        rw [←(hr.s t a1 a2).2.2,Xx,←a4]
        cases gs with
        |nil=>rfl
        |cons g r=>exact Sm a3
       have kO :∀t k u,(t,k,some u)∈j.bf→(Jt gs st0).go t=q0.st.go t∧(MK j.bf++derive bg j.sh (Jt gs st0)).lookup t=some (some t):=fun t k u hm=>by
        obtain ⟨a1,a2⟩:=Bv h2 t k u hm
        have a3:=EC h6 t k u hm
        refine ⟨?_,wF hm⟩
        rw [←(hr.o t a1 a2).2.2,Xy,←hkeep t (ED hm)]
        cases gs with
        |nil=>rfl
        |cons g r=>exact Sr a3
       obtain ⟨e,e1,_,e3⟩:=Dk (rest:=v) (kV:=[]) hj.s kS hu
       obtain ⟨e',e1',_,e3'⟩:=Dl (rest:=[]) (kV:=[]) hj.o kO hv
       obtain ⟨e2,e12,e22,_⟩:=Dk (rest:=v) (kV:=e') hj.s kS hu
       rw [e1] at e12
       have:e=e2:=(Prod.mk.inj e12).1
       subst this
       obtain ⟨e4,e14,e24,_⟩:=Dl (rest:=[]) (kV:=[]) hj.o kO hv
       rw [e1'] at e14
       have:e'=e4:=(Prod.mk.inj e14).1
       subst this
       rw [VS] at e1' e24
       unfold JF.ext
       rw [e1]
       simp only
       rw [e1']
       unfold JF.pay
       simp only
       rw [e22]
       simp only
       rw [e24]
      ·cases hvs
     ·cases hvs
    rw [hpay]
    obtain ⟨c1,c2⟩:=Ba hvs
    obtain ⟨f1,f2⟩:=Px h4
    rw [JX f2,henc] at c1
    rw [henc] at f1
    exact .mk hs0 gs _ _ f1 h3 c1 rfl
theorem qY.fresh {q q':iW} (h:qY q.fresh q'):qY q (q'.since q):=by
 refine ⟨fun t h1 h2 => ?_,fun g h1 h2 => ?_⟩
 ·have h2:fH t (q'.ds++q.ds)=false:=h2
  rw [bT] at h2
  simp only [KS,Vv] at h2
  rw [←bT,←bT] at h2
  obtain ⟨a1,a2,a3⟩:=h.s t h1 h2.1
  exact ⟨a1,h2.2,a3⟩
 ·have h2:fH g (q'.od++q.od)=false:=h2
  rw [bT] at h2
  simp only [KS,Vv] at h2
  rw [←bT,←bT] at h2
  obtain ⟨a1,a2,a3⟩:=h.o g h1 h2.1
  exact ⟨a1,h2.2,a3⟩
theorem uV {t:Nat} {a b:List Nat} (h:fH t (a++b)=false):fH t a=false∧fH t b=false:=by
 rw [bT] at h
 simp only [KS,Vv] at h
 rw [←bT,←bT] at h
 exact h
theorem ab3 {st:jw} {t:Nat} (h:st.gs t≠.no):hasK t st.s=true:=by
 cases hk:hasK t st.s with
 |true=>rfl
 |false=>exact absurd (uT TS.no st.s t hk) h
theorem ab4 {st:jw} {t:Nat} (h:st.go t≠.none):hasK t st.o=true:=by
 cases hk:hasK t st.o with
 |true=>rfl
 |false=>exact absurd (uT TO.none st.o t hk) h
theorem XA {x:TS} {y:lH×List Wd} (h:OZ x=some y):x≠.no:=by intro e;subst e;cases h
theorem XB {x:TO} {y:iD×List Wd} (h:xq x=some y):x≠.none:=by intro e;subst e;cases h
theorem XC {q:iW} {j:JF} (hj:JOk q.st j) (x:Tup j.tys):qY q ⟨qV j x,newS j.slots++q.ds,rM j.bf++q.od⟩:=by
 obtain ⟨hs,ho⟩:=Ey hj x
 refine ⟨fun t h1 h2 => ?_,fun g h1 h2 => ?_⟩
 ·obtain ⟨n1,n2⟩:=uV (a:=newS j.slots) (b:=q.ds) h2
  obtain ⟨a1,k,u,hm⟩:=hs t h1 n1
  exact ⟨ab3 (XA (hj.s t k u hm)),n2,a1⟩
 ·obtain ⟨n1,n2⟩:=uV (a:=rM j.bf) (b:=q.od) h2
  obtain ⟨a1,k,u,hm⟩:=ho g h1 n1
  exact ⟨ab4 (XB (hj.o g k u hm)),n2,a1⟩
theorem MZ {q q':iW} {j:JF} (hj:JOk q.st j) {x:Tup j.tys} (h:qY ⟨qV j x,[],[]⟩ q'):qY q (q'.since ⟨q'.st,newS j.slots++q.ds,rM j.bf++q.od⟩):=by
 obtain ⟨hs,ho⟩:=Ey hj x
 refine ⟨fun t h1 h2 => ?_,fun g h1 h2 => ?_⟩
 ·obtain ⟨n1,n2⟩:=uV (a:=q'.ds) (b:=newS j.slots++q.ds) h2
  obtain ⟨n2,n3⟩:=uV n2
  obtain ⟨a1,a2,a3⟩:=h.s t h1 n1
  obtain ⟨b1,k,u,hm⟩:=hs t a1 n2
  exact ⟨ab3 (XA (hj.s t k u hm)),n3,a3.trans b1⟩
 ·obtain ⟨n1,n2⟩:=uV (a:=q'.od) (b:=rM j.bf++q.od) h2
  obtain ⟨n2,n3⟩:=uV n2
  obtain ⟨a1,a2,a3⟩:=h.o g h1 n1
  obtain ⟨b1,k,u,hm⟩:=ho g a1 n2
  exact ⟨ab4 (XB (hj.o g k u hm)),n3,a3.trans b1⟩
theorem FW (vs:List Wd) (t:Nat) :∀(n:Nat) (l:List (Nat×lH)),hasK t (fV vs n l).1=hasK t l
 |n,[]=>rfl
 |n,(t0,k)::l=>by simp only [fV,hasK,FW vs t]
theorem FX (vs:List Wd) (t:Nat) :∀(n:Nat) (l:List (Nat×iD)),hasK t (jG vs n l).1=hasK t l
 |n,[]=>rfl
 |n,(t0,k)::l=>by simp only [jG,hasK,FX vs t]
theorem JY {α:Type} {t:Nat} {x:α} :∀{l:List (Nat×α)},(t,x)∈l→hasK t l=true
 | [],h=>by cases h
 |(t0,y)::l,h=>by
  simp only [hasK,UX]
  rcases QR.1 h with h | h
  ·cases h;exact .inl (by simp)
  ·exact .inr (JY h)
theorem XD {st:jw} {j:JF} (hj:JOk st j) (x:Tup j.tys):JOk (qV j x) j:=by
 obtain ⟨hs,ho⟩:=Ey hj x
 refine ⟨fun t k u hm => ?_,fun t k u hm => ?_,hj.ds,hj.dO⟩
 ·have hh:hasK t (qV j x).s=true:=by
   show hasK t (fV _ 0 j.sh.slots).1=true
   rw [FW]
   exact JY (x:=k) (QQ.2 ⟨(t,k,some u),hm,rfl⟩)
  rw [(hs t hh (hj.ds t k u hm)).1]
  exact hj.s t k u hm
 ·have hh:hasK t (qV j x).o=true:=by
   show hasK t (jG _ _ j.sh.bf).1=true
   rw [FX]
   exact JY (x:=k) (QQ.2 ⟨(t,k,some u),hm,rfl⟩)
  rw [(ho t hh (hj.dO t k u hm)).1]
  exact hj.o t k u hm
structure KSm {R:Type} (q:iW) (K:TK R) (r:R) (Kp:vW):Prop where
 n :∀q',qY q q'→(K.n q').run=some r→Kp.n (aU q'.st)
 x :∀id q',qY q q'→(K.x id q').run=some r→Kp.x id (aU q'.st)
 r :∀q',qY q q'→(K.r q').run=some r→Kp.r (aU q'.st)
theorem KSm.from {R:Type} {q q1:iW} {K:TK R} {r:R} {Kp:vW} (h:KSm q K r Kp) (hr:qY q q1):KSm q1 K r Kp:=
 ⟨fun q' a b=>h.n q' (hr.trans a) b,fun id q' a b=>h.x id q' (hr.trans a) b,fun q' a b=>h.r q' (hr.trans a) b⟩
theorem Dp {R R':Type} {p:Prog R} {r:R} (h:(p.map (Sum.inr:R→R' ⊕ R)).run=some (.inr r)):p.run=some r:=by
 rw [run_map _ (fun a b e=>Sum.inr.inj e)] at h
 cases hp:p.run with
 |none=>rw [hp] at h;cases h
 |some a=>rw [hp] at h;cases h;rfl
theorem qZ {R R':Type} {p:Prog R} {x:R'} (h:(p.map (Sum.inr:R→R' ⊕ R)).run=some (.inl x)):False:=by
 rw [run_map _ (fun a b e=>Sum.inr.inj e)] at h
 cases hp:p.run with
 |none=>rw [hp] at h;cases h
 |some a=>rw [hp] at h;cases h
theorem JZ {R:Type} {bg:List Nat} {early:Bool} {jt:JT} {here:Nat→Bool} {q:iW} {inner:(R':Type)→iW→TK R'→Prog R'} {K:TK R} {r:R} {E:St→vW→Prop} {Kp:vW}
  (hin :∀(R':Type) (q':iW) (K':TK R') (r':R') (Kp':vW),(inner R' q' K').run=some r'→KSm q' K' r' Kp'→E (aU q'.st) Kp')
  (h:(ML bg early jt here q inner K).run=some r) (hK:KSm q K r Kp):E (aU q.st) { n:=Wk bg Kp.n,x:=fun id st=>bif here id then Wk bg Kp.n st else Kp.x id st,r:=Kp.r }:=by
 unfold ML at h
 split at h
 ·exact (aY h).elim
 ·rename_i j hjo
  have hj:=Vo hjo
  have hjf:JOk q.fresh.st j:=hj
  have fin :∀(x:Tup j.tys),(frX ⟨qV j x,newS j.slots++q.ds,rM j.bf++q.od⟩ K.n).run=some r→∀q':iW,Back bg j.sh.er (aU q'.st) (fun vs=>vs=(j.pay (Tup.lX j.tys x)).map cZ)→Wk bg Kp.n (aU q'.st):=by
   intro x hx q' hb
   rw [oL] at hx
   have hn:=hK.n _ (XC hj x) hx
   refine .back j.sh.er ?_
   obtain ⟨hs,gs,m,vs,h0,h1,h2,rfl⟩:=hb
   refine ⟨hs,gs,m,_,h0,h1,h2,?_⟩
   have e:=qW (JU hj x)
   have hn:Kp.n (aU (mkT j.sh (j.pay (Tup.lX j.tys x)))):=hn
   rw [e] at hn
   exact hn
  split at h
  ·obtain ⟨x,hi,hx⟩:=Si h
   refine hin _ q.fresh _ x _ hi ⟨fun q' hr hq => ?_,fun id q' hr hq => ?_,fun q' hr hq=>(aY hq).elim⟩
   ·obtain ⟨y,hy,hb⟩:=mg hjf hr hq
    have hy:some y=some x:=hy
    cases hy
    exact fin _ hx q' hb
   ·show (bif here id then Wk bg Kp.n (aU q'.st) else Kp.x id (aU q'.st))
    have hq:(bif here id then qU bg j q' .ret else .stuck 41:Prog _).run=some x:=hq
    cases hh:here id with
    |true=>
     rw [hh] at hq
     obtain ⟨y,hy,hb⟩:=mg hjf hr hq
     have hy:some y=some x:=hy
     cases hy
     exact fin _ hx q' hb
    |false=>rw [hh] at hq;exact (aY hq).elim
  ·rcases Zo h with ⟨x,hi,hx⟩ | hi
   ·refine hin _ q.fresh _ (Sum.inl x) _ hi ⟨fun q' hr hq => ?_,fun id q' hr hq => ?_,fun q' hr hq=>(qZ hq).elim⟩
    ·obtain ⟨y,hy,hb⟩:=mg hjf hr hq
     have hy:some (Sum.inl y:Tup j.tys ⊕ R)=some (.inl x):=hy
     cases hy
     exact fin _ hx q' hb
    ·show (bif here id then Wk bg Kp.n (aU q'.st) else Kp.x id (aU q'.st))
     have hq:(bif here id then qU bg j q' (fun x=>.ret (.inl x)) else (K.x id (q'.since q)).map .inr:Prog (Tup j.tys ⊕ R)).run=some (.inl x):=hq
     cases hh:here id with
     |true=>
      rw [hh] at hq
      obtain ⟨y,hy,hb⟩:=mg hjf hr hq
      have hy:some (Sum.inl y:Tup j.tys ⊕ R)=some (.inl x):=hy
      cases hy
      exact fin _ hx q' hb
     |false=>rw [hh] at hq;exact (qZ hq).elim
   ·refine hin _ q.fresh _ (Sum.inr r) _ hi ⟨fun q' hr hq => ?_,fun id q' hr hq => ?_,fun q' hr hq => ?_⟩
    ·obtain ⟨y,hy,hb⟩:=mg hjf hr hq
     have hy:some (Sum.inl y:Tup j.tys ⊕ R)=some (.inr r):=hy
     cases hy
    ·show (bif here id then Wk bg Kp.n (aU q'.st) else Kp.x id (aU q'.st))
     have hq:(bif here id then qU bg j q' (fun x=>.ret (.inl x)) else (K.x id (q'.since q)).map .inr:Prog (Tup j.tys ⊕ R)).run=some (.inr r):=hq
     cases hh:here id with
     |true=>
      rw [hh] at hq
      obtain ⟨y,hy,hb⟩:=mg hjf hr hq
      have hy:some (Sum.inl y:Tup j.tys ⊕ R)=some (.inr r):=hy
      cases hy
     |false=>
      rw [hh] at hq
      exact hK.x id (q'.since q) (qY.fresh hr) (Dp hq)
    ·exact hK.r (q'.since q) (qY.fresh hr) (Dp hq)
theorem least {p:Nat→Prop}:(∃n,p n)→∃n,p n∧∀k,k<n→¬ p k:=by
 rintro ⟨n,hn⟩
 induction n using Nat.strongRecOn with
 |ind n ih=>
  by_cases h :∃k,k<n∧p k
  ·obtain ⟨k,hk,hp⟩:=h
   exact ih k hk hp
  ·exact ⟨n,hn,fun k hk hp=>h ⟨k,hk,hp⟩⟩
open Classical in
noncomputable def J3 (p:Nat→Prop):Nat:=if h :∃n,p n then Classical.choose (least h) else 0
theorem FY {p:Nat→Prop} (h :∃n,p n):p (J3 p)∧∀k,p k→J3 p≤k:=by
 unfold J3
 rw [dif_pos h]
 obtain ⟨h1,h2⟩:=Classical.choose_spec (least h)
 exact ⟨h1,fun k hk=>KM fun hlt=>h2 k hlt hk⟩
theorem M_ (st:jw) (d:Tmp) (x:TS):aU (st.put (some d) x)=(aU st).put (some d) (bn x):=by
 refine St.ext' (fun t => ?_) (fun g=>rfl) fun g=>rfl
 show bn (jd .no (xk d x st.s) t)=bif Nat.beq t d then bn x else bn (jd .no st.s t)
 rw [oK]
 cases Nat.beq t d<;>rfl
theorem ab5 {N:Nat} :∀(x:Code) {st st':jw},O4 N x st=some st'→wR N x (aU st)=some (aU st'):=by
 intro x
 induction x with
 |skip=>intro st st' h;simp only [O4,Q0] at h;subst h;rfl
 |region id ops draw=>
  intro st st' h
  cases draw with
  |true=>simp [O4] at h
  |false=>
   simp only [O4] at h
   split at h
   ·rename_i o hops
    split at h
    ·rename_i d t hg hd ht
     split at h
     ·rename_i hlt
      simp only [Q0] at h;subst h
      simp only [wR,hops,hg,hd,ht]
      rw [if_pos (by simpa using hlt),M_];rfl
     ·cases h
    ·cases h
   ·cases h
 |seq x y GZ ihy=>
  intro st st' h
  simp only [O4] at h
  split at h
  ·rename_i st1 h1
   simp only [wR,GZ h1]
   exact ihy h
  ·cases h
 |_=>intro st st' h;simp [O4] at h
theorem Sv :∀(ps:List Tmp) (ws:List Wd) (st:jw),aU (rowT ps ws st)=yc ps (ws.map cZ) (aU st)
 |p::ps,x::xs,st=>by
  simp only [rowT,Qf,yc]
  rw [Sv ps xs,M_];rfl
 | [],ws,st=>by simp only [rowT,yc]
 |p::ps,[],st=>by simp only [rowT,Uv,yc]
theorem ae0 {w:Wd} (h:Ty.lit w.t=true):(cZ w).lit=true:=by
 obtain ⟨t,x⟩:=w
 cases t<;>first | rfl | cases h
theorem ab6 {sg:dD} {q:iW} {y:Tup sg.aS.tys} (h:(outT sg q).run=some y):Back sg.bg sg.aS.er (I5 (aU q.st)) fun vs=>vs=(Tup.lX sg.aS.tys y).map cZ:=by
 unfold outT at h
 simp only at h
 split at h
 ·exact (aY h).elim
 ·rename_i hk
  obtain ⟨hk,hk2⟩:=gQ hk
  split at h
  ·exact (aY h).elim
  ·rename_i vs hvs
   split at h
   ·exact (aY h).elim
   ·rename_i x hx
    have h:some x=some y:=h
    cases h
    obtain ⟨c1,c2⟩:=Ba hvs
    have e:aU { s:=[],o:=q.st.o,u:=q.st.u }=I5 (aU q.st):=St.ext' (fun t=>rfl) (fun g=>rfl) fun g=>rfl
    obtain ⟨f1,f2⟩:=Px hk2
    rw [JX f2,kW,e] at c1
    rw [kW,e] at f1
    refine .mk _ _ _ _ f1 hk c1 ?_
    rw [zu _ hx]
theorem Zr {R:Type} {N:Nat} {sg:dD} {body:iW→TK (Tup sg.aS.tys)→Prog (Tup sg.aS.tys)} {ps:Array Tmp} {x:Code} {ws:List Wd} {q:iW} {K:iW→Prog R} {r:R} {B:List Nat→St→vW→Prop} {Kp:St→Prop}
  (hB :∀(qb:iW) (Kb:TK (Tup sg.aS.tys)) (rb:Tup sg.aS.tys) (Kq:vW),(body qb Kb).run=some rb→KSm qb Kb rb Kq→B sg.bg (aU qb.st) Kq)
  (h:(O5 N sg body ps x ws q K).run=some r) (hK :∀q',qY q q'→(K q').run=some r→Kp (aU q'.st)):aaY N B ps.toList x (ws.map cZ) (aU q.st) Kp:=by
 unfold O5 at h
 split at h
 ·exact (aY h).elim
 rename_i st1 h1
 split at h
 ·exact (aY h).elim
 rename_i c hc
 split at h
 ·exact (aY h).elim
 rename_i hok
 obtain ⟨hok,h5⟩:=gQ hok
 obtain ⟨hok,h4⟩:=gQ hok
 obtain ⟨h2,h3⟩:=gQ hok
 split at h
 ·exact (aY h).elim
 rename_i z hz
 obtain ⟨bZ,ho,h⟩:=Si h
 split at h
 rotate_left
 ·exact (aY h).elim
 rename_i hfr
 rw [oL] at ho h
 have e1:=ab5 x h1
 rw [Sv] at e1
 obtain ⟨k1,k2⟩:=Bc hc
 have e2:gX sg.er (aU q.st).o ((List.range N).map (aU st1).s)=some c.er:=by
  have:((List.range N).map st1.gs).map bn=(List.range N).map (aU st1).s:=by rw [V1];rfl
  rw [←this];exact k1
 have e3:(jZ sg (ps.getD 0 0) q.st.go c (Tup.lX sg.aS.tys bZ)).er=iC sg.er (ps.getD 0 0) (aU q.st).o c.er ((Tup.lX sg.aS.tys bZ).map cZ):=FT (qX sg.aS.tys bZ) (MQ hc)
 refine ⟨sg.er,_,_,(Tup.lX sg.aS.tys bZ).map cZ,ps.getD 0 0,h2,h3,Q4 h4,e1,e2,h5,?_,?_,?_⟩
 ·have:=hB _ _ _ { n:=fun st2=>Back sg.er.bg sg.er.aS (I5 st2) fun vs=>vs=(Tup.lX sg.aS.tys bZ).map cZ,x:=fun _ _=>False,r:=fun _=>False } ho ⟨fun q' _ hq=>ab6 hq,fun id q' _ hq=>(aY hq).elim,fun q' _ hq=>(aY hq).elim⟩
  have e:=qW (j:=sg.pin) (qX _ z)
  simp only at this
  rw [e,zu _ hz] at this
  exact this
 ·have hnew:=Bg hfr
  rw [←e3]
  intro g hg
  have:=X2.1 hnew g hg
  simpa [aU] using this
 ·have:=hK _ (qY.eff q none _) h
  rw [Eo] at this
  have e4:(aU q.st).eff none (jZ sg (ps.getD 0 0) q.st.go c (Tup.lX sg.aS.tys bZ)).er=(aU q.st).aK (jZ sg (ps.getD 0 0) q.st.go c (Tup.lX sg.aS.tys bZ)).er.aK (jZ sg (ps.getD 0 0) q.st.go c (Tup.lX sg.aS.tys bZ)).er.new:=rfl
  rw [e4,e3] at this
  exact this
theorem Zt {T:lY} {tt:TT} {ety:TypeId→Option Ty} {N:Nat} :∀(c:Code) {bg:List Nat} {R:Type} {a:gG} {q:iW} {K:TK R} {r:R} {Kp:vW},(lI T tt ety N bg c R a q K).run=some r→KSm q K r Kp→
  exec (ng T) tt N bg c (aU q.st) Kp:=by
 intro c
 induction c with
 |skip=>intro bg R a q K r Kp h hK;exact hK.n q (qY.refl q) h
 |region id ops draw=>
  intro bg R a q K r Kp h hK
  show pY (ng T) tt N ops draw (aU q.st) (Wk bg Kp.n)
  have h:(match a with
   |.meet e j _=>ML bg e j (fun _=>false) q (fun _ q K=>wu T tt ety N ops draw q K.n) K
   |_=>wu T tt ety N ops draw q K.n).run=some r:=h
  have plain:(wu T tt ety N ops draw q K.n).run=some r→pY (ng T) tt N ops draw (aU q.st) (Wk bg Kp.n):=fun h=>JM h fun q' hr hq=>.now (hK.n q' hr hq)
  cases a with
  |meet e j a=>
   exact JZ (E:=fun st K=>pY (ng T) tt N ops draw st K.n) (fun R' q' K' r' Kp' h hK'=>JM h fun q'' hr hq=>hK'.n q'' hr hq) h hK
  |_=>exact plain h
 |seq x y GZ ihy=>
  intro bg R a q K r Kp h hK
  refine GZ h ⟨fun q' hr hq=>ihy hq (hK.from hr),hK.x,hK.r⟩
 |cond c x y GZ ihy=>
  intro bg R a q K r Kp h hK
  have body :∀(R:Type) (a:gG) (q:iW) (K:TK R) (r:R) (Kp:vW),(W9 c q (fun q=>lI T tt ety N bg x R a.fst q K) fun q=>lI T tt ety N bg y R a.snd q K).run=some r→KSm q K r Kp→(match (aU q.st).dH c with
    |.v (.one (.p _ _ (.bool b)))=>bif b then exec (ng T) tt N bg x (aU q.st) Kp else exec (ng T) tt N bg y (aU q.st) Kp
    |_=>False):=by
   intro R a q K r Kp h hK
   unfold W9 at h
   split at h
   ·rename_i a' i' b hb
    change Bool at b
    have hb':(aU q.st).dH c=.v (.one (.p a' i' (.bool b))):=by rw [nN,hb];rfl
    rw [hb']
    simp only
    have kn:aU (knT c a' i' b q).st=aU q.st∧qY q (knT c a' i' b q):=by
     unfold knT
     cases c with
     |tmp t=>
      have hb:q.st.gs t=.v (.one (.p a' i' (iM b))):=hb
      exact ⟨yH hb,yI hb⟩
     |_=>exact ⟨rfl,qY.refl q⟩
    cases b with
    |true=>
     have h:(frX (knT c a' i' true q) fun q=>lI T tt ety N bg x R a.fst q K).run=some r:=h
     rw [oL] at h
     have:=GZ h (hK.from kn.2)
     rw [kn.1] at this
     exact this
    |false=>
     have h:(frX (knT c a' i' false q) fun q=>lI T tt ety N bg y R a.snd q K).run=some r:=h
     rw [oL] at h
     have:=ihy h (hK.from kn.2)
     rw [kn.1] at this
     exact this
   ·exact (aY h).elim
  cases a with
  |meet e j a=>
   exact JZ (E:=fun st K=>match st.dH c with
    |.v (.one (.p _ _ (.bool b)))=>bif b then exec (ng T) tt N bg x st K else exec (ng T) tt N bg y st K
    |_=>False) (fun R' q' K' r' Kp' h hK'=>body R' a q' K' r' Kp' h hK') h hK
  |nil=>exact body R .nil q K r { n:=Wk bg Kp.n,x:=Kp.x,r:=Kp.r } h ⟨fun q' a b=>.now (hK.n q' a b),hK.x,hK.r⟩
  |seq a b=>exact body R (.seq a b) q K r { n:=Wk bg Kp.n,x:=Kp.x,r:=Kp.r } h ⟨fun q' a b=>.now (hK.n q' a b),hK.x,hK.r⟩
  |range j s a=>exact body R (.range j s a) q K r { n:=Wk bg Kp.n,x:=Kp.x,r:=Kp.r } h ⟨fun q' a b=>.now (hK.n q' a b),hK.x,hK.r⟩
  |loop j a=>exact body R (.loop j a) q K r { n:=Wk bg Kp.n,x:=Kp.x,r:=Kp.r } h ⟨fun q' a b=>.now (hK.n q' a b),hK.x,hK.r⟩
 |block id c ih=>
  intro bg R a q K r Kp h hK
  have plain :∀(a:gG),(lI T tt ety N bg c R a q { n:=K.n,x:=fun id' q'=>bif Nat.beq id' id then K.n q' else K.x id' q',r:=K.r }).run=some r→exec (ng T) tt N bg (.block id c) (aU q.st) Kp:=by
   intro a h
   refine ih h ⟨fun q' hr hq=>.now (hK.n q' hr hq),fun id' q' hr hq => ?_,hK.r⟩
   show (bif Nat.beq id' id then Wk bg Kp.n (aU q'.st) else Kp.x id' (aU q'.st))
   have hq:(bif Nat.beq id' id then K.n q' else K.x id' q').run=some r:=hq
   cases hb:Nat.beq id' id with
   |true=>rw [hb] at hq;exact .now (hK.n q' hr hq)
   |false=>rw [hb] at hq;exact hK.x id' q' hr hq
  cases a with
  |meet e j a=>
   have:=JZ (E:=fun st K=>exec (ng T) tt N bg c st K) (fun R' q' K' r' Kp' h hK'=>ih h hK') h hK
   have e :∀id',Nat.beq id id'=Nat.beq id' id:=fun id'=>by rw [Bool.eq_iff_iff];simp;exact ⟨fun h=>h.symm,fun h=>h.symm⟩
   show exec (ng T) tt N bg c (aU q.st) { n:=Wk bg Kp.n,x:=fun id' st'=>bif Nat.beq id' id then Wk bg Kp.n st' else Kp.x id' st',r:=Kp.r }
   simp only [e] at this
   exact this
  |nil=>exact plain _ h
  |seq a b=>exact plain _ h
  |loop j a=>exact plain _ h
  |range j s a=>exact plain _ h
 |loop c ih=>
  intro bg R a q K r Kp h hK
  cases a with
  |loop jt a=>
   unfold lI at h
   simp only at h
   split at h
   ·exact (aY h).elim
   ·rename_i j hjo
    have hj:=Vo hjo
    have hjf:JOk q.fresh.st j:=hj
    obtain ⟨x0,hx0,hb0⟩:=mg hjf (qY.refl q.fresh) h
    obtain ⟨n0,hn0⟩:=Sj hx0
    generalize hB:(fun z=>(frX ⟨qV j z,[],[]⟩ fun q'=>lI T tt ety N bg c (Tup j.tys ⊕ R) a q'
      { n:=fun q'=>qU bg j q' fun x=>.ret (.inl x),x:=fun id q'=>(K.x id (q'.since ⟨q'.st,newS j.slots++q.ds,rM j.bf++q.od⟩)).map .inr,r:=fun q'=>(K.r (q'.since ⟨q'.st,newS j.slots++q.ds,rM j.bf++q.od⟩)).map .inr }).run)=B at hn0
    let P:List P→Nat→Prop:=fun vs n =>∃x,vs=(j.pay (Tup.lX j.tys x)).map cZ∧iO B n x=some r
    refine .mk j.sh.er (fun vs =>∃n,P vs n) (fun vs=>J3 (P vs)) ?_ ?_
    ·obtain ⟨hs,gs,m,vs,h0,h1,h2,rfl⟩:=hb0
     exact ⟨hs,gs,m,_,h0,h1,h2,n0,x0,rfl,hn0⟩
    ·intro us hI
     obtain ⟨⟨x,hus,hl⟩,hmin⟩:=FY hI
     generalize hn:J3 (P us)=n at hl hmin
     cases n with
     |zero=>cases hl
     |succ n=>
      simp only [iO] at hl
      cases hb:B x with
      |none=>rw [hb] at hl;cases hl
      |some v=>
       rw [hb] at hl
       have hb2:=hb
       rw [←hB] at hb2
       simp only [oL] at hb2
       have e:=qW (JU hj x)
       rw [←hus] at e
       rw [←e]
       refine ih hb2 ⟨fun q' hr hq => ?_,fun id q' hr hq => ?_,fun q' hr hq => ?_⟩
       ·obtain ⟨y,hy,hbk⟩:=mg (q0:=⟨qV j x,[],[]⟩) (XD hj x) hr hq
        have hy:some (Sum.inl y:Tup j.tys ⊕ R)=some v:=hy
        cases hy
        have hl:iO B n y=some r:=hl
        obtain ⟨hs,gs,m,vs,h0,h1,h2,rfl⟩:=hbk
        have hP:P ((j.pay (Tup.lX j.tys y)).map cZ) n:=⟨y,rfl,hl⟩
        refine ⟨hs,gs,m,_,h0,h1,h2,⟨n,hP⟩,?_⟩
        have:=(FY ⟨n,hP⟩).2 n hP
        omega
       ·cases v with
        |inl y=>exact (qZ hq).elim
        |inr r'=>
         have hl:some r'=some r:=hl
         cases hl
         exact hK.x id (q'.since ⟨q'.st,newS j.slots++q.ds,rM j.bf++q.od⟩) (MZ hj hr) (Dp hq)
       ·cases v with
        |inl y=>exact (qZ hq).elim
        |inr r'=>
         have hl:some r'=some r:=hl
         cases hl
         exact hK.r (q'.since ⟨q'.st,newS j.slots++q.ds,rM j.bf++q.od⟩) (MZ hj hr) (Dp hq)
  |nil=>exact (aY h).elim
  |seq a b=>exact (aY h).elim
  |meet e j a=>exact (aY h).elim
  |range j s a=>exact (aY h).elim
 |rangeFunc g ps x y GZ ihy=>
  intro bg R a q K r Kp h hK
  cases a with
  |range jt sg a=>
   unfold lI at h
   simp only at h
   split at h
   rotate_left
   ·exact (aY h).elim
   rename_i ai ii e rows hcm hop
   change List (Dt e) at rows
   split at h
   rotate_left
   ·exact (aY h).elim
   rename_i hok
   obtain ⟨hok,hps⟩:=gQ hok
   obtain ⟨hlit,hlen⟩:=gQ hok
   split at h
   ·exact (aY h).elim
   rename_i j hjo
   have hj:=Vo hjo
   have hjf:JOk q.fresh.st j:=hj
   obtain ⟨x0,hx0,hb0⟩:=mg hjf (qY.refl q.fresh) h
   obtain ⟨n0,hn0⟩:=Sj hx0
   have hop':(aU q.st).dH g=.v (.one (.p ai ii (.seq (List.map (jJ e) rows)))):=by rw [nN,hop];rfl
   refine ⟨hcm,?_⟩
   rw [hop']
   simp only
   have hrl :∀z:Dt e,(jJ e z).length=ps.size∧(jJ e z).all P.lit=true:=fun z=>by
    refine ⟨by rw [Ja,←jk];exact Q4 hlen,?_⟩
    rw [gu,List.all_map,X2]
    intro w hw
    refine ae0 ?_
    have:w.t∈iP e:=by rw [←qN e z];exact QQ.2 ⟨w,hw,rfl⟩
    exact X2.1 hlit _ this
   refine ⟨?_,hps,?_⟩
   ·rw [X2]
    intro row hm
    obtain ⟨z,_,rfl⟩:=QQ.1 hm
    simp only [Q6]
    exact ⟨by rw [(hrl z).1];simp,(hrl z).2⟩
   generalize hB:(fun zk:Tup j.tys×Nat=>(Prog.cond (Nat.blt zk.2 (List.length rows))
        (frX ⟨qV j zk.1,[],[]⟩ fun q'=>O5 N sg (fun q K=>lI T tt ety N sg.bg y (Tup sg.aS.tys) a q K) ps x (fD e (List.getD rows zk.2 (dflt e))) q' fun q''=>qU bg j q'' fun z'=>.ret (.inl (z',zk.2+1)))
        (frX ⟨qV j zk.1,newS j.slots++q.ds,rM j.bf++q.od⟩ fun q'=>(K.n q').map .inr):Prog ((Tup j.tys×Nat) ⊕ R)).run)=B at hn0
   refine .mk j.sh.er (fun k us =>∃z,us=(j.pay (Tup.lX j.tys z)).map cZ∧∃n,iO B n (z,k)=some r) ?_ ?_ ?_
   ·obtain ⟨hs,gs,m,vs,h0,h1,h2,rfl⟩:=hb0
    exact ⟨hs,gs,m,_,h0,h1,h2,x0,rfl,n0,hn0⟩
   ·rintro k row us hrow ⟨z,rfl,n,hl⟩
    rw [XS] at hrow
    obtain ⟨v,hv,rfl⟩:=W0.1 hrow
    have hk:k<List.length rows:=(Q3.1 hv).1
    cases n with
    |zero=>cases hl
    |succ n=>
     simp only [iO] at hl
     cases hb:B (z,k) with
     |none=>rw [hb] at hl;cases hl
     |some o=>
      rw [hb] at hl
      have hb2:=hb
      rw [←hB] at hb2
      simp only [Prog.run] at hb2
      have hlt:Nat.blt k (List.length rows)=true:=by simpa using hk
      rw [hlt] at hb2
      simp only [cond_true,oL] at hb2
      have hg:List.getD rows k (dflt e)=v:=by rw [List.getD_eq_getElem?_getD,hv];rfl
      rw [hg] at hb2
      have e1:=qW (JU hj z)
      have e2:jJ e v=(fD e v).map cZ:=gu e v
      rw [←e1,e2]
      refine Zr (q:=⟨qV j z,[],[]⟩) (fun qb Kb rb Kq hb hKb=>ihy hb hKb) hb2 fun q' hr hq => ?_
      obtain ⟨z',hz',hbk⟩:=mg (q0:=⟨qV j z,[],[]⟩) (XD hj z) hr hq
      have hz':some (Sum.inl (z',k+1):(Tup j.tys×Nat) ⊕ R)=some o:=hz'
      cases hz'
      have hl:iO B n (z',k+1)=some r:=hl
      obtain ⟨hs,gs,m,vs,h0,h1,h2,rfl⟩:=hbk
      exact ⟨hs,gs,m,_,h0,h1,h2,z',rfl,n,hl⟩
   ·rintro us ⟨z,rfl,n,hl⟩
    cases n with
    |zero=>cases hl
    |succ n=>
     simp only [iO] at hl
     cases hb:B (z,(List.map (jJ e) rows).length) with
     |none=>rw [hb] at hl;cases hl
     |some o=>
      rw [hb] at hl
      have hb2:=hb
      rw [←hB] at hb2
      simp only [Prog.run] at hb2
      have hlt:Nat.blt (List.map (jJ e) rows).length (List.length rows)=false:=by
       rw [Z3]
       cases hh:Nat.blt (List.length rows) (List.length rows) with
       |false=>rfl
       |true=>simp at hh
      rw [hlt] at hb2
      simp only [cond_false,oL] at hb2
      cases o with
      |inl y=>exact (qZ hb2).elim
      |inr r'=>
       have hl:some r'=some r:=hl
       cases hl
       have:=hK.n _ (XC hj z) (Dp hb2)
       have e1:=qW (JU hj z)
       rw [←e1]
       exact .now this
  |nil=>exact (aY h).elim
  |seq a b=>exact (aY h).elim
  |meet e j a=>exact (aY h).elim
  |loop j a=>exact (aY h).elim
 |exit id=>intro bg R a q K r Kp h hK;exact hK.x id q (qY.refl q) h
 |ret=>intro bg R a q K r Kp h hK;exact hK.r q (qY.refl q) h
 |label l=>intro bg R a q K r Kp h hK;exact hK.n q (qY.refl q) h
 |scope c ih=>intro bg R a q K r Kp h hK;exact ih h hK
 |_=>intro bg R a q K r Kp h;exact (aY h).elim
end
end Go.Fg

namespace Go.Fg
open Go.Fw
section
variable [RE]
theorem ab7 {tt:TT} {st:jw} {r:ResultVar} {x:TS} (h:W_ tt st r=some x):YX tt (aU st) r=some (bn x):=by
 cases r with
 |tmp t=>simp only [W_,Q0] at h;subst h;rfl
 |cell a t=>
  simp only [W_] at h
  split at h
  ·rename_i i g off ht hs
   split at h
   ·rename_i ws hg
    obtain ⟨hb,h⟩:=bQ h
    simp only [Q0] at h;subst h
    obtain ⟨h1,h2⟩:=gQ hb
    have hs':(aU st).s a=.v (.one (.box g off)):=by show bn (st.gs a)=_;rw [hs];rfl
    have hg':(aU st).o g=.box (ws.map bW):=oG hg
    simp only [YX,ht,hs',hg',Z3]
    rw [if_pos ⟨W6 h1,Ji h2⟩,kR,WF,Wt]
   ·cases h
  ·cases h
theorem Na {tt:TT} {st:jw} :∀{rs:List ResultVar} {xs:List TS},Jv tt st rs=some xs→FC tt (aU st) rs=some (xs.map bn)
 | [],xs,h=>by simp only [Jv,Q0] at h;subst h;rfl
 |r::rs,xs,h=>by
  simp only [Jv] at h
  split at h
  ·rename_i h1 h2
   simp only [Q0] at h;subst h
   simp only [FC,ab7 h1,Na h2,Qf]
  ·cases h
theorem Sz :∀(xs:List TS) (n k:Nat),jd .no (Vk n xs) (n+k)=xs.getD k .no
 | [],n,k=>rfl
 |x::xs,n,0=>by simp [Vk,jd]
 |x::xs,n,k+1=>by
  have:Nat.beq (n+(k+1)) n=false:=by
   cases h:Nat.beq (n+(k+1)) n with
   |false=>rfl
   |true=>have:=Q4 h;omega
  simp only [Vk,jd,this,cond_false,List.getD_cons_succ]
  have e:n+(k+1)=(n+1)+k:=by omega
  rw [e];exact Sz xs (n+1) k
theorem XE {tt:TT} {sp:dD} {ts:List ResultVar} {q:iW} {y:Tup sp.aS.tys} (h:(aeI tt sp ts q).run=some y):Fw.Fin tt sp.er ts ((Tup.lX sp.aS.tys y).map cZ) (aU q.st):=by
 unfold aeI at h
 split at h
 ·exact (aY h).elim
 ·rename_i xs hxs
  simp only at h
  split at h
  ·exact (aY h).elim
  ·rename_i hk
   obtain ⟨hk,hk2⟩:=gQ hk
   split at h
   ·exact (aY h).elim
   ·rename_i vs hvs
    split at h
    ·exact (aY h).elim
    ·rename_i x hx
     have h:some x=some y:=h
     cases h
     unfold Fw.Fin
     rw [Na hxs]
     simp only
     obtain ⟨c1,c2⟩:=Ba hvs
     have e:aU { s:=Vk 0 xs,o:=q.st.o,u:=q.st.u }=Q9 (xs.map bn) (aU q.st):=by
      refine St.ext' (fun t => ?_) (fun g=>rfl) fun g=>rfl
      show bn (jd .no (Vk 0 xs) t)=(xs.map bn).getD t .no
      have:=Sz xs 0 t
      rw [We] at this
      rw [this,MP]
     obtain ⟨f1,f2⟩:=Px hk2
     rw [JX f2,kW,e] at c1
     rw [kW,e] at f1
     refine .mk _ _ _ _ f1 hk c1 ?_
     rw [zu _ hx]
def ay (Pg:Program) (f:FuncId) (sp:aZ):Prop:=Sound Pg f sp.er
def lY.of (l:List (Nat×aZ)):lY:=fun f=>l.lookup f
def Zu (Pg:Program):List (Nat×aZ)→Prop
 | []=>True
 |p::r=>ay Pg (p.1 % 1000000) p.2∧Zu Pg r
theorem Zu.sound {Pg:Program} :∀{l:List (Nat×aZ)},Zu Pg l→∀f sp,ng (lY.of l) f=some sp→Sound Pg (f % 1000000) sp
 | [],_,f,sp,h=>by cases h
 |(g,s)::l,⟨h1,h2⟩,f,sp,h=>by
  simp only [ng,lY.of,List.lookup] at h
  split at h
  ·rename_i e
   have e:f=g:=by simpa using e
   subst e
   cases h
   exact h1
  ·exact Zu.sound h2 f sp h
theorem dR {Pg:Program} {f:FuncId} {fn:Func} {c:Code} {sp:aZ} (hf:Pg.funcs[f]?=some fn) (hb:fn.body=some c) (hname:(fn.name == "runtime.NumGoroutine")=false) (hok:sp.sig.er.ok=true) (h :∀x,sp.f x=none):ay Pg f sp:=by
 refine ⟨hok,fun args w => ?_,fun E w vals gh ins bZ hR => ?_⟩
 ·have hname':¬ fn.name = "runtime.NumGoroutine" := by simpa using hname
  simp [callFunc,hf,hname',hb]
 ·obtain ⟨x,y,hy,_⟩:=hR
  have hy:=(O_ hy).1
  rw [h x] at hy;cases hy
theorem wG (e:Ty) (l:List (Dt e)):(aN e l).length=List.length (α:=Dt e) l:=by simp [aN]
theorem EF {R:Type} {a b:Nat→TO} {K:Prog R} {y:R} :∀{gs:List Nat},(A_ a b K gs).run=some y→K.run=some y∧∀g∈gs,(dY (a g)).like (dY (b g))
 | [],h=>⟨h,fun g hg=>by cases hg⟩
 |g::gs,h=>by
  unfold A_ at h
  have key :∀{x y:TO},RH x y=.yes→(dY x).like (dY y):=by
   intro x y hxy
   cases x<;>cases y<;>simp only [RH] at hxy<;>first | trivial | (cases hxy) | (exfalso;revert hxy;cases Nat.beq _ _<;>intro hxy<;>cases hxy)
  have key2 :∀{x y:TO} {n m:Nat},RH x y=.len n m→n=m→(dY x).like (dY y):=by
   intro x y n m hxy hnm
   cases x<;>cases y<;>simp only [RH] at hxy<;>first | (cases hxy) | skip
   ·rename_i e l _ _ _ e' l'
    cases hb:Nat.beq (size e) (size e') with
    |false=>rw [hb] at hxy;cases hxy
    |true=>
     rw [hb] at hxy;cases hxy
     exact ⟨Q4 hb,by rw [wG,wG];exact hnm⟩
   ·rename_i e _ l _ _ _ e' _ l' _
    cases hb:Nat.beq (size e) (size e') with
    |false=>rw [hb] at hxy;cases hxy
    |true=>
     rw [hb] at hxy;cases hxy
     exact ⟨Q4 hb,by rw [wG,wG];exact hnm⟩
  split at h
  ·rename_i hc
   obtain ⟨h1,h2⟩:=EF h
   refine ⟨h1,fun g' hg => ?_⟩
   rcases QR.1 hg with rfl | hg
   ·exact key hc
   ·exact h2 g' hg
  ·exact (aY h).elim
  ·rename_i n m hc
   have h:ck (decide (n=m)) (A_ a b K gs).run=some y:=h
   unfold ck at h
   cases hd:decide (n=m) with
   |false=>rw [hd] at h;cases h
   |true=>
    rw [hd] at h
    obtain ⟨h1,h2⟩:=EF (gs:=gs) h
    refine ⟨h1,fun g' hg => ?_⟩
    rcases QR.1 hg with rfl | hg
    ·exact key2 hc (of_decide_eq_true hd)
    ·exact h2 g' hg
theorem Zv {Pg:Program} {tt:TT} {T:lY} {ety:TypeId→Option Ty} {f:FuncId} {fn:Func} {c:Code} {sp:aZ} (ts:List ResultVar) (a:gG) (hf:Pg.funcs[f]?=some fn) (hb:fn.body=some c) (hname:(fn.name == "runtime.NumGoroutine")=false) (hres:fn.results=ts.toArray)
  (hok:sp.sig.er.ok=true) (Fe:(sp.sig.bg.all fun g=>sp.sig.pin.er.nms.contains g)=true) (hn:sp.sig.bH≤fn.ntmps) (hnr:ts.length=sp.sig.dA)
  (hT :∀f sp,ng T f=some sp→Sound Pg (f % 1000000) sp) (htt:ig Pg tt) (hm:Fit Pg)
  (h :∀x,(abH T tt ety fn.ntmps sp.sig ts c a x).run=sp.f x):ay Pg f sp:=by
 have hcase :∀x y,sp.ff x=some y→(tfun T tt ety fn.ntmps sp.sig ts c a x).run=some y∧∀g∈sp.sig.er.bg,((Fw.mk sp.sig.pin.er ((Tup.lX sp.sig.pin.tys x).map cZ)).o g).like ((Fw.mk sp.sig.aS.er ((Tup.lX sp.sig.aS.tys y).map cZ)).o g):=by
  intro x y hy0
  have hy:=(O_ hy0).1
  have hx:=h x
  rw [hy] at hx
  unfold abH at hx
  cases hbx:sp.sig.er.aaB with
  |true=>
   rw [hbx] at hx
   exact ⟨hx,zf.LU hbx⟩
  |false=>
   rw [hbx] at hx
   have hx:(tfun T tt ety fn.ntmps sp.sig ts c a x).run.bind (fun z=>(A_ (mkT sp.sig.pin (Tup.lX sp.sig.pin.tys x)).go (mkT sp.sig.aS (Tup.lX sp.sig.aS.tys z)).go (.ret z) sp.sig.bg).run)=some y:=hx
   cases hr:(tfun T tt ety fn.ntmps sp.sig ts c a x).run with
   |none=>rw [hr] at hx;cases hx
   |some z=>
    rw [hr] at hx
    obtain ⟨h1,h2⟩:=EF (R:=Tup sp.sig.aS.tys) (K:=.ret z) hx
    have h1:some z=some y:=h1
    cases h1
    refine ⟨rfl,fun g hg => ?_⟩
    have e1:=congrArg (fun s=>s.o g) (qW (qX _ x))
    have e2:=congrArg (fun s=>s.o g) (qW (qX _ y))
    rw [←e1,←e2]
    exact h2 g hg
 refine aa0 (T:=ng T) (tt:=tt) (c:=c) ts hf hb hname hres hok Fe (fun ins bZ ⟨x,y,hy,hi,ho⟩=>by subst hi;subst ho;exact (hcase x y hy).2) hn hnr hT htt hm ?_
 rintro ins bZ ⟨x,y,hy,rfl,rfl⟩
 have hx:=(hcase x y hy).1
 unfold tfun at hx
 rw [oL] at hx
 have e:=qW (qX _ x)
 have hx:=Zt c hx (Kp:=ahW tt sp.sig.er ts ((Tup.lX sp.sig.aS.tys y).map cZ)) ⟨fun q' _ hq=>XE hq,fun id q' _ hq=>(aY hq).elim,fun q' _ hq=>XE hq⟩
 have hx:exec (ng T) tt fn.ntmps sp.sig.er.bg c (aU (mkT sp.sig.pin (Tup.lX sp.sig.pin.tys x))) (ahW tt sp.sig.er ts ((Tup.lX sp.sig.aS.tys y).map cZ)):=hx
 rw [e] at hx
 exact hx
end
end Go.Fg

namespace Go.Fw
open Go.RowKit
variable [d_]
def J4 (w:World):Prop :=∀g sz rows,d_.gt g=some (sz,rows)→g<w.heap.size∧∀(n:Nat) x,rows[n]?=some x→x.length=sz∧∀(j:Nat) y,x[j]?=some y→∃u,w.cell? ⟨g,n*sz+j,none⟩=some u∧cu w (fun _=>False) y u
theorem SA (h :∀g,d_.gt g=none) (w:World):J4 w:=fun g sz rows hg=>by rw [h] at hg;cases hg
def E0 (w:World) (hw:J4 w):Env:={ FA:=fun _=>True,FI:=fun _=>False,B0:=w.heap.size,w0:=w,Wr:=fun _=>False,hg:=fun g sz rows hg=>⟨(hw g sz rows hg).1,fun h=>h,(hw g sz rows hg).2⟩ }
def G0:Nat→Gh:=fun _=>Gh.nil
theorem Zw {Pg:Program} {f:FuncId} {sp:Spec} (hs:Sound Pg f sp) (aaD:sp.sig.pin.bf=[]) (hnr:sp.sig.dA=1) (Wx:sp.sig.aS=⟨[(0,.one (.p false false))],[]⟩) {vals:List Value} (hlen:vals.length=sp.sig.bH) {w:World} (hw:J4 w) {ins:List P}
  (hR:sp.R ins [.bool true]) (tJ :∀t,dG (E0 w hw) (Fw.mk sp.sig.pin ins) G0 w ((Fw.mk sp.sig.pin ins).s t) (vals.getD t undef)) :
  Calls Pg f vals.toArray w fun e w'=>e=.returned (.bool true)∧Below w.heap.size w w':=by
 obtain ⟨hok,_,hS⟩:=hs
 have hno :∀g,(Fw.mk sp.sig.pin ins).o g=.none:=fun g=>LQ (by simp [Shape.nms,aaD])
 have hok':=hok
 simp only [zf.ok,Q6] at hok'
 have hus:=agT hok'.1.1.1.1.1.1.1.1 ins
 have hrel:Rel (E0 w hw) (Fw.mk sp.sig.pin ins) G0 (fun k=>vals.getD k undef) w:=
  ⟨tJ,fun g=>by rw [hno];trivial,fun g g' a (h:((Fw.mk sp.sig.pin ins).o g).bU=true)=>(by rw [hno] at h;cases h),fun g a (h:((Fw.mk sp.sig.pin ins).o g).bU=true)=>(by rw [hno] at h;cases h),fun g i b (h:((Fw.mk sp.sig.pin ins).o g).inner=some i)=>(by rw [hno] at h;cases h),fun g (h:((Fw.mk sp.sig.pin ins).o g).bU=true)=>(by rw [hno] at h;cases h),fun b hb=>hb.elim,fun b _ _=>rfl,YY _,rfl,rfl,rfl,hus.1,hus.2.1,hus.2.2⟩
 refine Calls.mono (hS (E0 w hw) w vals G0 ins [.bool true] hR rfl rfl hrel hlen) fun e w' he => ?_
 obtain ⟨rs,bP,hrl,rfl,hx,_⟩:=he
 rw [hnr] at hrl
 match rs,hrl with
 | [v],_=>
 refine ⟨?_,⟨hx.os,hx.tape,hx.output,hx.size,fun b hb=>hx.frame b hb (fun h=>h)⟩⟩
 have h0:=hx.slots 0
 rw [Wx] at h0
 have h1:dG (E0 w hw) (Fw.mk ⟨[(0,.one (.p false false))],[]⟩ [.bool true]) bP w' (.v (.one (.p false false (.bool true)))) v:=h0
 rw [show v=.bool true from h1.fC.lT];rfl
theorem ae1 {w:World} {k:IntKind} {a:Option Addr} {len cap:Nat} {zs:List Int} {ok:Nat→Prop} (hok :∀b,b<w.heap.size→ok b)
  (h:(a=none∧len=0∧cap=0∧zs=[])∨∃x,a=some x∧len≤cap∧zs.length=cap∧∀i,i<zs.length→w.cell? (x.add i)=some (.int k (zs.getD i 0))) :
  cu w ok (.sl 1 ((zs.take len).map fun z=>[.int k z])) (.slice a len cap):=by
 rcases h with ⟨rfl,rfl,rfl,rfl⟩ | ⟨x,rfl,hl,hz,hc⟩
 ·exact .nil _ _ _
 ·by_cases h0:len=0
  ·subst h0;exact .nil _ _ _
  ·have hc0:=hc 0 (by omega)
   have hs:x.spot=none:=by
    unfold World.cell? Addr.add at hc0
    cases hx:x.spot with
    |none=>rfl
    |some s=>
     exfalso
     split at hc0
     ·simp [hx] at hc0
     ·cases hc0
   have hb:x.block<w.heap.size:=by
    unfold World.cell? at hc0
    have e:(x.add 0).block=x.block:=by simp [Addr.add]
    rw [e] at hc0
    by_cases hlt:x.block<w.heap.size
    ·exact hlt
    ·rw [Array.getElem?_eq_none (by omega)] at hc0;cases hc0
   have hlen:((zs.take len).map fun z=>[P.int k z]).length=len:=by simp;omega
   have:=cu.sl (w:=w) (ok:=ok) 1 ((zs.take len).map fun z=>[P.int k z]) x cap (fun i _=>.int k (zs.getD i 0)) hs (fun _=>hok _ hb) (by omega) (fun r hr=>by
     obtain ⟨z,_,rfl⟩:=QQ.1 hr;rfl) (fun i r hr j y hj => ?_) (fun i r hr j y hj => ?_)
   ·rw [hlen] at this;exact this
   all_goals
    have hi:i<len:=by have:=(Q3.1 hr).1;omega
    rw [XS,Z6,if_pos hi] at hr
    obtain ⟨z,hz',rfl⟩:=W0.1 hr
    have hj0:j=0:=by
     cases j with
     |zero=>rfl
     |succ j=>simp at hj
    subst hj0
    simp only [UP,Q0] at hj
    subst hj
   ·have:=hc i (by omega)
    rw [←this]
    have e:x.add i=⟨x.block,x.off+i,none⟩:=by
     obtain ⟨b,o,sp⟩:=x
     simp only at hs
     subst hs
     exact Addr.iq b o i
    rw [e];simp
   ·rw [List.getD_eq_getElem?_getD,hz']
    exact .int k z
end Go.Fw
namespace Go.Fg
open Go.Fw Go.RowKit
section
variable [RE]
theorem ae2 {w:World} {k:IntKind} {a:Option Addr} {len cap:Nat} {zs:List Int} {ok:Nat→Prop} (hok :∀b,b<w.heap.size→ok b)
  (h:(a=none∧len=0∧cap=0∧zs=[])∨∃x,a=some x∧len≤cap∧zs.length=cap∧∀i,i<zs.length→w.cell? (x.add i)=some (.int k (zs.getD i 0))) :
  cu w ok (cZ ⟨.sl (.int k),zs.take len⟩) (.slice a len cap):=by
 have h0:=ae1 hok h
 have e:aN (.int k) (zs.take len)=(zs.take len).map fun z=>[P.int k z]:=rfl
 rw [G5,e]
 have hlen:len=(zs.take len).length:=by
  rcases h with ⟨_,rfl,_,rfl⟩ | ⟨x,_,h1,h2,_⟩
  ·rfl
  ·simp;omega
 cases hl:zs.take len with
 |nil=>
  rw [hl] at hlen
  have hlen:len=0:=hlen
  subst hlen
  exact .nil _ _ _
 |cons z l=>rw [hl] at h0;exact h0
end
end Go.Fg

namespace Go.Fg
open Go.Fw
def Ok {α:Type} (x:Option α) (Q:α→Prop):Prop :=∃y,x=some y∧Q y
def Lh {α β:Type} (P:α→Prop) (Q:β→Prop):α ⊕ β→Prop
 |.inl a=>P a
 |.inr b=>Q b
theorem ab8 {α β:Type} {P:α→Prop} {Q:β→Prop} {b:β}:Lh P Q (.inr b)↔Q b:=Iff.rfl
theorem zx {α:Type} {y:α} {Q:α→Prop}:Ok (some y) Q↔Q y:=⟨fun ⟨_,h,hq⟩=>by cases h;exact hq,fun h=>⟨_,rfl,h⟩⟩
theorem G9 {α β:Type} {x:Option α} {f:α→Option β} {Q:β→Prop}:Ok (Option.bind x f) Q↔Ok x fun y=>Ok (f y) Q:=by
 cases x with
 |none=>exact ⟨fun ⟨_,h,_⟩=>(by cases h),fun ⟨_,h,_⟩=>(by cases h)⟩
 |some z=>rw [zx];rfl
theorem ab9 {α:Type} {b:Bool} {x:Option α} {Q:α→Prop}:Ok (ck b x) Q↔b=true∧Ok x Q:=by
 cases b with
 |false=>exact ⟨fun ⟨_,h,_⟩=>(by cases h),fun ⟨h,_⟩=>(by cases h)⟩
 |true=>exact ⟨fun h=>⟨rfl,h⟩,fun h=>h.2⟩
theorem Vq {α:Type} {b:Bool} {x y:Option α} {Q:α→Prop}:Ok (bif b then x else y) Q↔(b=true→Ok x Q)∧(b=false→Ok y Q):=by
 cases b with
 |false=>exact ⟨fun h=>⟨fun e=>(by cases e),fun _=>h⟩,fun h=>h.2 rfl⟩
 |true=>exact ⟨fun h=>⟨fun _=>h,fun e=>(by cases e)⟩,fun h=>h.1 rfl⟩
theorem ab_ {α β:Type} {x:Option (α ⊕ β)} {f:α→Option β} {Q:β→Prop}:Ok (dP x f) Q↔Ok x (Lh (fun a=>Ok (f a) Q) Q):=by
 unfold dP
 refine G9.trans ⟨fun ⟨y,hy,h⟩=>⟨y,hy,?_⟩,fun ⟨y,hy,h⟩=>⟨y,hy,?_⟩⟩
 ·cases y with
  |inl a=>exact h
  |inr b=>exact (zx (Q:=Q)).1 h
 ·cases y with
  |inl a=>exact h
  |inr b=>exact (zx (Q:=Q)).2 h
theorem lC {α:Type} {x:Option α} {Q Q':α→Prop} (h:Ok x Q) (hq :∀y,Q y→Q' y):Ok x Q':=let ⟨y,hy,hz⟩:=h;⟨y,hy,hq y hz⟩
theorem ok_eq {α:Type} {x:Option α} {y:α} (h:Ok x fun z=>z=y):x=some y:=let ⟨_,hy,e⟩:=h;e▸hy
section
variable [RE]
theorem bI {A R:Type} {body:A→Option (A ⊕ R)} {Q:R→Prop} (I:A→Prop) (μ:A→Nat) {a:A} (ha:I a)
  (h :∀a,I a→Ok (body a) (Lh (fun a'=>I a'∧μ a'<μ a) Q)):Ok (bD body a) Q:=by
 have key :∀n a,I a→μ a<n→Ok (bD body a) Q:=by
  intro n
  induction n with
  |zero=>intro a _ hn;omega
  |succ n ih=>
   intro a ha hn
   obtain ⟨y,hy,hz⟩:=h a ha
   rw [Bl,hy]
   cases y with
   |inl a'=>
    obtain ⟨h1,h2⟩:I a'∧μ a'<μ a:=hz
    exact ih a' h1 (by omega)
   |inr r=>exact ⟨r,rfl,hz⟩
 exact key _ a ha (Nat.lt_succ_self _)
end
theorem aO {x:Int} (h:-9223372036854775808≤x∧x≤9223372036854775807):b_ x=x:=@wrap64 ⟨fun _=>none,fun _ _ _ _=>False,fun _ h=>h⟩ x h.1 h.2
theorem aj {n:Int} {len:Nat}:inB n len=true↔0≤n∧n<len:=by simp [inB]
theorem rC {lo hi:Int} {len:Nat}:zG lo hi len=true↔(0≤lo∧lo≤hi)∧hi≤(len:Int):=by simp [zG]
theorem jL {b:Nat} {n c:Int}:uJ b n c=true↔((0≤n∧n≤c)∧b*c≤281474976710656)∧c≤9223372036854775807:=by simp [uJ]
theorem XF {p:Prop} [Decidable p]:(decide p=true)=p:=by simp
theorem SB {p:Prop} [Decidable p]:(decide p=false)=¬p:=by simp
theorem not_iff {b:Bool}:((!b)=true)=(b=false):=by cases b<;>simp
theorem ae3 (a b:Int):Y2 a b=min a b:=by unfold Y2;split<;>omega
theorem tmod_lt {a b:Int} (ha:0≤a) (hb:0<b):0≤Int.tmod a b∧Int.tmod a b<b:=⟨Int.tmod_nonneg b ha,Int.tmod_lt_of_pos a hb⟩
theorem getD_at {α:Type} {l:List α} {n:Nat} (d:α) (h:n<l.length):l.getD n d=l[n]:=by
 rw [List.getD_eq_getElem?_getD,Q2 h];rfl
end Go.Fg

namespace Go.Fg
open Go.Fw
theorem take_snoc {α:Type} {l:List α} {i:Nat} (h:i<l.length):l.take (i+1)=l.take i++[l[i]]:=by
 rw [List.take_add_one,Q2 h];rfl
theorem bF {α β:Type} {x:Option α} {f:α→Option β} {Q:β→Prop} (Q':α→Prop) (h:Ok x Q') (k :∀y,Q' y→Ok (f y) Q):Ok (Option.bind x f) Q:=G9.2 (lC h k)
theorem oP {α β:Type} {x:Option α} {f:α→Option β} {Q:β→Prop} {y:α} (h:x=some y) (k:Ok (f y) Q):Ok (Option.bind x f) Q:=by rw [h];exact k
theorem bJ {α:Type} {b:Bool} {x y:Option α} {Q:α→Prop} (h1:b=true→Ok x Q) (h2:b=false→Ok y Q):Ok (bif b then x else y) Q:=Vq.2 ⟨h1,h2⟩
theorem pU {α:Type} {b:Bool} {x y:Option α} {Q:α→Prop} (hb:b=false) (h2:Ok y Q):Ok (bif b then x else y) Q:=by rw [hb];exact h2
theorem goT {α:Type} {b:Bool} {x y:Option α} {Q:α→Prop} (hb:b=true) (h2:Ok x Q):Ok (bif b then x else y) Q:=by rw [hb];exact h2
theorem bC {α:Type} {b:Bool} {x:Option α} {Q:α→Prop} (hb:b=true) (h2:Ok x Q):Ok (ck b x) Q:=ab9.2 ⟨hb,h2⟩
theorem pV {α β:Type} {x:Option (α ⊕ β)} {f:α→Option β} {Q:β→Prop} (Q':α→Prop) (h:Ok x (Lh Q' Q)) (k :∀y,Q' y→Ok (f y) Q):Ok (dP x f) Q:=
 ab_.2 (lC h fun y hy=>by cases y with
  |inl a=>exact k a hy
  |inr b=>exact hy)
theorem aC {α:Type} {y:α} {Q:α→Prop} (h:Q y):Ok (some y) Q:=zx.2 h
section
variable [RE]
theorem Bz {A R S E:Type} {body:A→Option (A ⊕ R)} {Q:R→Prop} (l:List E) (st:Int→S→A) (g:S→E→S) (I:Nat→S→Prop) {s0:S} {a0:A} (ha:a0=st 0 s0) (h0:I 0 s0)
  (hs :∀i (h:i<l.length) s,I i s→s=(l.take i).foldl g s0→Ok (body (st i s)) (Lh (fun a=>a=st ((i:Int)+1) (g s l[i])∧I (i+1) (g s l[i])) Q))
  (he :∀s,I l.length s→s=l.foldl g s0→Ok (body (st l.length s)) (Lh (fun _=>False) Q)):Ok (bD body a0) Q:=by
 have key :∀k i s,i≤l.length→l.length-i=k→I i s→s=(l.take i).foldl g s0→Ok (bD body (st i s)) Q:=by
  intro k
  induction k with
  |zero=>
   intro i s hi hk h1 h2
   have e:i=l.length:=by omega
   subst e
   rw [VV] at h2
   obtain ⟨y,hy,hq⟩:=he s h1 h2
   rw [Bl,hy]
   cases y with
   |inl a=>exact hq.elim
   |inr r=>exact ⟨r,rfl,hq⟩
  |succ k ih=>
   intro i s hi hk h1 h2
   have hlt:i<l.length:=by omega
   obtain ⟨y,hy,hq⟩:=hs i hlt s h1 h2
   rw [Bl,hy]
   cases y with
   |inl a=>
    obtain ⟨rfl,h3⟩:a=st ((i:Int)+1) (g s l[i])∧I (i+1) (g s l[i]):=hq
    have:=ih (i+1) (g s l[i]) (by omega) (by omega) h3 (by rw [take_snoc hlt,List.foldl_append,←h2];rfl)
    exact this
   |inr r=>exact ⟨r,rfl,hq⟩
 rw [ha]
 exact key l.length 0 s0 (by omega) (by omega) h0 (by simp)
end
end Go.Fg

namespace Go.Fg
open Go.Fw Go.RowKit
section
variable {H:Type} {enc:TypeId×Value→H} {P:Program} {w:World} {base:Nat} {spare:Nat→Bool} {held:Bool}
end
theorem akr [d_] {pin:Shape} (h:pin.bf=[]) (ins:List P) (w:World) (hw:J4 w) :∀b,b<w.heap.size→(E0 w hw).ok (Fw.mk pin ins) G0 w true false b:=by
 intro b hb
 refine ⟨.inl ⟨rfl,trivial⟩,hb,fun g ad hg => ?_⟩
 rw [LQ (by simp [Shape.nms,h])] at ad
 cases ad
section
variable [RE]
end
end Go.Fg

