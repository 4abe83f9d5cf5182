/-
  The plain proofs: what the functions compute answers as the law says.
-/
import Derived.Test.YtfklooeiipkijaaFgB
import Derived.Test.YtfklooeiipkijaaZd
set_option linter.unusedSimpArgs false
set_option linter.unusedVariables false
set_option linter.unusedSectionVars false
namespace Go.Fg.Ytfklooeiipkijaa
open Go.Fw
structure UF (g:List Int) (rep r:Nat→Nat):Prop where
 val :∀x,x<g.length→0≤g.getD x 0∧g.getD x 0<g.length
 lt :∀x,x<g.length→rep x<g.length
 step :∀x,x<g.length→rep (g.getD x 0).toNat=rep x
 rank :∀x,x<g.length→g.getD x 0≠x→r (g.getD x 0).toNat<r x
 fix :∀x,x<g.length→g.getD x 0=x→rep x=x
 idem :∀x,x<g.length→rep (rep x)=rep x
 root :∀x,x<g.length→rep x=x→g.getD x 0=x
theorem bM {l:List Int} {a z:Nat} {v:Int} (ha:a<l.length):(l.set a v).getD z 0=if z=a then v else l.getD z 0:=by
 rw [List.getD_eq_getElem?_getD,List.getD_eq_getElem?_getD]
 by_cases h:z=a
 ·subst h;rw [UV ha,if_pos rfl];rfl
 ·rw [VC (fun e=>h e.symm),if_neg h]
theorem X9 {g:List Int} {rep r:Nat→Nat} {x:Nat} (h:UF g rep r) (hx:x<g.length):Ok (f35 x g) fun y=>y.1=(rep x:Int)∧y.2.length=g.length∧UF y.2 rep r:=by
 unfold f35
 refine bF (fun y=>y.1=(rep x:Int)∧y.2.length=g.length∧UF y.2 rep r) ?_ fun y hy=>bC (decide_eq_true hy.2.1.symm) (aC hy)
 refine bF (fun y=>y.1=(rep x:Int)∧y.2.length=g.length∧UF y.2 rep r) ?_ fun y hy=>aC hy
 refine bI (fun s:Int×List Int =>∃k:Nat,s.1=k∧k<g.length∧rep k=rep x∧s.2.length=g.length∧UF s.2 rep r) (fun s=>r s.1.toNat) ⟨x,rfl,hx,rfl,rfl,h⟩ fun s ⟨k,e1,e2,e3,e4,e5⟩ => ?_
 obtain ⟨k',m⟩:=s
 simp only at e1 e4 e5
 subst e1
 have hk:k<m.length:=by omega
 have v1:=e5.val k hk
 have v2:=e5.val (m.getD k 0).toNat (by omega)
 refine bC (aj.2 ⟨by omega,by omega⟩) (bJ (fun hne => ?_) (fun heq=>aC ?_))
 ·simp only [QP] at hne ⊢
  have hne:m.getD k 0≠k:=by simpa using hne
  refine bC (aj.2 ⟨by omega,by omega⟩) (bC (aj.2 ⟨v1.1,v1.2⟩) (bC (aj.2 ⟨by omega,by omega⟩) (bC (aj.2 ⟨by omega,by simp;omega⟩) (aC ?_))))
  have hr1:=e5.rank k hk hne
  have hr2:r (m.getD (m.getD k 0).toNat 0).toNat<r k:=by
   by_cases hq:m.getD (m.getD k 0).toNat 0=((m.getD k 0).toNat:Int)
   ·rw [hq];exact hr1
   ·exact Nat.lt_trans (e5.rank _ (by omega) hq) hr1
  have hgk:(m.set k (m.getD (m.getD k 0).toNat 0)).getD k 0=m.getD (m.getD k 0).toNat 0:=by rw [bM hk,if_pos rfl]
  have hrep:rep (m.getD (m.getD k 0).toNat 0).toNat=rep k:=by rw [e5.step _ (by omega),e5.step k hk]
  refine ⟨⟨(m.getD (m.getD k 0).toNat 0).toNat,?_,by omega,by rw [hrep];exact e3,by simp [e4],?_⟩,?_⟩
  ·simp only;rw [hgk];omega
  ·refine ⟨fun z hz => ?_,fun z hz => ?_,fun z hz => ?_,fun z hz => ?_,fun z hz => ?_,fun z hz => ?_,fun z hz => ?_⟩<;>simp only [ZD] at hz ⊢
   ·rw [bM hk];split
    ·exact v2
    ·exact e5.val z hz
   ·exact e5.lt z hz
   ·rw [bM hk];split
    ·rename_i e;subst e;exact hrep
    ·exact e5.step z hz
   ·rw [bM hk];split
    ·rename_i e;subst e;intro _;exact hr2
    ·exact e5.rank z hz
   ·rw [bM hk];split
    ·rename_i e;subst e;intro hq
     rw [hq,QP] at hr2
     omega
    ·exact e5.fix z hz
   ·exact e5.idem z hz
   ·rw [bM hk];split
    ·rename_i e;subst e;intro hq
     exact absurd (e5.root z hk hq) hne
    ·exact e5.root z hz
  ·simp only;rw [hgk];simpa using hr2
 ·simp only [QP] at heq
  have heq:m.getD k 0=k:=by simpa using heq
  exact ⟨by simp only;rw [←e3,e5.fix k hk heq],e4,e5⟩
def link (rep:Nat→Nat) (a b z:Nat):Nat:=if rep z=a then b else rep z
theorem X_ {ls:List dn} {g:List Int} {ins:List Bool} {rep r:Nat→Nat} {k u v:Nat} (h:UF g rep r) (hk:k<ls.length) (hki:k<ins.length) (hu:(ls.getD k (dn.mk 0 0)).from'=u) (hv:(ls.getD k (dn.mk 0 0)).to=v) (P7:u<g.length) (hvl:v<g.length) :
  Ok (f37 k ls g ins) fun y=>y.1.length=g.length∧y.2.1=ls∧y.2.2=ins.set k (!decide ((rep u:Int)=rep v))∧∃r',UF y.1 (link rep (rep u) (rep v)) r':=by
 unfold f37
 refine bF (fun y=>y.1.length=g.length∧y.2.1=ls∧y.2.2=ins.set k (!decide ((rep u:Int)=rep v))∧∃r',UF y.1 (link rep (rep u) (rep v)) r') ?_ fun y hy=>
  bC (decide_eq_true hy.1.symm) (bC (decide_eq_true (by rw [hy.2.2.1,ZD])) (aC hy))
 refine bC (aj.2 ⟨by omega,by omega⟩) ?_
 simp only [QP,hu,hv]
 refine bF _ (X9 h P7) fun c1 ⟨a1,a2,a3⟩=>bC (aj.2 ⟨by omega,by omega⟩) (bF _ (X9 a3 (by omega:v<c1.2.length)) fun c3 ⟨b1,b2,b3⟩ => ?_)
 have asb:=h.lt u P7
 have asc:=h.lt v hvl
 obtain ⟨ca,g1⟩:=c1
 obtain ⟨cb,g2⟩:=c3
 simp only at a1 a2 a3 b1 b2 b3
 subst a1;subst b1
 refine bC (aj.2 ⟨by omega,by omega⟩) (bC (aj.2 ⟨by omega,by simp only;omega⟩) (aC ⟨by simp;omega,rfl,by simp,?_⟩))
 simp only [QP]
 have hl:rep u<g2.length:=by omega
 have ia:rep (rep u)=rep u:=b3.idem u (by omega)
 have ib:rep (rep v)=rep v:=b3.idem v (by omega)
 by_cases hab:rep u=rep v
 ·-- nothing is joined
  refine ⟨r,?_⟩
  have ama:link rep (rep u) (rep v)=rep:=by
   funext z;unfold link;split
   ·rename_i e;rw [e,hab]
   ·rfl
  have hroot:g2.getD (rep u) 0=(rep u:Int):=b3.root _ hl ia
  have:g2.set (rep u) (rep v:Int)=g2:=by
   rw [←hab,←hroot,getD_at 0 hl];exact List.set_getElem_self hl
  rw [this,ama];exact b3
 ·refine ⟨fun z=>if rep z=rep u then r z+r (rep v)+1 else r z,?_⟩
  refine ⟨fun z hz => ?_,fun z hz => ?_,fun z hz => ?_,fun z hz => ?_,fun z hz => ?_,fun z hz => ?_,fun z hz => ?_⟩<;>simp only [ZD] at hz ⊢
  ·rw [bM hl];split
   ·omega
   ·exact b3.val z hz
  ·unfold link;split
   ·omega
   ·exact b3.lt z hz
  ·rw [bM hl];split
   ·rename_i e;subst e
    unfold link
    rw [QP,ia,if_pos rfl,ib,if_neg (fun e=>hab e.symm)]
   ·unfold link;rw [b3.step z hz]
  ·rw [bM hl];split
   ·rename_i e;subst e
    intro _
    rw [QP,ib,ia,if_neg (fun e=>hab e.symm),if_pos rfl];omega
   ·intro hne
    rw [b3.step z hz]
    have:=b3.rank z hz hne
    split<;>omega
  ·rw [bM hl];split
   ·rename_i e;subst e;intro hq;omega
   ·rename_i hne;intro hq
    have:=b3.fix z hz hq
    unfold link;rw [this,if_neg hne]
  ·unfold link
   by_cases hz2:rep z=rep u
   ·rw [if_pos hz2,ib,if_neg (fun e=>hab e.symm)]
   ·rw [if_neg hz2,b3.idem z hz,if_neg hz2]
  ·unfold link
   intro hq
   by_cases hz2:rep z=rep u
   ·rw [if_pos hz2] at hq
    subst hq
    rw [ib] at hz2;exact absurd hz2.symm hab
   ·rw [if_neg hz2] at hq
    rw [bM hl,if_neg (fun e=>by subst e;exact hz2 ia)]
    exact b3.root z hz hq
def comps (rep:Nat→Nat):Nat→Nat
 |0=>0
 |n+1=>comps rep n+if rep n=n then 1 else 0
theorem Ko {rep amb:Nat→Nat} :∀{n:Nat},(∀z,z<n→(amb z=z↔rep z=z))→comps amb n=comps rep n
 |0,_=>rfl
 |n+1,h=>by
  simp only [comps]
  rw [Ko fun z hz=>h z (by omega)]
  have:=h n (by omega)
  by_cases e:rep n=n
  ·rw [if_pos e,if_pos (this.2 e)]
  ·rw [if_neg e,if_neg fun e'=>e (this.1 e')]
theorem BH {rep:Nat→Nat} {a b:Nat} (hab:a≠b) (ha:rep a=a) (hb:rep b=b) :∀{n:Nat},a<n→comps (link rep a b) n+1=comps rep n
 |n+1,h=>by
  have hz :∀z,z≠a→(link rep a b z=z↔rep z=z):=by
   intro z hz
   unfold link
   constructor
   ·intro hq
    split at hq
    ·rename_i e;subst hq;rw [hb] at e;exact absurd e.symm hab
    ·exact hq
   ·intro hq
    rw [if_neg (by rw [hq];exact hz)];exact hq
  simp only [comps]
  by_cases e:n=a
  ·subst e
   rw [Ko fun z hz'=>hz z (by omega),if_pos ha]
   have:¬ link rep n b n=n:=by unfold link;rw [if_pos ha];exact fun e=>hab e.symm
   rw [if_neg this]
  ·have:=BH hab ha hb (n:=n) (by omega)
   by_cases e2:rep n=n
   ·rw [if_pos e2,if_pos ((hz n e).2 e2)];omega
   ·rw [if_neg e2,if_neg fun e'=>e2 ((hz n e).1 e')];omega
def gJ (b:Nat) (t:aG):List aJ:=(if t.aA=3 then [] else [aJ.mk 0 b 0])++(if t.aA=2 then [aJ.mk 0 b 1] else [])
def pz (s:Nat×List aJ) (t:aG):Nat×List aJ:=(s.1+1,s.2++gJ s.1 t)
def aI (bs:List aG):List aJ:=(bs.foldl pz (0,[aJ.mk 0 0 2])).2
theorem EK {a b:Nat} (h:a+b≤4000000):bV a b 24=true:=by unfold bV;simp;omega
theorem Hr {a b:Nat} (h:a+b≤4000000):bV a b 16=true:=by unfold bV;simp;omega
theorem oQ {nm:List UInt8} {a b:Int} {bs:List aG} (hl:bs.length≤1000000):f9 nm a b bs=some (aI bs)∧(aI bs).length≤2*bs.length+1:=by
 suffices h:Ok (f9 nm a b bs) fun y=>y=aI bs∧y.length≤2*bs.length+1 by
  obtain ⟨y,hy,rfl,h⟩:=h
  exact ⟨hy,h⟩
 unfold f9
 refine bF (fun y=>y=aI bs∧y.length≤2*bs.length+1) ?_ fun y hy=>aC hy
 refine Bz bs (fun i s=>(i,s.2)) pz (fun i s=>s.1=i∧s.2.length≤2*i+1) (s0:=(0,[aJ.mk 0 0 2])) rfl ⟨rfl,by simp⟩ (fun i h s ⟨h1,h2⟩ _ => ?_) (fun s ⟨h1,h2⟩ hs => ?_)
 ·obtain ⟨j,l⟩:=s
  simp only at h1 h2
  subst j
  refine goT (decide_eq_true (by simp only;omega)) (bC (aj.2 ⟨by simp only;omega,by simp only;omega⟩) ?_)
  have e:bs.getD ((i:Int)).toNat ah=bs[i]:=by rw [QP];exact getD_at _ h
  simp only [e]
  generalize bs[i]=t
  refine bF (fun y=>y=l++(if t.aA=3 then [] else [aJ.mk 0 i 0])) ?_ fun y hy => ?_
  ·refine bJ (fun hc => ?_) (fun hc => ?_)
   ·refine bC (EK (by simp;omega)) (aC ?_)
    rw [if_neg (by simpa using hc)]
   ·refine aC ?_
    rw [if_pos (by simpa using hc),VS]
  subst hy
  refine bF (fun y=>y=l++gJ i t) ?_ fun y hy => ?_
  ·unfold gJ
   refine bJ (fun hc => ?_) (fun hc => ?_)
   ·have h2':t.aA=2:=by simpa using hc
    refine bC (EK (by rw [if_neg (by omega)];simp;omega)) (aC ?_)
    rw [if_pos h2',Wa]
   ·have h2':¬ t.aA=2:=by simpa using hc
    refine aC ?_
    rw [if_neg h2',VS]
  ·subst hy
   refine aC ⟨?_,rfl,?_⟩
   ·rw [aO (by omega)];rfl
   ·have:(gJ i t).length≤2:=by unfold gJ;split<;>split<;>simp
    show (l++gJ i t).length≤_
    rw [Z0];omega
 ·refine pU (decide_eq_false (by simp only;omega)) (aC ⟨by rw [hs];rfl,h2⟩)
def iG (bs:List aG) (w:aJ):dn:=
 if w.way=0 then dn.mk w.block (bs.getD w.block.toNat ah).fO else if w.way=1 then dn.mk w.block (bs.getD w.block.toNat ah).dh else dn.mk bs.length 0
def zI (n:Nat) (s:Nat×List dn) (t:aG):Nat×List dn:=(s.1+1,s.2++if t.aA=3 then [dn.mk s.1 n] else [])
def mZ (bs:List aG):List dn:=(bs.foldl (zI bs.length) (0,[])).2
theorem Kr (n:Nat) (bs:List aG) :∀(k:Nat) (a b:List dn),bs.foldl (zI n) (k,a++b)=((bs.foldl (zI n) (k,b)).1,a++(bs.foldl (zI n) (k,b)).2):=by
 induction bs with
 |nil=>intro k a b;rfl
 |cons t bs ih=>intro k a b;simp only [K3,zI];rw [Wa,ih]
theorem Ya (bs:List aG) :∀w∈aI bs,0≤w.block∧(w.block<bs.length∨w.block=0):=by
 have key :∀(l:List aG) (s:Nat×List aJ) (n:Nat),s.1+l.length≤n→(∀w∈s.2,0≤w.block∧(w.block<n∨w.block=0))→∀w∈(l.foldl pz s).2,0≤w.block∧(w.block<n∨w.block=0):=by
  intro l
  induction l with
  |nil=>intro s n _ h;exact h
  |cons t l ih=>
   intro s n hn h
   simp only [K8] at hn
   refine ih _ n (by simp only [pz];omega) fun w hw => ?_
   rcases X1.1 hw with hw | hw
   ·exact h w hw
   ·unfold gJ at hw
    have:w.block=s.1:=by
     rcases X1.1 hw with hw | hw<;>split at hw<;>simp at hw<;>rw [hw]
    omega
 exact key bs _ bs.length (by simp) (by simp)
theorem Kt {nm:List UInt8} {a b:Int} {bs:List aG} (hl:bs.length≤1000000) (h0:0<bs.length):f36 nm a b bs=some ((aI bs).map (iG bs)++mZ bs):=by
 apply ok_eq
 unfold f36
 have hw:=oQ (nm:=nm) (a:=a) (b:=b) hl
 refine oP hw.1 ?_
 refine bF (fun y=>y=(aI bs).map (iG bs)) ?_ fun y hy => ?_
 ·refine Bz (aI bs) (fun i s=>(i,s)) (fun s w=>s++[iG bs w]) (fun i s=>s.length=i) (s0:=[]) rfl rfl (fun i h s h1 _ => ?_) (fun s h1 hs => ?_)
  ·refine goT (decide_eq_true (by simp only;omega)) (bC (aj.2 ⟨by simp only;omega,by simp only;omega⟩) ?_)
   have e:(aI bs).getD ((i:Int)).toNat (aJ.mk 0 0 0)=(aI bs)[i]:=by rw [QP];exact getD_at _ h
   have hin:=Ya bs _ (XX h)
   simp only [e]
   generalize (aI bs)[i]=w at hin ⊢
   refine bC (aj.2 ⟨hin.1,by omega⟩) ?_
   refine bF (fun y=>y=s++[iG bs w]) ?_ fun y hy => ?_
   ·unfold iG
    refine bJ (fun hc => ?_) (fun hc => ?_)
    ·refine bC (Hr (by simp;omega)) (aC ?_)
     rw [if_pos (by simpa using hc)]
    ·rw [if_neg (by simpa using hc)]
     refine bF (fun y=>y=s++[if w.way=1 then dn.mk w.block (bs.getD w.block.toNat ah).dh else dn.mk bs.length 0]) ?_ fun y hy=>aC hy
     refine bJ (fun hc => ?_) (fun hc => ?_)
     ·refine bC (Hr (by simp;omega)) (aC ?_)
      rw [if_pos (by simpa using hc)]
     ·refine bC (Hr (by simp;omega)) (aC ?_)
      rw [if_neg (by simpa using hc)]
   ·subst hy
    exact aC ⟨by rw [aO (by omega)],by simp [h1]⟩
  ·refine pU (decide_eq_false (by simp only;omega)) (aC ?_)
   rw [hs]
   have :∀(l:List aJ) (s:List dn),l.foldl (fun s w=>s++[iG bs w]) s=s++l.map (iG bs):=by
    intro l
    induction l with
    |nil=>intro s;simp
    |cons w l ih=>intro s;simp [ih]
   rw [this];rfl
 subst hy
 refine bF (fun y=>y=(aI bs).map (iG bs)++mZ bs) ?_ fun y hy=>aC hy
 refine Bz bs (fun i s=>(i,s.2)) (zI bs.length) (fun i s=>s.1=i∧s.2.length≤2*bs.length+1+i) (s0:=(0,(aI bs).map (iG bs))) rfl ⟨rfl,by simp;omega⟩ (fun i h s ⟨h1,h2⟩ _ => ?_) (fun s ⟨h1,h2⟩ hs => ?_)
 ·obtain ⟨j,l⟩:=s
  simp only at h1 h2
  subst j
  refine goT (decide_eq_true (by simp only;omega)) (bC (aj.2 ⟨by simp only;omega,by simp only;omega⟩) ?_)
  have e:bs.getD ((i:Int)).toNat ah=bs[i]:=by rw [QP];exact getD_at _ h
  simp only [e]
  generalize bs[i]=t
  refine bF (fun y=>y=l++if t.aA=3 then [dn.mk i bs.length] else []) ?_ fun y hy => ?_
  ·refine bJ (fun hc => ?_) (fun hc => ?_)
   ·refine bC (Hr (by simp;omega)) (aC ?_)
    rw [if_pos (by simpa using hc)]
   ·refine aC ?_
    rw [if_neg (by simpa using hc),VS]
  ·subst hy
   refine aC ⟨?_,rfl,?_⟩
   ·rw [aO (by omega)];rfl
   ·show (l++_).length≤_
    rw [Z0]
    split<;>simp<;>omega
 ·refine pU (decide_eq_false (by simp only;omega)) (aC ?_)
  rw [hs]
  have:=Kr bs.length bs 0 ((aI bs).map (iG bs)) []
  rw [VS] at this
  rw [this];rfl
def fr (ls:List dn) (k:Nat):Nat:=(ls.getD k (dn.mk 0 0)).from'.toNat
def to (ls:List dn) (k:Nat):Nat:=(ls.getD k (dn.mk 0 0)).to.toNat
def lF (ls:List dn) (N:Nat):Prop :=∀k,k<ls.length→(0≤(ls.getD k (dn.mk 0 0)).from'∧(ls.getD k (dn.mk 0 0)).from'<N)∧0≤(ls.getD k (dn.mk 0 0)).to∧(ls.getD k (dn.mk 0 0)).to<N
theorem Ku :∀n,comps (fun z=>z) n=n
 |0=>rfl
 |n+1=>by simp only [comps];rw [Ku n];simp
def dQ (f:Nat→Int):Nat→Int
 |0=>0
 |n+1=>dQ f n+f n
theorem gy {f g:Nat→Int} :∀{n:Nat},(∀j,j<n→f j=g j)→dQ f n=dQ g n
 |0,_=>rfl
 |n+1,h=>by simp only [dQ];rw [gy fun j hj=>h j (by omega),h n (by omega)]
theorem nT {f g:Nat→Int} :∀{n:Nat},dQ (fun j=>f j+g j) n=dQ f n+dQ g n
 |0=>rfl
 |n+1=>by simp only [dQ];rw [nT];omega
theorem jM {f g:Nat→Int} {k:Nat} :∀{n:Nat},k<n→(∀j,j<n→j≠k→f j=g j)→dQ f n=dQ g n+(f k-g k)
 |n+1,hk,h=>by
  simp only [dQ]
  by_cases e:k=n
  ·subst e
   rw [gy fun j hj=>h j (by omega) (by omega)];omega
  ·rw [jM (n:=n) (by omega) fun j hj hne=>h j (by omega) hne,h n (by omega) (by omega)];omega
theorem wI {f g:Nat→Int} :∀{n:Nat},(∀j,j<n→f j≤g j)→dQ f n≤dQ g n
 |0,_=>Kx _
 |n+1,h=>by simp only [dQ];have:=wI fun j (hj:j<n)=>h j (by omega);have:=h n (by omega);omega
theorem gK {c:Int} :∀{n:Nat},dQ (fun _=>c) n=n*c
 |0=>by simp [dQ]
 |n+1=>by simp only [dQ];rw [gK,Int.natCast_add,Int.add_mul];simp
theorem yT {f:Nat→Int} {n:Nat} (h :∀j,j<n→0≤f j):0≤dQ f n:=by
 have:=wI (f:=fun _=>0) h
 rw [gK] at this;simpa using this
theorem wJ {k n:Nat} {v:Int} (h:k<n):dQ (fun j=>if j=k then v else 0) n=v:=by
 rw [jM (g:=fun _=>0) h fun j _ hne=>if_neg hne,gK,if_pos rfl];omega
theorem yU {k n:Nat} {v:Int} (h:k<n):dQ (fun j=>if k=j then v else 0) n=v:=by
 refine (gy (g:=fun j=>if j=k then v else 0) fun j _ => ?_).trans (wJ h)
 by_cases e:j=k
 ·rw [if_pos e,if_pos e.symm]
 ·rw [if_neg e,if_neg fun e'=>e e'.symm]
theorem EL {f:Nat→Nat→Int} {m:Nat} :∀{n:Nat},dQ (fun i=>dQ (fun j=>f i j) m) n=dQ (fun j=>dQ (fun i=>f i j) n) m
 |0=>by simp only [dQ];rw [gK];simp
 |n+1=>by simp only [dQ];rw [EL,←nT]
theorem ZG {f:Nat→Int} {n:Nat} (h0 :∀j,j<n→0≤f j) (h:dQ f n=0) :∀j,j<n→f j=0:=by
 intro k hk
 have:=jM (f:=f) (g:=fun j=>if j=k then 0 else f j) hk fun j _ hne=>(if_neg hne).symm
 have h2:0≤dQ (fun j=>if j=k then 0 else f j) n:=yT fun j hj=>by split;exact Kx _;exact h0 j hj
 simp only [if_pos] at this
 have:=h0 k hk;omega
section
variable (ls:List dn)
def en (p j:Nat):Int:=(if fr ls j=p then 1 else 0)+(if to ls j=p then 1 else 0)
def dg (sub:List Bool) (p:Nat):Int:=dQ (fun j=>if sub.getD j false then en ls p j else 0) ls.length
def sz (sub:List Bool):Int:=dQ (fun j=>if sub.getD j false then 1 else 0) ls.length
def tc (N:Nat) (sub:List Bool):Int:=dQ (fun p=>if dg ls sub p=0 then 0 else 1) N
end
variable {ls:List dn} {N:Nat}
theorem EM {p j:Nat}:0≤en ls p j∧en ls p j≤2:=by unfold en;split<;>split<;>omega
theorem VR {sub:List Bool} {p:Nat}:0≤dg ls sub p:=yT fun j _=>by split;exact EM.1;exact Kx _
theorem amc {sub:List Bool} {p:Nat}:dg ls sub p≤2*ls.length:=by
 have:=wI (f:=fun j=>if sub.getD j false then en ls p j else 0) (g:=fun _=>2) (n:=ls.length) fun j _=>by split;exact EM.2;omega
 rw [gK] at this
 unfold dg;omega
theorem Dy {sub:List Bool} {p:Nat}:dg ls sub p=0↔∀j,j<ls.length→sub.getD j false=true→fr ls j≠p∧to ls j≠p:=by
 constructor
 ·intro h j hj hs
  have:=ZG (fun j _=>by split;exact EM.1;exact Kx _) h j hj
  rw [if_pos hs] at this
  unfold en at this
  constructor<;>intro e<;>rw [if_pos e] at this<;>split at this<;>omega
 ·intro h
  unfold dg
  rw [gy (g:=fun _=>0) fun j hj => ?_,gK];· simp
  split
  ·rename_i hs
   have:=h j hj hs
   unfold en;rw [if_neg this.1,if_neg this.2];rfl
  ·rfl
theorem gsB {l:List Bool} {a z:Nat} {v:Bool} (ha:a<l.length):(l.set a v).getD z false=if z=a then v else l.getD z false:=by
 rw [List.getD_eq_getElem?_getD,List.getD_eq_getElem?_getD]
 by_cases h:z=a
 ·subst h;rw [UV ha,if_pos rfl];rfl
 ·rw [VC (fun e=>h e.symm),if_neg h]
theorem Yb {sub:List Bool} {k p:Nat} (hl:sub.length=ls.length) (hk:k<ls.length) (hs:sub.getD k false=true):dg ls sub p=dg ls (sub.set k false) p+en ls p k:=by
 unfold dg
 have hk':k<sub.length:=by omega
 rw [jM (g:=fun j=>if (sub.set k false).getD j false then en ls p j else 0) hk fun j hj hne=>by rw [gsB hk',if_neg hne]]
 simp only [hs,if_true,gsB hk'];simp
theorem Yc {sub:List Bool} {k:Nat} (hl:sub.length=ls.length) (hk:k<ls.length) (hs:sub.getD k false=true):sz ls sub=sz ls (sub.set k false)+1:=by
 unfold sz
 have hk':k<sub.length:=by omega
 rw [jM (g:=fun j=>if (sub.set k false).getD j false then 1 else 0) hk fun j hj hne=>by rw [gsB hk',if_neg hne]]
 simp only [hs,if_true,gsB hk'];simp
structure Rp (ls:List dn) (N:Nat) (sub:List Bool) (q:Nat→Nat):Prop where
 lt :∀x,x<N→q x<N
 id :∀x,x<N→q (q x)=q x
 cnt:sz ls sub+comps q N=N
 fix :∀x,x<N→dg ls sub x=0→q x=x
 lone :∀x y,x<N→y<N→dg ls sub x=0→q y=x→y=x
def Part (a b:List Bool):Prop:=a.length=b.length∧∀j,a.getD j false=true→b.getD j false=true
def For (ls:List dn) (N:Nat) (ins:List Bool) (rep:Nat→Nat):Prop :=∀sub,Part sub ins→∃q,Rp ls N sub q∧∀x y,x<N→y<N→q x=q y→rep x=rep y
theorem ac0 {ins:List Bool} {rep:Nat→Nat} {k:Nat} (h:For ls N ins rep) (hin:lF ls N) (hl:ins.length=ls.length) (hk:k<ls.length) (hf:ins.getD k false=false) :
  For ls N (ins.set k (!decide ((rep (fr ls k):Int)=rep (to ls k)))) (link rep (rep (fr ls k)) (rep (to ls k))):=by
 have hu:fr ls k<N:=by have:=hin k hk;unfold fr;omega
 have hv:to ls k<N:=by have:=hin k hk;unfold to;omega
 have hki:k<ins.length:=by omega
 intro sub ⟨h1,h2⟩
 rw [ZD] at h1
 have hlr :∀x y,rep x=rep y→link rep (rep (fr ls k)) (rep (to ls k)) x=link rep (rep (fr ls k)) (rep (to ls k)) y:=by
  intro x y e;unfold link;rw [e]
 by_cases hs:sub.getD k false=true
 ·have hne:rep (fr ls k)≠rep (to ls k):=by
   have:=h2 k hs
   rw [gsB hki,if_pos rfl] at this
   intro e;rw [e] at this;simp at this
  have hp:Part (sub.set k false) ins:=by
   refine ⟨by rw [ZD];exact h1,fun j hj => ?_⟩
   rw [gsB (by omega)] at hj
   by_cases e:j=k
   ·rw [if_pos e] at hj;cases hj
   ·rw [if_neg e] at hj
    have:=h2 j hj
    rw [gsB hki,if_neg e] at this;exact this
  obtain ⟨q,hq,hr⟩:=h _ hp
  have amd:q (fr ls k)≠q (to ls k):=fun e=>hne (hr _ _ hu hv e)
  have hd :∀x,dg ls sub x=0→dg ls (sub.set k false) x=0∧fr ls k≠x∧to ls k≠x:=by
   intro x hx
   have:=Dy.1 hx k hk hs
   have h3:=Yb (p:=x) (by omega) hk hs
   have:=EM (ls:=ls) (p:=x) (j:=k)
   have:=VR (ls:=ls) (sub:=sub.set k false) (p:=x)
   exact ⟨by omega,by assumption⟩
  have hz:=Yc (by omega) hk hs
  have hqu:=hq.lt _ hu
  have hqv:=hq.lt _ hv
  have hc:=BH (n:=N) amd (hq.id _ hu) (hq.id _ hv) hqu
  have hcnt:=hq.cnt
  refine ⟨link q (q (fr ls k)) (q (to ls k)),⟨fun x hx => ?_,fun x hx => ?_,by omega,fun x hx hx0 => ?_,fun x y hx hy hx0 e => ?_⟩,fun x y hx hy e => ?_⟩
  ·unfold link;split
   ·exact hqv
   ·exact hq.lt x hx
  ·by_cases e:q x=q (fr ls k)
   ·have e2:link q (q (fr ls k)) (q (to ls k)) x=q (to ls k):=by unfold link;rw [if_pos e]
    rw [e2];unfold link;rw [hq.id _ hv,if_neg fun e=>amd e.symm]
   ·have e2:link q (q (fr ls k)) (q (to ls k)) x=q x:=by unfold link;rw [if_neg e]
    rw [e2];unfold link;rw [hq.id _ hx,if_neg e]
  ·obtain ⟨a1,a2,a3⟩:=hd x hx0
   unfold link
   rw [hq.fix x hx a1,if_neg fun e=>a2 (hq.lone x _ hx hu a1 e.symm)]
  ·obtain ⟨a1,a2,a3⟩:=hd x hx0
   unfold link at e
   split at e
   ·exact absurd (hq.lone x _ hx hv a1 e) a3
   ·exact hq.lone x y hx hy a1 e
  ·have key :∀z,z<N→link rep (rep (fr ls k)) (rep (to ls k)) (link q (q (fr ls k)) (q (to ls k)) z)=link rep (rep (fr ls k)) (rep (to ls k)) z:=by
    intro z hz
    by_cases e:q z=q (fr ls k)
    ·have e2:link q (q (fr ls k)) (q (to ls k)) z=q (to ls k):=by unfold link;rw [if_pos e]
     have r1:=hr _ _ hz hu e
     have r2:rep (q (to ls k))=rep (to ls k):=hr _ _ hqv hv (hq.id _ hv)
     rw [e2];unfold link;rw [r1,if_pos rfl,r2,if_neg fun e=>hne e.symm]
    ·have e2:link q (q (fr ls k)) (q (to ls k)) z=q z:=by unfold link;rw [if_neg e]
     rw [e2]
     exact hlr _ _ (hr _ _ (hq.lt z hz) hz (hq.id z hz))
   rw [←key x hx,←key y hy,e]
 ·have hp:Part sub ins:=by
   refine ⟨h1,fun j hj => ?_⟩
   have:=h2 j hj
   by_cases e:j=k
   ·subst e;exact absurd hj hs
   ·rw [gsB hki,if_neg e] at this;exact this
  obtain ⟨q,hq,hr⟩:=h _ hp
  exact ⟨q,hq,fun x y hx hy e=>hlr _ _ (hr x y hx hy e)⟩
theorem ac1 {ins:List Bool} (hf :∀j,ins.getD j false=false):For ls N ins fun z=>z:=by
 intro sub ⟨h1,h2⟩
 have hn :∀j,sub.getD j false=false:=fun j=>by
  cases h:sub.getD j false with
  |false=>rfl
  |true=>have:=h2 j h;rw [hf] at this;cases this
 refine ⟨fun z=>z,⟨fun x hx=>hx,fun x hx=>rfl,?_,fun x hx _=>rfl,fun x y hx hy _ e=>e⟩,fun x y hx hy e=>e⟩
 have:sz ls sub=0:=by
  unfold sz
  rw [gy (g:=fun _=>0) fun j _=>by rw [hn];rfl,gK];simp
 rw [this,Ku];omega
theorem EN (q:Nat→Nat) :∀N,(comps q N:Int)=dQ (fun p=>if q p=p then 1 else 0) N
 |0=>rfl
 |N+1=>by simp only [comps,dQ];rw [←EN q N];split<;>simp
theorem touch {sub:List Bool} {q:Nat→Nat} (hq:Rp ls N sub q) (hin:lF ls N) {k:Nat} (hk:k<ls.length) (hs:sub.getD k false=true):sz ls sub+1≤tc ls N sub:=by
 have hu:fr ls k<N:=by have:=hin k hk;unfold fr;omega
 have hw:=hq.lt _ hu
 have hww:=hq.id _ hu
 have hwt:dg ls sub (q (fr ls k))≠0:=fun h0=>by
  have:=hq.lone _ _ hw hu h0 rfl
  rw [←this] at h0
  exact (Dy.1 h0 k hk hs).1 rfl
 have h1:dQ (fun p=>(if dg ls sub p=0 then 1 else 0)+(if p=q (fr ls k) then 1 else 0)) N≤dQ (fun p=>if q p=p then 1 else 0) N:=by
  refine wI fun p hp => ?_
  by_cases e:p=q (fr ls k)
  ·subst e;rw [if_neg hwt,if_pos rfl,if_pos hww];omega
  ·rw [if_neg e]
   by_cases e2:dg ls sub p=0
   ·rw [if_pos e2,if_pos (hq.fix p hp e2)];omega
   ·rw [if_neg e2];split<;>omega
 rw [nT,wJ hw,←EN] at h1
 have h2:dQ (fun p=>if dg ls sub p=0 then 1 else 0) N+tc ls N sub=N:=by
  unfold tc
  rw [←nT,gy (g:=fun _=>1) fun p _=>by split<;>rfl,gK];omega
 have:=hq.cnt
 omega
theorem ajb {sub:List Bool} (hin:lF ls N):dQ (fun p=>dg ls sub p) N=2*sz ls sub:=by
 unfold dg sz
 rw [EL]
 have :∀j,j<ls.length→dQ (fun p=>if sub.getD j false then en ls p j else 0) N=(if sub.getD j false then 1 else 0)+(if sub.getD j false then 1 else 0):=by
  intro j hj
  have hu:fr ls j<N:=by have:=hin j hj;unfold fr;omega
  have hv:to ls j<N:=by have:=hin j hj;unfold to;omega
  by_cases h:sub.getD j false=true
  ·simp only [h,if_true]
   unfold en
   rw [nT,yU hu,yU hv]
  ·rw [gy (g:=fun _=>0) fun _ _=>if_neg h,gK,if_neg h];simp
 rw [gy this,nT];omega
theorem leaf {ins sub:List Bool} {rep:Nat→Nat} (hF:For ls N ins rep) (hp:Part sub ins) (hin:lF ls N) (h :∀j,j<ls.length→sub.getD j false=true→dg ls sub (fr ls j)≠1∧dg ls sub (to ls j)≠1) :∀j,j<ls.length→sub.getD j false=false:=by
 intro k hk
 cases hs:sub.getD k false with
 |false=>rfl
 |true=>
  obtain ⟨q,hq,_⟩:=hF _ hp
  have h1:=touch hq hin hk hs
  have h2:=ajb (sub:=sub) hin
  have h3:dQ (fun p=>(if dg ls sub p=0 then 0 else 1)+(if dg ls sub p=0 then 0 else 1)) N≤dQ (fun p=>dg ls sub p) N:=by
   refine wI fun p hp => ?_
   by_cases e:dg ls sub p=0
   ·rw [if_pos e,e];omega
   ·rw [if_neg e]
    have:=VR (ls:=ls) (sub:=sub) (p:=p)
    by_cases e1:dg ls sub p=1
    ·exfalso
     have hn:¬∀j,j<ls.length→sub.getD j false=true→fr ls j≠p∧to ls j≠p:=fun h=>e (Dy.2 h)
     apply hn
     intro j hj hsj
     obtain ⟨b1,b2⟩:=h j hj hsj
     exact ⟨fun e=>b1 (e▸e1),fun e=>b2 (e▸e1)⟩
    ·omega
  rw [nT] at h3
  unfold tc at h1
  omega
structure Laid (ls:List dn) (N:Nat) (D:Nat→Prop) (ins:List Bool) (rep:Nat→Nat):Prop where
 len:ins.length=ls.length
 not :∀j,j<ls.length→¬ D j→ins.getD j false=false
 cnt:ins.count true+comps rep N=N
 same :∀j,j<ls.length→D j→rep (fr ls j)=rep (to ls j)
 fo:For ls N ins rep
theorem count_set {l:List Bool} {k:Nat} {b:Bool} (hk:k<l.length) (hf:l.getD k false=false):(l.set k b).count true=l.count true+if b then 1 else 0:=by
 rw [getD_at _ hk] at hf
 rw [List.count_set hk,hf]
 cases b<;>simp
theorem Nl {ls:List dn} {N:Nat} {D:Nat→Prop} {ins:List Bool} {rep:Nat→Nat} {k:Nat} (h:Laid ls N D ins rep) (hin:lF ls N) (hk:k<ls.length) (hd:¬ D k) (hlt :∀x,x<N→rep x<N) (hid :∀x,x<N→rep (rep x)=rep x) :
  Laid ls N (fun j=>D j∨j=k) (ins.set k (!decide ((rep (fr ls k):Int)=rep (to ls k)))) (link rep (rep (fr ls k)) (rep (to ls k))):=by
 have hu:fr ls k<N:=by have:=hin k hk;unfold fr;omega
 have hv:to ls k<N:=by have:=hin k hk;unfold to;omega
 have hki:k<ins.length:=by rw [h.len];exact hk
 refine ⟨by rw [ZD];exact h.len,fun j hj hn => ?_,?_,fun j hj hn => ?_,ac0 h.fo hin h.len hk (h.not k hk hd)⟩
 ·rw [List.getD_eq_getElem?_getD,VC (fun e=>hn (.inr e.symm)),←List.getD_eq_getElem?_getD]
  exact h.not j hj fun e=>hn (.inl e)
 ·rw [count_set hki (h.not k hk hd)]
  have hc:=h.cnt
  by_cases e:rep (fr ls k)=rep (to ls k)
  ·rw [e]
   have:link rep (rep (to ls k)) (rep (to ls k))=rep:=by
    funext z;unfold link;split
    ·rename_i e;rw [e]
    ·rfl
   rw [this];simp;omega
  ·have:=BH (n:=N) e (hid _ hu) (hid _ hv) (hlt _ hu)
   have e':¬ ((rep (fr ls k):Int)=rep (to ls k)):=by omega
   rw [decide_eq_false e']
   simp;omega
 ·unfold link
  rcases hn with hn | rfl
  ·rw [h.same j hj hn]
  ·by_cases e:rep (fr ls j)=rep (to ls j)
   ·rw [e]
   ·rw [if_pos rfl,if_neg fun e'=>e e'.symm]
theorem Yd {ls:List dn} {N lo hi:Nat} {body:Int×List dn×List Bool×List Int→Option ((Int×List dn×List Bool×List Int) ⊕ (List dn×List Bool×List Int))} (hl:ls.length≤4000000) (hin:lF ls N) (hhi:hi≤ls.length) (hlo:lo≤hi)
  (hb :∀(k:Nat) (ins:List Bool) (g:List Int),body (k,ls,ins,g)=bif decide ((k:Int)<(hi:Int)) then (f37 k ls g ins).bind fun c=>some (.inl (b_ (k+1),c.2.1,c.2.2,c.1)) else some (.inr (ls,ins,g)))
  (D:Nat→Prop) (hD :∀j,lo≤j→j<hi→¬ D j) (P:Nat→List Bool→(Nat→Nat)→Prop)
  (hP :∀k ins rep,lo≤k→k<hi→Laid ls N (fun j=>D j∨lo≤j∧j<k) ins rep→P k ins rep→P (k+1) (ins.set k (!decide ((rep (fr ls k):Int)=rep (to ls k)))) (link rep (rep (fr ls k)) (rep (to ls k))))
  {ins:List Bool} {g:List Int} {rep r:Nat→Nat} (hg:g.length=N) (hU:UF g rep r) (hL:Laid ls N D ins rep) (h0:P lo ins rep) :
  Ok (bD body (lo,ls,ins,g)) fun y=>y.1=ls∧y.2.2.length=N∧∃rep r,UF y.2.2 rep r∧Laid ls N (fun j=>D j∨lo≤j∧j<hi) y.2.1 rep∧P hi y.2.1 rep:=by
 refine bI (fun s =>∃(k:Nat) (ins:List Bool) (g:List Int) (rep r:Nat→Nat),s=((k:Int),ls,ins,g)∧lo≤k∧k≤hi∧g.length=N∧UF g rep r∧Laid ls N (fun j=>D j∨lo≤j∧j<k) ins rep∧P k ins rep) (fun s=>hi-s.1.toNat)
  ⟨lo,ins,g,rep,r,rfl,YY _,hlo,hg,hU,?_,h0⟩ fun s ⟨k,ins,g,rep,r,e,h1,h2,h3,h4,h5,h6⟩ => ?_
 ·have:(fun j=>D j∨lo≤j∧j<lo)=D:=by
   funext j;apply propext;constructor
   ·rintro (h | h)
    ·exact h
    ·omega
   ·exact .inl
  rw [this];exact hL
 subst e
 rw [hb]
 refine bJ (fun hk => ?_) (fun hk=>aC ?_)
 ·have hk:k<hi:=by simpa using hk
  have hi0:=hin k (by omega)
  have hj:=X_ (ls:=ls) (ins:=ins) (k:=k) (u:=fr ls k) (v:=to ls k) h4 (by omega) (by rw [h5.len];omega) (by unfold fr;omega) (by unfold to;omega) (by unfold fr;omega) (by unfold to;omega)
  refine bF _ hj fun c ⟨c1,c2,c3,r',c4⟩=>aC ⟨⟨k+1,c.2.2,c.1,_,r',?_,by omega,by omega,by omega,c4,?_,?_⟩,?_⟩
  ·rw [aO (by omega),c2];rfl
  ·have:=Nl h5 hin (k:=k) (by omega) (fun hd=>hd.elim (hD k h1 hk) (fun h=>by omega)) (fun x hx=>by rw [←h3];exact h4.lt x (by omega)) (fun x hx=>h4.idem x (by omega))
   rw [c3]
   have hs:(fun j=>D j∨lo≤j∧j<k+1)=fun j=>(D j∨lo≤j∧j<k)∨j=k:=by
    funext j;apply propext;constructor
    ·rintro (h | h)
     ·exact .inl (.inl h)
     ·by_cases e:j=k
      ·exact .inr e
      ·exact .inl (.inr (by omega))
    ·rintro ((h | h) | h)
     ·exact .inl h
     ·exact .inr (by omega)
     ·exact .inr (by omega)
   rw [hs];exact this
  ·rw [c3];exact hP k ins rep h1 hk h5 h6
  ·simp only;rw [aO (by omega)];omega
 ·have:k=hi:=by simp at hk;omega
  subst this
  exact ⟨rfl,h3,rep,r,h4,h5,h6⟩
theorem ZH {rep:Nat→Nat} {c N:Nat} (hc:c<N) (h :∀z,z<N→rep z=c):comps rep N=1:=by
 have key :∀m,m≤N→comps rep m=if c<m then 1 else 0:=by
  intro m
  induction m with
  |zero=>intro _;rfl
  |succ m ih=>
   intro hm
   simp only [comps]
   rw [ih (by omega),h m (by omega)]
   by_cases e:c=m
   ·rw [if_neg (by omega),if_pos e,if_pos (by omega)]
   ·rw [if_neg e]
    by_cases e2:c<m
    ·rw [if_pos e2,if_pos (by omega)]
    ·rw [if_neg e2,if_neg (by omega)]
 rw [key N (YY _),if_pos hc]
def Ends (bs:List aG):Prop :=∀b,b<bs.length→((bs.getD b ah).aA≠3→0≤(bs.getD b ah).fO∧(bs.getD b ah).fO<bs.length)∧((bs.getD b ah).aA=2→0≤(bs.getD b ah).dh∧(bs.getD b ah).dh<bs.length)
def ZI (bs:List aG):Prop :=∀S:Nat→Prop,S 0→(∀b,b<bs.length→S b→((bs.getD b ah).aA≠3→S (bs.getD b ah).fO.toNat)∧((bs.getD b ah).aA=2→S (bs.getD b ah).dh.toNat))→∀b,b<bs.length→S b
def yV (bs:List aG):Prop:=Ends bs∧∀b,b<bs.length→(bs.getD b ah).aA=1∨(bs.getD b ah).aA=2∨(bs.getD b ah).aA=3
def Good (f:aF):Prop:=f.blocks.length≤1000∧0<f.blocks.length∧yV f.blocks∧ZI f.blocks
def wK (bs:List aG):Nat:=bs.countP fun t=>decide (t.aA=3)
theorem uX (n:Nat) :∀(l:List aG) (k:Nat),(∀e∈(l.foldl (zI n) (k,[])).2,∃b:Nat,k≤b∧b<k+l.length∧e=dn.mk b n)∧(l.foldl (zI n) (k,[])).2.Pairwise (fun a b=>a.from'<b.from')∧(l.foldl (zI n) (k,[])).2.length=wK l
 | [],k=>by simp [wK]
 |t::l,k=>by
  obtain ⟨h1,h2,h3⟩:=uX n l (k+1)
  have e:((t::l).foldl (zI n) (k,[])).2=(if t.aA=3 then [dn.mk k n] else [])++(l.foldl (zI n) (k+1,[])).2:=by
   have:=Kr n l (k+1) (if t.aA=3 then [dn.mk k n] else []) []
   rw [VS] at this
   show (l.foldl (zI n) (k+1,[]++_)).2=_
   rw [K4,this]
  rw [e]
  unfold wK at h3 ⊢
  rw [List.countP_cons]
  by_cases ht:t.aA=3
  ·rw [if_pos ht]
   refine ⟨fun e he => ?_,?_,by simp [ht,h3]⟩
   ·rcases X1.1 he with he | he
    ·simp at he;exact ⟨k,YY _,by simp,he⟩
    ·obtain ⟨b,q1,q2,q3⟩:=h1 e he
     exact ⟨b,by omega,by simp;omega,q3⟩
   ·rw [List.singleton_append,List.pairwise_cons]
    refine ⟨fun e he => ?_,h2⟩
    obtain ⟨b,q1,q2,q3⟩:=h1 e he
    rw [q3];simp only;omega
  ·rw [if_neg ht]
   refine ⟨fun e he => ?_,by simpa using h2,by simp [ht,h3]⟩
   obtain ⟨b,q1,q2,q3⟩:=h1 e (by simpa using he)
   exact ⟨b,by omega,by simp;omega,q3⟩
theorem oM (bs:List aG) :∃l,aI bs=aJ.mk 0 0 2::l:=by
 have key :∀(l:List aG) (s:Nat×List aJ) (x:aJ) (t:List aJ),s.2=x::t→∃l',(l.foldl pz s).2=x::l':=by
  intro l
  induction l with
  |nil=>intro s x t h;exact ⟨t,h⟩
  |cons b l ih=>intro s x t h;exact ih _ x (t++gJ s.1 b) (by simp only [pz];rw [h];rfl)
 exact key bs _ _ [] rfl
theorem Tc (bs:List aG) :∀b,b<bs.length→∀w∈gJ b (bs.getD b ah),w∈aI bs:=by
 have keep :∀(l:List aG) (s:Nat×List aJ) (w:aJ),w∈s.2→w∈(l.foldl pz s).2:=by
  intro l
  induction l with
  |nil=>intro s w h;exact h
  |cons t l ih=>intro s w h;exact ih _ w (W3 _ h)
 have key :∀(l:List aG) (s:Nat×List aJ) (b:Nat),b<l.length→∀w∈gJ (s.1+b) (l.getD b ah),w∈(l.foldl pz s).2:=by
  intro l
  induction l with
  |nil=>intro s b h;simp at h
  |cons t l ih=>
   intro s b h w hw
   cases b with
   |zero=>exact keep l _ w (V2 _ hw)
   |succ b=>
    refine ih _ b (by simpa using h) w ?_
    have:(pz s t).1+b=s.1+(b+1):=by simp only [pz];omega
    rw [this];exact hw
 intro b hb w hw
 exact key bs (0,[aJ.mk 0 0 2]) b hb w (by rw [We];exact hw)
theorem BI (bs:List aG) :∀w∈aI bs,w=aJ.mk 0 0 2∨∃b:Nat,b<bs.length∧w∈gJ b (bs.getD b ah):=by
 have key :∀(l:List aG) (s:Nat×List aJ),∀w∈(l.foldl pz s).2,w∈s.2∨∃b:Nat,b<l.length∧w∈gJ (s.1+b) (l.getD b ah):=by
  intro l
  induction l with
  |nil=>intro s w h;exact .inl h
  |cons t l ih=>
   intro s w h
   rcases ih _ w h with h | ⟨b,h1,h2⟩
   ·rcases X1.1 h with h | h
    ·exact .inl h
    ·exact .inr ⟨0,by simp,h⟩
   ·refine .inr ⟨b+1,by simpa using h1,?_⟩
    have:(pz s t).1+b=s.1+(b+1):=by simp only [pz];omega
    rw [this] at h2;exact h2
 intro w hw
 rcases key bs (0,[aJ.mk 0 0 2]) w hw with h | ⟨b,h1,h2⟩
 ·exact .inl (by simpa using h)
 ·exact .inr ⟨b,h1,by rw [We] at h2;exact h2⟩
theorem oN {b:Nat} {t:aG} {w:aJ}:w∈gJ b t↔(t.aA≠3∧w=aJ.mk 0 b 0)∨(t.aA=2∧w=aJ.mk 0 b 1):=by
 unfold gJ
 rw [X1]
 by_cases h1:t.aA=3<;>by_cases h2:t.aA=2<;>simp [h1,h2]
def aH (bs:List aG):List dn:=(aI bs).map (iG bs)++mZ bs
theorem ac2 {bs:List aG} (hE:Ends bs) (h0:0<bs.length) :∀w∈aI bs,(0≤(iG bs w).from'∧(iG bs w).from'<(bs.length+1:Nat))∧0≤(iG bs w).to∧(iG bs w).to<(bs.length+1:Nat):=by
 intro w hw
 rcases BI bs w hw with rfl | ⟨b,hb,hw⟩
 ·simp [iG];omega
 ·obtain ⟨e1,e2⟩:=hE b hb
  rcases oN.1 hw with ⟨h,rfl⟩ | ⟨h,rfl⟩
  ·have:=e1 h;simp only [iG,if_pos,QP];omega
  ·have:=e2 h
   unfold iG
   rw [if_neg (by simp),if_pos rfl]
   simp only [QP];omega
theorem Td {bs:List aG} (hE:Ends bs) (h0:0<bs.length):lF (aH bs) (bs.length+1):=by
 intro k hk
 rw [getD_at _ hk]
 have hm:=XX hk
 rcases X1.1 hm with h | h
 ·obtain ⟨w,hw,e⟩:=QQ.1 h
  rw [←e];exact ac2 hE h0 w hw
 ·obtain ⟨b,q1,q2,e⟩:=(uX bs.length bs 0).1 _ h
  rw [e];simp only;omega
theorem ame {g:List Int} {N:Nat} (hl:g.length=N) (h :∀z,z<N→g.getD z 0=z):UF g (fun z=>z) (fun _=>0):=by
 refine ⟨fun x hx => ?_,fun x hx=>hx,fun x hx => ?_,fun x hx => ?_,fun x hx _=>rfl,fun x hx=>rfl,fun x hx _=>h x (by omega)⟩
 ·rw [h x (by omega)];omega
 ·rw [h x (by omega)];simp
 ·intro hne;exact absurd (h x (by omega)) hne
theorem pF {bs:List aG} {j:Nat} (h:j<(aI bs).length):(aH bs).getD j (dn.mk 0 0)=iG bs (aI bs)[j]:=by
 unfold aH
 rw [List.getD_eq_getElem?_getD,Zs (by rw [Z3];exact h),XS,Q2 h];rfl
theorem Dz {bs:List aG} {j:Nat} (h1:(aI bs).length≤j) (h2:j-(aI bs).length<(mZ bs).length):(aH bs).getD j (dn.mk 0 0)=(mZ bs)[j-(aI bs).length]:=by
 unfold aH
 rw [List.getD_eq_getElem?_getD,Z2 (by rw [Z3];exact h1)]
 simp only [Z3]
 rw [Q2 h2];rfl
theorem Ye {nm:List UInt8} {a b:Int} {bs:List aG} (hl:bs.length≤1000000) (h0:0<bs.length) (hE:Ends bs) (hC:ZI bs) :
  Ok (f21 nm a b bs) fun ins=>ins.length=(aH bs).length∧(ins.take (aI bs).length).count true+wK bs=bs.length∧ins.count true=bs.length∧(∀j,(aI bs).length≤j→j<(aH bs).length→ins.getD j false=true)∧∃rep,For (aH bs) (bs.length+1) ins rep:=by
 have hw:=oQ (nm:=nm) (a:=a) (b:=b) hl
 obtain ⟨w1,hw1⟩:=oM bs
 have hW:0<(aI bs).length:=by rw [hw1];simp
 obtain ⟨es1,es2,es3⟩:=uX bs.length bs 0
 have es3:(mZ bs).length=wK bs:=es3
 have hr:wK bs≤bs.length:=Kd
 have hLL:(aH bs).length=(aI bs).length+wK bs:=by unfold aH;rw [Z0,Z3,es3]
 have hin:=Td hE h0
 generalize hN:bs.length+1=N at hin
 have hNi:b_ ((bs.length:Int)+1)=N:=by rw [aO (by omega)];omega
 unfold f21
 dsimp only
 rw [hNi]
 refine bC (jL.2 (by omega)) ?_
 refine bF (fun g=>g.length=N∧∀z,z<N→g.getD z 0=z) ?_ fun g ⟨g1,g2⟩ => ?_
 ·refine bI (fun s:Int×List Int =>∃i:Nat,s.1=i∧i≤N∧s.2.length=N∧∀z,z<i→s.2.getD z 0=z) (fun s=>N-s.1.toNat) ⟨0,rfl,by omega,by simp,by simp⟩ fun s ⟨i,e1,e2,e3,e4⟩ => ?_
  obtain ⟨i',m⟩:=s
  simp only at e1 e3 e4
  subst e1
  refine bJ (fun hi => ?_) (fun hi=>aC ⟨e3,fun z hz=>e4 z ?_⟩)
  ·simp at hi
   refine bC (aj.2 ⟨by simp only;omega,by simp only;omega⟩) (aC ⟨⟨i+1,by rw [aO (by simp only;omega)];simp,by omega,by simp [e3],fun z hz => ?_⟩,by simp only;rw [aO (by omega)];omega⟩)
   simp only [QP]
   rw [bM (by omega)]
   split
   ·rename_i e;rw [e]
   ·exact e4 z (by omega)
  ·simp at hi;omega
 refine bF (fun y=>y=(((aI bs).length:Int),aH bs)) (oP (Kt hl h0) (oP hw.1 (aC rfl))) fun s12 aqi => ?_
 subst aqi
 refine bC (jL.2 (by simp only;omega)) ?_
 have hrep:(List.replicate ((((aH bs).length:Nat):Int)).toNat false).length=(aH bs).length:=by simp
 have ajc:Laid (aH bs) N (fun _=>False) (List.replicate ((((aH bs).length:Nat):Int)).toNat false) (fun z=>z):=by
  refine ⟨hrep,fun j hj _ => ?_,?_,fun j hj h=>h.elim,ac1 fun j => ?_⟩
  ·rw [getD_at _ (by rw [hrep];exact hj)];simp
  ·rw [Ku];simp [List.count_replicate]
  ·rw [List.getD_eq_getElem?_getD];by_cases hj:j<(List.replicate ((((aH bs).length:Nat):Int)).toNat false).length
   ·rw [Q2 hj];simp
   ·rw [Wg (by omega)];rfl
 have ge :∀j,(aI bs).length≤j→(hj:j<(aH bs).length)→∃h':j-(aI bs).length<(mZ bs).length,(aH bs).getD j (dn.mk 0 0)=(mZ bs)[j-(aI bs).length]:=by
  intro j h1 hj
  have h':j-(aI bs).length<(mZ bs).length:=by rw [es3];omega
  exact ⟨h',Dz h1 h'⟩
 have fe :∀j,(aI bs).length≤j→j<(aH bs).length→fr (aH bs) j<bs.length∧to (aH bs) j=bs.length:=by
  intro j h1 hj
  obtain ⟨h',e⟩:=ge j h1 hj
  obtain ⟨q,q1,q2,q3⟩:=es1 _ (XX h')
  have q3:(mZ bs)[j-(aI bs).length]=dn.mk q bs.length:=q3
  unfold fr to
  rw [e,q3];exact ⟨by simp only [QP];omega,QP _⟩
 have fne :∀i j,(aI bs).length≤i→i<j→j<(aH bs).length→fr (aH bs) i≠fr (aH bs) j:=by
  intro i j h1 h2 hj
  obtain ⟨hi',ei⟩:=ge i h1 (by omega)
  obtain ⟨hj',ej⟩:=ge j (by omega) hj
  have hp:=List.pairwise_iff_getElem.1 es2 (i-(aI bs).length) (j-(aI bs).length) hi' hj' (by omega)
  have p1:=hin i (by omega)
  have p2:=hin j hj
  unfold fr
  rw [ei,ej] at *
  have hp:((mZ bs)[i-(aI bs).length]).from'<((mZ bs)[j-(aI bs).length]).from':=hp
  omega
 refine bF _ (Yd (lo:=(aI bs).length) (hi:=(aH bs).length) (by omega) hin (YY _) (by omega) (fun k ins g=>rfl) (fun _=>False) (fun _ _ _ h=>h)
  (fun k ins rep=>ins.length=(aH bs).length∧rep bs.length=bs.length∧(∀z,z<bs.length→(∀j,(aI bs).length≤j→j<k→fr (aH bs) j≠z)→rep z=z)∧∀j,(aI bs).length≤j→j<k→ins.getD j false=true)
  (fun k ins rep h1 h2 hLd ⟨p0,p1,p2,p3⟩ => ?_) g1 (ame g1 g2) ajc ⟨hrep,rfl,fun _ _ _=>rfl,fun j _ _=>by omega⟩) fun s20 ⟨q1,q2,asg,r1,q3,q4,_,_,_,q5⟩ => ?_
 ·obtain ⟨f1,f2⟩:=fe k h1 h2
  have hk:rep (fr (aH bs) k)=fr (aH bs) k:=p2 _ f1 fun j j1 j2=>fne j k j1 j2 h2
  have hne:fr (aH bs) k≠bs.length:=by omega
  rw [hk,f2,p1]
  refine ⟨by rw [ZD];exact p0,?_,fun z hz hj => ?_,fun j j1 j2 => ?_⟩
  ·unfold link;rw [p1,if_neg (fun e=>hne e.symm)]
  ·have hz':=p2 z hz fun j j1 j2=>hj j j1 (by omega)
   unfold link;rw [hz',if_neg (fun e=>hj k h1 (by omega) e.symm)]
  ·rw [show (!decide ((fr (aH bs) k:Int)=bs.length))=true from by simp;omega]
   by_cases e:j=k
   ·subst e;rw [List.getD_eq_getElem?_getD,UV (by omega)];rfl
   ·rw [List.getD_eq_getElem?_getD,VC (fun e'=>e e'.symm),←List.getD_eq_getElem?_getD]
    exact p3 j j1 (by omega)
 obtain ⟨ls1,ash,gg1⟩:=s20
 simp only at q1 q2 q3 q4 q5
 subst q1
 refine bF _ (Yd (lo:=1) (hi:=(aI bs).length) (by omega) hin (by omega) (by omega) (fun k ins g=>rfl) (fun j=>False∨(aI bs).length≤j∧j<(aH bs).length) (fun j h1 h2 h=>h.elim (fun f=>f) fun h=>by omega)
  (fun k ins rep=>ins.length=(aH bs).length∧∀j,(aI bs).length≤j→j<(aH bs).length→ins.getD j false=true)
  (fun k ins rep h1 h2 hLd ⟨p0,p3⟩=>⟨by rw [ZD];exact p0,fun j j1 j2 => ?_⟩) q2 q3 q4 ⟨q4.len,q5⟩) fun yP ⟨t1,t2,VT,r2,t3,t4,_,t5⟩ => ?_
 ·rw [List.getD_eq_getElem?_getD,VC (by omega),←List.getD_eq_getElem?_getD]
  exact p3 j j1 j2
 obtain ⟨ls2,ajd,gg2⟩:=yP
 simp only at t1 t2 t3 t4 t5
 subst t1
 have hi0:=hin 0 (by omega)
 have hj:=X_ (ls:=aH bs) (ins:=ajd) (k:=0) (u:=fr (aH bs) 0) (v:=to (aH bs) 0) t3 (by omega) (by rw [t4.len];omega) (by unfold fr;omega) (by unfold to;omega) (by unfold fr;omega) (by unfold to;omega)
 refine bF _ hj fun c ⟨c1,c2,c3,r',c4⟩=>aC ?_
 have hfin:=Nl t4 hin (k:=0) (by omega) (fun hd=>hd.elim (fun hd=>hd.elim (fun f=>f) fun h=>by omega) fun h=>by omega) (fun x hx=>by rw [←t2];exact t3.lt x (by omega)) (fun x hx=>t3.idem x (by omega))
 rw [c3]
 generalize link VT (VT (fr (aH bs) 0)) (VT (to (aH bs) 0))=rep at hfin c4
 have hall :∀j,j<(aH bs).length→rep (fr (aH bs) j)=rep (to (aH bs) j):=fun j hj=>hfin.same j hj (by
  by_cases e:j=0
  ·exact .inr e
  ·by_cases e2:(aI bs).length≤j
   ·exact .inl (.inl (.inr ⟨e2,hj⟩))
   ·exact .inl (.inr ⟨by omega,by omega⟩))
 have hkeep :∀j,(aI bs).length≤j→j<(aH bs).length→(ajd.set 0 (!decide ((VT (fr (aH bs) 0):Int)=VT (to (aH bs) 0)))).getD j false=true:=by
  intro j j1 j2
  rw [List.getD_eq_getElem?_getD,VC (by omega),←List.getD_eq_getElem?_getD]
  exact t5 j j1 j2
 generalize ajd.set 0 (!decide ((VT (fr (aH bs) 0):Int)=VT (to (aH bs) 0)))=ins at hfin hkeep ⊢
 have ac3 :∀w∈aI bs,rep (iG bs w).from'.toNat=rep (iG bs w).to.toNat:=by
  intro w hw
  obtain ⟨j,hj,e⟩:=K7 hw
  have:=hall j (by omega)
  unfold fr to at this
  have e2:(aH bs).getD j (dn.mk 0 0)=iG bs w:=by rw [pF hj,e]
  rw [e2] at this;exact this
 have hout:rep bs.length=rep 0:=by
  have:=ac3 (aJ.mk 0 0 2) (by rw [hw1];simp)
  simpa [iG] using this
 have hblk :∀z,z<bs.length→rep z=rep 0:=by
  refine hC (fun z=>rep z=rep 0) rfl fun z hz hs=>⟨fun hk => ?_,fun hk => ?_⟩
  ·have:=ac3 (aJ.mk 0 z 0) (Tc bs z hz _ (oN.2 (.inl ⟨hk,rfl⟩)))
   simp only [iG,if_pos,QP] at this
   rw [←this];exact hs
  ·have:=ac3 (aJ.mk 0 z 1) (Tc bs z hz _ (oN.2 (.inr ⟨hk,rfl⟩)))
   unfold iG at this
   rw [if_neg (by simp),if_pos rfl] at this
   simp only [QP] at this
   rw [←this];exact hs
 have hone:=ZH (rep:=rep) (c:=rep 0) (N:=N) (by have:=c4.lt 0 (by omega);omega) fun z hz=>by
  by_cases e:z=bs.length
  ·rw [e];exact hout
  ·exact hblk z (by omega)
 have hcnt:=hfin.cnt
 have hlen:=hfin.len
 refine ⟨hlen,?_,by omega,hkeep,rep,hN▸hfin.fo⟩
 have hsplit:ins.count true=(ins.take (aI bs).length).count true+(ins.drop (aI bs).length).count true:=by
  conv=>lhs;rw [←UI (aI bs).length ins,List.count_append]
 have hdrop:(ins.drop (aI bs).length).count true=wK bs:=by
  have:(ins.drop (aI bs).length)=List.replicate (wK bs) true:=by
   refine List.eq_replicate_iff.2 ⟨by rw [List.length_drop];omega,fun x hx => ?_⟩
   obtain ⟨j,hj,e⟩:=K7 hx
   rw [List.getElem_drop] at e
   rw [List.length_drop] at hj
   have:=hkeep ((aI bs).length+j) (by omega) (by omega)
   rw [getD_at _ (by omega)] at this
   rw [←e];exact this
  rw [this];simp
 omega
theorem wrap_i64 (v:Int):b_ v=if 9223372036854775808≤v % 18446744073709551616 then v % 18446744073709551616-18446744073709551616 else v % 18446744073709551616:=by
 have e1:((2:Int) ^ (Go.IntKind.i64).bits)=18446744073709551616:=by decide
 have e2:((2:Int) ^ ((Go.IntKind.i64).bits-1))=9223372036854775808:=by decide
 show Go.IntKind.wrap .i64 v=_
 unfold Go.IntKind.wrap;rw [e1,e2];simp [Go.IntKind.signed]
def I64 (v:Int):Prop:=-9223372036854775808≤v∧v≤9223372036854775807
def oU (a b:Int):Prop:=(a-b) % 18446744073709551616=0
theorem qm (v:Int):I64 (b_ v):=by rw [wrap_i64];unfold I64;split<;>omega
theorem Ae (v:Int):oU (b_ v) v:=by rw [wrap_i64];unfold oU;split<;>omega
theorem DC {a b:Int} (h:oU a b) (ha:I64 a) (hb:I64 b):a=b:=by unfold oU at h;unfold I64 at ha hb;omega
section
variable (ls:List dn)
def inc (p j:Nat) (o:Int):Int:=(if to ls j=p then o else 0)-(if fr ls j=p then o else 0)
def flow (sub:List Bool) (out:List Int) (p n:Nat):Int:=dQ (fun j=>if sub.getD j false then 0 else inc ls p j (out.getD j 0)) n
end
variable {ls:List dn} {N:Nat}
structure St (ls:List dn) (N:Nat) (ins:List Bool) (kn:Nat→Int) (sub:List Bool) (need deg out:List Int):Prop where
 part:Part sub ins
 nl:need.length=N
 dl:deg.length=N
 ol:out.length=ls.length
 dgr :∀p,p<N→deg.getD p 0=dg ls sub p
 bal :∀p,p<N→oU (need.getD p 0+flow ls sub out p ls.length) 0
 rng :∀p,p<N→I64 (need.getD p 0)
 tot:oU (dQ (fun p=>need.getD p 0) N) 0
 iso :∀p,p<N→dg ls sub p=0→need.getD p 0=0
 tch :∀k,k<ls.length→sub.getD k false=true→tc ls N sub=sz ls sub+1
 keep :∀j,j<ls.length→ins.getD j false=false→out.getD j 0=kn j
theorem Yf {sub sub':List Bool} {x:Nat} (hx:x<N) (h :∀p,p<N→p≠x→(dg ls sub p=0↔dg ls sub' p=0)) (h1:dg ls sub x≠0) (h2:dg ls sub' x=0):tc ls N sub=tc ls N sub'+1:=by
 unfold tc
 rw [jM (g:=fun p=>if dg ls sub' p=0 then 0 else 1) hx fun p hp hne=>by simp only [h p hp hne],if_neg h1,if_pos h2];omega
theorem ac4 {l:List Int} {a b:Nat} {v w:Int} (ha:a<l.length) (hb:b<l.length) (hne:b≠a) (hN:l.length=N):dQ (fun p=>((l.set a v).set b w).getD p 0) N=dQ (fun p=>l.getD p 0) N+(v-l.getD a 0)+(w-l.getD b 0):=by
 have hb':b<(l.set a v).length:=by rw [ZD];exact hb
 rw [jM (k:=b) (g:=fun p=>(l.set a v).getD p 0) (by omega) fun p _ hp=>by rw [bM hb',if_neg hp],jM (k:=a) (g:=fun p=>l.getD p 0) (by omega) fun p _ hp=>by rw [bM ha,if_neg hp]]
 rw [bM hb',if_pos rfl,bM ha,if_pos rfl,bM ha,if_neg hne]
theorem agw {ins sub:List Bool} {kn:Nat→Int} {need deg out:List Int} {rep:Nat→Nat} (hF:For ls N ins rep) (hin:lF ls N) (hi:ins.length=ls.length) (hM:ls.length≤4000000) (h:St ls N ins kn sub need deg out) {k:Nat} (hk:k<ls.length) (hs:sub.getD k false=true)
  (h1:deg.getD (fr ls k) 0=1∨deg.getD (to ls k) 0=1) {n:Int} (hn:n=if deg.getD (to ls k) 0=1 then need.getD (to ls k) 0 else b_ (0-need.getD (fr ls k) 0)) :
  St ls N ins kn (sub.set k false) ((need.set (to ls k) (b_ (need.getD (to ls k) 0-n))).set (fr ls k) (b_ ((need.set (to ls k) (b_ (need.getD (to ls k) 0-n))).getD (fr ls k) 0+n)))
   ((deg.set (to ls k) (b_ (deg.getD (to ls k) 0-1))).set (fr ls k) (b_ ((deg.set (to ls k) (b_ (deg.getD (to ls k) 0-1))).getD (fr ls k) 0-1))) (out.set k n):=by
 have hu:fr ls k<N:=by have:=hin k hk;unfold fr;omega
 have hv:to ls k<N:=by have:=hin k hk;unfold to;omega
 have hsl:sub.length=ls.length:=h.part.1.trans hi
 have hnl:=h.nl;have hdl:=h.dl;have hol:=h.ol
 have hdrop:=fun p=>Yb (p:=p) hsl hk hs
 have EX:=h.dgr _ hu
 have hdv:=h.dgr _ hv
 have hpos:=fun p=>VR (ls:=ls) (sub:=sub.set k false) (p:=p)
 have hle:=fun p=>amc (ls:=ls) (sub:=sub) (p:=p)
 have hne:fr ls k≠to ls k:=by
  intro e
  have e1:en ls (fr ls k) k=2:=by unfold en;rw [←e,if_pos rfl];rfl
  have a1:=hdrop (fr ls k)
  have a2:=hpos (fr ls k)
  rw [←e] at h1 hdv
  omega
 have enu:en ls (fr ls k) k=1:=by unfold en;rw [if_pos rfl,if_neg fun e=>hne e.symm];rfl
 have env:en ls (to ls k) k=1:=by unfold en;rw [if_pos rfl,if_neg hne];rfl
 have eno :∀p,p≠fr ls k→p≠to ls k→en ls p k=0:=by intro p a b;unfold en;rw [if_neg fun e=>a e.symm,if_neg fun e=>b e.symm];rfl
 have hz:=Yc hsl hk hs
 have du:=hdrop (fr ls k);rw [enu] at du
 have dv:=hdrop (to ls k);rw [env] at dv
 have EO :∀p,p≠fr ls k→p≠to ls k→dg ls sub p=dg ls (sub.set k false) p:=by intro p a b;rw [hdrop p,eno p a b];omega
 have hgn :∀p,p<N→((need.set (to ls k) (b_ (need.getD (to ls k) 0-n))).set (fr ls k) (b_ ((need.set (to ls k) (b_ (need.getD (to ls k) 0-n))).getD (fr ls k) 0+n))).getD p 0=if p=fr ls k then b_ (need.getD (fr ls k) 0+n) else if p=to ls k then b_ (need.getD (to ls k) 0-n) else need.getD p 0:=by
  intro p hp
  rw [bM (by rw [ZD];omega),bM (by omega),bM (by omega),if_neg hne]
 have hgd :∀p,p<N→((deg.set (to ls k) (b_ (deg.getD (to ls k) 0-1))).set (fr ls k) (b_ ((deg.set (to ls k) (b_ (deg.getD (to ls k) 0-1))).getD (fr ls k) 0-1))).getD p 0=if p=fr ls k then b_ (deg.getD (fr ls k) 0-1) else if p=to ls k then b_ (deg.getD (to ls k) 0-1) else deg.getD p 0:=by
  intro p hp
  rw [bM (by rw [ZD];omega),bM (by omega),bM (by omega),if_neg hne]
 have hpart:Part (sub.set k false) ins:=by
  refine ⟨by rw [ZD];exact h.part.1,fun j hj => ?_⟩
  rw [gsB (by omega)] at hj
  split at hj
  ·cases hj
  ·exact h.part.2 j hj
 have hins:ins.getD k false=true:=h.part.2 k hs
 have m1:=Ae (need.getD (to ls k) 0-n)
 have m2:=Ae (need.getD (fr ls k) 0+n)
 have m3:=Ae (0-need.getD (fr ls k) 0)
 have i1:=qm (need.getD (to ls k) 0-n)
 have i2:=qm (need.getD (fr ls k) 0+n)
 have hnv:deg.getD (to ls k) 0=1→b_ (need.getD (to ls k) 0-n)=0:=by
  intro e
  rw [hn,if_pos e];rw [Int.sub_self];rfl
 have hnu:deg.getD (to ls k) 0≠1→b_ (need.getD (fr ls k) 0+n)=0:=by
  intro e
  rw [if_neg e] at hn
  refine DC ?_ i2 (by unfold I64;omega)
  rw [hn] at m2 ⊢
  unfold oU at *;omega
 have htot:oU (dQ (fun p=>((need.set (to ls k) (b_ (need.getD (to ls k) 0-n))).set (fr ls k) (b_ ((need.set (to ls k) (b_ (need.getD (to ls k) 0-n))).getD (fr ls k) 0+n))).getD p 0) N) 0:=by
  rw [ac4 (by omega) (by omega) hne hnl,bM (by omega),if_neg hne]
  have:=h.tot
  unfold oU at *;omega
 have hboth:dg ls (sub.set k false) (fr ls k)=0→dg ls (sub.set k false) (to ls k)=0→∀j,j<ls.length→(sub.set k false).getD j false=false:=by
  intro a b j hj
  cases hsj:(sub.set k false).getD j false with
  |false=>rfl
  |true=>
   obtain ⟨q,hq,_⟩:=hF _ hpart
   have t1:=touch hq hin hj hsj
   have t2:=h.tch k hk hs
   have t3:tc ls N sub=tc ls N (sub.set k false)+2:=by
    unfold tc
    rw [jM (k:=fr ls k) (g:=fun p=>if p=fr ls k then 0 else if dg ls sub p=0 then 0 else 1) hu fun p hp hne=>by rw [if_neg hne],
     jM (k:=to ls k) (g:=fun p=>if dg ls (sub.set k false) p=0 then 0 else 1) hv fun p hp hne' => ?_]
    ·have su:dg ls sub (fr ls k)≠0:=by omega
     have sv:dg ls sub (to ls k)≠0:=by omega
     simp only [if_neg su,if_neg sv,if_neg (fun e=>hne e.symm:¬ to ls k=fr ls k),b,if_true];omega
    ·by_cases e:p=fr ls k
     ·subst e;rw [if_pos rfl,if_pos a]
     ·rw [if_neg e,EO p e hne']
   omega
 refine ⟨hpart,by simp [hnl],by simp [hdl],by simp [hol],fun p hp => ?_,fun p hp => ?_,fun p hp => ?_,htot,fun p hp hp0 => ?_,fun j hj hsj => ?_,fun j hj hj0 => ?_⟩
 ·rw [hgd p hp]
  have:=hle p
  have:=hpos p
  by_cases e:p=fr ls k
  ·subst e;rw [if_pos rfl,EX,aO (by omega)];omega
  ·rw [if_neg e]
   by_cases e2:p=to ls k
   ·subst e2;rw [if_pos rfl,hdv,aO (by omega)];omega
   ·rw [if_neg e2,h.dgr p hp,EO p e e2]
 ·rw [hgn p hp]
  have hfl:flow ls (sub.set k false) (out.set k n) p ls.length=flow ls sub out p ls.length+inc ls p k n:=by
   unfold flow
   rw [jM (k:=k) (g:=fun j=>if sub.getD j false then 0 else inc ls p j (out.getD j 0)) hk fun j hj hne => ?_]
   ·rw [gsB (by omega),if_pos rfl,bM (by omega),if_pos rfl,if_pos hs];simp
   ·rw [gsB (by omega),if_neg hne,bM (by omega),if_neg hne]
  rw [hfl]
  have hb:=h.bal p hp
  unfold inc
  by_cases e:p=fr ls k
  ·subst e;rw [if_pos rfl,if_neg fun e=>hne e.symm,if_pos rfl]
   unfold oU at *;omega
  ·rw [if_neg e,if_neg (c:=fr ls k=p) fun e'=>e e'.symm]
   by_cases e2:p=to ls k
   ·subst e2;rw [if_pos rfl,if_pos rfl]
    unfold oU at *;omega
   ·rw [if_neg e2,if_neg fun e'=>e2 e'.symm]
    unfold oU at *;omega
 ·rw [hgn p hp];split
  ·exact i2
  ·split
   ·exact i1
   ·exact h.rng p hp
 ·by_cases hall:dg ls (sub.set k false) (fr ls k)=0∧dg ls (sub.set k false) (to ls k)=0
  ·-- nothing is left: all needs but one are 0
   have hemp:=hboth hall.1 hall.2
   have hd0 :∀x,dg ls (sub.set k false) x=0:=fun x=>Dy.2 fun j hj hsj=>by rw [hemp j hj] at hsj;cases hsj
   have hv0:b_ (need.getD (to ls k) 0-n)=0:=hnv (by omega)
   have hother :∀x,x<N→x≠fr ls k→((need.set (to ls k) (b_ (need.getD (to ls k) 0-n))).set (fr ls k) (b_ ((need.set (to ls k) (b_ (need.getD (to ls k) 0-n))).getD (fr ls k) 0+n))).getD x 0=0:=by
    intro x hx hxu
    rw [hgn x hx,if_neg hxu]
    by_cases e2:x=to ls k
    ·rw [if_pos e2,hv0]
    ·rw [if_neg e2]
     exact h.iso x hx (by rw [EO x hxu e2];exact hd0 x)
   by_cases e:p=fr ls k
   ·subst e
    have hsum:=jM (k:=fr ls k) (f:=fun p=>((need.set (to ls k) (b_ (need.getD (to ls k) 0-n))).set (fr ls k) (b_ ((need.set (to ls k) (b_ (need.getD (to ls k) 0-n))).getD (fr ls k) 0+n))).getD p 0) (g:=fun _=>0) hu fun x hx hxu=>hother x hx hxu
    rw [gK] at hsum
    rw [hsum] at htot
    rw [hgn _ hu,if_pos rfl] at htot ⊢
    refine DC ?_ i2 (by unfold I64;omega)
    unfold oU at htot ⊢;omega
   ·exact hother p hp e
  ·rw [hgn p hp]
   by_cases e:p=fr ls k
   ·subst e
    rw [if_pos rfl]
    refine hnu fun e1=>hall ⟨hp0,by omega⟩
   ·rw [if_neg e]
    by_cases e2:p=to ls k
    ·subst e2
     rw [if_pos rfl]
     exact hnv (by omega)
    ·rw [if_neg e2]
     exact h.iso p hp (by rw [EO p e e2];exact hp0)
 ·have t2:=h.tch k hk hs
  have hnot:¬ (dg ls (sub.set k false) (fr ls k)=0∧dg ls (sub.set k false) (to ls k)=0):=fun ⟨a,b⟩=>by
   rw [hboth a b j hj] at hsj;cases hsj
  by_cases e:dg ls (sub.set k false) (to ls k)=0
  ·have:=Yf (sub:=sub) (sub':=sub.set k false) hv (fun p hp hpv=>by
    by_cases e2:p=fr ls k
    ·subst e2
     have:=hpos (fr ls k)
     constructor<;>intro h0
     ·omega
     ·exact absurd ⟨h0,e⟩ hnot
    ·rw [EO p e2 hpv]) (by have:=hpos (to ls k);omega) e
   omega
  ·have eu:dg ls (sub.set k false) (fr ls k)=0:=by omega
   have:=Yf (sub:=sub) (sub':=sub.set k false) hu (fun p hp hpu=>by
    by_cases e2:p=to ls k
    ·subst e2
     have:=hpos (to ls k)
     constructor<;>intro h0
     ·omega
     ·exact absurd h0 e
    ·rw [EO p hpu e2]) (by have:=hpos (fr ls k);omega) eu
   omega
 ·rw [bM (by omega),if_neg fun e=>by subst e;rw [hins] at hj0;cases hj0]
  exact h.keep j hj hj0
theorem aje {ins sub:List Bool} {kn:Nat→Int} {need deg out:List Int} {rep:Nat→Nat} (hF:For ls N ins rep) (hin:lF ls N) (h:St ls N ins kn sub need deg out) (hno :∀j,j<ls.length→sub.getD j false=true→deg.getD (fr ls j) 0≠1∧deg.getD (to ls j) 0≠1) :
  ∀p,p<N→oU (dQ (fun j=>inc ls p j (out.getD j 0)) ls.length) 0:=by
 have hemp:=leaf hF h.part hin fun j hj hs=>by
  obtain ⟨a,b⟩:=hno j hj hs
  have hu:fr ls j<N:=by have:=hin j hj;unfold fr;omega
  have hv:to ls j<N:=by have:=hin j hj;unfold to;omega
  rw [h.dgr _ hu] at a;rw [h.dgr _ hv] at b
  exact ⟨a,b⟩
 intro p hp
 have h1:=h.bal p hp
 rw [h.iso p hp (Dy.2 fun j hj hs=>by rw [hemp j hj] at hs;cases hs)] at h1
 unfold flow at h1
 rw [gy (g:=fun j=>inc ls p j (out.getD j 0)) fun j hj=>by rw [hemp j hj];rfl] at h1
 unfold oU at *;omega
variable {ls:List dn} {N:Nat}
structure Ph (ls:List dn) (N:Nat) (ins:List Bool) (kn:Nat→Int) (i:Nat) (need deg out:List Int):Prop where
 nl:need.length=N
 dl:deg.length=N
 ol:out.length=ls.length
 dgr :∀p,p<N→deg.getD p 0=dQ (fun j=>if ins.getD j false then en ls p j else 0) i
 bal :∀p,p<N→oU (need.getD p 0+flow ls ins out p i) 0
 rng :∀p,p<N→I64 (need.getD p 0)
 tot:oU (dQ (fun p=>need.getD p 0) N) 0
 keep :∀j,j<i→ins.getD j false=false→out.getD j 0=kn j
theorem Tf {l:List Int} {a:Nat} {v:Int} (ha:a<l.length) (hN:l.length=N):dQ (fun p=>(l.set a v).getD p 0) N=dQ (fun p=>l.getD p 0) N+(v-l.getD a 0):=by
 rw [jM (k:=a) (g:=fun p=>l.getD p 0) (by omega) fun p _ hp=>by rw [bM ha,if_neg hp],bM ha,if_pos rfl]
theorem amf {ins:List Bool} {kn:Nat→Int} {need deg out:List Int} {i:Nat} (hin:lF ls N) (hM:ls.length≤4000000) (hi:i<ls.length) (h:Ph ls N ins kn i need deg out) (hs:ins.getD i false=true) :
  Ph ls N ins kn (i+1) need ((deg.set (fr ls i) (b_ (deg.getD (fr ls i) 0+1))).set (to ls i) (b_ ((deg.set (fr ls i) (b_ (deg.getD (fr ls i) 0+1))).getD (to ls i) 0+1))) out:=by
 have hu:fr ls i<N:=by have:=hin i hi;unfold fr;omega
 have hv:to ls i<N:=by have:=hin i hi;unfold to;omega
 have hdl:=h.dl
 have hb :∀p,p<N→0≤deg.getD p 0∧deg.getD p 0≤2*i:=by
  intro p hp
  rw [h.dgr p hp]
  refine ⟨yT fun j _=>by split;exact EM.1;exact Kx _,?_⟩
  have:=wI (f:=fun j=>if ins.getD j false then en ls p j else 0) (g:=fun _=>2) (n:=i) fun j _=>by split;exact EM.2;omega
  rw [gK] at this;omega
 refine ⟨h.nl,by simp [h.dl],h.ol,fun p hp => ?_,fun p hp => ?_,h.rng,h.tot,fun j hj hsj => ?_⟩
 ·have hd:=h.dgr p hp
  have hbu:=hb _ hu
  have hbv:=hb _ hv
  have e1:b_ (deg.getD (fr ls i) 0+1)=deg.getD (fr ls i) 0+1:=aO (by omega)
  rw [bM (by rw [ZD];omega),bM (by omega),bM (by omega),e1]
  simp only [dQ,hs,if_true]
  rw [←hd]
  unfold en
  by_cases a:p=fr ls i
  ·subst a
   by_cases b:fr ls i=to ls i
   ·rw [if_pos b,if_pos b.symm,if_pos rfl,if_pos b.symm,b,aO (by omega)];omega
   ·rw [if_neg b,if_pos rfl,if_pos rfl,if_neg fun e=>b e.symm];omega
  ·by_cases b:p=to ls i
   ·subst b
    rw [if_pos rfl,if_neg a,if_neg fun e=>a e.symm,if_pos rfl,aO (by omega)];omega
   ·rw [if_neg b,if_neg a,if_neg fun e=>a e.symm,if_neg fun e=>b e.symm];omega
 ·have:=h.bal p hp
  unfold flow at this ⊢
  simp only [dQ,hs,if_true]
  rw [KB];exact this
 ·by_cases e:j=i
  ·subst e;rw [hs] at hsj;cases hsj
  ·exact h.keep j (by omega) hsj
theorem ajf {ins:List Bool} {kn:Nat→Int} {need deg out:List Int} {i:Nat} {o:Int} (hin:lF ls N) (hi:i<ls.length) (h:Ph ls N ins kn i need deg out) (hs:ins.getD i false=false) (ho:o=kn i) :
  Ph ls N ins kn (i+1) ((need.set (to ls i) (b_ (need.getD (to ls i) 0-o))).set (fr ls i) (b_ ((need.set (to ls i) (b_ (need.getD (to ls i) 0-o))).getD (fr ls i) 0+o))) deg (out.set i o):=by
 have hu:fr ls i<N:=by have:=hin i hi;unfold fr;omega
 have hv:to ls i<N:=by have:=hin i hi;unfold to;omega
 have hnl:=h.nl
 have hol:=h.ol
 have hfl :∀p,flow ls ins (out.set i o) p (i+1)=flow ls ins out p i+inc ls p i o:=by
  intro p
  unfold flow
  simp only [dQ,hs]
  rw [bM (by omega),if_pos rfl,gy (g:=fun j=>if ins.getD j false then 0 else inc ls p j (out.getD j 0)) fun j hj=>by rw [bM (by omega),if_neg (show ¬ j=i by omega)]]
  rfl
 have m1:=Ae (need.getD (to ls i) 0-o)
 have i1:=qm (need.getD (to ls i) 0-o)
 generalize hw1:b_ (need.getD (to ls i) 0-o)=w1 at m1 i1 ⊢
 have m2:=Ae ((need.set (to ls i) w1).getD (fr ls i) 0+o)
 have i2:=qm ((need.set (to ls i) w1).getD (fr ls i) 0+o)
 generalize b_ ((need.set (to ls i) w1).getD (fr ls i) 0+o)=w2 at m2 i2 ⊢
 rw [bM (by omega)] at m2
 have hg :∀p,((need.set (to ls i) w1).set (fr ls i) w2).getD p 0=if p=fr ls i then w2 else if p=to ls i then w1 else need.getD p 0:=by
  intro p;rw [bM (by rw [ZD];omega),bM (by omega)]
 refine ⟨by simp [hnl],h.dl,by simp [hol],fun p hp => ?_,fun p hp => ?_,fun p hp => ?_,?_,fun j hj hsj => ?_⟩
 ·rw [h.dgr p hp];simp only [dQ,hs];simp
 ·rw [hg,hfl]
  have hb:=h.bal p hp
  unfold inc
  by_cases a:p=fr ls i
  ·subst a
   rw [if_pos rfl,if_pos rfl]
   by_cases b:fr ls i=to ls i
   ·rw [if_pos b.symm]
    rw [if_pos b] at m2
    rw [←b] at m1
    unfold oU at *;omega
   ·rw [if_neg fun e=>b e.symm]
    rw [if_neg b] at m2
    unfold oU at *;omega
  ·rw [if_neg a,if_neg (c:=fr ls i=p) fun e=>a e.symm]
   by_cases b:p=to ls i
   ·subst b
    rw [if_pos rfl,if_pos rfl]
    unfold oU at *;omega
   ·rw [if_neg b,if_neg fun e=>b e.symm]
    unfold oU at *;omega
 ·rw [hg];split
  ·exact i2
  ·split
   ·exact i1
   ·exact h.rng p hp
 ·rw [Tf (by rw [ZD];omega) (by rw [ZD];exact hnl),Tf (by omega) hnl,bM (by omega)]
  have ht:=h.tot
  by_cases b:fr ls i=to ls i
  ·rw [if_pos b] at m2 ⊢;unfold oU at *;omega
  ·rw [if_neg b] at m2 ⊢;unfold oU at *;omega
 ·by_cases e:j=i
  ·subst e;rw [bM (by omega),if_pos rfl,ho]
  ·rw [bM (by omega),if_neg e];exact h.keep j (by omega) hsj
theorem Ti {sub:List Bool} (h:sub.length=ls.length):sz ls sub=(sub.count true:Int):=by
 unfold sz;rw [←h]
 have key :∀n,n≤sub.length→dQ (fun j=>if sub.getD j false then 1 else 0) n=((sub.take n).count true:Int):=by
  intro n
  induction n with
  |zero=>intro _;rfl
  |succ n ih=>
   intro hn
   simp only [dQ]
   rw [ih (by omega),take_snoc (by omega),List.count_append,getD_at _ (by omega)]
   cases sub[n]<;>simp
 have:=key _ (YY _)
 rw [VV] at this;exact this
theorem Tj {ins:List Bool} {rep:Nat→Nat} (hF:For ls N ins rep) (hl:ins.length=ls.length) (hin:lF ls N) (hc:ins.count true+1=N) (hN:2≤N) :∀p,p<N→dg ls ins p≠0:=by
 intro p hp h0
 obtain ⟨q,hq,_⟩:=hF ins ⟨rfl,fun _ h=>h⟩
 have h1:=hq.cnt
 rw [Ti hl] at h1
 have h2:comps q N=1:=by omega
 have h3:=EN q N
 obtain ⟨x,hx,hxp⟩ :∃x,x<N∧x≠p:=by
  by_cases e:p=0
  ·exact ⟨1,by omega,by omega⟩
  ·exact ⟨0,by omega,fun e'=>e e'.symm⟩
 have a1:=hq.fix p hp h0
 have a2:q x≠p:=fun e=>hxp (hq.lone p x hp hx h0 e)
 have a3:=hq.id x hx
 have a4:=hq.lt x hx
 have h4:dQ (fun y=>(if y=p then 1 else 0)+(if y=q x then 1 else 0)) N≤dQ (fun y=>if q y=y then 1 else 0) N:=by
  refine wI fun y hy => ?_
  by_cases e:y=p
  ·subst e;rw [if_pos rfl,if_neg fun e=>a2 e.symm,if_pos a1];omega
  ·rw [if_neg e]
   by_cases e2:y=q x
   ·subst e2;rw [if_pos rfl,if_pos a3];omega
   ·rw [if_neg e2];split<;>omega
 rw [nT,wJ hp,wJ a4] at h4
 omega
theorem amg {ins:List Bool} {kn:Nat→Int} {need deg out:List Int} {rep:Nat→Nat} (hF:For ls N ins rep) (hl:ins.length=ls.length) (hin:lF ls N) (hc:ins.count true+1=N) (hN:2≤N) (h:Ph ls N ins kn ls.length need deg out):St ls N ins kn ins need deg out:=by
 have ht:=Tj hF hl hin hc hN
 refine ⟨⟨rfl,fun _ h=>h⟩,h.nl,h.dl,h.ol,h.dgr,h.bal,h.rng,h.tot,fun p hp h0=>absurd h0 (ht p hp),fun k hk hs => ?_,fun j hj=>h.keep j hj⟩
 unfold tc
 rw [gy (g:=fun _=>1) fun p hp=>if_neg (ht p hp),gK,Ti hl];omega
theorem VU {l:List Bool} {k:Nat} (hk:k<l.length) (h:l.getD k false=true):(l.set k false).count true+1=l.count true:=by
 rw [getD_at _ hk] at h
 have hp:0<l.count true:=List.count_pos_iff.2 (h▸XX hk)
 rw [List.count_set hk,h];simp;omega
theorem frE (ls:List dn) (i:Nat):(ls.getD i (dn.mk 0 0)).from'.toNat=fr ls i:=rfl
theorem toE (ls:List dn) (i:Nat):(ls.getD i (dn.mk 0 0)).to.toNat=to ls i:=rfl
theorem ac5 {l:List Int} (h:l.length≤1000000000):f38 l=some l:=by
 apply ok_eq
 unfold f38
 have hc:bV (List.length eInt) l.length 8=true:=by unfold bV;simp [eInt];omega
 cases l with
 |nil=>exact goT rfl ⟨[],by simp [both,eInt,ck,bV],rfl⟩
 |cons a l=>exact pU rfl (bC hc (aC (by simp [eInt])))
theorem ajg {s:Bool} {x y:Int}:decide (s=false∨x≠1∧y≠1)=(!s||(!decide (x=1)&&!decide (y=1))):=by
 cases s<;>simp
theorem ac6 {nm:List UInt8} {a b:Int} {bs:List aG} {ins:List Bool} {known:List Int} {rep:Nat→Nat} (hl:bs.length≤1000000) (h0:0<bs.length) (hE:Ends bs) (hins:f21 nm a b bs=some ins)
  (t1:ins.length=(aH bs).length) (t2:ins.count true=bs.length) (t3 :∀j,(aI bs).length≤j→j<(aH bs).length→ins.getD j false=true) (hF:For (aH bs) (bs.length+1) ins rep) (hk:known.length=(aI bs).length) :
  Ok (f22 nm a b bs known (List.replicate bs.length 0)) fun out=>out.length=(aH bs).length∧(∀j,j<(aI bs).length→ins.getD j false=false→out.getD j 0=known.getD j 0)∧
   ∀p,p<bs.length+1→oU (dQ (fun j=>inc (aH bs) p j (out.getD j 0)) (aH bs).length) 0:=by
 have hw:=oQ (nm:=nm) (a:=a) (b:=b) hl
 have hr:wK bs≤bs.length:=Kd
 have es3:(mZ bs).length=wK bs:=(uX bs.length bs 0).2.2
 have hLL:(aH bs).length=(aI bs).length+wK bs:=by unfold aH;rw [Z0,Z3,es3]
 have hin:=Td hE h0
 have hM:(aH bs).length≤4000000:=by omega
 have hz:(List.replicate bs.length (0:Int)).length=bs.length:=by simp
 unfold f22
 refine oP (Kt hl h0) (oP hins (oP (ac5 (by omega)) ?_))
 show Ok _ _
 rw [show (List.map (iG bs) (aI bs)++mZ bs)=aH bs from rfl]
 generalize hN:bs.length+1=N at hin hF
 have hNi:b_ ((bs.length:Int)+1)=N:=by rw [aO (by omega)];omega
 dsimp only
 rw [hNi]
 refine bC (jL.2 (by omega)) ?_
 refine bF (fun y=>y=0) ?_ fun y hy => ?_
 ·refine bI (fun s:Int×Int=>s.1=0∧0≤s.2∧s.2≤bs.length) (fun s=>bs.length-s.2.toNat) ⟨rfl,by simp,by simp⟩ fun s ⟨e1,e2,e3⟩ => ?_
  obtain ⟨t,i⟩:=s
  simp only at e1 e2 e3
  subst e1
  refine bJ (fun hi => ?_) (fun hi=>aC rfl)
  simp at hi
  refine bC (aj.2 ⟨by simp only;omega,by simp only;omega⟩) (aC ⟨⟨?_,by simp only;rw [aO (by omega)];omega,by simp only;rw [aO (by omega)];omega⟩,by simp only;rw [aO (by omega)];omega⟩)
  simp only
  rw [getD_at _ (by rw [hz];omega)];simp;rfl
 subst hy
 have hneg:b_ (ael 0)=0:=rfl
 rw [hneg]
 refine bC (by unfold bV;simp;omega) (bC (jL.2 (by omega)) ?_)
 refine bF (fun y=>Ph (aH bs) N ins (fun j=>known.getD j 0) (aH bs).length y.1 y.2.1 y.2.2) ?_ fun s44 h44 => ?_
 ·have g0 :∀p,p<N→(List.replicate bs.length (0:Int)++[0]).getD p 0=0:=by
   intro p hp
   rw [List.getD_eq_getElem?_getD]
   by_cases e:p<bs.length
   ·rw [Zs (by simpa using e)];simp [e]
   ·rw [Z2 (by simp;omega)];simp;rw [show p-bs.length=0 from by omega];rfl
  refine bI (fun s:Int×List Int×List Int×List Int =>∃i:Nat,s.1=i∧i≤(aH bs).length∧Ph (aH bs) N ins (fun j=>known.getD j 0) i s.2.1 s.2.2.1 s.2.2.2) (fun s=>(aH bs).length-s.1.toNat)
   ⟨0,rfl,by omega,⟨by simp;omega,by simp,by simp,fun p hp => ?_,fun p hp => ?_,fun p hp => ?_,?_,fun j hj=>by omega⟩⟩ fun s ⟨i,e1,e2,e3⟩ => ?_
  ·simp only [dQ,QP]
   rw [List.getD_eq_getElem?_getD];simp [hp]
  ·simp only;rw [g0 p hp];rfl
  ·simp only;rw [g0 p hp];unfold I64;omega
  ·simp only;rw [gy (g:=fun _=>0) g0,gK];simp [oU]
  obtain ⟨i',need,deg,out⟩:=s
  simp only at e1 e3
  subst e1
  refine bJ (fun hi => ?_) (fun hi=>aC ?_)
  rotate_left
  ·have:i=(aH bs).length:=by simp at hi;omega
   subst this;exact e3
  have hi:i<(aH bs).length:=by simpa using hi
  have hli:=hin i hi
  have q1:=e3.nl;have q2:=e3.dl;have q3:=e3.ol
  refine bF (fun y=>Ph (aH bs) N ins (fun j=>known.getD j 0) (i+1) y.1 y.2.1 y.2.2) ?_ fun y hy=>aC ⟨⟨i+1,by simp only;rw [aO (by omega)];simp,by omega,hy⟩,by simp only;rw [aO (by omega)];omega⟩
  refine bC (aj.2 ⟨by simp only;omega,by simp only;omega⟩) (bC (aj.2 ⟨by simp only;omega,by simp only;omega⟩) ?_)
  simp only [QP]
  refine bJ (fun hs => ?_) (fun hs => ?_)
  ·refine bC (aj.2 ⟨by omega,by omega⟩) (bC (aj.2 ⟨by omega,by omega⟩) (bC (aj.2 ⟨by omega,by rw [ZD];omega⟩) (bC (aj.2 ⟨by omega,by rw [ZD];omega⟩) (aC ?_))))
   exact amf hin hM hi e3 hs
  ·have hiW:i<(aI bs).length:=by
    refine Nat.lt_of_not_le fun h => ?_
    rw [t3 i h hi] at hs;cases hs
   refine bF (fun y=>y=out.set i (known.getD i 0)) (goT (decide_eq_true (by omega)) (bC (aj.2 ⟨by omega,by omega⟩) (bC (aj.2 ⟨by omega,by omega⟩) (aC rfl)))) fun y hy => ?_
   subst hy
   have e:(out.set i (known.getD i 0)).getD i 0=known.getD i 0:=by rw [bM (by omega),if_pos rfl]
   rw [e]
   refine bC (aj.2 ⟨by omega,by omega⟩) (bC (aj.2 ⟨by omega,by rw [ZD];omega⟩) (bC (aj.2 ⟨by omega,by omega⟩) (bC (aj.2 ⟨by omega,by rw [ZD];omega⟩) (bC (aj.2 ⟨by omega,by rw [ZD];omega⟩) (bC (aj.2 ⟨by omega,by rw [ZD];omega⟩) (aC ?_))))))
   exact ajf hin hi e3 hs rfl
 obtain ⟨aq0,aso,asq⟩:=s44
 have hS0:=amg hF t1 hin (by omega) (by omega) h44
 simp only at hS0
 refine bF (fun out=>out.length=(aH bs).length∧(∀j,j<(aI bs).length→ins.getD j false=false→out.getD j 0=known.getD j 0)∧
   ∀p,p<N→oU (dQ (fun j=>inc (aH bs) p j (out.getD j 0)) (aH bs).length) 0) ?_ fun y hy=>aC hy
 refine bI (fun s:Bool×List Bool×List Int×List Int×List Int=>St (aH bs) N ins (fun j=>known.getD j 0) s.2.1 s.2.2.1 s.2.2.2.1 s.2.2.2.2∧
   (s.1=false→∀j,j<(aH bs).length→s.2.1.getD j false=true→s.2.2.2.1.getD (fr (aH bs) j) 0≠1∧s.2.2.2.1.getD (to (aH bs) j) 0≠1)) (fun s=>s.2.1.count true+if s.1 then 1 else 0)
  ⟨hS0,fun h=>by cases h⟩ fun s ⟨h1,h2⟩ => ?_
 obtain ⟨left,sub,need,deg,out⟩:=s
 simp only at h1 h2
 refine bJ (fun hf => ?_) (fun hf=>aC ⟨h1.ol,fun j hj hs=>h1.keep j (by omega) hs,aje hF hin h1 (h2 hf)⟩)
 simp only at hf
 subst hf
 refine bF (fun y=>St (aH bs) N ins (fun j=>known.getD j 0) y.2.1 y.2.2.1 y.2.2.2.1 y.2.2.2.2∧(y.1=false→∀j,j<(aH bs).length→y.2.1.getD j false=true→y.2.2.2.1.getD (fr (aH bs) j) 0≠1∧y.2.2.2.1.getD (to (aH bs) j) 0≠1)∧
   y.2.1.count true≤sub.count true∧(y.1=true→y.2.1.count true<sub.count true)) ?_ fun y ⟨a1,a2,a3,a4⟩=>aC ⟨⟨a1,a2⟩,?_⟩
 rotate_left
 ·simp only
  cases hy:y.1 with
  |false=>simp;omega
  |true=>have:=a4 hy;simp;omega
 refine bI (fun s:Bool×Int×List Bool×List Int×List Int×List Int =>∃i:Nat,s.2.1=i∧i≤(aH bs).length∧St (aH bs) N ins (fun j=>known.getD j 0) s.2.2.1 s.2.2.2.1 s.2.2.2.2.1 s.2.2.2.2.2∧
   (s.1=false→∀j,j<i→s.2.2.1.getD j false=true→s.2.2.2.2.1.getD (fr (aH bs) j) 0≠1∧s.2.2.2.2.1.getD (to (aH bs) j) 0≠1)∧s.2.2.1.count true≤sub.count true∧(s.1=true→s.2.2.1.count true<sub.count true)) (fun s=>(aH bs).length-s.2.1.toNat)
  ⟨0,rfl,by omega,h1,fun _ j hj=>by omega,YY _,fun h=>by cases h⟩ fun s ⟨i,e1,e2,e3,e4,e5,e6⟩ => ?_
 obtain ⟨lf,i',sb,nd,dgl,ot⟩:=s
 simp only at e1 e3 e4 e5 e6
 subst e1
 refine bJ (fun hi => ?_) (fun hi=>aC ⟨e3,fun h j hj=>e4 h j (by simp at hi;omega),e5,e6⟩)
 have hi:i<(aH bs).length:=by simpa using hi
 have hli:=hin i hi
 have q1:=e3.nl;have q2:=e3.dl;have q3:=e3.ol;have q4:=e3.part.1
 refine bF (fun y=>St (aH bs) N ins (fun j=>known.getD j 0) y.2.1 y.2.2.1 y.2.2.2.1 y.2.2.2.2∧(y.1=false→∀j,j<i+1→y.2.1.getD j false=true→y.2.2.2.1.getD (fr (aH bs) j) 0≠1∧y.2.2.2.1.getD (to (aH bs) j) 0≠1)∧y.2.1.count true≤sub.count true∧(y.1=true→y.2.1.count true<sub.count true)) ?_ fun y ⟨b1,b2,b3,b4⟩=>
  aC ⟨⟨i+1,by simp only;rw [aO (by omega)];simp,by omega,b1,b2,b3,b4⟩,by simp only;rw [aO (by omega)];omega⟩
 refine bC (aj.2 ⟨by simp only;omega,by simp only;omega⟩) ?_
 simp only [QP,frE,toE]
 refine bF (fun y=>y=decide (sb.getD i false=false∨dgl.getD (fr (aH bs) i) 0≠1∧dgl.getD (to (aH bs) i) 0≠1)) ?_ fun y hy => ?_
 ·refine bC (aj.2 ⟨by omega,by omega⟩) (bJ (fun hc=>aC ?_) (fun hc => ?_))
  ·have hc:sb.getD i false=false:=by simpa using hc
   rw [ajg,hc];rfl
  ·have hc:sb.getD i false=true:=by simpa using hc
   refine bC (aj.2 ⟨by omega,by omega⟩) (bJ (fun hd => ?_) (fun hd=>aC ?_))
   ·have hd:dgl.getD (fr (aH bs) i) 0≠1:=by simpa using hd
    refine bC (aj.2 ⟨by omega,by omega⟩) (aC ?_)
    rw [ajg,hc,decide_eq_false hd];simp
   ·have hd:dgl.getD (fr (aH bs) i) 0=1:=by simpa using hd
    rw [ajg,hc,decide_eq_true hd];rfl
 subst hy
 refine bJ (fun hc=>aC ?_) (fun hc => ?_)
 ·have hc:sb.getD i false=false∨dgl.getD (fr (aH bs) i) 0≠1∧dgl.getD (to (aH bs) i) 0≠1:=by simpa using hc
  refine ⟨e3,fun h j hj hs => ?_,e5,e6⟩
  by_cases e:j=i
  ·subst e
   rcases hc with hc | hc
   ·rw [hc] at hs;cases hs
   ·exact hc
  ·exact e4 h j (by omega) hs
 ·have hc:=of_decide_eq_false hc
  have hsb:sb.getD i false=true:=by
   cases h:sb.getD i false with
   |true=>rfl
   |false=>exact absurd (.inl h) hc
  have hlf:dgl.getD (fr (aH bs) i) 0=1∨dgl.getD (to (aH bs) i) 0=1:=by
   by_cases e:dgl.getD (fr (aH bs) i) 0=1
   ·exact .inl e
   ·by_cases e':dgl.getD (to (aH bs) i) 0=1
    ·exact .inr e'
    ·exact absurd (.inr ⟨e,e'⟩) hc
  refine bC (aj.2 ⟨by omega,by omega⟩) (bC (aj.2 ⟨by omega,by omega⟩) ?_)
  refine bF (fun n=>n=if dgl.getD (to (aH bs) i) 0=1 then nd.getD (to (aH bs) i) 0 else b_ (0-nd.getD (fr (aH bs) i) 0)) ?_ fun n hn => ?_
  ·refine bJ (fun hd => ?_) (fun hd=>aC ?_)
   ·refine bC (aj.2 ⟨by omega,by omega⟩) (aC ?_)
    rw [if_neg (by simpa using hd)];rfl
   ·rw [if_pos (by simpa using hd)]
  refine bC (aj.2 ⟨by omega,by omega⟩) (bC (aj.2 ⟨by omega,by omega⟩) (bC (aj.2 ⟨by omega,by omega⟩) (bC (aj.2 ⟨by omega,by omega⟩) (bC (aj.2 ⟨by omega,by rw [ZD];omega⟩) (bC (aj.2 ⟨by omega,by rw [ZD];omega⟩)
   (bC (aj.2 ⟨by omega,by omega⟩) (bC (aj.2 ⟨by omega,by omega⟩) (bC (aj.2 ⟨by omega,by rw [ZD];omega⟩) (bC (aj.2 ⟨by omega,by rw [ZD];omega⟩) (aC ?_))))))))))
  have hcd:=VU (l:=sb) (k:=i) (by omega) hsb
  refine ⟨agw hF hin t1 hM e3 hi hsb hlf hn,fun h=>absurd h (by simp),?_,fun _ => ?_⟩
  ·show (sb.set i false).count true≤sub.count true;omega
  ·show (sb.set i false).count true<sub.count true;omega
def sQ (bs:List aG) (m:Nat):List aJ:=((bs.take m).foldl pz (0,[aJ.mk 0 0 2])).2
theorem Np :∀(l:List aG) (s:Nat×List aJ),(l.foldl pz s).1=s.1+l.length
 | [],s=>rfl
 |t::l,s=>by rw [K3,Np l];simp only [pz,K8];omega
theorem wL {bs:List aG} {m:Nat} (h:m<bs.length):sQ bs (m+1)=sQ bs m++gJ m (bs.getD m ah):=by
 unfold sQ
 rw [take_snoc h,List.foldl_append,K3,List.foldl_nil,getD_at _ h]
 have:=Np (bs.take m) (0,[aJ.mk 0 0 2])
 rw [WP,Kn (by omega)] at this
 unfold pz at this ⊢
 rw [this];simp
theorem EP (bs:List aG):sQ bs bs.length=aI bs:=by unfold sQ aI;rw [VV]
theorem Nq {bs:List aG} {m:Nat} (h:m≤bs.length) :∃t,aI bs=sQ bs m++t:=by
 have key :∀k,m+k≤bs.length→∃t,sQ bs (m+k)=sQ bs m++t:=by
  intro k
  induction k with
  |zero=>intro _;exact ⟨[],by simp⟩
  |succ k ih=>
   intro hk
   obtain ⟨t,ht⟩:=ih (by omega)
   exact ⟨t++gJ (m+k) (bs.getD (m+k) ah),by rw [show m+(k+1)=m+k+1 from rfl,wL (by omega),ht,Wa]⟩
 obtain ⟨t,ht⟩:=key (bs.length-m) (by omega)
 rw [show m+(bs.length-m)=bs.length from by omega,EP] at ht
 exact ⟨t,ht⟩
def pos (bs:List aG) (m:Nat):Nat:=(sQ bs m).length
theorem Kv (bs:List aG):pos bs 0=1:=rfl
theorem PI (bs:List aG):pos bs bs.length=(aI bs).length:=by unfold pos;rw [EP]
theorem VW {bs:List aG} {m:Nat} (h:m≤bs.length):pos bs m≤(aI bs).length:=by
 obtain ⟨t,ht⟩:=Nq h;rw [ht,Z0];unfold pos;omega
theorem yX {bs:List aG} {m:Nat} (h:m<bs.length):pos bs (m+1)=pos bs m+if (bs.getD m ah).aA=3 then 0 else if (bs.getD m ah).aA=2 then 2 else 1:=by
 unfold pos;rw [wL h,Z0]
 unfold gJ
 by_cases h3:(bs.getD m ah).aA=3
 ·have h2:¬ (bs.getD m ah).aA=2:=by omega
  rw [if_pos h3,if_pos h3,if_neg h2];rfl
 ·by_cases h2:(bs.getD m ah).aA=2
  ·rw [if_neg h3,if_neg h3,if_pos h2,if_pos h2];rfl
  ·rw [if_neg h3,if_neg h3,if_neg h2,if_neg h2];rfl
theorem Yg {bs:List aG} {m:Nat} (h:m<bs.length) {k:Nat} (hk:k<(gJ m (bs.getD m ah)).length):(aI bs).getD (pos bs m+k) (aJ.mk 0 0 0)=(gJ m (bs.getD m ah))[k]:=by
 obtain ⟨t,ht⟩:=Nq (bs:=bs) (m:=m+1) (by omega)
 rw [ht,wL h,Wa,List.getD_eq_getElem?_getD,Z2 (by unfold pos;omega),Zs (by unfold pos;omega)]
 rw [show pos bs m+k-(sQ bs m).length=k from by unfold pos;omega,Q2 hk];rfl
theorem Kw {bs:List aG} {m:Nat} (h:m<bs.length) (h3:(bs.getD m ah).aA≠3):(aI bs).getD (pos bs m) (aJ.mk 0 0 0)=aJ.mk 0 m 0∧pos bs m<(aI bs).length:=by
 have hk:0<(gJ m (bs.getD m ah)).length:=by unfold gJ;rw [if_neg h3];simp
 have h1:=Yg h hk
 have h2:(gJ m (bs.getD m ah))[0]=aJ.mk 0 m 0:=by unfold gJ;simp only [if_neg h3];rfl
 have:=yX h
 have:=VW (bs:=bs) (m:=m+1) (by omega)
 rw [if_neg h3] at *
 refine ⟨by rw [←h2,←h1];rfl,by split at * <;> omega⟩
theorem yY {bs:List aG} {m:Nat} (h:m<bs.length) (h2:(bs.getD m ah).aA=2):(aI bs).getD (pos bs m+1) (aJ.mk 0 0 0)=aJ.mk 0 m 1∧pos bs m+1<(aI bs).length:=by
 have h3:¬ (bs.getD m ah).aA=3:=by omega
 have hk:1<(gJ m (bs.getD m ah)).length:=by unfold gJ;rw [if_neg h3,if_pos h2];simp
 have h1:=Yg h hk
 have e:(gJ m (bs.getD m ah))[1]=aJ.mk 0 m 1:=by unfold gJ;simp only [if_neg h3,if_pos h2];rfl
 have:=yX h
 have:=VW (bs:=bs) (m:=m+1) (by omega)
 rw [if_neg h3,if_pos h2] at *
 exact ⟨by rw [←e,←h1],by omega⟩
theorem zD (bs:List aG):(aI bs).getD 0 (aJ.mk 0 0 0)=aJ.mk 0 0 2:=by
 obtain ⟨l,e⟩:=oM bs;rw [e];rfl
theorem ac8 (bs:List aG):(aI bs).Pairwise fun a b=>a.block≠b.block∨a.way≠b.way:=by
 have key :∀m,m≤bs.length→(sQ bs m).Pairwise (fun a b=>a.block≠b.block∨a.way≠b.way)∧∀w∈sQ bs m,w.block<m∨w.way=2:=by
  intro m
  induction m with
  |zero=>intro _;exact ⟨by simp [sQ],fun w hw=>by simp [sQ] at hw;rw [hw];exact .inr rfl⟩
  |succ m ih=>
   intro hm
   obtain ⟨h1,h2⟩:=ih (by omega)
   rw [wL (by omega)]
   have hw :∀w∈gJ m (bs.getD m ah),w.block=m∧(w.way=0∨w.way=1):=by
    intro w hw
    rcases oN.1 hw with ⟨_,rfl⟩ | ⟨_,rfl⟩<;>simp
   refine ⟨List.pairwise_append.2 ⟨h1,?_,fun a ha b hb => ?_⟩,fun w hw' => ?_⟩
   ·unfold gJ;split<;>split<;>simp
   ·obtain ⟨b1,b2⟩:=hw b hb
    rcases h2 a ha with h | h
    ·exact .inl (by omega)
    ·exact .inr (by omega)
   ·rcases X1.1 hw' with h | h
    ·rcases h2 w h with h | h
     ·exact .inl (by omega)
     ·exact .inr h
    ·exact .inl (by have:=(hw w h).1;omega)
 have:=(key bs.length (YY _)).1
 rw [EP] at this;exact this
theorem DF {bs:List aG} {i j:Nat} (hij:i<j) (hj:j<(aI bs).length):((aI bs).getD i (aJ.mk 0 0 0)).block≠((aI bs).getD j (aJ.mk 0 0 0)).block∨((aI bs).getD i (aJ.mk 0 0 0)).way≠((aI bs).getD j (aJ.mk 0 0 0)).way:=by
 rw [getD_at _ hj,getD_at _ (by omega)]
 exact List.pairwise_iff_getElem.1 (ac8 bs) i j (by omega) hj hij
theorem Nr {bs:List aG} {i:Nat} (h0:0<i) (hi:i<(aI bs).length) :∃b:Nat,b<bs.length∧(((aI bs).getD i (aJ.mk 0 0 0))=aJ.mk 0 b 0∧(bs.getD b ah).aA≠3∨((aI bs).getD i (aJ.mk 0 0 0))=aJ.mk 0 b 1∧(bs.getD b ah).aA=2):=by
 rcases BI bs _ (XX hi) with h | ⟨b,hb,h⟩
 ·have:=DF (bs:=bs) h0 hi
  rw [zD,getD_at _ hi,h] at this
  simp at this
 ·refine ⟨b,hb,?_⟩
  rw [getD_at _ hi]
  rcases oN.1 h with ⟨a,e⟩ | ⟨a,e⟩
  ·exact .inl ⟨e,a⟩
  ·exact .inr ⟨e,a⟩
def Cnt (v:Int):Prop:=0≤v∧v≤1099511627776
theorem Yh (v:Int):f20 v=some (decide (0≤v∧v≤1099511627776)):=by
 apply ok_eq
 unfold f20
 refine bF (fun y=>y=decide (0≤v∧v≤1099511627776)) ?_ fun y hy=>aC hy
 refine bJ (fun h=>aC ?_) (fun h=>aC ?_)
 ·have h:0≤v:=by simpa using h
  simp [h]
 ·have h:¬ 0≤v:=by simpa using h
  simp [h]
theorem amh (v:Int):f25 v=some (decide (0≤v∧v≤1099511627776)):=Yh v
theorem find_ok {R:Type} {f:Int→Option Bool} {l:List Int} (p:Int→Bool) (hf :∀v,f v=some (p v)) (hl:l.length≤4000000000) :
  Ok (dP (bD (fun (s1:Int)=>bif (decide (s1<(l.length:Int))) then ck (inB s1 l.length) <| OB (f (List.getD l s1.toNat 0)) fun c4=>bif c4 then some (.inr (.inr s1)) else some (.inl (b_ (s1+1))) else some (.inr (.inl ()))) (0:Int)) fun (s6:Unit)=>some (-1:Int))
   fun y=>decide (0≤y)=l.any p:=by
 refine pV (fun _=>l.any p=false) ?_ fun _ h=>aC (by rw [h];rfl)
 refine bI (fun s:Int =>∃i:Nat,s=i∧i≤l.length∧∀j,j<i→p (l.getD j 0)=false) (fun s=>l.length-s.toNat) ⟨0,rfl,by omega,fun j hj=>by omega⟩ fun s ⟨i,e1,e2,e3⟩ => ?_
 subst e1
 refine bJ (fun hi => ?_) (fun hi=>aC ?_)
 ·have hi:i<l.length:=by simpa using hi
  refine bC (aj.2 ⟨by omega,by omega⟩) (oP (hf _) (bJ (fun hp=>aC ?_) (fun hp=>aC ⟨⟨i+1,by rw [aO (by omega)];simp,by omega,fun j hj => ?_⟩,by rw [aO (by omega)];omega⟩)))
  ·simp only [QP] at hp
   show decide (0≤(i:Int))=l.any p
   rw [decide_eq_true (by omega),eq_comm,Kj]
   rw [getD_at _ hi] at hp
   exact ⟨_,XX hi,hp⟩
  ·simp only [QP] at hp
   by_cases e:j=i
   ·subst e;exact hp
   ·exact e3 j (by omega)
 ·show l.any p=false
  have:i=l.length:=by simp at hi;omega
  subst this
  rw [List.any_eq_false]
  intro x hx
  obtain ⟨j,hj,e⟩:=K7 hx
  have:=e3 j hj
  rw [getD_at _ hj,e] at this;rw [this];simp
def bad (v:Int):Bool:=!decide (0≤v∧v≤1099511627776)
theorem ami {l:List Int} (hl:l.length≤4000000000):zA l=some (l.any bad):=by
 apply ok_eq
 unfold zA
 refine bF (fun y=>decide (0≤y)=l.any bad) ?_ fun y hy=>aC hy
 unfold EH
 exact find_ok (R:=Unit) bad (fun v=>by unfold f39;rw [Yh];rfl) hl
theorem amj {l:List Int} (hl:l.length≤4000000000):zC l=some (l.any bad):=by
 apply ok_eq
 unfold zC
 refine bF (fun y=>decide (0≤y)=l.any bad) ?_ fun y hy=>aC hy
 unfold EJ
 exact find_ok (R:=Unit) bad (fun v=>by unfold f19;rw [Yh];rfl) hl
theorem amk {l:List Int} (hl:l.length≤4000000000):zB l=some (l.any fun v=>decide (v<0)):=by
 apply ok_eq
 unfold zB
 refine bF (fun y=>decide (0≤y)=l.any fun v=>decide (v<0)) ?_ fun y hy=>aC hy
 unfold EI
 exact find_ok (R:=Unit) (fun v=>decide (v<0)) (fun v=>rfl) hl
def brings (bs:List aG) (w:List Int) (p i:Nat):Int:=dQ (fun j=>if to (aH bs) j=p then w.getD j 0 else 0) i
structure Cs (bs:List aG) (w:List Int) (y:Int×Bool×List Int×List (Int×Int)):Prop where
 ent:y.1=w.getD 0 0
 len:y.2.2.1.length=bs.length
 asr:y.2.2.2.length=bs.length
 sum :∀p,p<bs.length→oU (y.2.2.1.getD p 0) (brings bs w p (aI bs).length)∧I64 (y.2.2.1.getD p 0)
 e0 :∀b,b<bs.length→(y.2.2.2.getD b (0,0)).1=if (bs.getD b ah).aA=3 then 0 else w.getD (pos bs b) 0
 e1 :∀b,b<bs.length→(y.2.2.2.getD b (0,0)).2=if (bs.getD b ah).aA=2 then w.getD (pos bs b+1) 0 else 0
 ok:y.2.1=true→(∀j,j<(aI bs).length→Cnt (w.getD j 0))∧∀p,p<bs.length→Cnt (y.2.2.1.getD p 0)
theorem zF {l:List (Int×Int)} {a z:Nat} {v:Int×Int} (ha:a<l.length):(l.set a v).getD z (0,0)=if z=a then v else l.getD z (0,0):=by
 rw [List.getD_eq_getElem?_getD,List.getD_eq_getElem?_getD]
 by_cases h:z=a
 ·subst h;rw [UV ha,if_pos rfl];rfl
 ·rw [VC (fun e=>h e.symm),if_neg h]
theorem ac9 {bs:List aG} (hE:Ends bs) (h0:0<bs.length) {j:Nat} (hj:j<(aI bs).length):(0≤((aH bs).getD j (dn.mk 0 0)).to∧((aH bs).getD j (dn.mk 0 0)).to<bs.length):=by
 rw [pF hj]
 rcases BI bs _ (XX hj) with e | ⟨b,hb,h⟩
 ·rw [e];simp [iG];omega
 ·obtain ⟨e1,e2⟩:=hE b hb
  rcases oN.1 h with ⟨k,e⟩ | ⟨k,e⟩
  ·rw [e];have:=e1 k;simp only [iG,if_pos,QP];exact this
  ·rw [e];have:=e2 k;unfold iG;rw [if_neg (by simp),if_pos rfl];simp only [QP];exact this
theorem ZJ {nm:List UInt8} {a b:Int} {bs:List aG} {w:List Int} (hl:bs.length≤1000000) (h0:0<bs.length) (hE:Ends bs) (hw:w.length=(aI bs).length):Ok (f23 nm a b bs w) (Cs bs w):=by
 have hws:=oQ (nm:=nm) (a:=a) (b:=b) hl
 obtain ⟨w1,hw1⟩:=oM bs
 have hW:0<(aI bs).length:=by rw [hw1];simp
 have hLL:(aH bs).length=(aI bs).length+(mZ bs).length:=by unfold aH;rw [Z0,Z3]
 unfold f23
 refine bC (aj.2 ⟨by omega,by omega⟩) ?_
 dsimp only
 refine bC (jL.2 (by omega)) (bC (jL.2 (by omega)) (oP (Kt hl h0) (oP hws.1 ?_)))
 rw [show (List.map (iG bs) (aI bs)++mZ bs)=aH bs from rfl]
 have hgB :∀p,(List.replicate ((bs.length:Int)).toNat (0:Int)).getD p 0=0:=fun p=>by
  rw [List.getD_eq_getElem?_getD]
  by_cases h:p<bs.length
  ·simp [h]
  ·rw [Wg (by simp;omega)];rfl
 have hgE :∀p,(List.replicate ((bs.length:Int)).toNat ((0:Int),(0:Int))).getD p (0,0)=(0,0):=fun p=>by
  rw [List.getD_eq_getElem?_getD]
  by_cases h:p<bs.length
  ·simp [h]
  ·rw [Wg (by simp;omega)];rfl
 refine bF (fun y=>y.2.1.length=bs.length∧y.2.2.length=bs.length∧(∀p,p<bs.length→oU (y.2.1.getD p 0) (brings bs w p (aI bs).length)∧I64 (y.2.1.getD p 0))∧
   (∀b,b<bs.length→(y.2.2.getD b (0,0)).1=if (bs.getD b ah).aA=3 then 0 else w.getD (pos bs b) 0)∧
   (∀b,b<bs.length→(y.2.2.getD b (0,0)).2=if (bs.getD b ah).aA=2 then w.getD (pos bs b+1) 0 else 0)∧(y.1=true→∀j,j<(aI bs).length→Cnt (w.getD j 0))) ?_ fun y ⟨c1,c2,c3,c4,c5,c6⟩ => ?_
 ·-- the loop over the ways
  refine bI (fun s:Bool×Int×List Int×List (Int×Int) =>∃i:Nat,s.2.1=i∧i≤(aI bs).length∧s.2.2.1.length=bs.length∧s.2.2.2.length=bs.length∧
    (∀p,p<bs.length→oU (s.2.2.1.getD p 0) (brings bs w p i)∧I64 (s.2.2.1.getD p 0))∧
    (∀j,0<j→j<i→∀b:Nat,b<bs.length→((aI bs).getD j (aJ.mk 0 0 0)=aJ.mk 0 b 0→(s.2.2.2.getD b (0,0)).1=w.getD j 0)∧((aI bs).getD j (aJ.mk 0 0 0)=aJ.mk 0 b 1→(s.2.2.2.getD b (0,0)).2=w.getD j 0))∧
    (∀b:Nat,b<bs.length→((bs.getD b ah).aA=3→(s.2.2.2.getD b (0,0)).1=0)∧((bs.getD b ah).aA≠2→(s.2.2.2.getD b (0,0)).2=0))∧
    (s.1=true→∀j,j<i→Cnt (w.getD j 0))) (fun s=>(aI bs).length-s.2.1.toNat)
   ⟨0,rfl,by omega,by simp,by simp,fun p hp => ?_,fun j _ hj=>by omega,fun b hb => ?_,fun _ j hj=>by omega⟩ fun s ⟨i,e1,e2,e3,e4,e5,e6,e7,e8⟩ => ?_
  ·simp only;rw [hgB];exact ⟨rfl,by unfold I64;omega⟩
  ·simp only;rw [hgE];exact ⟨fun _=>rfl,fun _=>rfl⟩
  obtain ⟨ok,i',bl,ed⟩:=s
  simp only at e1 e3 e4 e5 e6 e7 e8
  subst e1
  refine bJ (fun hi => ?_) (fun hi=>aC ?_)
  rotate_left
  ·have:i=(aI bs).length:=by simp at hi;omega
   subst this
   refine ⟨e3,e4,e5,fun b hb => ?_,fun b hb => ?_,e8⟩
   ·by_cases h3:(bs.getD b ah).aA=3
    ·rw [if_pos h3];exact (e7 b hb).1 h3
    ·rw [if_neg h3]
     obtain ⟨q1,q2⟩:=Kw hb h3
     have hp:0<pos bs b:=by
      refine Nat.pos_of_ne_zero fun e => ?_
      rw [e,zD] at q1;cases q1
     exact (e6 _ hp q2 b hb).1 q1
   ·by_cases h2:(bs.getD b ah).aA=2
    ·rw [if_pos h2]
     obtain ⟨q1,q2⟩:=yY hb h2
     exact (e6 _ (by omega) q2 b hb).2 q1
    ·rw [if_neg h2];exact (e7 b hb).2 h2
  have hi:i<(aI bs).length:=by simpa using hi
  have hto:=ac9 hE h0 hi
  have hin:=Ya bs _ (XX hi)
  refine bC (aj.2 ⟨by simp only;omega,by simp only;omega⟩) ?_
  simp only [QP]
  refine bF (fun y=>y=true→ok=true∧Cnt (w.getD i 0)) ?_ fun ok' hok => ?_
  ·refine bJ (fun h=>bC (aj.2 ⟨by omega,by omega⟩) (oP (Yh _) (aC fun h'=>⟨h,?_⟩))) fun h=>aC fun h'=>by cases h'
   have h2:0≤w.getD i 0∧w.getD i 0≤1099511627776:=by simpa using h'
   exact h2
  refine bC (aj.2 ⟨by omega,by omega⟩) (bC (aj.2 ⟨by omega,by omega⟩) (bC (aj.2 ⟨by omega,by omega⟩) (bC (aj.2 ⟨by omega,by omega⟩) ?_)))
  rw [toE]
  have htl:to (aH bs) i<bs.length:=by unfold to;omega
  have hsum :∀p,p<bs.length→oU ((bl.set (to (aH bs) i) (b_ (bl.getD (to (aH bs) i) 0+w.getD i 0))).getD p 0) (brings bs w p (i+1))∧I64 ((bl.set (to (aH bs) i) (b_ (bl.getD (to (aH bs) i) 0+w.getD i 0))).getD p 0):=by
   intro p hp
   rw [bM (by omega)]
   unfold brings
   simp only [dQ]
   have:=e5 p hp
   unfold brings at this
   by_cases e:p=to (aH bs) i
   ·subst e
    rw [if_pos rfl,if_pos rfl]
    have m:=Ae (bl.getD (to (aH bs) i) 0+w.getD i 0)
    refine ⟨?_,qm _⟩
    have:=this.1
    unfold oU at *;omega
   ·rw [if_neg e,if_neg fun e'=>e e'.symm,KB];exact this
  refine bF (fun ed'=>ed'.length=bs.length∧(∀j,0<j→j<i+1→∀b:Nat,b<bs.length→((aI bs).getD j (aJ.mk 0 0 0)=aJ.mk 0 b 0→(ed'.getD b (0,0)).1=w.getD j 0)∧((aI bs).getD j (aJ.mk 0 0 0)=aJ.mk 0 b 1→(ed'.getD b (0,0)).2=w.getD j 0))∧
    (∀b:Nat,b<bs.length→((bs.getD b ah).aA=3→(ed'.getD b (0,0)).1=0)∧((bs.getD b ah).aA≠2→(ed'.getD b (0,0)).2=0))) ?_ fun ed' ⟨d1,d2,d3⟩=>aC ⟨⟨i+1,by simp only;rw [aO (by omega)];simp,by omega,by simp [e3],d1,hsum,d2,d3,fun h j hj => ?_⟩,by simp only;rw [aO (by omega)];omega⟩
  ·refine bJ (fun hpos => ?_) (fun hpos=>aC ⟨e4,fun j hj hji => ?_,e7⟩)
   rotate_left
   ·have:i=0:=by simp at hpos;omega
    omega
   have hpos:0<i:=by simpa using hpos
   obtain ⟨b,hb,hsh⟩:=Nr hpos hi
   refine bF (fun ed'=>ed'.length=bs.length∧(∀j,0<j→j<i+1→∀b:Nat,b<bs.length→((aI bs).getD j (aJ.mk 0 0 0)=aJ.mk 0 b 0→(ed'.getD b (0,0)).1=w.getD j 0)∧((aI bs).getD j (aJ.mk 0 0 0)=aJ.mk 0 b 1→(ed'.getD b (0,0)).2=w.getD j 0))∧
    (∀b:Nat,b<bs.length→((bs.getD b ah).aA=3→(ed'.getD b (0,0)).1=0)∧((bs.getD b ah).aA≠2→(ed'.getD b (0,0)).2=0))) ?_ fun y hy=>aC hy
   refine bC (aj.2 ⟨by omega,by omega⟩) ?_
   rcases hsh with ⟨hx,hkd⟩ | ⟨hx,hkd⟩
   ·rw [hx]
    simp only [QP]
    refine bC (aj.2 ⟨by omega,by omega⟩) (goT (by rfl) (aC ⟨by simp [e4],fun j hj hji c hc => ?_,fun c hc => ?_⟩))
    ·rw [zF (by omega)]
     by_cases ec:c=b
     ·subst ec
      rw [if_pos rfl]
      refine ⟨fun h => ?_,fun h => ?_⟩
      ·by_cases ej:j=i
       ·subst ej;rfl
       ·exfalso
        have:=DF (bs:=bs) (i:=j) (j:=i) (by omega) hi
        rw [hx,h] at this;simp at this
      ·by_cases ej:j=i
       ·subst ej;rw [hx] at h;cases h
       ·exact (e6 j hj (by omega) c hc).2 h
     ·rw [if_neg ec]
      by_cases ej:j=i
      ·subst ej
       rw [hx]
       refine ⟨fun h => ?_,fun h => ?_⟩
       ·exact absurd (by injection h with _ h _;omega) ec
       ·cases h
      ·exact e6 j hj (by omega) c hc
    ·rw [zF (by omega)]
     by_cases ec:c=b
     ·subst ec;rw [if_pos rfl]
      exact ⟨fun h=>absurd h hkd,(e7 c hc).2⟩
     ·rw [if_neg ec];exact e7 c hc
   ·rw [hx]
    simp only [QP]
    refine bC (aj.2 ⟨by omega,by omega⟩) (pU (by rfl) (bC (by rfl) (aC ⟨by simp [e4],fun j hj hji c hc => ?_,fun c hc => ?_⟩)))
    ·rw [zF (by omega)]
     by_cases ec:c=b
     ·subst ec
      rw [if_pos rfl]
      refine ⟨fun h => ?_,fun h => ?_⟩
      ·by_cases ej:j=i
       ·subst ej;rw [hx] at h;cases h
       ·exact (e6 j hj (by omega) c hc).1 h
      ·by_cases ej:j=i
       ·subst ej;rfl
       ·exfalso
        have:=DF (bs:=bs) (i:=j) (j:=i) (by omega) hi
        rw [hx,h] at this;simp at this
     ·rw [if_neg ec]
      by_cases ej:j=i
      ·subst ej
       rw [hx]
       refine ⟨fun h => ?_,fun h => ?_⟩
       ·cases h
       ·exact absurd (by injection h with _ h _;omega) ec
      ·exact e6 j hj (by omega) c hc
    ·rw [zF (by omega)]
     by_cases ec:c=b
     ·subst ec;rw [if_pos rfl]
      exact ⟨(e7 c hc).1,fun h=>absurd hkd h⟩
     ·rw [if_neg ec];exact e7 c hc
  ·obtain ⟨o1,o2⟩:=hok h
   by_cases ej:j=i
   ·subst ej;exact o2
   ·exact e8 o1 j (by omega)
 ·-- the check of the blocks
  obtain ⟨ok,bl,ed⟩:=y
  simp only at c1 c2 c3 c4 c5 c6
  refine bF (fun y=>y.2=w.getD 0 0∧(y.1=true→ok=true∧∀p,p<bs.length→Cnt (bl.getD p 0))) ?_ fun y ⟨y1,y2⟩=>aC ⟨y1,c1,c2,c3,c4,c5,fun h=>⟨c6 (y2 h).1,(y2 h).2⟩⟩
  refine bJ (fun hok=>oP (ami (by simp only;omega)) (aC ⟨rfl,fun h=>⟨hok,fun p hp => ?_⟩⟩)) fun _=>aC ⟨rfl,fun h=>by cases h⟩
  have h:bl.any bad=false:=by simpa using h
  rw [List.any_eq_false] at h
  have:=h _ (XX (by omega:p<bl.length))
  rw [getD_at _ (by omega)]
  unfold bad at this
  simpa [Cnt] using this
def val (bs:List aG) (w:List Int) (b:Nat):Int:=if (bs.getD b ah).aA=3 then 0 else w.getD (pos bs b) 0+if (bs.getD b ah).aA=2 then w.getD (pos bs b+1) 0 else 0
theorem Ky {f:Nat→Int} {a:Nat} :∀{b:Nat},dQ f (a+b)=dQ f a+dQ (fun j=>f (a+j)) b
 |0=>by simp [dQ]
 |b+1=>by rw [←Up];simp only [dQ];rw [Ky];omega
theorem Yi {bs:List aG} {m:Nat} (h:m<bs.length) (h3:(bs.getD m ah).aA≠3):fr (aH bs) (pos bs m)=m∧to (aH bs) (pos bs m)=(bs.getD m ah).fO.toNat:=by
 obtain ⟨h1,h2⟩:=Kw h h3
 rw [getD_at _ h2] at h1
 unfold fr to
 rw [pF h2,h1]
 simp [iG]
theorem Ns {bs:List aG} {m:Nat} (h:m<bs.length) (hk:(bs.getD m ah).aA=2):fr (aH bs) (pos bs m+1)=m∧to (aH bs) (pos bs m+1)=(bs.getD m ah).dh.toNat:=by
 obtain ⟨h1,h2⟩:=yY h hk
 rw [getD_at _ h2] at h1
 unfold fr to
 rw [pF h2,h1]
 simp [iG]
theorem Kz {bs:List aG}:fr (aH bs) 0=bs.length∧to (aH bs) 0=0:=by
 obtain ⟨l,e⟩:=oM bs
 have h2:0<(aI bs).length:=by rw [e];simp
 have h1:=zD bs
 rw [getD_at _ h2] at h1
 unfold fr to
 rw [pF h2,h1]
 simp [iG]
theorem leaves {bs:List aG} (w:List Int) {b:Nat} (hb:b<bs.length) :∀m,m≤bs.length→dQ (fun j=>if fr (aH bs) j=b then w.getD j 0 else 0) (pos bs m)=if b<m then val bs w b else 0:=by
 intro m
 induction m with
 |zero=>
  intro _
  rw [Kv]
  simp only [dQ]
  rw [Kz.1,if_neg (by omega),if_neg (by omega)];rfl
 |succ m ih=>
  intro hm
  have ih:=ih (by omega)
  rw [yX (by omega)]
  by_cases h3:(bs.getD m ah).aA=3
  ·rw [if_pos h3,WK,ih]
   by_cases e:b=m
   ·subst e;rw [if_neg (by omega),if_pos (by omega)];unfold val;rw [if_pos h3]
   ·by_cases e2:b<m
    ·rw [if_pos e2,if_pos (by omega)]
    ·rw [if_neg e2,if_neg (by omega)]
  ·obtain ⟨f1,_⟩:=Yi (bs:=bs) (m:=m) (by omega) h3
   rw [if_neg h3]
   by_cases h2:(bs.getD m ah).aA=2
   ·obtain ⟨f2,_⟩:=Ns (bs:=bs) (m:=m) (by omega) h2
    rw [if_pos h2]
    simp only [dQ]
    rw [ih,f1,f2]
    by_cases e:b=m
    ·subst e;rw [if_neg (by omega),if_pos rfl,if_pos rfl,if_pos (by omega)];unfold val;rw [if_neg h3,if_pos h2];omega
    ·have hmb:¬ m=b:=fun e'=>e e'.symm
     rw [if_neg hmb,if_neg hmb]
     by_cases e2:b<m
     ·rw [if_pos e2,if_pos (by omega)];omega
     ·rw [if_neg e2,if_neg (by omega)];rfl
   ·rw [if_neg h2]
    simp only [dQ]
    rw [ih,f1]
    by_cases e:b=m
    ·subst e;rw [if_neg (by omega),if_pos rfl,if_pos (by omega)];unfold val;rw [if_neg h3,if_neg h2];omega
    ·have hmb:¬ m=b:=fun e'=>e e'.symm
     rw [if_neg hmb]
     by_cases e2:b<m
     ·rw [if_pos e2,if_pos (by omega)];omega
     ·rw [if_neg e2,if_neg (by omega)];rfl
theorem aqk (bs:List aG) (w:List Int) :∀m,m≤bs.length→dQ (fun j=>w.getD j 0) (pos bs m)=w.getD 0 0+dQ (val bs w) m:=by
 intro m
 induction m with
 |zero=>intro _;rw [Kv];simp [dQ]
 |succ m ih=>
  intro hm
  have ih:=ih (by omega)
  rw [yX (by omega)]
  simp only [dQ]
  unfold val
  by_cases h3:(bs.getD m ah).aA=3
  ·rw [if_pos h3,if_pos h3,WK,ih];unfold val;omega
  ·rw [if_neg h3,if_neg h3]
   by_cases h2:(bs.getD m ah).aA=2
   ·rw [if_pos h2,if_pos h2];simp only [dQ];rw [ih];unfold val;omega
   ·rw [if_neg h2,if_neg h2];simp only [dQ];rw [ih];unfold val;omega
theorem Nu (n:Nat) :∀(l:List aG) (k:Nat),∀e∈(l.foldl (zI n) (k,[])).2,∃i:Nat,i<l.length∧(l.getD i ah).aA=3∧e=dn.mk (k+i:Nat) n
 | [],k=>by simp
 |t::l,k=>by
  intro e he
  have h1:((t::l).foldl (zI n) (k,[])).2=(if t.aA=3 then [dn.mk k n] else [])++(l.foldl (zI n) (k+1,[])).2:=by
   have:=Kr n l (k+1) (if t.aA=3 then [dn.mk k n] else []) []
   rw [VS] at this
   show (l.foldl (zI n) (k+1,[]++_)).2=_
   rw [K4,this]
  rw [h1] at he
  rcases X1.1 he with he | he
  ·split at he
   ·rename_i ht;rw [Qt] at he;exact ⟨0,by simp,ht,by rw [he];rfl⟩
   ·cases he
  ·obtain ⟨i,a1,a2,a3⟩:=Nu n l (k+1) e he
   exact ⟨i+1,by simp;omega,by simpa using a2,by rw [a3];congr 1;omega⟩
theorem agx {bs:List aG} {out w:List Int} (hE:Ends bs) (h0:0<bs.length) (ho:out.length=(aH bs).length) (hw:w=out.take (aI bs).length) (h :∀p,p<bs.length+1→oU (dQ (fun j=>inc (aH bs) p j (out.getD j 0)) (aH bs).length) 0) :
  ∀b,b<bs.length→(bs.getD b ah).aA≠3→oU (brings bs w b (aI bs).length) (val bs w b):=by
 intro b hb h3
 have hLL:(aH bs).length=(aI bs).length+(mZ bs).length:=by unfold aH;rw [Z0,Z3]
 have h1:=h b (by omega)
 rw [hLL,Ky,gy (f:=fun j=>inc (aH bs) b ((aI bs).length+j) (out.getD ((aI bs).length+j) 0)) (g:=fun _=>0) fun j hj => ?_,gK] at h1
 ·have h2:=leaves w hb bs.length (YY _)
  rw [PI,if_pos hb] at h2
  have hg :∀j,j<(aI bs).length→w.getD j 0=out.getD j 0:=by
   intro j hj
   rw [hw,List.getD_eq_getElem?_getD,List.getElem?_take_of_lt hj,←List.getD_eq_getElem?_getD]
  have h4:dQ (fun j=>inc (aH bs) b j (out.getD j 0)) (aI bs).length+dQ (fun j=>if fr (aH bs) j=b then w.getD j 0 else 0) (aI bs).length=brings bs w b (aI bs).length:=by
   unfold brings
   rw [←nT]
   refine gy fun j hj => ?_
   unfold inc
   rw [hg j hj];omega
  unfold oU at *;omega
 ·have hR:(aI bs).length+j-(aI bs).length<(mZ bs).length:=by omega
  have e:=Dz (bs:=bs) (j:=(aI bs).length+j) (by omega) hR
  obtain ⟨q,q1,q2,q3⟩:=Nu bs.length bs 0 _ (XX hR)
  have q3:(mZ bs)[(aI bs).length+j-(aI bs).length]=dn.mk (0+q:Nat) bs.length:=q3
  unfold inc fr to
  rw [e,q3]
  simp only [QP]
  rw [if_neg (by omega),if_neg fun e=>h3 (by rw [←e,We];exact q2)];rfl
theorem ZK {l m:List Int} (hl:l.length≤4000000000) (hn:l.length=m.length) (h :∀i,i<l.length→l.getD i 0=m.getD i 0):f40 l m=some true:=by
 apply ok_eq
 unfold f40
 refine pU (by simp [hn]) (pV (fun _=>True) ?_ fun _ _=>aC rfl)
 refine bI (fun s:Int=>0≤s∧s≤l.length) (fun s=>l.length-s.toNat) ⟨by simp,by simp⟩ fun s ⟨e1,e2⟩ => ?_
 refine bJ (fun hi => ?_) (fun hi=>aC trivial)
 have hi:s<l.length:=by simpa using hi
 refine bC (aj.2 ⟨by omega,by omega⟩) (bC (aj.2 ⟨by omega,by omega⟩) (pU (by rw [h _ (by omega)];simp) (aC ⟨⟨by rw [aO (by omega)];omega,by rw [aO (by omega)];omega⟩,by rw [aO (by omega)];omega⟩)))
theorem PK {nm:List UInt8} {a b:Int} {bs:List aG} {w:List Int} {y:Int×Bool×List Int×List (Int×Int)} {si:List nR} (hl:bs.length≤1000000) (h0:0<bs.length) (hE:Ends bs) (hw:w.length=(aI bs).length) (hy:Cs bs w y) (hok:y.2.1=true)
  (hf :∀b,b<bs.length→(bs.getD b ah).aA≠3→oU (brings bs w b (aI bs).length) (val bs w b)):f27 nm a b bs y.1 y.2.2.1 y.2.2.2 si (List.replicate bs.length 0)=some true:=by
 apply ok_eq
 obtain ⟨ent,ok,bl,ed⟩:=y
 obtain ⟨c1,c2,c3,c4,c5,c6,c7⟩:=hy
 simp only at c1 c2 c3 c4 c5 c6 c7 hok
 obtain ⟨k1,k2⟩:=c7 hok
 obtain ⟨w1,hw1⟩:=oM bs
 have hW:0<(aI bs).length:=by rw [hw1];simp
 have hw0:=k1 0 hW
 have hgS :∀p,(List.replicate bs.length (0:Int)).getD p 0=0:=fun p=>by
  rw [List.getD_eq_getElem?_getD]
  by_cases h:p<bs.length
  ·simp [h]
  ·rw [Wg (by simp;omega)];rfl
 have hcnt :∀v,Cnt v→I64 v∧b_ v=v:=fun v h=>by unfold Cnt at h;exact ⟨by unfold I64;omega,aO (by omega)⟩
 have aql:=fun m hm=>VW (bs:=bs) (m:=m) hm
 unfold f27
 dsimp only
 refine bC (jL.2 (by omega)) (bC (aj.2 ⟨by omega,by simp;omega⟩) ?_)
 refine pV (fun y=>y.1=ent∧(oU y.2.1 (dQ (fun b=>if (bs.getD b ah).aA=3 then bl.getD b 0 else 0) bs.length)∧I64 y.2.1)∧y.2.2.length=bs.length∧∀p,p<bs.length→oU (y.2.2.getD p 0) (brings bs w p (aI bs).length)∧I64 (y.2.2.getD p 0)) ?_ fun y ⟨y1,⟨y2,y3⟩,y4,y5⟩ => ?_
 ·refine bI (fun s:Int×Int×Int×List Int =>∃i:Nat,s.2.2.1=i∧i≤bs.length∧s.1=ent∧(oU s.2.1 (dQ (fun b=>if (bs.getD b ah).aA=3 then bl.getD b 0 else 0) i)∧I64 s.2.1)∧s.2.2.2.length=bs.length∧∀p,p<bs.length→oU (s.2.2.2.getD p 0) (brings bs w p (pos bs i))∧I64 (s.2.2.2.getD p 0)) (fun s=>bs.length-s.2.2.1.toNat)
   ⟨0,rfl,by omega,rfl,⟨rfl,by unfold I64;simp⟩,by simp,fun p hp => ?_⟩ fun s ⟨i,e1,e2,e3,⟨e4,e4'⟩,e5,e6⟩ => ?_
  ·simp only
   rw [show ((0:Int)).toNat=0 from rfl,bM (by simp;omega)]
   unfold brings
   rw [Kv]
   simp only [dQ]
   rw [Kz.2,c1]
   by_cases e:p=0
   ·subst e;rw [if_pos rfl,if_pos rfl];exact ⟨by unfold oU;omega,(hcnt _ hw0).1⟩
   ·rw [if_neg e,if_neg fun e'=>e e'.symm,QP,hgS];exact ⟨rfl,by unfold I64;omega⟩
  obtain ⟨o,rt,i',ar⟩:=s
  simp only at e1 e3 e4 e4' e5 e6
  subst e1;subst e3
  refine bJ (fun hi => ?_) (fun hi=>aC ?_)
  rotate_left
  ·have:i=bs.length:=by simp at hi;omega
   subst this
   rw [PI] at e6
   exact ⟨rfl,⟨e4,e4'⟩,e5,e6⟩
  have hi:i<bs.length:=by simpa using hi
  have hrl:(List.replicate bs.length (0:Int)).length=bs.length:=by simp
  have hent:b_ (o-0)=o:=by rw [Int.sub_zero,c1];exact (hcnt _ hw0).2
  refine pV (fun y=>y.1=o∧(oU y.2.1 (dQ (fun b=>if (bs.getD b ah).aA=3 then bl.getD b 0 else 0) (i+1))∧I64 y.2.1)∧y.2.2.length=bs.length∧∀p,p<bs.length→oU (y.2.2.getD p 0) (brings bs w p (pos bs (i+1)))∧I64 (y.2.2.getD p 0)) ?_ fun y ⟨y1,y2,y3,y4⟩=>aC ⟨⟨i+1,by simp only;rw [aO (by omega)];simp,by omega,y1,y2,y3,y4⟩,by simp only;rw [aO (by omega)];omega⟩
  refine bC (aj.2 ⟨by simp only;omega,by simp only;omega⟩) (bC (aj.2 ⟨by simp only;omega,by simp only;omega⟩) ?_)
  simp only [QP,hgS,hent]
  have hps:=yX hi
  have hbi:=k2 i hi
  refine bJ (fun h3 => ?_) (fun h3 => ?_)
  ·have h3:(bs.getD i ah).aA=3:=by simpa using h3
   refine bC (aj.2 ⟨by omega,by omega⟩) (bC (aj.2 ⟨by omega,by omega⟩) (aC ⟨rfl,⟨?_,qm _⟩,e5,?_⟩))
   ·rw [Int.sub_zero,(hcnt _ hbi).2]
    simp only [dQ,if_pos h3]
    have:=Ae (rt+bl.getD i 0)
    unfold oU at *;omega
   ·rw [hps,if_pos h3];exact e6
  ·have h3:(bs.getD i ah).aA≠3:=by simpa using h3
   obtain ⟨r1,r2⟩:=(hE i hi).1 h3
   obtain ⟨l1,l2⟩:=Yi hi h3
   have hp1:=(Kw hi h3).2
   have he0:=c5 i hi
   rw [if_neg h3] at he0
   have hc0:=k1 _ hp1
   have hbv:=hf i hi h3
   have hs:=(c4 i hi).1
   refine bC (aj.2 ⟨by omega,by omega⟩) (bC (aj.2 ⟨by omega,by omega⟩) (bC (aj.2 ⟨by omega,by omega⟩) (bC (aj.2 ⟨by omega,by omega⟩) ?_)))
   rw [he0,←l2]
   have hto:to (aH bs) (pos bs i)<bs.length:=by rw [l2];omega
   have ha1 :∀p,p<bs.length→oU ((ar.set (to (aH bs) (pos bs i)) (b_ (ar.getD (to (aH bs) (pos bs i)) 0+w.getD (pos bs i) 0))).getD p 0) (brings bs w p (pos bs i+1))∧I64 ((ar.set (to (aH bs) (pos bs i)) (b_ (ar.getD (to (aH bs) (pos bs i)) 0+w.getD (pos bs i) 0))).getD p 0):=by
    intro p hp
    rw [bM (by omega)]
    unfold brings
    simp only [dQ]
    have:=e6 p hp
    unfold brings at this
    by_cases e:p=to (aH bs) (pos bs i)
    ·subst e;rw [if_pos rfl,if_pos rfl]
     have m:=Ae (ar.getD (to (aH bs) (pos bs i)) 0+w.getD (pos bs i) 0)
     refine ⟨?_,qm _⟩
     have:=this.1
     unfold oU at *;omega
    ·rw [if_neg e,if_neg fun e'=>e e'.symm,KB];exact this
   generalize aqm:ar.set (to (aH bs) (pos bs i)) (b_ (ar.getD (to (aH bs) (pos bs i)) 0+w.getD (pos bs i) 0))=ar1 at ha1
   have hl1:ar1.length=bs.length:=by rw [←aqm];simp [e5]
   refine bF (fun y=>y.1=b_ (val bs w i)∧y.2.length=bs.length∧∀p,p<bs.length→oU (y.2.getD p 0) (brings bs w p (pos bs (i+1)))∧I64 (y.2.getD p 0)) ?_ fun y ⟨z1,z2,z3⟩ => ?_
   ·refine bJ (fun h2 => ?_) (fun h2=>aC ⟨?_,hl1,?_⟩)
    ·have h2:(bs.getD i ah).aA=2:=by simpa using h2
     obtain ⟨r3,r4⟩:=(hE i hi).2 h2
     obtain ⟨l3,l4⟩:=Ns hi h2
     have hp2:=(yY hi h2).2
     have he1:=c6 i hi
     rw [if_pos h2] at he1
     refine bC (aj.2 ⟨by omega,by omega⟩) (bC (aj.2 ⟨by omega,by omega⟩) (bC (aj.2 ⟨by omega,by omega⟩) (bC (aj.2 ⟨by omega,by omega⟩) (aC ⟨?_,by simp [hl1],?_⟩))))
     ·rw [he1];unfold val;rw [if_neg h3,if_pos h2]
     ·intro p hp
      rw [hps,if_neg h3,if_pos h2,he1,←l4,bM (by rw [l4];omega)]
      unfold brings
      rw [show pos bs i+2=(pos bs i+1)+1 from rfl]
      have:=ha1 p hp
      unfold brings at this
      rw [dQ]
      by_cases e:p=to (aH bs) (pos bs i+1)
      ·subst e;rw [if_pos rfl,if_pos rfl]
       have m:=Ae (ar1.getD (to (aH bs) (pos bs i+1)) 0+w.getD (pos bs i+1) 0)
       refine ⟨?_,qm _⟩
       have:=this.1
       unfold oU at *;omega
      ·rw [if_neg e,if_neg fun e'=>e e'.symm,KB];exact this
    ·have h2:¬ (bs.getD i ah).aA=2:=by simpa using h2
     unfold val
     rw [if_neg h3,if_neg h2,KB]
     exact ((hcnt _ hc0).2).symm
    ·have h2:¬ (bs.getD i ah).aA=2:=by simpa using h2
     rw [hps,if_neg h3,if_neg h2];exact ha1
   refine bC (aj.2 ⟨by omega,by omega⟩) (bC (aj.2 ⟨by omega,by omega⟩) (pU ?_ (aC ⟨rfl,⟨?_,e4'⟩,z2,z3⟩)))
   ·have hm:=Ae (val bs w i)
    have hi64:=qm (val bs w i)
    have:y.1=bl.getD i 0:=by
     rw [z1]
     refine DC ?_ hi64 (hcnt _ hbi).1
     unfold oU at *;omega
    rw [this,KB,(hcnt _ hbi).2];simp
   ·simp only [dQ,if_neg h3];rw [KB];exact e4
 ·obtain ⟨o,rt,ar⟩:=y
  simp only at y1 y2 y3 y4 y5
  refine bF (fun y=>y=true) ?_ fun y hy=>aC hy
  refine oP (ZK (l:=ar) (m:=bl) (by omega) (by omega) fun i hi => ?_) (goT rfl (aC ?_))
  ·have a1:=y5 i (by omega)
   have a2:=c4 i (by omega)
   refine DC ?_ a1.2 a2.2
   have a1:=a1.1;have a2:=a2.1
   unfold oU at *;omega
  ·simp only
   refine decide_eq_true ?_
   rw [y1,c1]
   refine DC ?_ (hcnt _ hw0).1 y3
   have hs1:=aqk bs w bs.length (YY _)
   rw [PI] at hs1
   have hs2:dQ (fun p=>brings bs w p (aI bs).length) bs.length=dQ (fun j=>w.getD j 0) (aI bs).length:=by
    unfold brings
    rw [EL]
    refine gy fun j hj=>yU ?_
    have:=ac9 hE h0 hj
    unfold to;omega
   have hs3 :∀m,m≤bs.length→oU (dQ (fun b=>if (bs.getD b ah).aA=3 then bl.getD b 0 else 0) m+dQ (val bs w) m) (dQ (fun p=>brings bs w p (aI bs).length) m):=by
    intro m
    induction m with
    |zero=>intro _;rfl
    |succ m ih=>
     intro hm
     have ih:=ih (by omega)
     have a2:=(c4 m (by omega)).1
     simp only [dQ]
     by_cases h3:(bs.getD m ah).aA=3
     ·rw [if_pos h3]
      have:val bs w m=0:=by unfold val;rw [if_pos h3]
      rw [this]
      unfold oU at *;omega
     ·rw [if_neg h3]
      have a3:=hf m (by omega) h3
      unfold oU at *;omega
   have hs3:=hs3 bs.length (YY _)
   rw [hs2,hs1] at hs3
   unfold oU at *;omega
theorem ac_ {g:List aW} {fs:List aF} {a b:Int} {nm:List UInt8} {c d:Int} {bs:List aG}:f26 g fs a b nm c d bs []=some true:=by
 apply ok_eq
 unfold f26
 refine pV (fun _=>True) ?_ fun _ _=>aC rfl
 refine bI (fun s:Int=>s=0) (fun s=>0) rfl fun s hs => ?_
 subst hs
 exact pU (by simp) (aC trivial)
def Right (f:aF) (y:Int×Bool×List Int×List (Int×Int)) (w:List Int):Prop:=Cs f.blocks w y∧y.2.1=true∧w.length=(aI f.blocks).length∧∀b,b<f.blocks.length→(f.blocks.getD b ah).aA≠3→oU (brings f.blocks w b (aI f.blocks).length) (val f.blocks w b)
def VX (f:aF) (c:dw):Prop :=∃y w,Right f y w∧c=dw.mk y.1 y.2.2.1 y.2.2.2 []
theorem agy {g:List aW} {fs:List aF} {a b:Int} {cs:List dw} (hG :∀f∈fs,Good f) (hm:fs.length≤1000) (hc:cs.length=fs.length) (h :∀i,i<fs.length→VX (fs.getD i ak) (cs.getD i dS)):f13 g fs a b cs=some true:=by
 apply ok_eq
 unfold f13
 refine pU (by simp [hc]) (pV (fun _=>True) ?_ fun _ _=>aC rfl)
 refine bI (fun s:Int =>∃i:Nat,s=i∧i≤fs.length) (fun s=>fs.length-s.toNat) ⟨0,rfl,by omega⟩ fun s ⟨i,e1,e2⟩ => ?_
 subst e1
 refine bJ (fun hi => ?_) (fun hi=>aC trivial)
 have hi:i<fs.length:=by simpa using hi
 refine bC (aj.2 ⟨by omega,by omega⟩) (bC (aj.2 ⟨by omega,by omega⟩) ?_)
 simp only [QP]
 obtain ⟨⟨ent,ok,bl,ed⟩,w,⟨⟨c1,c2,c3,c4,c5,c6,c7⟩,hok,hw,hf⟩,hce⟩:=h i hi
 have hg:=hG _ (by rw [getD_at _ hi];exact XX hi:fs.getD i ak∈fs)
 have r1:(cs.getD i dS).entries=ent:=by rw [hce]
 have r2:(cs.getD i dS).blocks=bl:=by rw [hce]
 have r3:(cs.getD i dS).edges=ed:=by rw [hce]
 have r4:(cs.getD i dS).sites=[]:=by rw [hce]
 simp only [r1,r2,r3,r4]
 clear r1 r2 r3 r4 hce
 obtain ⟨f,hfe⟩ :∃f,fs.getD i ak=f:=⟨_,rfl⟩
 simp only [hfe] at c1 c2 c3 c4 c5 c6 c7 hok hw hf hg ⊢
 obtain ⟨k1,k2⟩:=c7 hok
 obtain ⟨w1,hw1⟩:=oM f.blocks
 have hW:0<(aI f.blocks).length:=by rw [hw1];simp
 have hct :∀v,Cnt v→f25 v=some true:=fun v h=>by rw [amh];exact congrArg some (decide_eq_true h)
 have hb:=hg.1
 refine bF (fun y=>y=false) ?_ fun y hy => ?_
 ·refine pU (by simp [c2]) (pU (by simp [c3]) (oP (hct _ (by rw [c1];exact k1 0 hW)) (pU rfl (oP ac_ (aC rfl)))))
 subst hy
 refine pU rfl (pV (fun _=>True) ?_ fun _ _=>aC ⟨⟨i+1,by rw [aO (by omega)];simp,by omega⟩,by rw [aO (by omega)];omega⟩)
 refine bI (fun s:Int =>∃i:Nat,s=i∧i≤f.blocks.length) (fun s=>f.blocks.length-s.toNat) ⟨0,rfl,by omega⟩ fun s ⟨j,e1,e2⟩ => ?_
 subst e1
 refine bJ (fun hj => ?_) (fun hj=>aC trivial)
 have hj:j<f.blocks.length:=by simpa using hj
 refine bC (aj.2 ⟨by omega,by omega⟩) ?_
 simp only [QP]
 have z:=c5 j hj
 have z':=c6 j hj
 have hz:Cnt 0:=by unfold Cnt;omega
 have v0:Cnt (ed.getD j (0,0)).1:=by
  rw [z];split
  ·exact hz
  ·rename_i h3;exact k1 _ (Kw hj h3).2
 have v1:Cnt (ed.getD j (0,0)).2:=by
  rw [z'];split
  ·rename_i h2;exact k1 _ (yY hj h2).2
  ·exact hz
 refine bF (fun y=>y=false) ?_ fun y hy => ?_
 ·refine bC (aj.2 ⟨by omega,by omega⟩) (oP (hct _ (k2 j hj)) (pU rfl (bC (aj.2 ⟨by omega,by omega⟩) (oP (hct _ v0) (pU rfl (bC (aj.2 ⟨by omega,by omega⟩) (oP (hct _ v1) (pU rfl ?_))))))))
  refine bJ (fun h2 => ?_) (fun h2 => ?_)
  ·have h2:¬ (f.blocks.getD j ah).aA=2:=by simpa using h2
   rw [if_neg h2] at z'
   refine bC (aj.2 ⟨by omega,by omega⟩) (pU (by rw [qu];exact decide_eq_true z') ?_)
   refine bJ (fun h3 => ?_) (fun h3=>aC rfl)
   have h3:(f.blocks.getD j ah).aA=3:=by simpa using h3
   rw [if_pos h3] at z
   exact bC (aj.2 ⟨by omega,by omega⟩) (aC (by rw [qu];exact decide_eq_true z))
  ·have h2:(f.blocks.getD j ah).aA=2:=by simpa using h2
   exact pU rfl (pU (decide_eq_false (by omega)) (aC rfl))
 subst hy
 exact pU rfl (aC ⟨⟨j+1,by rw [aO (by omega)];simp,by omega⟩,by rw [aO (by omega)];omega⟩)
theorem ada {nm:List UInt8} {a b:Int} {bs:List aG} {i:Int} (hl:bs.length≤1000000):f28 nm a b bs i []=some (List.replicate bs.length 0):=by
 apply ok_eq
 unfold f28
 dsimp only
 refine bC (jL.2 (by omega)) (bF (fun y=>y=List.replicate bs.length 0) ?_ fun y hy=>aC hy)
 refine bI (fun s:Int×List Int=>s=((0:Int),List.replicate bs.length 0)) (fun s=>0) (by simp) fun s hs => ?_
 subst hs
 exact pU (by simp) (aC rfl)
theorem VY {g:List aW} {fs:List aF} {a b c d e:Int} {o:List Int} {k:Int} {o2:List Int} {cs:List dw} (hG :∀f∈fs,Good f) (hm:fs.length≤1000) (hc:cs.length=fs.length) (h :∀i,i<fs.length→VX (fs.getD i ak) (cs.getD i dS)) :
  f14 g fs a b c d e o cs k [] o2=some true:=by
 apply ok_eq
 unfold f14
 refine pV (fun _=>True) ?_ fun _ _=>aC rfl
 refine bI (fun s:Int =>∃i:Nat,s=i∧i≤fs.length) (fun s=>fs.length-s.toNat) ⟨0,rfl,by omega⟩ fun s ⟨i,e1,e2⟩ => ?_
 subst e1
 refine bJ (fun hi => ?_) (fun hi=>aC trivial)
 have hi:i<fs.length:=by simpa using hi
 refine bC (aj.2 ⟨by omega,by omega⟩) (bC (aj.2 ⟨by omega,by omega⟩) (bC (aj.2 ⟨by omega,by omega⟩) ?_))
 simp only [QP]
 obtain ⟨y,w,⟨q1,q2,q3,q4⟩,hce⟩:=h i hi
 have hg:=hG _ (by rw [getD_at _ hi];exact XX hi:fs.getD i ak∈fs)
 generalize cs.getD i dS=c at hce ⊢
 subst hce
 generalize fs.getD i ak=f at *
 have hb:=hg.1
 refine oP (ada (by omega)) (oP (PK (by omega) hg.2.1 hg.2.2.1.1 q3 q1 q2 q4) (pU rfl (aC ⟨⟨i+1,by rw [aO (by omega)];simp,by omega⟩,by rw [aO (by omega)];omega⟩)))
theorem KA {l:List Bool} {i:Nat} {p:Bool} (h:i<l.length):(l.take (i+1)).count p=(l.take i).count p+if l.getD i false==p then 1 else 0:=by
 rw [take_snoc h,List.count_append,getD_at _ h]
 simp [List.count_cons]
theorem KC :∀l:List Bool,l.count true+l.count false=l.length
 | []=>rfl
 |b::l=>by
  have:=KC l
  cases b<;>simp [List.count_cons]<;>omega
theorem Yj {nm:List UInt8} {a b:Int} {bs:List aG} {p:Bool} {ins:List Bool} (hl:bs.length≤1000000) (hins:f21 nm a b bs=some ins) (hle:(aI bs).length≤ins.length) :
  Ok (f17 nm a b bs p) fun l=>l.length=(ins.take (aI bs).length).count p∧∀w∈l,∃x∈aI bs,w.way=x.way:=by
 have hw:=oQ (nm:=nm) (a:=a) (b:=b) hl
 unfold f17
 refine oP hins (oP hw.1 ?_)
 refine bF (fun l=>l.length=(ins.take (aI bs).length).count p∧∀w∈l,∃x∈aI bs,w.way=x.way) ?_ fun y hy=>aC hy
 refine Bz (aI bs) (fun i s=>(i,s.2)) (fun s w=>(s.1+1,if ins.getD s.1 false==p then s.2++[aJ.mk w.func w.block w.way] else s.2)) (fun i s=>s.1=i∧s.2.length=(ins.take i).count p∧∀w∈s.2,∃x∈aI bs,w.way=x.way) (s0:=((0:Nat),([]:List aJ))) rfl ⟨rfl,by simp,by simp⟩ (fun i h s ⟨h1,h2,h3⟩ _ => ?_) (fun s ⟨h1,h2,h3⟩ hs => ?_)
 ·obtain ⟨j,l⟩:=s
  simp only at h1 h2 h3
  subst j
  have hc:(ins.take i).count p≤i:=by
   have:=List.count_le_length (a:=p) (l:=ins.take i)
   rw [WP] at this;omega
  refine goT (decide_eq_true (by simp only;omega)) (bC (aj.2 ⟨by simp only;omega,by simp only;omega⟩) (bC (aj.2 ⟨by simp only;omega,by simp only;omega⟩) ?_))
  have e:(aI bs).getD i (aJ.mk 0 0 0)=(aI bs)[i]:=getD_at _ h
  simp only [QP,e]
  refine bF (fun y=>y=if ins.getD i false==p then l++[aJ.mk (aI bs)[i].func (aI bs)[i].block (aI bs)[i].way] else l) ?_ fun y hy => ?_
  ·refine bJ (fun hc => ?_) (fun hc => ?_)
   ·refine bC (EK (by simp;omega)) (aC ?_)
    rw [if_pos hc]
   ·refine aC ?_
    rw [if_neg (by rw [hc];simp)]
  ·subst hy
   refine aC ⟨by rw [aO (by omega)],by first | rfl | trivial,?_,?_⟩
   ·rw [KA (by omega)]
    split<;>simp [h2]
   ·intro w hw
    split at hw
    ·rcases X1.1 hw with hw | hw
     ·exact h3 w hw
     ·rw [Qt] at hw
      exact ⟨_,XX h,by rw [hw]⟩
    ·exact h3 w hw
 ·exact pU (decide_eq_false (by simp only;omega)) (aC ⟨h2,h3⟩)
def own (f:aF):Nat:=(aI f.blocks).length+wK f.blocks-f.blocks.length
theorem ahp {f:aF} (h:Good f):(∃l,f17 f.name f.params f.regs f.blocks true=some l∧l.length+wK f.blocks=f.blocks.length)∧(∃l,f17 f.name f.params f.regs f.blocks false=some l∧l.length=own f∧∀w∈l,∃x∈aI f.blocks,w.way=x.way)∧
  f.blocks.length≤(aI f.blocks).length+wK f.blocks∧(aI f.blocks).length≤2001∧wK f.blocks≤f.blocks.length:=by
 obtain ⟨h1,h2,h3,h4⟩:=h
 obtain ⟨ins,hins,hlen,hcnt,_⟩:=Ye (nm:=f.name) (a:=f.params) (b:=f.regs) (by omega) h2 h3.1 h4
 have hw:=oQ (nm:=f.name) (a:=f.params) (b:=f.regs) (bs:=f.blocks) (by omega)
 have hle:(aI f.blocks).length≤ins.length:=by rw [hlen];unfold aH;simp
 obtain ⟨l1,e1,q1,_⟩:=Yj (p:=true) (by omega) hins hle
 obtain ⟨l2,e2,q2,q2'⟩:=Yj (p:=false) (by omega) hins hle
 have hsum:=KC (ins.take (aI f.blocks).length)
 rw [WP,Kn hle] at hsum
 have hr:wK f.blocks≤f.blocks.length:=Kd
 refine ⟨⟨l1,e1,by omega⟩,⟨l2,e2,by unfold own;omega,q2'⟩,by omega,by omega,hr⟩
def wM (fs:List aF):Nat:=(fs.map own).sum
theorem Tn {fs:List aF} {i:Nat} (h:i<fs.length):wM (fs.take (i+1))=wM (fs.take i)+own fs[i]:=by
 unfold wM;rw [take_snoc h]
 simp only [Z1,Qf,Uv,List.sum_append,List.sum_cons,List.sum_nil,WK]
theorem adb {f:aF} (h:Good f):own f≤3001:=by
 have:=ahp h;unfold own;omega
theorem ade {fs:List aF} (h :∀f∈fs,Good f) :∀i,i≤fs.length→wM (fs.take i)≤3001*i
 |0,_=>by simp [wM]
 |i+1,hi=>by
  rw [Tn (by omega)]
  have:=ade h i (by omega)
  have:=adb (h _ (XX (by omega:i<fs.length)))
  omega
def pf (j:Nat) (w:aJ):Bool:=decide (w.func=j)
theorem ZL {gl:List aW} {fs:List aF} {a b:Int} (hG :∀f∈fs,Good f) (hm:fs.length≤1000) :
  Ok (f8 gl fs a b) fun l=>l.length=wM fs∧(∀j,(hj:j<fs.length)→l.countP (pf j)=own fs[j])∧∀w∈l,∃f∈fs,∃x∈aI f.blocks,w.way=x.way:=by
 unfold f8
 refine bF (fun l=>l.length=wM fs∧(∀j,(hj:j<fs.length)→l.countP (pf j)=own fs[j])∧∀w∈l,∃f∈fs,∃x∈aI f.blocks,w.way=x.way) ?_ fun y hy=>aC hy
 refine bI (fun s:Int×List aJ =>∃i:Nat,s.1=i∧i≤fs.length∧s.2.length=wM (fs.take i)∧(∀j,(hj:j<fs.length)→j<i→s.2.countP (pf j)=own fs[j])∧(∀j,i≤j→s.2.countP (pf j)=0)∧∀w∈s.2,∃f∈fs,∃x∈aI f.blocks,w.way=x.way) (fun s=>fs.length-s.1.toNat)
  ⟨0,rfl,by omega,by simp [wM],fun j _ h=>by omega,fun j _=>rfl,by simp⟩ fun s ⟨i,e1,e2,e3,e4,e5,e6⟩ => ?_
 obtain ⟨i',acc⟩:=s
 simp only at e1 e3 e4 e5 e6
 subst e1
 refine bJ (fun hi => ?_) (fun hi=>aC ?_)
 rotate_left
 ·have:i=fs.length:=by simp at hi;omega
  subst this
  rw [VV] at e3
  exact ⟨e3,fun j hj=>e4 j hj hj,e6⟩
 have hi:i<fs.length:=by simpa using hi
 have hg:=hG _ (XX hi)
 obtain ⟨_,⟨l,hl,hll,hlw⟩,_⟩:=ahp hg
 have ho:=adb hg
 have hs:=ade hG i e2
 refine bC (aj.2 ⟨by simp only;omega,by simp only;omega⟩) ?_
 have e:fs.getD i ak=fs[i]:=getD_at _ hi
 simp only [QP,e]
 refine oP hl ?_
 refine bF (fun y=>y=acc++l.map fun w=>aJ.mk i w.block w.way) ?_ fun y hy => ?_
 ·refine Bz l (fun k s=>(k,s)) (fun s w=>s++[aJ.mk i w.block w.way]) (fun k s=>s.length=acc.length+k) (s0:=acc) rfl rfl (fun k h s h1 _ => ?_) (fun s h1 hs => ?_)
  ·refine goT (decide_eq_true (by simp only;omega)) (bC (aj.2 ⟨by simp only;omega,by simp only;omega⟩) ?_)
   have e:l.getD k (aJ.mk 0 0 0)=l[k]:=getD_at _ h
   simp only [QP,e]
   refine bC (EK (by simp;omega)) (aC ⟨by rw [aO (by omega)],by simp;omega⟩)
  ·refine pU (decide_eq_false (by simp only;omega)) (aC ?_)
   rw [hs]
   have :∀(l:List aJ) (s:List aJ),l.foldl (fun s w=>s++[aJ.mk (i:Int) w.block w.way]) s=s++l.map fun w=>aJ.mk i w.block w.way:=by
    intro l
    induction l with
    |nil=>intro s;simp
    |cons w l ih=>intro s;simp [ih]
   exact this l acc
 ·subst hy
  have hcm :∀j:Nat,(l.map fun w=>aJ.mk (i:Int) w.block w.way).countP (pf j)=if j=i then own fs[i] else 0:=by
   intro j
   rw [List.countP_map]
   by_cases h:j=i
   ·rw [if_pos h,←hll,List.countP_eq_length]
    intro w _;simp [pf,h]
   ·rw [if_neg h,List.countP_eq_zero]
    intro w _;simp [pf];omega
  refine aC ⟨⟨i+1,by rw [aO (by omega)];simp,by omega,by rw [Tn hi];simp;omega,fun j hj h => ?_,fun j h => ?_,fun w hw => ?_⟩,by simp only;rw [aO (by omega)];omega⟩
  ·simp only;rw [List.countP_append,hcm]
   by_cases h':j=i
   ·subst h';rw [if_pos rfl,e5 j (YY _)];omega
   ·rw [if_neg h',e4 j hj (by omega)];rfl
  ·simp only;rw [List.countP_append,hcm,if_neg (by omega),e5 j (by omega)]
  ·rcases X1.1 hw with hw | hw
   ·exact e6 w hw
   ·obtain ⟨w',hw',e⟩:=QQ.1 hw
    obtain ⟨x,hx,ex⟩:=hlw w' hw'
    exact ⟨fs[i],XX hi,x,hx,by rw [←e];exact ex⟩
theorem adf:f5=some true:=by
 apply ok_eq
 unfold f5
 have hgood:Good (aF.mk dX 0 1 [aG.mk ([]:(List fM)) 3 0 0 0 0 0 0]):=by
  refine ⟨by simp,by simp,⟨fun b hb => ?_,fun b hb => ?_⟩,fun S h0 _ b hb => ?_⟩
  ·have:b=0:=by simp at hb;exact hb
   subst this
   simp
  ·have:b=0:=by simp at hb;exact hb
   subst this;exact .inr (.inr rfl)
  ·have:b=0:=by simp at hb;exact hb
   subst this;exact h0
 refine bF _ (ZL (gl:=iU) (a:=0) (b:=0) (fs:=[aF.mk dX 0 1 [aG.mk ([]:(List fM)) 3 0 0 0 0 0 0]]) (fun f hf=>by rw [Qt] at hf;rw [hf];exact hgood) (by simp)) fun c ⟨h1,_,h3⟩ => ?_
 have hone:c.length=1:=by rw [h1];rfl
 refine bF (fun y=>y=true) ?_ fun y hy=>aC hy
 refine goT (by simp [hone]) (bC (aj.2 (by omega)) ?_)
 have ac3:(c.getD 0 (aJ.mk 0 0 0)).way=2:=by
  have hm:c.getD 0 (aJ.mk 0 0 0)∈c:=by rw [getD_at _ (by omega:0<c.length)];exact XX _
  obtain ⟨f,hf,x,hx,e⟩:=h3 _ hm
  rw [Qt] at hf
  subst hf
  have:aI [aG.mk ([]:(List fM)) 3 0 0 0 0 0 0]=[aJ.mk 0 0 2]:=rfl
  rw [this,Qt] at hx
  rw [e,hx]
 refine goT (decide_eq_true ac3) (bC rfl (oP (oQ (by simp)).1 (aC ?_)))
 rfl
def cnt (ins:List Bool) (j:Nat):Nat:=(ins.take j).count false
theorem KD {ins:List Bool} {j:Nat} (h:j<ins.length):cnt ins (j+1)=cnt ins j+if ins.getD j false=false then 1 else 0:=by
 unfold cnt;rw [KA h];cases ins.getD j false<;>rfl
theorem cnt_le (ins:List Bool) (j:Nat):cnt ins j≤j:=by
 have:=List.count_le_length (a:=false) (l:=ins.take j)
 rw [WP] at this;unfold cnt;omega
noncomputable def jV (f:aF):List Bool:=(f21 f.name f.params f.regs f.blocks).getD []
structure Tr (f:aF):Prop where
 eq:f21 f.name f.params f.regs f.blocks=some (jV f)
 len:(jV f).length=(aH f.blocks).length
 all:(jV f).count true=f.blocks.length
 end' :∀j,(aI f.blocks).length≤j→j<(aH f.blocks).length→(jV f).getD j false=true
 fo :∃rep,For (aH f.blocks) (f.blocks.length+1) (jV f) rep
 le:(aI f.blocks).length≤(jV f).length
 ways:(aI f.blocks).length≤2001
theorem adg {f:aF} (h:Good f):Tr f:=by
 obtain ⟨h1,h2,h3,h4⟩:=h
 obtain ⟨ins,hins,q1,q2,q3,q4,q5⟩:=Ye (nm:=f.name) (a:=f.params) (b:=f.regs) (by omega) h2 h3.1 h4
 have hw:=oQ (nm:=f.name) (a:=f.params) (b:=f.regs) (bs:=f.blocks) (by omega)
 have e:jV f=ins:=by unfold jV;rw [hins];rfl
 exact ⟨by rw [e];exact hins,by rw [e];exact q1,by rw [e];exact q3,by rw [e];exact q4,by rw [e];exact q5,by rw [e,q1];unfold aH;simp,by omega⟩
theorem agz {f:aF} (h:Good f):Ok (f17 f.name f.params f.regs f.blocks false) fun l=>l.length=cnt (jV f) (aI f.blocks).length∧
  ∀r,r<l.length→∃j,j<(aI f.blocks).length∧(jV f).getD j false=false∧cnt (jV f) j=r∧l.getD r (aJ.mk 0 0 0)=(aI f.blocks).getD j (aJ.mk 0 0 0):=by
 have hT:=adg h
 have hw:=oQ (nm:=f.name) (a:=f.params) (b:=f.regs) (bs:=f.blocks) (by have:=h.1;omega)
 have hle:=hT.le;have hW:=hT.ways
 generalize hi:jV f=ins at hle ⊢
 unfold f17
 refine oP (hi▸hT.eq) (oP hw.1 ?_)
 refine bF (fun l=>l.length=cnt ins (aI f.blocks).length∧∀r,r<l.length→∃j,j<(aI f.blocks).length∧ins.getD j false=false∧cnt ins j=r∧l.getD r (aJ.mk 0 0 0)=(aI f.blocks).getD j (aJ.mk 0 0 0)) ?_ fun y hy=>aC hy
 refine bI (fun s:Int×List aJ =>∃i:Nat,s.1=i∧i≤(aI f.blocks).length∧s.2.length=cnt ins i∧∀r,r<s.2.length→∃j,j<i∧ins.getD j false=false∧cnt ins j=r∧s.2.getD r (aJ.mk 0 0 0)=(aI f.blocks).getD j (aJ.mk 0 0 0)) (fun s=>(aI f.blocks).length-s.1.toNat)
  ⟨0,rfl,by omega,rfl,fun r hr=>by simp at hr⟩ fun s ⟨i,e1,e2,e3,e4⟩ => ?_
 obtain ⟨i',l⟩:=s
 simp only at e1 e3 e4
 subst e1
 refine bJ (fun hi => ?_) (fun hi=>aC ?_)
 rotate_left
 ·have:i=(aI f.blocks).length:=by simp at hi;omega
  subst this;exact ⟨e3,e4⟩
 have hi:i<(aI f.blocks).length:=by simpa using hi
 have hcl:=cnt_le ins i
 refine bC (aj.2 ⟨by simp only;omega,by simp only;omega⟩) (bC (aj.2 ⟨by simp only;omega,by simp only;omega⟩) ?_)
 simp only [QP]
 have hcs:=KD (ins:=ins) (j:=i) (by omega)
 refine bF (fun y=>y=if ins.getD i false=false then l++[(aI f.blocks).getD i (aJ.mk 0 0 0)] else l) ?_ fun y hy => ?_
 ·refine bJ (fun hc => ?_) (fun hc=>aC ?_)
  ·have hc:ins.getD i false=false:=by simpa using hc
   refine bC (EK (by simp;omega)) (aC ?_)
   rw [if_pos hc]
  ·have hc:¬ ins.getD i false=false:=by simpa using hc
   rw [if_neg hc]
 subst hy
 refine aC ⟨⟨i+1,by simp only;rw [aO (by omega)];simp,by omega,?_,?_⟩,by simp only;rw [aO (by omega)];omega⟩
 ·by_cases hc:ins.getD i false=false
  ·rw [hcs,if_pos hc,if_pos hc];simp [e3]
  ·rw [hcs,if_neg hc,if_neg hc];exact e3
 ·by_cases hc:ins.getD i false=false
  ·rw [if_pos hc]
   intro r hr
   simp only [Z0,K0] at hr
   by_cases er:r<l.length
   ·obtain ⟨j,j1,j2,j3,j4⟩:=e4 r er
    exact ⟨j,by omega,j2,j3,by rw [←j4,List.getD_eq_getElem?_getD,Zs er,←List.getD_eq_getElem?_getD]⟩
   ·have:r=l.length:=by omega
    subst this
    exact ⟨i,by omega,hc,e3.symm,by rw [List.getD_eq_getElem?_getD,Z2 (YY _)];simp⟩
  ·rw [if_neg hc]
   intro r hr
   obtain ⟨j,j1,j2⟩:=e4 r hr
   exact ⟨j,by omega,j2⟩
noncomputable def ZM (f:aF):Nat:=cnt (jV f) (aI f.blocks).length
noncomputable def off (fs:List aF):Nat→Nat
 |0=>0
 |i+1=>off fs i+ZM (fs.getD i ak)
theorem Ht {fs:List aF} (hG :∀f∈fs,Good f) {i:Nat} (hi:i<fs.length):Good (fs.getD i ak):=hG _ (by rw [getD_at _ hi];exact XX hi)
theorem PN {fs:List aF} (hG :∀f∈fs,Good f) :∀i,i≤fs.length→off fs i≤2001*i
 |0,_=>by simp [off]
 |i+1,hi=>by
  have:=PN hG i (by omega)
  have h1:=(adg (Ht hG (by omega:i<fs.length))).ways
  have h2:=cnt_le (jV (fs.getD i ak)) (aI (fs.getD i ak).blocks).length
  simp only [off];unfold ZM;omega
theorem Tq {fs:List aF} (i:Nat) :∀k,off fs i≤off fs (i+k)
 |0=>YY _
 |k+1=>by have:=Tq (fs:=fs) i k;show _≤off fs (i+k)+_;omega
def At (fs:List aF) (q:Nat) (w:aJ) (i j:Nat):Prop:=i<fs.length∧j<(aI (fs.getD i ak).blocks).length∧(jV (fs.getD i ak)).getD j false=false∧q=off fs i+cnt (jV (fs.getD i ak)) j∧
 w=aJ.mk i ((aI (fs.getD i ak).blocks).getD j (aJ.mk 0 0 0)).block ((aI (fs.getD i ak).blocks).getD j (aJ.mk 0 0 0)).way
theorem Nv {gl:List aW} {fs:List aF} {a b:Int} (hG :∀f∈fs,Good f) (hm:fs.length≤1000) :
  Ok (f8 gl fs a b) fun l=>l.length=off fs fs.length∧∀q,q<l.length→∃i j,At fs q (l.getD q (aJ.mk 0 0 0)) i j:=by
 unfold f8
 refine bF (fun l=>l.length=off fs fs.length∧∀q,q<l.length→∃i j,At fs q (l.getD q (aJ.mk 0 0 0)) i j) ?_ fun y hy=>aC hy
 refine bI (fun s:Int×List aJ =>∃i:Nat,s.1=i∧i≤fs.length∧s.2.length=off fs i∧∀q,q<s.2.length→∃i j,At fs q (s.2.getD q (aJ.mk 0 0 0)) i j) (fun s=>fs.length-s.1.toNat)
  ⟨0,rfl,by omega,rfl,fun q hq=>by simp at hq⟩ fun s ⟨i,e1,e2,e3,e4⟩ => ?_
 obtain ⟨i',acc⟩:=s
 simp only at e1 e3 e4
 subst e1
 refine bJ (fun hi => ?_) (fun hi=>aC ?_)
 rotate_left
 ·have:i=fs.length:=by simp at hi;omega
  subst this;exact ⟨e3,e4⟩
 have hi:i<fs.length:=by simpa using hi
 have hg:=Ht hG hi
 have ho:=PN hG i e2
 have ho':=PN hG (i+1) (by omega)
 refine bC (aj.2 ⟨by simp only;omega,by simp only;omega⟩) ?_
 simp only [QP]
 refine bF _ (agz hg) fun l ⟨p1,p2⟩ => ?_
 have hoff:off fs (i+1)=off fs i+l.length:=by simp only [off];unfold ZM;rw [p1]
 refine bF (fun y=>y=acc++l.map fun w=>aJ.mk i w.block w.way) ?_ fun y hy => ?_
 ·refine Bz l (fun k s=>(k,s)) (fun s w=>s++[aJ.mk i w.block w.way]) (fun k s=>s.length=acc.length+k) (s0:=acc) rfl rfl (fun k h s h1 _ => ?_) (fun s h1 hs => ?_)
  ·refine goT (decide_eq_true (by simp only;omega)) (bC (aj.2 ⟨by simp only;omega,by simp only;omega⟩) ?_)
   have e:l.getD k (aJ.mk 0 0 0)=l[k]:=getD_at _ h
   simp only [QP,e]
   refine bC (EK (by simp;omega)) (aC ⟨by rw [aO (by omega)],by simp;omega⟩)
  ·refine pU (decide_eq_false (by simp only;omega)) (aC ?_)
   rw [hs]
   have :∀(l:List aJ) (s:List aJ),l.foldl (fun s w=>s++[aJ.mk (i:Int) w.block w.way]) s=s++l.map fun w=>aJ.mk i w.block w.way:=by
    intro l
    induction l with
    |nil=>intro s;simp
    |cons w l ih=>intro s;simp [ih]
   exact this l acc
 subst hy
 refine aC ⟨⟨i+1,by simp only;rw [aO (by omega)];simp,by omega,by rw [hoff];simp [e3],fun q hq => ?_⟩,by simp only;rw [aO (by omega)];omega⟩
 simp only [Z0,Z3] at hq
 by_cases eq:q<acc.length
 ·obtain ⟨i2,j2,h⟩:=e4 q eq
  refine ⟨i2,j2,?_⟩
  have:(acc++l.map fun w=>aJ.mk (i:Int) w.block w.way).getD q (aJ.mk 0 0 0)=acc.getD q (aJ.mk 0 0 0):=by
   rw [List.getD_eq_getElem?_getD,Zs eq,←List.getD_eq_getElem?_getD]
  rw [this];exact h
 ·obtain ⟨j,j1,j2,j3,j4⟩:=p2 (q-acc.length) (by omega)
  refine ⟨i,j,hi,j1,j2,by omega,?_⟩
  rw [List.getD_eq_getElem?_getD,Z2 (by omega),XS,Q2 (by omega:q-acc.length<l.length),←j4,getD_at _ (by omega:q-acc.length<l.length)];rfl
def Rec (fs:List aF) (x:List Int) (i:Nat) (c:dw):Prop :=∃y w,Right (fs.getD i ak) y w∧c=dw.mk y.1 y.2.2.1 y.2.2.2 []∧
 ∀j,j<(aI (fs.getD i ak).blocks).length→(jV (fs.getD i ak)).getD j false=false→w.getD j 0=x.getD (off fs i+cnt (jV (fs.getD i ak)) j) 0
theorem ZN {α:Type} {l:List α} {a z:Nat} {v d:α} (ha:a<l.length):(l.set a v).getD z d=if z=a then v else l.getD z d:=by
 rw [List.getD_eq_getElem?_getD,List.getD_eq_getElem?_getD]
 by_cases h:z=a
 ·subst h;rw [UV ha,if_pos rfl];rfl
 ·rw [VC (fun e=>h e.symm),if_neg h]
theorem ZO {l:List Int} {n k:Nat}:(l.drop n).getD k 0=l.getD (n+k) 0:=by
 rw [List.getD_eq_getElem?_getD,W5,←List.getD_eq_getElem?_getD]
theorem KE {gl:List aW} {fs:List aF} {a b:Int} {x:List Int} (hG :∀f∈fs,Good f) (hm:fs.length≤1000) (hx:x.length≤4000000) :
  Ok (f12 gl fs a b x []) fun y=>(y.1=21∧y.2=[])∨(y.1=0∧x.length=off fs fs.length∧y.2.length=fs.length∧∀i,i<fs.length→Rec fs x i (y.2.getD i dS)):=by
 unfold f12
 refine bF (fun y=>y=false→x.length=off fs fs.length) ?_ fun y hy => ?_
 ·refine bF _ (Nv hG hm) fun l ⟨h1,_⟩=>bJ (fun h=>aC fun h=>by cases h) fun h=>oP (amj (by omega)) (aC fun _ => ?_)
  have:(x.length:Int)=l.length:=by simpa using h
  omega
 refine bJ (fun h=>aC (.inl ⟨rfl,rfl⟩)) fun h => ?_
 have hxl:=hy h
 clear hy h
 dsimp only
 refine bC (jL.2 (by omega)) ?_
 refine bF (fun y=>y.length=fs.length∧∀i,i<fs.length→y.getD i eInt=List.replicate (fs.getD i ak).blocks.length 0) ?_ fun st ⟨st1,st2⟩ => ?_
 ·refine bI (fun s:Int×List (List Int) =>∃i:Nat,s.1=i∧i≤fs.length∧s.2.length=fs.length∧∀k,k<i→s.2.getD k eInt=List.replicate (fs.getD k ak).blocks.length 0) (fun s=>fs.length-s.1.toNat)
   ⟨0,rfl,by omega,by simp,fun k hk=>by omega⟩ fun s ⟨i,e1,e2,e3,e4⟩ => ?_
  obtain ⟨i',m⟩:=s
  simp only at e1 e3 e4
  subst e1
  refine bJ (fun hi => ?_) (fun hi=>aC ⟨e3,fun k hk=>e4 k (by simp at hi;omega)⟩)
  have hi:i<fs.length:=by simpa using hi
  have hg:=Ht hG hi
  have hgl:=hg.1
  refine bC (aj.2 ⟨by simp only;omega,by simp only;omega⟩) ?_
  simp only [QP]
  refine bC (jL.2 (by omega)) (bC (aj.2 ⟨by omega,by omega⟩) (aC ⟨⟨i+1,by simp only;rw [aO (by omega)];simp,by omega,by simp [e3],fun k hk => ?_⟩,by simp only;rw [aO (by omega)];omega⟩))
  simp only
  rw [ZN (by omega)]
  by_cases e:k=i
  ·subst e;rw [if_pos rfl]
  ·rw [if_neg e];exact e4 k (by omega)
 refine pV (fun y=>y=st) ?_ fun st' hst => ?_
 ·refine bI (fun s:Int×List (List Int)=>s=(0,st)) (fun s=>0) rfl fun s hs => ?_
  subst hs
  exact pU (by simp) (aC rfl)
 subst hst
 refine pV (fun y=>y.length=fs.length∧∀i,i<fs.length→Rec fs x i (y.getD i dS)) ?_ fun y hy=>aC (.inr ⟨rfl,hxl,hy⟩)
 refine bI (fun s:List Int×List (List Int)×Int×List dw =>∃i:Nat,s.2.2.1=i∧i≤fs.length∧s.1=x.drop (off fs i)∧s.2.1=st'∧s.2.2.2.length=i∧∀k,k<i→Rec fs x k (s.2.2.2.getD k dS)) (fun s=>fs.length-s.2.2.1.toNat)
  ⟨0,rfl,by omega,rfl,rfl,rfl,fun k hk=>by omega⟩ fun s ⟨i,e1,e2,e3,e4,e5,e6⟩ => ?_
 obtain ⟨cs,stp,i',out⟩:=s
 simp only at e1 e3 e4 e5 e6
 subst e1;subst e4
 refine bJ (fun hi => ?_) (fun hi=>aC ?_)
 rotate_left
 ·have:i=fs.length:=by simp at hi;omega
  subst this;exact ⟨e5,e6⟩
 have hi:i<fs.length:=by simpa using hi
 have hg:=Ht hG hi
 have hst:=st2 i hi
 have hom:off fs (i+1)≤x.length:=by
  rw [hxl]
  have:=Tq (fs:=fs) (i+1) (fs.length-(i+1))
  rwa [show i+1+(fs.length-(i+1))=fs.length from by omega] at this
 have hoff:off fs (i+1)=off fs i+ZM (fs.getD i ak):=rfl
 refine bC (aj.2 ⟨by simp only;omega,by simp only;omega⟩) ?_
 simp only [QP]
 obtain ⟨f,hfe⟩ :∃f,fs.getD i ak=f:=⟨_,rfl⟩
 have aqn :∀c,Rec fs x i c↔∃y w,Right f y w∧c=dw.mk y.1 y.2.2.1 y.2.2.2 []∧∀j,j<(aI f.blocks).length→(jV f).getD j false=false→w.getD j 0=x.getD (off fs i+cnt (jV f) j) 0:=by
  intro c;unfold Rec;rw [hfe]
 simp only [hfe] at hg hst hoff ⊢
 have hT:=adg hg
 have hb:=hg.1
 have hle:=hT.le;have hW:=hT.ways;have hil:=hT.len
 have hww:=oQ (nm:=f.name) (a:=f.params) (b:=f.regs) (bs:=f.blocks) (by omega)
 refine oP hww.1 ?_
 refine bC (jL.2 (by omega)) (oP hT.eq ?_)
 have hrl:(List.replicate (aI f.blocks).length (0:Int)).length=(aI f.blocks).length:=by simp
 refine bC (rC.2 ⟨⟨by omega,by omega⟩,by omega⟩) ?_
 refine bF (fun y=>y.1=x.drop (off fs (i+1))∧y.2.length=(aI f.blocks).length∧∀j,j<(aI f.blocks).length→(jV f).getD j false=false→y.2.getD j 0=x.getD (off fs i+cnt (jV f) j) 0) ?_ fun y ⟨k1,k2,k3⟩ => ?_
 ·refine bI (fun s:List Int×Int×List Int =>∃k:Nat,s.2.1=k∧k≤(aI f.blocks).length∧s.1=x.drop (off fs i+cnt (jV f) k)∧s.2.2.length=(aI f.blocks).length∧∀j,j<k→(jV f).getD j false=false→s.2.2.getD j 0=x.getD (off fs i+cnt (jV f) j) 0) (fun s=>(aI f.blocks).length-s.2.1.toNat)
   ⟨0,rfl,by omega,e3,by simp,fun j hj=>by omega⟩ fun s ⟨k,q1,q2,q3,q4,q5⟩ => ?_
  obtain ⟨c,k',kn⟩:=s
  simp only at q1 q3 q4 q5
  subst q1
  refine bJ (fun hk => ?_) (fun hk=>aC ?_)
  rotate_left
  ·have:k=(aI f.blocks).length:=by simp at hk;omega
   subst this
   exact ⟨by rw [hoff];exact q3,q4,q5⟩
  have hk:k<(aI f.blocks).length:=by simpa using hk
  have hcs:=KD (ins:=jV f) (j:=k) (by omega)
  have hct:cnt (jV f) (k+1)≤ZM f:=by
   have :∀d,cnt (jV f) (k+1)≤cnt (jV f) (k+1+d)∨(jV f).length<k+1+d:=by
    intro d
    induction d with
    |zero=>exact .inl (YY _)
    |succ d ih=>
     by_cases e:(jV f).length<k+1+(d+1)
     ·exact .inr e
     ·have:=KD (ins:=jV f) (j:=k+1+d) (by omega)
      rcases ih with ih | ih
      ·refine .inl ?_
       show _≤cnt (jV f) (k+1+d+1)
       omega
      ·omega
   have:=this ((aI f.blocks).length-(k+1))
   rw [show k+1+((aI f.blocks).length-(k+1))=(aI f.blocks).length from by omega] at this
   unfold ZM;omega
  refine bC (aj.2 ⟨by simp only;omega,by simp;omega⟩) ?_
  simp only [QP,Int.toNat_zero,We]
  refine bF (fun y=>y.1=x.drop (off fs i+cnt (jV f) (k+1))∧y.2.length=(aI f.blocks).length∧∀j,j<k+1→(jV f).getD j false=false→y.2.getD j 0=x.getD (off fs i+cnt (jV f) j) 0) ?_ fun y ⟨y1,y2,y3⟩=>
   aC ⟨⟨k+1,by simp only;rw [aO (by omega)];simp,by omega,y1,y2,y3⟩,by simp only;rw [aO (by omega)];omega⟩
  refine bJ (fun hf => ?_) (fun hf=>aC ⟨?_,q4,fun j hj hs => ?_⟩)
  ·have hf:(jV f).getD k false=false:=by simpa using hf
   rw [if_pos hf] at hcs
   have hcl:c.length=x.length-(off fs i+cnt (jV f) k):=by rw [q3,List.length_drop]
   refine bC (aj.2 ⟨by omega,by omega⟩) (bC (aj.2 ⟨by omega,by omega⟩) (bC (rC.2 ⟨⟨by omega,by omega⟩,by omega⟩) (aC ⟨?_,by simp [q4],fun j hj hs => ?_⟩)))
   ·rw [hcs,q3]
    simp only [VV]
    rw [List.drop_drop];rfl
   ·simp only
    rw [bM (by omega)]
    by_cases e:j=k
    ·subst e
     rw [if_pos rfl,q3,ZO];rfl
    ·rw [if_neg e];exact q5 j (by omega) hs
  ·have hf:¬ (jV f).getD k false=false:=by simpa using hf
   rw [if_neg hf] at hcs
   rw [hcs];exact q3
  ·by_cases e:j=k
   ·subst e;rw [hs] at hf;cases hf
   ·exact q5 j (by omega) hs
 obtain ⟨cs',kn⟩:=y
 simp only at k1 k2 k3
 obtain ⟨rep,hF⟩:=hT.fo
 refine bC (aj.2 ⟨by omega,by omega⟩) ?_
 rw [hst]
 refine bF _ (ac6 (by omega) hg.2.1 hg.2.2.1.1 hT.eq hT.len hT.all hT.end' hF k2) fun ou ⟨o1,o2,o3⟩ => ?_
 have hol:(aI f.blocks).length≤ou.length:=by omega
 have hLb:(aH f.blocks).length≤4000:=by
  have r1:(mZ f.blocks).length=wK f.blocks:=(uX f.blocks.length f.blocks 0).2.2
  have r2:wK f.blocks≤f.blocks.length:=Kd
  unfold aH
  rw [Z0,Z3,r1];omega
 simp only [k2,QP,Int.toNat_zero,List.drop_zero]
 refine bC (rC.2 ⟨⟨by omega,by omega⟩,by omega⟩) ?_
 have hwl:(ou.take (aI f.blocks).length).length=(aI f.blocks).length:=by rw [WP];omega
 refine bF _ (ZJ (by omega) hg.2.1 hg.2.2.1.1 hwl) fun c hc => ?_
 refine bF (fun y=>y=false→c.2.1=true) ?_ fun y hy => ?_
 ·refine bJ (fun h=>aC fun h=>by cases h) fun h=>bC (rC.2 ⟨⟨by omega,by omega⟩,by omega⟩) (oP (amk (by simp;omega)) (aC fun _ => ?_))
  simpa using h
 refine bJ (fun h=>aC (.inl ⟨rfl,rfl⟩)) fun h => ?_
 have hok:=hy h
 refine bC (by unfold bV;simp;omega) (aC ⟨⟨i+1,by simp only;rw [aO (by omega)];simp,by omega,k1,rfl,by simp [e5],fun k hk => ?_⟩,by simp only;rw [aO (by omega)];omega⟩)
 simp only
 by_cases e:k<i
 ·rw [List.getD_eq_getElem?_getD,Zs (by omega),←List.getD_eq_getElem?_getD];exact e6 k e
 ·have:k=i:=by omega
  subst this
  rw [List.getD_eq_getElem?_getD,Z2 (by omega),show k-out.length=0 from by omega]
  refine (aqn _).2 ⟨c,_,⟨hc,hok,hwl,agx hg.2.2.1.1 hg.2.1 o1 rfl o3⟩,rfl,fun j hj hs => ?_⟩
  rw [List.getD_eq_getElem?_getD,List.getElem?_take_of_lt hj,←List.getD_eq_getElem?_getD,o2 j hj hs,k3 j hj hs]
def succs (k t e:Int):List Int:=if k=2∧e≠t then [t,e] else if k=1∨k=2 then [t] else []
theorem Tt (k a t e:Int):f60 k a t e=some (succs k t e):=by
 apply ok_eq
 unfold f60 succs
 refine bF (fun y=>y=decide (k=2∧e≠t)) ?_ fun y hy => ?_
 ·refine bJ (fun h=>aC ?_) (fun h=>aC ?_)
  ·have h:k=2:=by simpa using h
   by_cases h2:e=t<;>simp [h,h2]
  ·have h:¬ k=2:=by simpa using h
   simp [h]
 subst hy
 refine bJ (fun h=>aC ?_) (fun h => ?_)
 ·rw [if_pos (by simpa using h)]
 ·rw [if_neg (by simpa using h)]
  refine bF (fun y=>y=decide (k=1∨k=2)) ?_ fun y hy => ?_
  ·refine bJ (fun h=>aC ?_) (fun h=>aC ?_)
   ·have h:k=1:=by simpa using h
    simp [h]
   ·have h:¬ k=1:=by simpa using h
    simp [h]
  ·subst hy
   refine bJ (fun h=>aC ?_) (fun h=>aC ?_)
   ·rw [if_pos (by simpa using h)]
   ·rw [if_neg (by simpa using h)]
def rD (bs:List aG) (b:Nat):List Int:=succs (bs.getD b ah).aA (bs.getD b ah).fO (bs.getD b ah).dh
theorem adh {bs:List aG} (h:yV bs) {b:Nat} (hb:b<bs.length) :∀x∈rD bs b,0≤x∧x<bs.length:=by
 obtain ⟨h1,h2⟩:=h
 obtain ⟨e1,e2⟩:=h1 b hb
 have hk:=h2 b hb
 intro x hx
 unfold rD succs at hx
 split at hx
 ·rename_i hc
  rcases QR.1 hx with rfl | hx
  ·exact e1 (by omega)
  ·rw [Qt] at hx;rw [hx];exact e2 hc.1
 ·split at hx
  ·rename_i hc;rw [Qt] at hx;rw [hx];exact e1 (by omega)
  ·cases hx
def cntF (l:List Bool):Nat:=l.count false
theorem Tv {l:List Bool} {k:Nat} (hk:k<l.length) (hf:l.getD k false=false):cntF (l.set k true)+1=cntF l:=by
 unfold cntF
 rw [getD_at _ hk] at hf
 have hp:0<l.count false:=List.count_pos_iff.2 (hf▸XX hk)
 rw [List.count_set hk,hf];simp;omega
theorem uY {l:List Bool} {a z:Nat} {v:Bool} (ha:a<l.length):(l.set a v).getD z false=if z=a then v else l.getD z false:=by
 rw [List.getD_eq_getElem?_getD,List.getD_eq_getElem?_getD]
 by_cases h:z=a
 ·subst h;rw [UV ha,if_pos rfl];rfl
 ·rw [VC (fun e=>h e.symm),if_neg h]
structure Mk (bs:List aG) (m:List Bool) (st:List Int):Prop where
 len:m.length=bs.length
 zero:m.getD 0 false=true
 stk :∀x∈st,(0≤x∧x<bs.length)∧m.getD x.toNat false=true
 all :∀S:Nat→Prop,S 0→(∀b,b<bs.length→S b→∀x∈rD bs b,S x.toNat)→∀b,b<bs.length→m.getD b false=true→S b
theorem Tz {nm:List UInt8} {a b:Int} {bs:List aG} (hE:yV bs) (h0:0<bs.length) (hl:bs.length≤1000000) :
  Ok (f49 nm a b bs) fun m=>Mk bs m []∧∀b,b<bs.length→m.getD b false=true→∀x∈rD bs b,m.getD x.toNat false=true:=by
 unfold f49
 refine bC (jL.2 (by omega)) ?_
 refine pU (decide_eq_false (by simp only [UB,QP];omega)) (bC (aj.2 (by simp only [UB,QP];omega)) ?_)
 refine bF (fun m=>Mk bs m []∧∀b,b<bs.length→m.getD b false=true→∀x∈rD bs b,m.getD x.toNat false=true) ?_ fun y hy=>aC hy
 have hz:(List.replicate ((bs.length:Int)).toNat false).length=bs.length:=by simp
 refine bI (fun s:List Bool×List Int=>Mk bs s.1 s.2∧s.2.length+cntF s.1≤bs.length∧∀b,b<bs.length→s.1.getD b false=true→(b:Int)∈s.2∨∀x∈rD bs b,s.1.getD x.toNat false=true) (fun s=>2*cntF s.1+s.2.length)
  ⟨⟨by simp,by rw [uY (by rw [hz];exact h0)];simp,fun x hx => ?_,fun S s0 _ b hb hm => ?_⟩,?_,fun b hb hm=>.inl ?_⟩ fun s ⟨h1,hsz,h2⟩ => ?_
 ·rw [Qt] at hx;subst hx
  refine ⟨by omega,?_⟩
  rw [uY (by rw [hz];exact h0)];simp
 ·simp only at hm
  rw [uY (by rw [hz];exact h0)] at hm
  split at hm
  ·rename_i e;rw [e];exact s0
  ·rw [getD_at _ (by rw [hz];exact hb)] at hm;simp at hm
 ·have hc:=Tv (l:=List.replicate ((bs.length:Int)).toNat false) (k:=0) (by rw [hz];exact h0) (by rw [getD_at _ (by rw [hz];exact h0)];simp)
  have:cntF (List.replicate ((bs.length:Int)).toNat false)=bs.length:=by simp [cntF,List.count_replicate]
  simp only [K0,Int.toNat_zero]
  omega
 ·simp only at hm
  rw [uY (by rw [hz];exact h0)] at hm
  split at hm
  ·rename_i e;simp [e]
  ·rw [getD_at _ (by rw [hz];exact hb)] at hm;simp at hm
 obtain ⟨m,st⟩:=s
 simp only at h1 h2 hsz
 refine bJ (fun hne => ?_) (fun he=>aC ?_)
 rotate_left
 ·have:st=[]:=by simpa using he
  subst this
  exact ⟨h1,fun b hb hm=>(h2 b hb hm).resolve_left (by simp)⟩
 have hpos:0<st.length:=by simpa using hne
 have hw:b_ ((st.length:Int)-1)=((st.length-1:Nat):Int):=by rw [aO (by omega)];omega
 simp only [hw,QP]
 refine bC (aj.2 (by omega)) (bC (by simp) ?_)
 have hlast:st.getD (st.length-1) 0∈st:=by rw [getD_at _ (by omega)];exact XX _
 have hst:st=st.take (st.length-1)++[st.getD (st.length-1) 0]:=by
  rw [getD_at _ (by omega),←take_snoc (by omega),show st.length-1+1=st.length from by omega,VV]
 obtain ⟨hx1,hx2⟩:=h1.stk _ hlast
 generalize st.getD (st.length-1) 0=x at hlast hst hx1 hx2 ⊢
 obtain ⟨q,rfl⟩ :∃n:Nat,x=n:=⟨x.toNat,by omega⟩
 rw [QP] at hx2
 have hq:q<bs.length:=by omega
 have htl:(st.take (st.length-1)).length=st.length-1:=by simp
 generalize st.take (st.length-1)=st' at hst htl ⊢
 refine bC (aj.2 (by omega)) ?_
 simp only [QP]
 refine oP (Tt _ _ _ _) ?_
 have aqo:=adh hE hq
 have aml:succs (bs.getD q ah).aA (bs.getD q ah).fO (bs.getD q ah).dh=rD bs q:=rfl
 rw [aml]
 refine bF (fun y=>Mk bs y.1 y.2∧2*cntF y.1+y.2.length≤2*cntF m+st'.length∧y.2.length+cntF y.1≤st'.length+cntF m∧(∀b,b<bs.length→m.getD b false=true→y.1.getD b false=true)∧(∀z∈st',z∈y.2)∧
   (∀b,b<bs.length→y.1.getD b false=true→m.getD b false=false→(b:Int)∈y.2)∧∀x∈rD bs q,y.1.getD x.toNat false=true) ?_ fun y ⟨a1,a2,a3,a4,a5,a6,a7⟩=>aC ⟨⟨a1,?_,fun b hb hm => ?_⟩,?_⟩
 ·have hm0:Mk bs m st':=⟨h1.len,h1.zero,fun x hx=>h1.stk x (by rw [hst];exact W3 _ hx),h1.all⟩
  refine Bz (rD bs q) (fun i s=>(i,s.1,s.2)) (fun s x=>if s.1.getD x.toNat false then s else (s.1.set x.toNat true,s.2++[x]))
   (fun i s=>Mk bs s.1 s.2∧2*cntF s.1+s.2.length≤2*cntF m+st'.length∧s.2.length+cntF s.1≤st'.length+cntF m∧(∀b,b<bs.length→m.getD b false=true→s.1.getD b false=true)∧(∀z∈st',z∈s.2)∧
    (∀b,b<bs.length→s.1.getD b false=true→m.getD b false=false→(b:Int)∈s.2)∧∀j,(hj:j<(rD bs q).length)→j<i→s.1.getD ((rD bs q)[j]).toNat false=true)
   (s0:=(m,st')) rfl ⟨hm0,YY _,YY _,fun _ _ h=>h,fun _ h=>h,fun b _ h h'=>(by rw [h] at h';cases h'),fun j _ h=>by omega⟩ (fun i h s ⟨b1,b2,b3,b4,b5,b6,b7⟩ _ => ?_) (fun s ⟨b1,b2,b3,b4,b5,b6,b7⟩ _ => ?_)
  rotate_left
  ·refine pU (decide_eq_false (by simp only;omega)) (aC ⟨b1,b2,b3,b4,b5,b6,fun x hx => ?_⟩)
   obtain ⟨j,hj,e⟩:=K7 hx
   rw [←e];exact b7 j hj hj
  obtain ⟨mk,sk⟩:=s
  simp only at b1 b2 b3 b4 b5 b6 b7
  have hs2:(rD bs q).length≤2:=by unfold rD succs;(repeat' split)<;>simp
  have hmem:=XX h
  have hxr:=aqo _ hmem
  have hlen:=b1.len
  refine goT (decide_eq_true (by simp only;omega)) (bC (aj.2 ⟨by simp only;omega,by simp only;omega⟩) ?_)
  have e:(rD bs q).getD i 0=(rD bs q)[i]:=getD_at _ h
  simp only [QP,e]
  have hnew :∀(mk':List Bool) (b':Nat),b'<bs.length→mk'.getD b' false=true→True:=fun _ _ _ _=>trivial
  refine bC (aj.2 (by omega)) ?_
  generalize hgx:(rD bs q)[i]=x at hmem hxr ⊢
  have hxl:x.toNat<mk.length:=by omega
  refine bF (fun y=>y=if mk.getD x.toNat false then (mk,sk) else (mk.set x.toNat true,sk++[x])) ?_ fun y hy => ?_
  ·refine bJ (fun hc => ?_) (fun hc=>aC ?_)
   ·have hc:mk.getD x.toNat false=false:=by simpa using hc
    refine bC (aj.2 ⟨by omega,by omega⟩) ?_
    refine bC (aj.2 (by omega)) (bC (aj.2 ⟨by omega,by omega⟩) (bC (by unfold bV;simp;omega) (aC ?_)))
    rw [if_neg (by rw [hc];simp)]
   ·have hc:mk.getD x.toNat false=true:=by simpa using hc
    rw [if_pos hc]
  ·subst hy
   refine aC ⟨by rw [aO (x:=(i:Int)+1) (by omega)],?_⟩
   by_cases hc:mk.getD x.toNat false=true
   ·simp only [if_pos hc]
    refine ⟨b1,b2,b3,b4,b5,b6,fun j hj hji => ?_⟩
    by_cases e2:j=i
    ·subst e2;rw [hgx];exact hc
    ·exact b7 j hj (by omega)
   ·simp only [if_neg hc]
    have hcf:mk.getD x.toNat false=false:=by simpa using hc
    have hcnt:=Tv hxl hcf
    have hset :∀z,(mk.set x.toNat true).getD z false=if z=x.toNat then true else mk.getD z false:=fun z=>uY hxl
    refine ⟨⟨by simp [hlen],?_,fun z hz => ?_,fun S s0 hcl z hz hm => ?_⟩,by simp;omega,by simp;omega,fun z hz hm => ?_,fun z hz=>W3 _ (b5 z hz),fun z hz hm hf => ?_,fun j hj hji => ?_⟩
    ·rw [hset];split
     ·rfl
     ·exact b1.zero
    ·rcases X1.1 hz with hz | hz
     ·obtain ⟨r1,r2⟩:=b1.stk z hz
      refine ⟨r1,?_⟩
      rw [hset];split
      ·rfl
      ·exact r2
     ·rw [Qt] at hz;subst hz
      refine ⟨hxr,?_⟩
      rw [hset,if_pos rfl]
    ·rw [hset] at hm
     split at hm
     ·rename_i e2;rw [e2]
      exact hcl q hq (h1.all S s0 hcl q hq hx2) x hmem
     ·exact b1.all S s0 hcl z hz hm
    ·rw [hset];split
     ·rfl
     ·exact b4 z hz hm
    ·rw [hset] at hm
     split at hm
     ·rename_i e2
      refine V2 _ ?_
      rw [Qt];omega
     ·exact W3 _ (b6 z hz hm hf)
    ·rw [hset]
     by_cases e2:j=i
     ·subst e2;rw [hgx,if_pos rfl]
     ·split
      ·rfl
      ·exact b7 j hj (by omega)
 ·have:st.length=st'.length+1:=by rw [hst];simp
  simp only;omega
 ·simp only at hm ⊢
  cases hmb:m.getD b false with
  |false=>exact .inl (a6 b hb hm hmb)
  |true=>
   by_cases e:b=q
   ·subst e;exact .inr a7
   ·rcases h2 b hb hmb with h | h
    ·rw [hst] at h
     rcases X1.1 h with h | h
     ·exact .inl (a5 _ h)
     ·rw [Qt] at h;omega
    ·refine .inr fun x hx => ?_
     have:=adh hE hb x hx
     exact a4 x.toNat (by omega) (h x hx)
 ·have:st.length=st'.length+1:=by rw [hst];simp
  simp only;omega
def idx (m:List Bool):Nat→List Nat
 |0=>[]
 |i+1=>idx m i++if m.getD i false then [i] else []
def rk (m:List Bool) (i:Nat):Nat:=(idx m i).length
theorem Yk (m:List Bool) (i:Nat):rk m (i+1)=rk m i+if m.getD i false then 1 else 0:=by
 show (idx m i++if m.getD i false then [i] else []).length=(idx m i).length+_
 rw [Z0];split<;>rfl
theorem Hu {m:List Bool} :∀{n j:Nat},j∈idx m n→j<n∧m.getD j false=true
 |n+1,j,h=>by
  rcases X1.1 h with h | h
  ·have:=Hu h;exact ⟨by omega,this.2⟩
  ·split at h
   ·rename_i e;rw [Qt] at h;subst h;exact ⟨by omega,e⟩
   ·cases h
theorem KF {m:List Bool} :∀{n j:Nat},j<n→m.getD j false=true→(idx m n)[rk m j]?=some j
 |n+1,j,h,hm=>by
  unfold idx
  by_cases e:j=n
  ·subst e
   show (idx m j++if m.getD j false then [j] else [])[(idx m j).length]?=_
   rw [Z2 (YY _),if_pos hm,Nat.sub_self];rfl
  ·have:=KF (n:=n) (by omega) hm
   rw [Zs (Q3.1 this).1]
   exact this
theorem adi (m:List Bool) (i:Nat):rk m i≤i:=by
 induction i with
 |zero=>exact YY _
 |succ i ih=>rw [Yk];split<;>omega
def ren (m:List Bool) (t:aG):aG:=
 { t with fO:=if t.aA=3 then t.fO else (rk m t.fO.toNat:Int),dh:=if t.aA=2 then (rk m t.dh.toNat:Int) else t.dh }
def wZ (m:List Bool) (bs:List aG):List aG:=(idx m bs.length).map fun j=>ren m (bs.getD j ah)
theorem PO {bs:List aG} {b:Nat}:((bs.getD b ah).aA=1∨(bs.getD b ah).aA=2→(bs.getD b ah).fO∈rD bs b)∧((bs.getD b ah).aA=2→(bs.getD b ah).dh∈rD bs b):=by
 unfold rD succs
 constructor
 ·intro h;split
  ·simp
  ·first
   |(rw [if_pos h];simp)
   |simp
 ·intro h;split
  ·simp
  ·rename_i hc
   first
    |rw [if_pos (.inr h)]
    |skip
   have:(bs.getD b ah).dh=(bs.getD b ah).fO:=Decidable.byContradiction fun e=>hc ⟨h,e⟩
   rw [this];exact Qt.2 rfl
theorem ZP {bs:List aG} {m:List Bool} (hE:yV bs) (h0:0<bs.length) (hM:Mk bs m []) (hc :∀b,b<bs.length→m.getD b false=true→∀x∈rD bs b,m.getD x.toNat false=true) :
  0<(wZ m bs).length∧(wZ m bs).length≤bs.length∧yV (wZ m bs)∧ZI (wZ m bs):=by
 have hlen:(wZ m bs).length=rk m bs.length:=by unfold wZ rk;simp
 have hlt :∀j,j<bs.length→m.getD j false=true→rk m j<(wZ m bs).length:=by
  intro j hj hm
  have:=(Q3.1 (KF hj hm)).1
  rw [hlen];exact this
 have hget :∀p,p<(wZ m bs).length→∃j,j<bs.length∧m.getD j false=true∧rk m j=p∧(wZ m bs).getD p ah=ren m (bs.getD j ah):=by
  intro p hp
  have hp':p<(idx m bs.length).length:=by unfold wZ at hp;simpa using hp
  have hm:=Hu (XX hp')
  refine ⟨(idx m bs.length)[p],hm.1,hm.2,?_,?_⟩
  ·have h1:=KF hm.1 hm.2
   have key :∀n,∀a b:Nat,(idx m n)[a]?=(idx m n)[b]?→a<(idx m n).length→a=b:=by
    intro n
    induction n with
    |zero=>intro a b _ h;simp [idx] at h
    |succ n ih=>
     intro a b hab ha
     unfold idx at hab ha
     by_cases hn:m.getD n false=true
     ·rw [if_pos hn] at hab ha
      rw [Z0] at ha
      by_cases ha2:a<(idx m n).length
      ·rw [Zs ha2] at hab
       by_cases hb2:b<(idx m n).length
       ·rw [Zs hb2] at hab
        exact ih a b hab ha2
       ·rw [Z2 (by omega),Q2 ha2] at hab
        have hbb:b-(idx m n).length=0:=by
         have:=(Q3.1 hab.symm).1
         simp at this;omega
        rw [hbb] at hab
        have:=Hu (XX ha2)
        simp at hab;omega
      ·have haa:a=(idx m n).length:=by simp at ha;omega
       rw [Z2 (by omega),haa,Nat.sub_self] at hab
       by_cases hb2:b<(idx m n).length
       ·rw [Zs hb2,Q2 hb2] at hab
        have:=Hu (XX hb2)
        simp at hab;omega
       ·rw [Z2 (by omega)] at hab
        have:=(Q3.1 hab.symm).1
        simp at this;omega
     ·rw [if_neg hn,VS] at hab ha
      exact ih a b hab ha
   refine (key bs.length p _ ?_ hp').symm
   rw [h1,Q2 hp']
  ·unfold wZ
   rw [List.getD_eq_getElem?_getD,XS,Q2 hp'];rfl
 have hz:rk m 0=0:=rfl
 refine ⟨by have:=hlt 0 h0 hM.zero;omega,by rw [hlen];exact adi _ _,⟨fun p hp => ?_,fun p hp => ?_⟩,fun S s0 hS p hp => ?_⟩
 ·obtain ⟨j,hj,hm,_,e⟩:=hget p hp
  obtain ⟨e1,e2⟩:=hE.1 j hj
  have hk:=hE.2 j hj
  have hs:=PO (bs:=bs) (b:=j)
  rw [e]
  unfold ren
  simp only
  refine ⟨fun hk3 => ?_,fun hk2 => ?_⟩
  ·rw [if_neg hk3]
   have:=hlt _ (by have:=e1 hk3;omega) (hc j hj hm _ (hs.1 (by omega)))
   omega
  ·rw [if_pos hk2]
   have:=hlt _ (by have:=e2 hk2;omega) (hc j hj hm _ (hs.2 hk2))
   omega
 ·obtain ⟨j,hj,hm,_,e⟩:=hget p hp
  rw [e];exact hE.2 j hj
 ·obtain ⟨j,hj,hm,hr,_⟩:=hget p hp
  have:=hM.all (fun b=>m.getD b false=true∧S (rk m b)) ⟨hM.zero,s0⟩ (fun b hb ⟨hbm,hbS⟩ x hx=>⟨hc b hb hbm x hx,?_⟩) j hj hm
  ·rw [←hr];exact this.2
  ·have hbl:=hlt b hb hbm
   obtain ⟨j',hj',hm',hr',e'⟩:=hget _ hbl
   have hjb:j'=b:=by
    have h1:=KF hj' hm'
    have h2:=KF hb hbm
    rw [hr',h2] at h1
    exact (Wf h1).symm
   subst hjb
   obtain ⟨c1,c2⟩:=hS _ hbl hbS
   rw [e'] at c1 c2
   unfold ren at c1 c2
   simp only at c1 c2
   unfold rD succs at hx
   split at hx
   ·rename_i hk
    rcases QR.1 hx with rfl | hx
    ·have:=c1 (by omega)
     rw [if_neg (by omega)] at this;simpa using this
    ·rw [Qt] at hx;subst hx
     have:=c2 hk.1
     rw [if_pos hk.1] at this;simpa using this
   ·split at hx
    ·rename_i hk
     rw [Qt] at hx;subst hx
     have:=c1 (by omega)
     rw [if_neg (by omega)] at this;simpa using this
    ·cases hx
theorem adk (m:List Bool) (i:Nat):idx m (i+1)=idx m i++if m.getD i false then [i] else []:=rfl
theorem VZ {nm:List UInt8} {a b:Int} {bs:List aG} (hE:yV bs) (h0:0<bs.length) (hl:bs.length≤1000000) :
  Ok (f33 nm a b bs) fun y=>y.1=nm∧y.2.1=a∧y.2.2.1=b∧0<y.2.2.2.length∧y.2.2.2.length≤bs.length∧yV y.2.2.2∧ZI y.2.2.2:=by
 unfold f33
 refine bF _ (Tz hE h0 hl) fun m ⟨hM,hc⟩ => ?_
 have hml:=hM.len
 refine bC (jL.2 (by omega)) ?_
 refine bF (fun y=>y.length=bs.length∧∀j,j<bs.length→y.getD j 0=(rk m j:Int)) ?_ fun nums ⟨hn1,hn2⟩ => ?_
 ·refine bI (fun s:Int×Int×List Int =>∃i:Nat,s.2.1=i∧i≤bs.length∧s.1=(rk m i:Int)∧s.2.2.length=bs.length∧∀j,j<i→s.2.2.getD j 0=(rk m j:Int)) (fun s=>bs.length-s.2.1.toNat)
   ⟨0,rfl,by omega,rfl,by simp [hml],fun j h=>by omega⟩ fun s ⟨i,e1,e2,e3,e4,e5⟩ => ?_
  obtain ⟨k,i',l⟩:=s
  simp only at e1 e3 e4 e5
  subst e1;subst e3
  refine bJ (fun hi => ?_) (fun hi=>aC ⟨e4,fun j hj=>e5 j ?_⟩)
  rotate_left
  ·simp at hi;omega
  have hi:i<bs.length:=by simp at hi;omega
  have hrk:=adi m i
  refine bC (aj.2 ⟨by simp only;omega,by simp only;omega⟩) (bC (aj.2 ⟨by simp only;omega,by simp only;omega⟩) ?_)
  simp only [QP]
  refine bF (fun y=>y=(rk m (i+1):Int)) ?_ fun y hy => ?_
  ·rw [Yk]
   refine bJ (fun hm=>aC ?_) (fun hm=>aC ?_)
   ·rw [if_pos hm,aO (by omega)];simp
   ·rw [if_neg (by rw [hm];simp)];simp
  ·subst hy
   refine aC ⟨⟨i+1,by simp only;rw [aO (x:=(i:Int)+1) (by omega)];simp,by omega,rfl,by simp [e4],fun j hj => ?_⟩,by simp only;rw [aO (x:=(i:Int)+1) (by omega)];omega⟩
   simp only
   rw [bM (by omega)]
   split
   ·rename_i e;rw [e]
   ·exact e5 j (by omega)
 refine bF (fun y=>y=(nm,a,b,wZ m bs)) ?_ fun y hy => ?_
 rotate_left
 ·subst hy
  obtain ⟨c1,c2,c3,c4⟩:=ZP hE h0 hM hc
  exact aC ⟨rfl,rfl,rfl,c1,c2,c3,c4⟩
 refine bI (fun s:Int×List UInt8×Int×Int×List aG =>∃i:Nat,i≤bs.length∧s=((i:Int),nm,a,b,(idx m i).map fun j=>ren m (bs.getD j ah))) (fun s=>bs.length-s.1.toNat)
  ⟨0,by omega,rfl⟩ fun s ⟨i,e2,e⟩ => ?_
 subst e
 refine bJ (fun hi => ?_) (fun hi=>aC ?_)
 rotate_left
 ·have:i=bs.length:=by simp at hi;omega
  subst this;rfl
 have hi:i<bs.length:=by simp at hi;omega
 have hrk:=adi m i
 refine bF (fun y=>y=(nm,a,b,(idx m (i+1)).map fun j=>ren m (bs.getD j ah))) ?_ fun y hy => ?_
 rotate_left
 ·subst hy
  refine aC ⟨⟨i+1,by omega,?_⟩,by simp only;rw [aO (x:=(i:Int)+1) (by omega)];omega⟩
  simp only;rw [aO (x:=(i:Int)+1) (by omega)];rfl
 refine bC (aj.2 ⟨by simp only;omega,by simp only;omega⟩) ?_
 simp only [QP]
 rw [adk]
 refine bJ (fun hm=>aC ?_) (fun hm => ?_)
 ·have hm:m.getD i false=false:=by simpa using hm
  rw [if_neg (by rw [hm];simp),VS]
 have hm:m.getD i false=true:=by simpa using hm
 rw [if_pos hm]
 obtain ⟨t1,t2⟩:=hE.1 i hi
 refine bC (aj.2 (by omega)) ?_
 have iy:ren m (bs.getD i ah)={ bs.getD i ah with fO:=if (bs.getD i ah).aA=3 then (bs.getD i ah).fO else (rk m (bs.getD i ah).fO.toNat:Int),dh:=if (bs.getD i ah).aA=2 then (rk m (bs.getD i ah).dh.toNat:Int) else (bs.getD i ah).dh }:=rfl
 have hmap:(idx m i++[i]).map (fun j=>ren m (bs.getD j ah))=(idx m i).map (fun j=>ren m (bs.getD j ah))++[ren m (bs.getD i ah)]:=by simp
 have hll:((idx m i).map fun j=>ren m (bs.getD j ah)).length=rk m i:=by unfold rk;simp
 rw [hmap]
 generalize (idx m i).map (fun j=>ren m (bs.getD j ah))=acc at hll ⊢
 rw [iy]
 refine bF (fun y=>y=((bs.getD i ah).instrs,(bs.getD i ah).aA,(bs.getD i ah).Du,(if (bs.getD i ah).aA=3 then (bs.getD i ah).fO else (rk m (bs.getD i ah).fO.toNat:Int)),(bs.getD i ah).dh,(bs.getD i ah).line,(bs.getD i ah).jU,(bs.getD i ah).jm)) ?_ fun y hy => ?_
 ·refine bJ (fun hk => ?_) (fun hk=>aC ?_)
  ·have hk:¬ (bs.getD i ah).aA=3:=by simpa using hk
   have:=t1 hk
   refine bC (aj.2 (by omega)) (aC ?_)
   rw [if_neg hk,hn2 _ (by omega)]
  ·have hk:(bs.getD i ah).aA=3:=by simpa using hk
   rw [if_pos hk]
 subst hy
 refine bF (fun y=>y=((bs.getD i ah).instrs,(bs.getD i ah).aA,(bs.getD i ah).Du,(if (bs.getD i ah).aA=3 then (bs.getD i ah).fO else (rk m (bs.getD i ah).fO.toNat:Int)),(if (bs.getD i ah).aA=2 then (rk m (bs.getD i ah).dh.toNat:Int) else (bs.getD i ah).dh),(bs.getD i ah).line,(bs.getD i ah).jU,(bs.getD i ah).jm)) ?_ fun y hy => ?_
 ·refine bJ (fun hk => ?_) (fun hk=>aC ?_)
  ·have hk:(bs.getD i ah).aA=2:=by simpa using hk
   have:=t2 hk
   refine bC (aj.2 ⟨by simp only;omega,by simp only;omega⟩) (aC ?_)
   simp only
   rw [if_pos hk,hn2 _ (by omega)]
  ·have hk:¬ (bs.getD i ah).aA=2:=by simpa using hk
   simp only
   rw [if_neg hk]
 subst hy
 refine bC (by unfold bV;simp;omega) (aC rfl)
def Bytes (l:List Int):Prop:=l.length≤9223372036854775807∧∀x∈l,0≤x∧x≤255
theorem bytes_at {l:List Int} (h:Bytes l) {n:Int} (h0:0≤n) (h1:n<l.length):0≤l.getD n.toNat 0∧l.getD n.toNat 0≤255:=by
 rw [getD_at 0 (by omega)]
 exact h.2 _ (XX _)
def TB (n:Int) (l:List Int) (y:Int×(List Int×Int)):Prop:=y.2.1=l∧0≤y.2.2∧0≤y.1∧(1≤n→y.1<n)∧(n≤1→y.1=0)
theorem Nw {rec:Int→List Int→Int→Option (Int×(List Int×Int))} {n:Int} {l:List Int} {i:Int} (hl:Bytes l) (hi:0≤i) (hn:n≤65536)
  (hrec:256<n→∀j,0≤j→Ok (rec 256 l j) (TB 256 l)):Ok (aff rec n l i) (TB n l):=by
 unfold aff
 simp only [G9,Vq,zx,ab9,XF,SB,aj,not_iff]
 have tail:(n≥1)→i<l.length→(0≤i∧i<(l.length:Int))∧(256<n→Ok (rec 256 l (b_ (i+1))) fun y=>¬ n=0∧TB n l (Int.tmod (b_ (b_ (256*b_ (l.getD i.toNat 0))+y.1)) n,y.2.1,y.2.2))∧(¬ 256<n→¬ n=0∧TB n l (Int.tmod (b_ (l.getD i.toNat 0)) n,l,b_ (i+1))):=by
  intro h1 h2
  have hb:=bytes_at hl hi h2
  have hl':=hl.1
  rw [aO (x:=i+1) (by omega),aO (x:=l.getD i.toNat 0) (by omega),aO (x:=256*l.getD i.toNat 0) (by omega)]
  refine ⟨⟨hi,h2⟩,fun h3=>lC (hrec h3 (i+1) (by omega)) fun y hy => ?_,fun h3=>⟨by omega,?_⟩⟩
  ·obtain ⟨q1,q2,q3,q4,q5⟩:=hy
   have q4:=q4 (by omega)
   rw [aO (by omega)]
   refine ⟨by omega,q1,q2,?_⟩
   have:=tmod_lt (a:=256*l.getD i.toNat 0+y.1) (b:=n) (by omega) (by omega)
   exact ⟨this.1,fun _=>this.2,fun _=>by omega⟩
  ·have:=tmod_lt (a:=l.getD i.toNat 0) (b:=n) hb.1 (by omega)
   refine ⟨rfl,by simp;omega,this.1,fun _=>this.2,fun _ => ?_⟩
   have e:n=1:=by omega
   subst e
   have:=this.2
   have:=this
   simp only
   omega
 refine ⟨fun h=>⟨fun _=>⟨rfl,hi,Kx _,fun h=>by simp only;omega,fun _=>rfl⟩,fun h0=>by cases h0⟩,fun h=>⟨fun h1=>⟨rfl,hi,Kx _,fun h=>by simp only;omega,fun _=>rfl⟩,fun h1 => ?_⟩⟩
 exact tail (by omega) (by omega)
theorem Ny (k:Nat):afg (k+1)=aff (afg k):=rfl
theorem agA {n:Int} {l:List Int} {i:Int} (hl:Bytes l) (hi:0≤i) (hn:n≤65536):Ok (f11 n l i) (TB n l):=by
 have e:f11 n l i=afg (1048574+2) n l i:=rfl
 rw [e,Ny]
 refine Nw hl hi hn fun _ j hj => ?_
 rw [Ny]
 exact Nw hl hj (by omega) fun h=>absurd h (by omega)
theorem ajh {l:List Int} {n:Int} (hl:Bytes l) (hn:0≤n):Ok (f6 l n) fun y=>y.2=0∧Bytes y.1:=by
 unfold f6
 simp only [G9,Vq,zx,ab9,XF,SB,rC]
 refine ⟨fun h=>⟨⟨⟨by omega,hn⟩,by omega⟩,trivial,?_⟩,fun h=>⟨trivial,hl⟩⟩
 simp only [Int.toNat_zero,List.drop_zero]
 exact ⟨by have:=hl.1;simp;omega,fun x hx=>hl.2 x (Wb hx)⟩
theorem ZQ (k:Nat):afk (k+1)=aiC (afk k):=rfl
theorem Gu :∀(k:Nat) (n:Int),0≤n→n<k→k≤1048576→Ok (afk k n) fun s=>s.length≤k
 |0,n,h0,h1,_=>by omega
 |k+1,n,h0,h1,h2=>by
  rw [ZQ]
  unfold aiC
  refine bJ (fun hc => ?_) (fun hc=>aC (by simp))
  have hc:10≤n:=by simpa using hc
  have hd:Int.tdiv n 10=n/10:=Int.tdiv_eq_ediv_of_nonneg h0
  have hw:b_ (Int.tdiv n 10)=n/10:=by rw [hd];exact aO (by omega)
  rw [hw]
  refine bF _ (Gu k (n/10) (by omega) (by omega) (by omega)) fun y hy=>bC (oC.2 (by simp;omega)) (aC (by simp;omega))
theorem uZ {n:Int} (h0:0≤n) (h1:n<1048576):Ok (f31 n) fun s=>s.length≤1048576:=Gu _ n h0 h1 (YY _)
theorem goN {β:Type} {n:Int} {l:List Int} {i:Int} {f:Int×List Int×Int→Option β} {Q:β→Prop} (hb:Bytes l) (hi:0≤i) (hn:n≤65536)
  (k :∀x j,0≤j→0≤x→(1≤n→x<n)→Ok (f (x,l,j)) Q):Ok (Option.bind (f11 n l i) f) Q:=
 bF _ (agA hb hi hn) fun ⟨x,l',j⟩ ⟨(e:l'=l),h1,h2,h3,_⟩=>by subst e;exact k x j h1 h2 h3
theorem instr_ok {gl:List aW} {fs:List aF} {ca ct:Int} {nm:List UInt8} {pa re:Int} {bl:List aG} {l:List Int} {i:Int} (hb:Bytes l) (hi:0≤i) (hre:re≤65536) (hca:ca≤65536)
  (hfs:0<fs.length∧fs.length≤65536) (hpa :∀f∈fs,f.params≤10):Ok (f32 gl fs ca ct nm pa re bl l i) fun y=>y.2.2.2.2.2.2.1=l∧0≤y.2.2.2.2.2.2.2.1:=by
 unfold f32
 refine goN hb hi (by omega) fun x0 j0 h0 a0 b0=>goN hb h0 (by omega) fun x1 j1 h1 _ _=>goN hb h1 (by omega) fun x2 j2 h2 _ _=>goN hb h2 (by omega) fun x3 j3 h3 _ _ => ?_
 refine bF (fun s=>s.1=l∧0≤s.2.1) ?_ fun s ⟨e1,e2⟩ => ?_
 ·refine bJ (fun _=>goN hb h3 (by omega) fun x j hj _ _=>aC ⟨rfl,hj⟩) (fun _=>bF (fun s=>s.1=l∧0≤s.2.1) ?_ fun s hs=>aC hs)
  refine bJ (fun _=>goN hb h3 (by omega) fun x j hj _ _=>aC ⟨rfl,hj⟩) (fun _=>bF (fun s=>s.1=l∧0≤s.2.1) ?_ fun s hs=>aC hs)
  refine bJ (fun _=>goN hb h3 (by omega) fun x j hj _ _=>aC ⟨rfl,hj⟩) (fun _=>bF (fun _=>True) ?_ fun s _=>bF (fun s=>s.1=l∧0≤s.2.1) ?_ fun s hs=>aC hs)
  ·exact bJ (fun _=>aC trivial) fun _=>aC trivial
  refine bJ (fun _=>aC ⟨rfl,h3⟩) (fun _=>bF (fun s=>s.1=l∧0≤s.2.1) ?_ fun s hs=>aC hs)
  refine bJ (fun _=>goN hb h3 (by omega) fun x j hj hx0 hx=>bF (fun s=>s.1=l∧0≤s.2.1) ?_ fun s hs=>aC hs) (fun _=>bF (fun s=>s.1=l∧0≤s.2.1) ?_ fun s hs=>aC hs)
  ·have hx:=hx (by omega)
   refine bI (fun s:Int×List Int×Int×Int×Int×Int×Int×Int×Int×List Int=>s.2.1=l∧0≤s.2.2.1∧(0≤s.1∧s.1≤10)∧s.2.2.2.2.2.2.2.2.1=x∧s.2.2.2.2.2.2.2.2.2.length≤s.1) (fun s=>(10-s.1).toNat)
    ⟨rfl,hj,by simp,rfl,by simp⟩ fun ⟨q,l',j',s4,s5,s6,s7,s8,s9,ar⟩ ⟨e1,e2,⟨e3,e3'⟩,e4,e5⟩ => ?_
   simp only at e1 e2 e3 e3' e4 e5
   subst e1;subst e4
   refine bC (aj.2 ⟨hx0,hx⟩) ?_
   refine bJ (fun hc => ?_) (fun _=>aC ⟨rfl,e2⟩)
   have hp:(fs.getD s9.toNat ak).params≤10:=by rw [getD_at _ (by omega)];exact hpa _ (XX _)
   have hc:q<(fs.getD s9.toNat ak).params:=by simpa using hc
   refine goN hb e2 hre fun y k hk _ _=>bC (by unfold bV;simp;omega) (aC ⟨⟨rfl,hk,?_,rfl,?_⟩,?_⟩)
   all_goals simp only [aO (x:=q+1) (by omega)]
   ·omega
   ·simp;omega
   ·omega
  refine bJ (fun _=>goN hb h3 (by omega) fun x j hj hx0 hx=>bF (fun s=>s.1=l∧0≤s.2.1) ?_ fun s hs=>aC hs) (fun _=>aC ⟨rfl,h3⟩)
  have hx:=hx (by omega)
  refine bI (fun s:Int×List Int×Int×Int×Int×Int×Int×Int×Int×List Int=>s.2.1=l∧0≤s.2.2.1∧(0≤s.1∧s.1≤3)∧s.2.2.2.2.2.2.2.2.2.length≤3-s.1) (fun s=>s.1.toNat)
   ⟨rfl,hj,⟨hx0,by simp only;omega⟩,by simp only [Kc];omega⟩ fun ⟨q,l',j',s4,s5,s6,s7,s8,s9,ar⟩ ⟨e1,e2,⟨e3,e3'⟩,e5⟩ => ?_
  simp only at e1 e2 e3 e3' e5
  subst e1
  refine bJ (fun hc => ?_) (fun _=>aC ⟨rfl,e2⟩)
  have hc:0<q:=by simpa using hc
  refine goN hb e2 hre fun y k hk _ _=>bC (by unfold bV;simp;omega) (aC ⟨⟨rfl,hk,?_,?_⟩,?_⟩)
  all_goals simp only [aO (x:=q-1) (by omega)]
  ·omega
  ·simp;omega
  ·omega
 obtain ⟨t1,t2,s⟩:=s
 simp only at e1 e2
 subst e1
 refine bF (fun s=>s.2.1=t1∧0≤s.2.2) ?_ fun ⟨s1,s2,s3⟩ ⟨e3,e4⟩ => ?_
 ·refine bJ (fun _=>bJ (fun _=>goN hb e2 (by omega) fun x j hj _ _=>aC ⟨rfl,hj⟩) fun _=>aC ⟨rfl,e2⟩) fun _=>aC ⟨rfl,e2⟩
 simp only at e3 e4
 subst e3
 exact bJ (fun _=>goN hb e4 hca fun x j hj _ _=>aC ⟨rfl,hj⟩) fun _=>aC ⟨rfl,e4⟩
theorem aji {p0:List Int} {c2:List Int×Int} (h5:f5=some true) (h6:f6 p0 500=some c2)
  (h7:Ok (f7 c2.1 c2.2) fun c3=>(c3.1.length≤1000∧∀f∈c3.1,Good f)∧Bytes c3.2.2.2.1∧0≤c3.2.2.2.2.1):Ok (f4 p0) fun y=>y=true:=by
 unfold f4
 refine oP h5 (pU rfl (oP h6 (bF _ h7 fun c3 ⟨⟨hm,hG⟩,hb,hi⟩=>bF _ (Nv hG hm) fun pr ⟨hp1,hp2⟩ => ?_)))
 obtain ⟨fs,ca,co,l,k,gl⟩:=c3
 simp only at hm hG hb hi hp1 hp2 ⊢
 have hol:=PN hG fs.length (YY _)
 refine bF (fun x=>x.length=pr.length) ?_ fun x hx => ?_
 ·refine bI (fun s:Int×List Int×Int×List Int =>∃i:Nat,s.1=i∧i≤pr.length∧s.2.1=l∧0≤s.2.2.1∧s.2.2.2.length=i) (fun s=>pr.length-s.1.toNat) ⟨0,rfl,by omega,rfl,hi,rfl⟩ fun s ⟨i,e1,e2,e3,e4,e5⟩ => ?_
  obtain ⟨i',l',k',x⟩:=s
  simp only at e1 e3 e4 e5
  subst e1;subst e3
  refine bJ (fun hi => ?_) (fun hi=>aC ?_)
  rotate_left
  ·have:i=pr.length:=by simp at hi;omega
   subst this;exact e5
  have hi:i<pr.length:=by simpa using hi
  refine goN hb e4 (by omega) fun c j hj _ _=>bC (by unfold bV;simp;omega) (aC ⟨⟨i+1,by simp only;rw [aO (by omega)];simp,by omega,rfl,hj,by simp [e5]⟩,by simp only;rw [aO (by omega)];omega⟩)
 have hcap:bV (List.length eInt) x.length 8=true:=by unfold bV;simp [eInt];omega
 have hn:eInt++x=x:=by simp [eInt]
 refine bC hcap ?_
 simp only [hn]
 refine bC (by unfold bV;simp;omega) ?_
 refine bF _ (KE (x:=x++[0]) hG hm (by simp;omega)) fun r1 hr1=>bF _ (KE (x:=x) hG hm (by omega)) fun r2 hr2 => ?_
 have hr1:r1.1=21:=by
  rcases hr1 with h | h
  ·exact h.1
  ·have:=h.2.1;simp at this;omega
 refine pU (by rw [hr1];rfl) ?_
 rcases hr2 with ⟨h1,h2⟩ | ⟨h1,h2,h3,h4⟩
 ·refine goT (by rw [h1];rfl) (bF (fun y=>y=true) (goT (by rw [h1];rfl) (aC (by rw [h2];rfl))) fun y hy=>aC hy)
 ·refine pU (by rw [h1];rfl) ?_
  have hR :∀i,i<fs.length→VX (fs.getD i ak) (r2.2.getD i dS):=fun i hi=>by
   obtain ⟨y,w,a1,a2,_⟩:=h4 i hi;exact ⟨y,w,a1,a2⟩
  refine bF (fun y=>y=false) (oP (agy hG hm h3 hR) (pU rfl (oP (VY hG hm h3 hR) (aC rfl)))) fun y hy => ?_
  subst hy
  refine pU rfl (pV (fun _=>True) ?_ fun _ _=>aC rfl)
  refine bI (fun s:Int =>∃i:Nat,s=i∧i≤pr.length) (fun s=>pr.length-s.toNat) ⟨0,rfl,by omega⟩ fun s ⟨q,e1,e2⟩ => ?_
  subst e1
  refine bJ (fun hq => ?_) (fun hq=>aC trivial)
  have hq:q<pr.length:=by simpa using hq
  obtain ⟨i,j,a1,a2,a3,a4,a5⟩:=hp2 q hq
  obtain ⟨⟨ent,ok,bl,ed⟩,w,⟨⟨c1,c2,c3,c4,c5,c6,c7⟩,hok,hw,hf⟩,hce,hkn⟩:=h4 i a1
  have hv:=hkn j a2 a3
  rw [←a4] at hv
  simp only at c1 c2 c3 c4 c5 c6 c7
  have hpf:(pr.getD q (aJ.mk 0 0 0)).func=i:=by rw [a5]
  have hpb:(pr.getD q (aJ.mk 0 0 0)).block=((aI (fs.getD i ak).blocks).getD j (aJ.mk 0 0 0)).block:=by rw [a5]
  have hpw:(pr.getD q (aJ.mk 0 0 0)).way=((aI (fs.getD i ak).blocks).getD j (aJ.mk 0 0 0)).way:=by rw [a5]
  refine bC (aj.2 ⟨by omega,by omega⟩) ?_
  simp only [QP,hpf,hpb,hpw]
  refine bC (aj.2 ⟨by omega,by omega⟩) (bC (aj.2 ⟨by omega,by omega⟩) ?_)
  have r3:(r2.2.getD i dS).edges=ed:=by rw [hce]
  have r4:(r2.2.getD i dS).entries=ent:=by rw [hce]
  simp only [r3,r4]
  refine bF (fun v=>v=x.getD q 0) ?_ fun v hv'=>bC (aj.2 ⟨by omega,by omega⟩) (pU (by rw [qu];exact decide_eq_true hv') (aC ⟨⟨q+1,by rw [aO (by omega)];simp,by omega⟩,by rw [aO (by omega)];omega⟩))
  by_cases hj:j=0
  ·subst hj
   rw [zD]
   exact pU (by rfl) (aC (by rw [c1];exact hv))
  ·obtain ⟨b,hb,hs⟩:=Nr (bs:=(fs.getD i ak).blocks) (by omega:0<j) a2
   have hu :∀k,k<(aI (fs.getD i ak).blocks).length→((aI (fs.getD i ak).blocks).getD k (aJ.mk 0 0 0))=((aI (fs.getD i ak).blocks).getD j (aJ.mk 0 0 0))→k=j:=by
    intro k hk e
    by_cases e1:k<j
    ·have:=DF (bs:=(fs.getD i ak).blocks) e1 a2
     rw [e] at this;simp at this
    ·by_cases e2:j<k
     ·have:=DF (bs:=(fs.getD i ak).blocks) e2 hk
      rw [e] at this;simp at this
     ·omega
   rcases hs with ⟨hx,hk⟩ | ⟨hx,hk⟩
   ·obtain ⟨q1,q2⟩:=Kw hb hk
    have hpj:=hu _ q2 (by rw [q1,hx])
    have he:=c5 b hb
    rw [if_neg hk,hpj,hv] at he
    rw [hx]
    refine goT (by rfl) (bF (fun v=>v=x.getD q 0) ?_ fun v hv=>aC hv)
    refine bC (aj.2 ⟨by omega,by omega⟩) (bC (aj.2 ⟨by omega,by omega⟩) (bC (aj.2 ⟨by simp only;omega,by simp only;omega⟩) (goT (by rfl) (aC ?_))))
    simp only [QP];exact he
   ·obtain ⟨q1,q2⟩:=yY hb hk
    have hpj:=hu _ q2 (by rw [q1,hx])
    have he:=c6 b hb
    rw [if_pos hk,hpj,hv] at he
    rw [hx]
    refine goT (by rfl) (bF (fun v=>v=x.getD q 0) ?_ fun v hv=>aC hv)
    refine bC (aj.2 ⟨by omega,by omega⟩) (bC (aj.2 ⟨by omega,by omega⟩) (bC (aj.2 ⟨by simp only;omega,by simp only;omega⟩) (pU (by rfl) (bC (by rfl) (aC ?_)))))
    simp only [QP];exact he
theorem Nz {α:Type} {l:List α} {a z:Nat} {v d:α} (ha:a<l.length):(l.set a v).getD z d=if z=a then v else l.getD z d:=by
 rw [List.getD_eq_getElem?_getD,List.getD_eq_getElem?_getD]
 by_cases h:z=a
 ·subst h;rw [UV ha,if_pos rfl];rfl
 ·rw [VC (fun e=>h e.symm),if_neg h]
def HG (N i:Nat) (P:List aG→Prop) (fs:List aF):Prop:=fs.length=N∧∀k,k<N→(fs.getD k ak).params≤10∧(fs.getD k ak).regs≤4∧(k<i→Good (fs.getD k ak))∧(k=i→P (fs.getD k ak).blocks)∧(i<k→(fs.getD k ak).blocks=[])
theorem HG.put {N i:Nat} {P Q:List aG→Prop} {fs:List aF} {nm:List UInt8} {pa re:Int} {bl:List aG} (h:HG N i P fs) (hi:i<N) (hp:pa=(fs.getD i ak).params) (hr:re=(fs.getD i ak).regs) (hq:Q bl):HG N i Q (fs.set i (aF.mk nm pa re bl)):=by
 refine ⟨by simp [h.1],fun k hk => ?_⟩
 rw [Nz (by rw [h.1];exact hi)]
 obtain ⟨a1,a2,a3,a4,a5⟩:=h.2 k hk
 split
 ·rename_i e;subst e
  exact ⟨by simp only [hp];exact a1,by simp only [hr];exact a2,fun e=>absurd e (Km _),fun _=>hq,fun e=>absurd e (Km _)⟩
 ·rename_i e
  exact ⟨a1,a2,a3,fun e'=>absurd e' e,a5⟩
theorem HG.next {N i:Nat} {fs:List aF} (h:HG N i (fun bl=>bl.length≤1000∧0<bl.length∧yV bl∧ZI bl) fs):HG N (i+1) (fun bl=>bl=[]) fs:=
 ⟨h.1,fun k hk=>have ⟨a1,a2,a3,a4,a5⟩:=h.2 k hk;⟨a1,a2,fun e=>(by rcases v8 k i with e' | e';exact a3 e';exact a4 (by omega)),fun e=>a5 (by omega),fun e=>a5 (by omega)⟩⟩
theorem set_self {fs:List aF} {i:Nat} (hi:i<fs.length):fs.set i (aF.mk (fs.getD i ak).name (fs.getD i ak).params (fs.getD i ak).regs (fs.getD i ak).blocks)=fs:=by
 have:aF.mk (fs.getD i ak).name (fs.getD i ak).params (fs.getD i ak).regs (fs.getD i ak).blocks=fs[i]:=by rw [getD_at _ hi]
 rw [this,List.set_getElem_self]
def PU (m b:Nat) (bl:List aG):Prop:=bl.length=m∧∀k,k<b→((bl.getD k ah).aA=1∨(bl.getD k ah).aA=2∨(bl.getD k ah).aA=3)∧(0≤(bl.getD k ah).fO∧(bl.getD k ah).fO<m)∧0≤(bl.getD k ah).dh∧(bl.getD k ah).dh<m
theorem PU.ends {m:Nat} {bl:List aG} (h:PU m m bl):yV bl:=
 ⟨fun b hb=>have:=(h.2 b (h.1▸hb)).2;h.1▸⟨fun _=>this.1,fun _=>this.2⟩,fun b hb=>(h.2 b (h.1▸hb)).1⟩
theorem adl {l:List Int} {i:Int} (hb:Bytes l) (hi:0≤i):Ok (f16 l i) fun y=>(y.2.2.1=l∧0≤y.2.2.2.1)∧y.2.2.2.2.2.length≤1000∧∀f∈y.2.2.2.2.2,Good f:=by
 unfold f16
 refine goN hb hi (by omega) fun x0 j0 h0 a0 b0=>goN hb h0 (by omega) fun x1 j1 h1 a1 b1 => ?_
 have b1:=b1 (by omega)
 obtain ⟨N,hN'⟩ :∃N:Nat,1+x1=N:=⟨(1+x1).toNat,by omega⟩
 simp only [show b_ (1+x1)=N from (aO (by omega)).trans hN']
 refine bF (fun s=>s.1=l∧0≤s.2.1∧HG N 0 (fun bl=>bl=[]) s.2.2.2.2) ?_ fun s ⟨e1,e2,e3⟩ => ?_
 ·refine bI (fun s:Int×List Int×Int×Int×Int×List aF=>s.2.1=l∧0≤s.2.2.1∧(s.2.2.2.2.2.length:Int)=s.1∧s.1≤N∧∀f∈s.2.2.2.2.2,f.params≤10∧f.regs≤4∧f.blocks=[]) (fun s=>(N-s.1).toNat)
   ⟨rfl,h1,rfl,by simp,fun f hf=>by cases hf⟩ fun ⟨q,l',j,z1,z2,fs⟩ ⟨e1,e2,e3,e4,e5⟩ => ?_
  simp only at e1 e2 e3 e4 e5
  subst e1;subst e3
  refine bJ (fun hc => ?_) (fun hc=>aC ⟨rfl,e2,?_,fun k hk => ?_⟩)
  ·have hc:(fs.length:Int)<N:=by simpa using hc
   refine bF _ (uZ (by omega) (by omega)) fun nm hnm=>bC (oC.2 (by simp;omega)) (goN hb e2 (by omega) fun x2 j2 h2 a2 b2 => ?_)
   have b2:=b2 (by omega)
   have hw:b_ (1+x2)=1+x2:=aO (by omega)
   refine bF (fun s=>s.1=l'∧0≤s.2.1∧s.2.2.2.1≤10∧s.2.2.2.2≤4) ?_ fun ⟨s1,s2,s3,s4,s5⟩ ⟨g1,g2,g3,g4⟩=>bC (by unfold bV;simp;omega) (aC ⟨⟨g1,g2,?_,?_,fun f hf => ?_⟩,?_⟩)
   ·refine bJ (fun _ => ?_) (fun _=>aC ⟨rfl,h2,by simp,by simp only [hw];omega⟩)
    have hm:b_ (min (1+x2) 2+1)=min (1+x2) 2+1:=aO (by omega)
    rw [ae3,hw,hm]
    exact goN hb h2 (by omega) fun x3 j3 h3 a3 b3=>aC ⟨rfl,h3,by simp only;omega,by simp only;omega⟩
   all_goals try simp only [aO (x:=(fs.length:Int)+1) (by omega)]
   ·simp
   ·omega
   ·rcases X1.1 hf with hf | hf
    ·exact e5 f hf
    ·rw [Qt] at hf;subst hf;exact ⟨g3,g4,rfl⟩
   ·omega
  ·have hc:¬ (fs.length:Int)<N:=by simpa using hc
   simp only at e4 ⊢;omega
  ·have hc:¬ (fs.length:Int)<N:=by simpa using hc
   have hk':k<fs.length:=by omega
   simp only [getD_at ak hk']
   obtain ⟨r1,r2,r3⟩:=e5 _ (XX hk')
   exact ⟨r1,r2,fun h=>absurd h (Nat.not_lt_zero _),fun _=>r3,fun _=>r3⟩
 obtain ⟨s1,s2,s3,s4,fs0⟩:=s
 simp only at e1 e2 e3
 subst e1
 rw [show b_ ((N:Int)+1)=N+1 from aO (by omega)]
 refine goN hb e2 (by omega) fun ca jc hjc ac bc => ?_
 have bc:=bc (by omega)
 refine bF (fun s=>(s.1=s1∧0≤s.2.1)∧s.2.2.length≤1000∧∀f∈s.2.2,Good f) ?_ fun s hs=>aC hs
 refine bI (fun s:Int×List Int×Int×List aF =>∃i:Nat,s.1=i∧i≤N∧s.2.1=s1∧0≤s.2.2.1∧HG N i (fun bl=>bl=[]) s.2.2.2) (fun s=>(N-s.1).toNat)
  ⟨0,rfl,by omega,rfl,hjc,e3⟩ fun ⟨q,l',j,fs⟩ ⟨i,g1,g2,g3,g4,g5⟩ => ?_
 simp only at g1 g3 g4 g5
 subst g1;subst g3
 refine bJ (fun hc => ?_) (fun hc=>aC ⟨⟨rfl,g4⟩,by simp only;have:=g5.1;omega,fun f hf => ?_⟩)
 rotate_left
 ·have hc:¬ (i:Int)<N:=by simpa using hc
  obtain ⟨k,hk,e⟩:=K7 hf
  have hk2:k<N:=by have:=g5.1;simp only at hk;omega
  have:=(g5.2 k hk2).2.2.1 (by omega)
  rw [getD_at _ hk,e] at this
  exact this
 have hi:i<N:=by simp at hc;omega
 refine bC (aj.2 ⟨by simp only;omega,by have:=g5.1;simp only;omega⟩) (goN hb g4 (by omega) fun x2 j2 h2 a2 b2 => ?_)
 have b2:=b2 (by omega)
 obtain ⟨M,hM⟩ :∃M:Nat,1+x2=M:=⟨(1+x2).toNat,by omega⟩
 simp only [QP,show b_ (1+x2)=M from (aO (by omega)).trans hM]
 refine bF (fun s=>s.1=l'∧0≤s.2.1∧HG N i (fun bl=>bl.length=M) s.2.2) ?_ fun ⟨s1,s2,s3⟩ ⟨k1,k2,k3⟩ => ?_
 ·refine bI (fun s:Int×List Int×Int×List aF=>s.2.1=l'∧0≤s.2.2.1∧(0≤s.1∧s.1≤M)∧HG N i (fun bl=>(bl.length:Int)=M-s.1) s.2.2.2) (fun s=>s.1.toNat)
   ⟨rfl,h2,⟨by simp,by simp⟩,g5.1,fun k hk=>have ⟨z1,z2,z3,z4,z5⟩:=g5.2 k hk;⟨z1,z2,z3,fun e=>(by rw [z4 e];simp),z5⟩⟩ fun ⟨c,l2,j,fs⟩ ⟨r1,r2,r3,r4⟩ => ?_
  simp only at r1 r2 r3 r4
  subst r1
  have hfl:i<fs.length:=by rw [r4.1];exact hi
  obtain ⟨y1,y2,y3,y4,y5⟩:=r4.2 i hi
  have y4:=y4 rfl
  refine bJ (fun hp => ?_) (fun hp=>aC ⟨rfl,r2,?_⟩)
  rotate_left
  ·have hp:¬ 0<c:=by simpa using hp
   have:c=0:=by omega
   subst this
   exact ⟨r4.1,fun k hk=>have ⟨z1,z2,z3,z4,z5⟩:=r4.2 k hk;⟨z1,z2,z3,fun e=>(by have:=z4 e;simp only;omega),z5⟩⟩
  have hp:0<c:=by simpa using hp
  refine goN hb r2 (by omega) fun x3 j3 h3 a3 b3=>goN hb h3 (by omega) fun x4 j4 h4 a4 b4 => ?_
  have b4:=b4 (by omega)
  refine bF (fun s=>s.1=l2∧0≤s.2.1∧s.2.2.1=fs) ?_ fun s ⟨k1,k2,k3⟩ => ?_
  ·refine bI (fun s:Int×List Int×Int×List aF×Int×Int×Int×Int×Int×Int×Int×List fM=>s.2.1=l2∧0≤s.2.2.1∧s.2.2.2.1=fs∧(0≤s.1∧s.1≤4)∧(s.2.2.2.2.2.2.2.2.2.2.2.length:Int)≤4-s.1) (fun s=>s.1.toNat)
    ⟨rfl,h4,rfl,⟨a4,by simp only;omega⟩,by simp only [Kc];omega⟩ fun ⟨c',l3,j3,fs',v1,v2,v3,v4,v5,v6,v7,is⟩ ⟨u1,u2,u3,u4,u5⟩ => ?_
   simp only at u1 u2 u3 u4 u5
   subst u1;subst u3
   refine bJ (fun hp' => ?_) (fun _=>aC ⟨rfl,u2,rfl⟩)
   have hp':0<c':=by simpa using hp'
   simp only [set_self hfl]
   refine bF _ (instr_ok hb u2 (by omega) (by omega) ⟨by omega,by have:=r4.1;omega⟩ fun f hf => ?_) fun y ⟨y1,y2⟩=>bC (by unfold bV;simp;omega) (aC ⟨⟨y1,y2,rfl,?_,?_⟩,?_⟩)
   ·obtain ⟨k,hk,e⟩:=K7 hf
    have:=(r4.2 k (by rw [←r4.1];exact hk)).1
    rw [getD_at _ hk,e] at this
    exact this
   all_goals simp only [aO (x:=c'-1) (by omega)]
   ·omega
   ·simp;omega
   ·omega
  obtain ⟨s1,s2,s3,s⟩:=s
  simp only at k1 k2 k3
  subst k1;subst k3
  refine bC (by simp [-List.getD_eq_getElem?_getD];omega) (bC (by simp) (aC ⟨⟨rfl,k2,?_,r4.put hi rfl rfl ?_⟩,?_⟩))
  all_goals simp only [aO (x:=c-1) (by omega)]
  ·omega
  ·simp [-List.getD_eq_getElem?_getD];omega
  ·omega
 simp only at k1 k2 k3
 subst k1
 refine bF (fun s=>s.1=s1∧0≤s.2.1∧HG N i (PU M M) s.2.2) ?_ fun ⟨t1,t2,t3⟩ ⟨k4,k5,k6⟩ => ?_
 ·refine bI (fun s:Int×List Int×Int×List aF =>∃b:Nat,s.1=b∧b≤M∧s.2.1=s1∧0≤s.2.2.1∧HG N i (PU M b) s.2.2.2) (fun s=>(M-s.1).toNat)
   ⟨0,rfl,by omega,rfl,k2,k3.1,fun k hk=>have ⟨z1,z2,z3,z4,z5⟩:=k3.2 k hk;⟨z1,z2,z3,fun e=>⟨z4 e,fun _ h=>absurd h (Nat.not_lt_zero _)⟩,z5⟩⟩ fun ⟨c,l2,j,fs⟩ ⟨b,r0,r1,r2,r3,r4⟩ => ?_
  simp only at r0 r2 r3 r4
  subst r0;subst r2
  have hfl:i<fs.length:=by rw [r4.1];exact hi
  obtain ⟨y1,y2,y3,y4,y5⟩:=r4.2 i hi
  have y4:=y4 rfl
  simp only [UB,y4.1]
  refine bJ (fun hp => ?_) (fun hp=>aC ⟨rfl,r3,?_⟩)
  rotate_left
  ·have hp:¬ (b:Int)<M:=by simpa using hp
   have:b=M:=by omega
   subst this
   exact r4
  have hp:b<M:=by simp at hp;omega
  refine goN hb r3 (by omega) fun x3 j3 h3 a3 b3=>bC (aj.2 ⟨a3,by have:=b3 (by omega);simp;omega⟩) (goN hb h3 (by omega) fun x4 j4 h4 a4 b4=>goN hb h4 (by omega) fun x5 j5 h5 a5 b5=>goN hb h5 (by omega) fun x6 j6 h6 a6 b6=>bC (aj.2 ⟨by omega,by omega⟩) (aC ⟨⟨b+1,?_,by omega,rfl,h6,?_⟩,?_⟩))
  ·simp only [aO (x:=(b:Int)+1) (by omega)];simp
  ·refine r4.put hi rfl rfl ⟨by rw [ZD];exact y4.1,fun k hk => ?_⟩
   simp only [QP]
   rw [Nz (by rw [y4.1];exact hp)]
   split
   ·refine ⟨?_,⟨a5,b5 (by omega)⟩,a6,b6 (by omega)⟩
    have:=b3 (by omega)
    have:x3=0∨x3=1∨x3=2∨x3=3:=by omega
    rcases this with e | e | e | e<;>subst e<;>simp
   ·exact y4.2 k (by omega)
  ·simp only [aO (x:=(b:Int)+1) (by omega)];omega
 simp only at k4 k5 k6
 subst k4
 obtain ⟨y1,y2,y3,y4,y5⟩:=k6.2 i hi
 have y4:=y4 rfl
 refine bF _ (VZ (bs:=(t3.getD i ak).blocks) y4.ends (by have:=y4.1;omega) (by have:=y4.1;omega)) fun ⟨c1,c2,c3,c4⟩ ⟨p1,p2,p3,p4,p5,p6,p7⟩=>bC (by simp) (aC ⟨⟨i+1,?_,by omega,rfl,k5,HG.next (k6.put hi p2 p3 ⟨Vn p5 (by have:=y4.1;omega),p4,p6,p7⟩)⟩,?_⟩)
 ·show b_ ((i:Int)+1)=_
  rw [aO (by omega)];rfl
 ·show ((N:Int)-b_ ((i:Int)+1)).toNat<((N:Int)-i).toNat
  rw [aO (by omega)];omega
theorem ajj {A α:Type} {a b:A} {x:Option α} {Q:α→Prop}:Ok (yA a b x) Q↔a=b∧Ok x Q:=by
 unfold yA
 split
 ·rename_i e;exact ⟨fun h=>⟨e,h⟩,fun h=>h.2⟩
 ·rename_i e;exact ⟨fun ⟨_,h,_⟩=>(by cases h),fun h=>absurd h.1 e⟩
theorem goK {A α:Type} {a b:A} {x:Option α} {Q:α→Prop} (e:a=b) (h:Ok x Q):Ok (yA a b x) Q:=ajj.2 ⟨e,h⟩
def WE (m:Nat):Nat→bK→Prop
 |0,_=>False
 |n+1,x=>x.args.length≤m∧(x.kind=7∨x.kind=8→2≤x.args.length)∧(x.kind=10→1≤x.args.length)∧∀y∈x.args,WE m n y
theorem WE.up {m:Nat} :∀{n k:Nat} {x:bK},WE m n x→n≤k→WE m k x
 |0,_,_,h,_=>h.elim
 |n+1,0,_,_,h=>by omega
 |n+1,k+1,x,h,hk=>⟨h.1,h.2.1,h.2.2.1,fun y hy=>(h.2.2.2 y hy).up (by omega)⟩
theorem we0 {m n:Nat} {k o v i:Int} {nm:List UInt8} (h1:k≠7) (h2:k≠8) (h3:k≠10):WE m (n+1) (bK.mk k o v i nm []):=
 ⟨qS _,fun h=>absurd h (by simp [h1,h2]),fun h=>absurd h h3,fun y hy=>by cases hy⟩
theorem we1 {m n:Nat} {k o v i:Int} {nm:List UInt8} {x:bK} (h1:k≠7) (h2:k≠8) (hx:WE m n x) (hm:3≤m):WE m (n+1) (bK.mk k o v i nm [x]):=
 ⟨by simp;omega,fun h=>absurd h (by simp [h1,h2]),fun h=>by simp,fun y hy=>by rw [Qt] at hy;subst hy;exact hx⟩
theorem we2 {m n:Nat} {k o v i:Int} {nm:List UInt8} {x z:bK} (hx:WE m n x) (hz:WE m n z) (hm:3≤m):WE m (n+1) (bK.mk k o v i nm [x,z]):=
 ⟨by simp;omega,fun h=>by simp,fun h=>by simp,fun y hy=>by
  rcases QR.1 hy with e | e
  ·subst e;exact hx
  ·rw [Qt] at e;subst e;exact hz⟩
structure Env (l:List Int) (g:List aW) (fs:List aB) (lo:List (List UInt8)):Prop where
 b:Bytes l
 g:g.length≤100
 f0:0<fs.length
 f1:fs.length≤100
 fp :∀f∈fs,f.params.length≤2
 lo:lo.length≤100
section
variable {l:List Int} {g:List aW} {fs:List aB} {lo:List (List UInt8)}
theorem agC {a:Bool} {b i:Int} (h:Env l g fs lo) (hi:0≤i):Ok (afI a b l i g fs lo) fun y =>∃nm t j,0≤j∧y=(nm,t,b,l,j,g,fs,lo):=by
 unfold afI
 refine bF (fun y =>∃nm t j,0≤j∧y=(nm,t,b,l,j,g,fs,lo)) ?_ fun y ⟨nm,t,j,hj,e⟩=>by subst e;exact bC (by simp) (bC (by simp) (bC (by simp) (aC ⟨nm,t,j,hj,rfl⟩)))
 have hg:=h.g
 refine bF (fun s=>s.length≤100) ?_ fun s hs => ?_
 ·refine bI (fun s:Int×List (List UInt8)=>0≤s.1∧s.1≤g.length∧s.2.length≤s.1) (fun s=>(g.length-s.1).toNat) ⟨by simp,by simp,by simp⟩ fun ⟨q,s⟩ ⟨e1,e2,e3⟩ => ?_
  simp only at e1 e2 e3
  refine bJ (fun hc => ?_) (fun hc=>aC (by simp only [ab8];omega))
  have hc:q<g.length:=by simpa using hc
  refine bC (aj.2 ⟨e1,hc⟩) (bF (fun s'=>s'.length≤s.length+1) ?_ fun s' hs'=>aC ⟨⟨?_,?_,?_⟩,?_⟩)
  ·exact bJ (fun _=>bC (aj.2 ⟨e1,hc⟩) (bC (by unfold bV;simp;omega) (aC (by simp)))) fun _=>aC (by simp)
  all_goals simp only [aO (x:=q+1) (by omega)];omega
 refine bJ (fun _=>aC ⟨_,_,_,hi,rfl⟩) fun hc=>goN h.b hi (by omega) fun x j hj h0 h1=>bC (aj.2 ⟨h0,h1 ?_⟩) (aC ⟨_,_,_,hj,rfl⟩)
 simp at hc;cases s with
 |nil=>exact absurd rfl hc
 |cons a s=>simp;omega
theorem goP {β:Type} {a:Bool} {b i:Int} {f:List UInt8×Bool×Int×List Int×Int×List aW×List aB×List (List UInt8)→Option β} {Q:β→Prop} (h:Env l g fs lo) (hi:0≤i)
  (k :∀nm t j,0≤j→Ok (f (nm,t,b,l,j,g,fs,lo)) Q):Ok (Option.bind (f84 a b l i g fs lo) f) Q:=by
 refine bF (fun y =>∃nm t j,0≤j∧y=(nm,t,b,l,j,g,fs,lo)) ?_ fun y ⟨nm,t,j,hj,e⟩=>by subst e;exact k nm t j hj
 exact bF _ (agC h hi) fun y ⟨nm,t,j,hj,e⟩=>by subst e;exact goK rfl (goK rfl (goK rfl (aC ⟨nm,t,j,hj,rfl⟩)))
theorem agD {b i:Int} (h:Env l g fs lo) (hi:0≤i):Ok (afK b l i g fs lo) fun y =>∃k v nm j,0≤j∧(k=12∨k=13∨k=1)∧y=(k,0,v,0,nm,b,l,j,g,fs,lo):=by
 unfold afK
 refine bF (fun y =>∃k v nm j,0≤j∧(k=12∨k=13∨k=1)∧y=(k,0,v,0,nm,b,l,j,g,fs,lo)) ?_ fun y ⟨k,v,nm,j,hj,hk,e⟩=>by subst e;exact bC (by simp) (bC (by simp) (bC (by simp) (aC ⟨k,v,nm,j,hj,hk,rfl⟩)))
 refine goN h.b hi (by omega) fun x0 j0 h0 _ _=>bJ (fun _=>aC ⟨12,_,_,_,h0,by simp,rfl⟩) fun _=>pV (fun y =>∃j,0≤j∧y=(b,l,j)) ?_ fun y ⟨j,hj,e⟩ => ?_
 ·refine bJ (fun _=>goP h h0 fun nm t j hj=>bJ (fun _=>aC ⟨13,_,_,_,hj,by simp,rfl⟩) fun _=>aC ⟨_,hj,rfl⟩) fun _=>bF (fun _=>True) ?_ fun s _=>pV (fun _=>True) ?_ fun _ _=>aC ⟨_,h0,rfl⟩
  ·exact bJ (fun _=>aC trivial) fun _=>aC trivial
  ·refine bJ (fun _=>bJ (fun _=>goN h.b h0 (by have:=h.lo;omega) fun x j hj a1 a2 => ?_) fun _=>aC trivial) fun _=>aC trivial
   rename_i hc
   have hc:0<lo.length:=by simpa using hc
   exact bC (aj.2 ⟨a1,a2 (by omega)⟩) (aC ⟨13,_,_,_,hj,by simp,rfl⟩)
 subst e
 refine goN h.b hj (by omega) fun x1 j1 h1 _ _=>goN h.b h1 (by omega) fun x2 j2 h2 _ _=>bF (fun y =>∃v j,0≤j∧y=(v,l,j)) ?_ fun y ⟨v,j,hj,e⟩=>by subst e;exact aC ⟨1,_,_,_,hj,by simp,rfl⟩
 exact bJ (fun _=>goN h.b h2 (by omega) fun x3 j3 h3 a3 b3=>bC (aj.2 ⟨a3,by have:=b3 (by omega);simp;omega⟩) (aC ⟨_,_,h3,rfl⟩)) fun _=>aC ⟨_,_,h2,rfl⟩
theorem goL {β:Type} {b i:Int} {f:Int×Int×Int×Int×List UInt8×Int×List Int×Int×List aW×List aB×List (List UInt8)→Option β} {Q:β→Prop} (h:Env l g fs lo) (hi:0≤i)
  (k :∀q v nm j,0≤j→(q=12∨q=13∨q=1)→Ok (f (q,0,v,0,nm,b,l,j,g,fs,lo)) Q):Ok (Option.bind (f88 b l i g fs lo) f) Q:=by
 refine bF (fun y =>∃k v nm j,0≤j∧(k=12∨k=13∨k=1)∧y=(k,0,v,0,nm,b,l,j,g,fs,lo)) ?_ fun y ⟨q,v,nm,j,hj,hk,e⟩=>by subst e;exact k q v nm j hj hk
 exact bF _ (agD h hi) fun y ⟨q,v,nm,j,hj,hk,e⟩=>by subst e;exact goK rfl (goK rfl (goK rfl (aC ⟨q,v,nm,j,hj,hk,rfl⟩)))
def PE (n:Nat) (b:Int) (l:List Int) (g:List aW) (fs:List aB) (lo:List (List UInt8)) (y:Int×Int×Int×Int×List UInt8×List bK×Int×List Int×Int×List aW×List aB×List (List UInt8)):Prop:=
 ∃x j,y=(x.kind,x.op,x.value,x.line,x.name,x.args,b,l,j,g,fs,lo)∧0≤j∧WE 3 n x
def PC (n:Nat) (b:Int) (l:List Int) (g:List aW) (fs:List aB) (lo:List (List UInt8)) (y:Int×Int×Int×Int×List UInt8×Int×List Int×Int×List aW×List aB×List (List UInt8)×List bK):Prop:=
 ∃x j,y=(x.kind,x.op,x.value,x.line,x.name,b,l,j,g,fs,lo,x.args)∧0≤j∧WE 3 n x
theorem adn {n:Nat} {p b i:Int} {r} (h:Ok r (PE n b l g fs lo)):Ok (k83 p b l i g fs lo r) (PE n b l g fs lo):=
 bF _ h fun y ⟨x,j,e,h⟩=>by subst e;exact goK rfl (goK rfl (goK rfl (aC ⟨x,j,rfl,h⟩)))
theorem ado {n:Nat} {p b i:Int} {r} (h:Ok r (PC n b l g fs lo)):Ok (k86 p b l i g fs lo r) (PC n b l g fs lo):=
 bF _ h fun y ⟨x,j,e,h⟩=>by subst e;exact goK rfl (goK rfl (goK rfl (aC ⟨x,j,rfl,h⟩)))
theorem goX {β:Type} {rec:T83} {d n:Nat} (h :∀b i,0≤i→Ok (rec d b l i g fs lo) (PE n b l g fs lo)) {q b i:Int} {f} {Q:β→Prop} (hq:q=d) (hi:0≤i)
  (k :∀k o v i nm ar j,0≤j→WE 3 n (bK.mk k o v i nm ar)→Ok (f (k,o,v,i,nm,ar,b,l,j,g,fs,lo)) Q):Ok (Option.bind (rec q b l i g fs lo) f) Q:=by
 subst hq
 exact bF _ (h b i hi) fun y ⟨⟨a1,a2,a3,a4,a5,a6⟩,j,e,h1,h2⟩=>by subst e;exact k _ _ _ _ _ _ j h1 h2
theorem amn {β:Type} {rec:T86} {d n:Nat} (h :∀b i,0≤i→Ok (rec d b l i g fs lo) (PC n b l g fs lo)) {q b i:Int} {f} {Q:β→Prop} (hq:q=d) (hi:0≤i)
  (k :∀k o v i nm ar j,0≤j→WE 3 n (bK.mk k o v i nm ar)→Ok (f (k,o,v,i,nm,b,l,j,g,fs,lo,ar)) Q):Ok (Option.bind (rec q b l i g fs lo) f) Q:=by
 subst hq
 exact bF _ (h b i hi) fun y ⟨⟨a1,a2,a3,a4,a5,a6⟩,j,e,h1,h2⟩=>by subst e;exact k _ _ _ _ _ _ j h1 h2
theorem NC {rec:T83} {rec':T86} {d:Nat} (h:Env l g fs lo) (hd:d≤100) (hr :∀b i,0≤i→Ok (rec d b l i g fs lo) (PE (d+1) b l g fs lo)) {b i:Int} (hi:0≤i) :
  Ok (af7 rec rec' (d+1:Nat) b l i g fs lo) (PC (d+2) b l g fs lo):=by
 have hw:b_ (((d+1:Nat):Int)-1)=d:=by rw [aO (by omega)];omega
 have hf0:=h.f0;have hf1:=h.f1
 unfold af7
 refine bF (PC (d+2) b l g fs lo) ?_ fun y ⟨x,j,e,h⟩=>by subst e;exact bC (by simp) (bC (by simp) (bC (by simp) (aC ⟨x,j,rfl,h⟩)))
 refine goN h.b hi (by omega) fun x0 j0 h0 a0 b0=>bC (aj.2 ⟨a0,b0 (by omega)⟩) (goN h.b h0 (by omega) fun x1 j1 h1 a1 b1 => ?_)
 have b0:=b0 (by omega)
 refine bF (fun y =>∃t j,0≤j∧y=(t,l,j)) ?_ fun y ⟨t,j2,h2,e⟩ => ?_
 ·exact bJ (fun _=>goN h.b h1 (by omega) fun x j hj _ _=>aC ⟨_,_,hj,rfl⟩) fun _=>aC ⟨_,_,h1,rfl⟩
 subst e
 refine bF (fun y =>∃(q:Int) (j:Int),0≤j∧q≤2∧y=(q,l,j)) ?_ fun y ⟨q,j3,h3,hq2,e⟩ => ?_
 ·refine bJ (fun _=>goN h.b h2 (by omega) fun x j hj _ c=>aC ⟨x,_,hj,by have:=c (by omega);omega,rfl⟩) fun _=>aC ⟨_,_,h2,?_,rfl⟩
  show ((fs.getD x0.toNat h_).params.length:Int)≤2
  rw [getD_at _ (by omega)]
  have:=h.fp _ (XX (l:=fs) (n:=x0.toNat) (by omega));omega
 subst e
 refine bF (fun y =>∃j ar,0≤j∧ar.length≤2∧(∀x∈ar,WE 3 (d+1) x)∧y=(b,l,j,ar)) ?_ fun y ⟨j4,ar,h4,l1,l2,e⟩ => ?_
 ·refine bI (fun s:Int×Int×List Int×Int×List bK =>∃j,0≤j∧0≤s.1∧(s.1≤q∨s.1=0)∧(s.2.2.2.2.length:Int)=s.1∧(∀x∈s.2.2.2.2,WE 3 (d+1) x)∧s=(s.1,b,l,j,s.2.2.2.2)) (fun s=>(q-s.1).toNat)
   ⟨j3,h3,by simp,.inr rfl,by simp,fun x hx=>(by cases hx),rfl⟩ fun ⟨c,b',l',j',ar⟩ ⟨j,hj,e1,e2,e3,e4,e⟩ => ?_
  simp only at e1 e2 e3 e4
  injection e with _ e;injection e with f1 e;injection e with f2 e;injection e with f3 e
  subst f1;subst f2;subst f3
  refine bJ (fun hc => ?_) (fun _=>aC ⟨j',ar,hj,by omega,e4,rfl⟩)
  have hc:c<q:=by simpa using hc
  refine goX hr hw hj fun _ _ _ _ _ _ j hj hx=>bC (by unfold bV;simp;omega) (aC ⟨⟨j,hj,?_,?_,?_,fun z hz => ?_,rfl⟩,?_⟩)
  all_goals try simp only [aO (x:=c+1) (by omega)]
  ·omega
  ·exact .inl (by omega)
  ·simp;omega
  ·rcases X1.1 hz with hz | hz
   ·exact e4 z hz
   ·rw [Qt] at hz;subst hz;exact hx
  ·omega
 subst e
 refine bJ (fun _=>aC ⟨bK.mk 9 0 0 0 _ ar,j4,rfl,h4,⟨by simp only;omega,fun h=>absurd h (by simp),fun h=>absurd h (by simp),l2⟩⟩) fun _=>goN h.b h4 (by omega) fun x5 j5 h5 _ _ => ?_
 refine bF (fun y =>∃x j,0≤j∧WE 3 (d+1) x∧y=(b,l,j,x.kind,x.op,x.value,x.line,x.name,x.args)) ?_ fun y ⟨⟨x1,x2,x3,x4,x5,x6⟩,j6,h6,hx,e⟩ => ?_
 ·refine bJ (fun _=>goX hr hw h5 fun _ _ _ _ _ _ j hj hx=>aC ⟨bK.mk _ _ _ _ _ _,j,hj,hx,rfl⟩) fun _=>aC ⟨bK.mk 11 0 0 0 _ pW,j5,h5,we0 (by simp) (by simp) (by simp),rfl⟩
 subst e
 refine bJ (fun _=>aC ⟨bK.mk 9 0 0 0 x5 ar,j6,rfl,h6,⟨by simp only;omega,fun h=>absurd h (by simp),fun h=>absurd h (by simp),l2⟩⟩) fun _=>bC (by unfold bV;simp;omega) (aC ⟨bK.mk 10 0 0 0 dX ([bK.mk x1 x2 x3 x4 x5 x6]++ar),j6,rfl,h6,⟨by simp;omega,fun h=>absurd h (by simp),fun h=>by simp,fun z hz => ?_⟩⟩)
 rcases X1.1 hz with hz | hz
 ·rw [Qt] at hz;subst hz;exact hx
 ·exact l2 z hz
theorem ZR {rec:T83} {rec':T86} {d:Nat} (h:Env l g fs lo) (hd:d≤100) (hr :∀b i,0≤i→Ok (rec d b l i g fs lo) (PE (d+1) b l g fs lo))
  (hc :∀b i,0≤i→Ok (rec' (d+1:Nat) b l i g fs lo) (PC (d+2) b l g fs lo)) {b i:Int} (hi:0≤i) :
  Ok (ZF rec rec' (d+1:Nat) b l i g fs lo) (PE (d+2) b l g fs lo):=by
 have hw:b_ (((d+1:Nat):Int)-1)=d:=by rw [aO (by omega)];omega
 unfold ZF
 refine bF (PE (d+2) b l g fs lo) ?_ fun y ⟨x,j,e,h⟩=>by subst e;exact bC (by simp) (bC (by simp) (bC (by simp) (aC ⟨x,j,rfl,h⟩)))
 refine bF (fun y =>∃t j,0≤j∧y=(t,l,j)) ?_ fun y ⟨t,j2,h2,e⟩ => ?_
 ·exact bJ (fun _=>aC ⟨_,_,hi,rfl⟩) fun _=>goN h.b hi (by omega) fun x j hj _ _=>aC ⟨_,_,hj,rfl⟩
 subst e
 refine bJ (fun _=>goL h h2 fun q v nm j hj hq=>aC ⟨bK.mk q 0 v 0 nm [],j,rfl,hj,we0 (by omega) (by omega) (by omega)⟩) fun _=>goN h.b h2 (by omega) fun x3 j3 h3 _ _ => ?_
 refine bJ (fun _=>goN h.b h3 (by omega) fun x4 j4 h4 _ _=>goX hr hw h4 fun _ _ _ _ _ _ j hj hx=>oP rfl (aC ⟨bK.mk 5 _ 0 0 dX [_],j,rfl,hj,we1 (by simp) (by simp) hx (by omega)⟩)) fun _ => ?_
 refine bJ (fun _=>goX hr hw h3 fun _ _ _ _ _ _ j hj hx=>goX hr hw hj fun _ _ _ _ _ _ j hj hz=>oP rfl (aC ⟨bK.mk 7 _ 0 0 dX [_,_],j,rfl,hj,we2 hx hz (by omega)⟩)) fun _ => ?_
 refine bJ (fun _=>goX hr hw h3 fun _ _ _ _ _ _ j hj hx=>goX hr hw hj fun _ _ _ _ _ _ j hj hz=>oP rfl (aC ⟨bK.mk 8 _ 0 0 dX [_,_],j,rfl,hj,we2 hx hz (by omega)⟩)) fun _ => ?_
 refine bF (fun _=>True) ?_ fun s _ => ?_
 ·exact bJ (fun _=>aC trivial) fun _=>aC trivial
 refine bJ (fun _=>amn hc rfl h3 fun _ _ _ _ _ _ j hj hx=>aC ⟨bK.mk _ _ _ _ _ _,j,rfl,hj,hx⟩) fun _=>pV (fun y =>∃j,0≤j∧y=(b,l,j)) ?_ fun y ⟨j,hj,e⟩ => ?_
 ·exact bJ (fun _=>goP h h3 fun nm t j hj=>bJ (fun _=>goX hr hw hj fun _ _ _ _ _ _ j hj hx=>aC ⟨bK.mk 4 0 0 0 nm [_],j,rfl,hj,we1 (by simp) (by simp) hx (by omega)⟩) fun _=>aC ⟨_,hj,rfl⟩) fun _=>aC ⟨_,h3,rfl⟩
 subst e
 exact goN h.b hj (by omega) fun x5 j5 h5 _ _=>goX hr hw h5 fun _ _ _ _ _ _ j hj hx=>goX hr hw hj fun _ _ _ _ _ _ j hj hz=>oP rfl (aC ⟨bK.mk 6 _ 0 0 dX [_,_],j,rfl,hj,we2 hx hz (by omega)⟩)
theorem ZT {rec:T83} {rec':T86} (h:Env l g fs lo) {b i:Int} (hi:0≤i):Ok (ZF rec rec' (0:Nat) b l i g fs lo) (PE 1 b l g fs lo):=by
 unfold ZF
 refine bF (PE 1 b l g fs lo) ?_ fun y ⟨x,j,e,h⟩=>by subst e;exact bC (by simp) (bC (by simp) (bC (by simp) (aC ⟨x,j,rfl,h⟩)))
 refine bF (fun y=>y=(true,l,i)) ?_ fun y e => ?_
 ·exact goT (decide_eq_true (by simp)) (aC rfl)
 subst e
 exact goT rfl (goL h hi fun q v nm j hj hq=>aC ⟨bK.mk q 0 v 0 nm [],j,rfl,hj,we0 (by omega) (by omega) (by omega)⟩)
theorem TD (n:Nat):(ug (n+1)).1=ZF (af8 n) (af9 n):=rfl
theorem TF (n:Nat):(ug (n+1)).2=af7 (af8 n) (af9 n):=rfl
theorem yZ (h:Env l g fs lo) :∀d:Nat,d≤100→∀n,2*d+1≤n→(∀b i,0≤i→Ok (af8 n d b l i g fs lo) (PE (d+1) b l g fs lo))∧∀e,e+1=d→∀b i,0≤i→Ok (af9 n d b l i g fs lo) (PC (d+1) b l g fs lo)
 |_,_,0,hn=>by omega
 |0,_,n+1,hn=>⟨fun b i hi=>adn (by rw [TD];exact ZT h hi),fun e he=>by omega⟩
 |d+1,hd,n+1,hn=>by
  have ih:=yZ h d (by omega) n (by omega)
  obtain ⟨m,rfl⟩ :∃m,n=m+1:=⟨n-1,by omega⟩
  have ih':=yZ h d (by omega) m (by omega)
  refine ⟨fun b i hi=>adn (by rw [TD];exact ZR h (by omega) ih.1 (fun b i hi=>ado (by rw [TF];exact NC h (by omega) ih'.1 hi)) hi),fun e he b i hi=>ado (by rw [TF];exact NC h (by omega) ih.1 hi)⟩
end
def WS (m h:Nat):Nat→eX→Prop
 |0,_=>False
 |n+1,x=>x.exprs.length≤2∧(x.kind=5→1≤x.exprs.length)∧(∀y∈x.exprs,WE m h y)∧(x.then'.length≤10∧x.else'.length≤10)∧(∀y∈x.then',WS m h n y)∧∀y∈x.else',WS m h n y
theorem PY {α:Type} {P:α→Prop} {x:α} (h:P x) :∀y∈[x],P y:=fun y hy=>by rw [Qt] at hy;subst hy;exact h
theorem agE {α:Type} {P:α→Prop} {x z:α} (h:P x) (h':P z) :∀y∈[x,z],P y:=fun y hy=>by
 rcases QR.1 hy with e | e
 ·subst e;exact h
 ·exact PY h' y e
theorem LY {n:Nat} {k i:Int} {nm:List UInt8} {x:bK} {th el:List eX} (hx:WE 3 3 x) (h1:th.length≤10) (h2:el.length≤10) (h3 :∀y∈th,WS 3 3 n y) (h4 :∀y∈el,WS 3 3 n y):WS 3 3 (n+1) (eX.mk k i nm [x] th el):=
 ⟨by simp,fun _=>by simp,PY hx,⟨h1,h2⟩,h3,h4⟩
theorem GI {n:Nat} {k i:Int} {nm:List UInt8} {x:bK} (hx:WE 3 3 x):WS 3 3 (n+1) (eX.mk k i nm [x] [] []):=LY hx (by simp) (by simp) (fun y h=>by cases h) (fun y h=>by cases h)
structure V3 (k:Int) (l:List Int) (g:List aW) (fs:List aB):Prop where
 b:Bytes l
 g:g.length≤100
 f0:0<fs.length
 f1:fs.length≤100
 fp :∀f∈fs,f.params.length≤2
 k:k≤100
section
variable {kk:Int} {l:List Int} {g:List aW} {fs:List aB}
theorem V3.env (h:V3 kk l g fs) {lo:List (List UInt8)} (hl:(lo.length:Int)≤kk):Env l g fs lo:=⟨h.b,h.g,h.f0,h.f1,h.fp,by have:=h.k;omega⟩
def PS (n:Nat) (kk:Int) (l:List Int) (g:List aW) (fs:List aB) (y:Int×Int×List UInt8×Int×List Int×Int×List aW×List aB×List bK×List eX×List eX×List (List UInt8)):Prop:=
 ∃k i nm es th el b j lo,y=(k,i,nm,b,l,j,g,fs,es,th,el,lo)∧0≤j∧(0≤b∧lo.length+b≤kk)∧WS 3 3 n (eX.mk k i nm es th el)
def PL (n:Nat) (kk:Int) (l:List Int) (g:List aW) (fs:List aB) (y:Int×Int×List UInt8×Int×List Int×Int×List aW×List aB×List bK×List eX×List (List UInt8)):Prop:=
 ∃k i nm es th b j lo,y=(k,i,nm,b,l,j,g,fs,es,th,lo)∧0≤j∧(0≤b∧lo.length+b≤kk)∧WS 3 3 n (eX.mk k i nm es th [])
def PB (n:Nat) (m kk:Int) (l:List Int) (g:List aW) (fs:List aB) (y:Int×List Int×Int×List aW×List aB×List eX×List (List UInt8)):Prop:=
 ∃ss b j lo,y=(b,l,j,g,fs,ss,lo)∧0≤j∧(0≤b∧lo.length+b≤kk)∧(ss.length≤10∧ss.length≤m)∧∀s∈ss,WS 3 3 n s
theorem ajk {n:Nat} {p m m' b i:Int} {lo r} (h:Ok r (PB n m kk l g fs)):Ok (k59 p m' b l i g fs lo r) (PB n m kk l g fs):=
 bF _ h fun y ⟨ss,b,j,lo,e,h⟩=>by subst e;exact goK rfl (goK rfl (aC ⟨ss,b,j,lo,rfl,h⟩))
theorem ajl {n:Nat} {p b i:Int} {lo r} (h:Ok r (PS n kk l g fs)):Ok (k72 p b l i g fs lo r) (PS n kk l g fs):=
 bF _ h fun y ⟨k,i,nm,es,th,el,b,j,lo,e,h⟩=>by subst e;exact goK rfl (goK rfl (aC ⟨k,i,nm,es,th,el,b,j,lo,rfl,h⟩))
theorem ajm {n:Nat} {p b i:Int} {lo r} (h:Ok r (PL n kk l g fs)):Ok (k85 p b l i g fs lo r) (PL n kk l g fs):=
 bF _ h fun y ⟨k,i,nm,es,th,b,j,lo,e,h⟩=>by subst e;exact goK rfl (goK rfl (aC ⟨k,i,nm,es,th,b,j,lo,rfl,h⟩))
theorem agF {β:Type} {rec:T59} {d n:Nat} (h :∀m b i lo,m≤4→0≤b→lo.length+b≤kk→0≤i→Ok (rec d m b l i g fs lo) (PB n (max m 0) kk l g fs)) {q m b i:Int} {lo f} {Q:β→Prop} (hq:q=d) (hm:m≤4) (hb:0≤b) (hl:lo.length+b≤kk) (hi:0≤i)
  (k :∀ss b' j lo',0≤j→0≤b'→lo'.length+b'≤kk→ss.length≤4→(∀s∈ss,WS 3 3 n s)→Ok (f (b',l,j,g,fs,ss,lo')) Q):Ok (Option.bind (rec q m b l i g fs lo) f) Q:=by
 subst hq
 exact bF _ (h m b i lo hm hb hl hi) fun y ⟨ss,b,j,lo,e,h1,h2,h3,h4⟩=>by subst e;exact k ss b j lo h1 h2.1 h2.2 (by omega) h4
theorem TG {β:Type} {lo:List (List UInt8)} (h:Env l g fs lo) {b i:Int} {f} {Q:β→Prop} (hi:0≤i)
  (k :∀k o v i nm ar j,0≤j→WE 3 3 (bK.mk k o v i nm ar)→Ok (f (k,o,v,i,nm,ar,b,l,j,g,fs,lo)) Q):Ok (Option.bind (f83 2 b l i g fs lo) f) Q:=
 goX (rec:=f83) (d:=2) (fun b i hi=>(yZ h 2 (by omega) 1048576 (by omega)).1 b i hi) rfl hi k
theorem aqr {β:Type} {lo:List (List UInt8)} (h:Env l g fs lo) {b i:Int} {f} {Q:β→Prop} (hi:0≤i)
  (k :∀k o v i nm ar j,0≤j→WE 3 3 (bK.mk k o v i nm ar)→Ok (f (k,o,v,i,nm,ar,b,l,j,g,fs,lo)) Q):Ok (Option.bind (f83 1 b l i g fs lo) f) Q:=
 goX (rec:=f83) (d:=1) (fun b i hi=>(yZ h 1 (by omega) 1048576 (by omega)).1 b i hi) rfl hi fun k' o v i nm ar j hj hx=>k k' o v i nm ar j hj (hx.up (by omega))
theorem aqs {β:Type} {lo:List (List UInt8)} (h:Env l g fs lo) {b i:Int} {f} {Q:β→Prop} (hi:0≤i)
  (k :∀k o v i nm ar j,0≤j→WE 3 3 (bK.mk k o v i nm ar)→Ok (f (k,o,v,i,nm,b,l,j,g,fs,lo,ar)) Q):Ok (Option.bind (f86 2 b l i g fs lo) f) Q:=
 amn (rec:=f86) (d:=2) (fun b i hi=>(yZ h 2 (by omega) 1048576 (by omega)).2 1 rfl b i hi) rfl hi k
theorem adp {b i:Int} {lo:List (List UInt8)} (hl:lo.length≤100):Ok (f81 b l i g fs lo) fun y =>∃nm t,y=(nm,t,b,l,i,g,fs,lo):=by
 refine bF (fun y =>∃nm t,y=(nm,t,b,l,i,g,fs,lo)) ?_ fun y ⟨nm,t,e⟩=>by subst e;exact goK rfl (goK rfl (goK rfl (aC ⟨nm,t,rfl⟩)))
 unfold ai7
 refine bF (fun y =>∃nm t,y=(nm,t,b,l,i,g,fs,lo)) ?_ fun y ⟨nm,t,e⟩=>by subst e;exact bC (by simp) (bC (by simp) (bC (by simp) (aC ⟨nm,t,rfl⟩)))
 refine oP (y:=[[97],[98],[99],[100],[101],[102],[105],[107]]) rfl ?_
 refine pV (fun _=>True) ?_ fun _ _=>aC ⟨_,_,rfl⟩
 refine bI (fun s:Int=>0≤s∧s≤8) (fun s=>(8-s).toNat) ⟨by simp,by simp⟩ fun s ⟨h1,h2⟩ => ?_
 refine bJ (fun hc => ?_) fun _=>aC trivial
 have hc:s<8:=by simpa using hc
 refine bF (fun _=>True) ?_ fun y _ => ?_
 ·refine bI (fun t:Bool×Int=>0≤t.2∧t.2≤lo.length) (fun t=>(lo.length-t.2).toNat) ⟨by simp,by simp⟩ fun ⟨u,t⟩ ⟨h1,h2⟩ => ?_
  simp only at h1 h2
  refine bJ (fun hc' => ?_) fun _=>aC trivial
  have hc':t<lo.length:=by simpa using hc'
  refine bF (fun _=>True) ?_ fun y _=>aC ⟨?_,?_⟩
  ·exact bJ (fun _=>aC trivial) fun _=>bC (aj.2 ⟨h1,hc'⟩) (bC (aj.2 ⟨by assumption,by simpa using hc⟩) (aC trivial))
  all_goals simp only [aO (x:=t+1) (by omega)];omega
 ·refine bJ (fun _=>bC (aj.2 ⟨h1,by simpa using hc⟩) (aC ⟨_,_,rfl⟩)) fun _=>aC ⟨?_,?_⟩
  all_goals simp only [aO (x:=s+1) (by omega)];omega
theorem V4 {rec:T59} {rec':T72} {u_:T85} {d:Int} {n:Nat} (h:V3 kk l g fs) (hr :∀b i lo,0≤b→lo.length+b+1≤kk→0≤i→Ok (rec' d b l i g fs lo) (PS n kk l g fs))
  {m b i:Int} {lo} (hm:m≤4) (hb:0≤b) (hl:lo.length+b≤kk) (hi:0≤i):Ok (aga rec rec' u_ d m b l i g fs lo) (PB n (max m 0) kk l g fs):=by
 unfold aga
 refine bF (PB n (max m 0) kk l g fs) ?_ fun y ⟨ss,b,j,lo,e,h⟩=>by subst e;exact bC (by simp) (bC (by simp) (aC ⟨ss,b,j,lo,rfl,h⟩))
 refine bF (fun y =>∃b j ss lo,y=(b,l,j,ss,lo)∧0≤j∧(0≤b∧lo.length+b≤kk)∧((ss.length:Int)≤max m 0)∧∀s∈ss,WS 3 3 n s) ?_ fun y ⟨b,j,ss,lo,e,h1,h2,h3,h4⟩=>by subst e;exact aC ⟨ss,b,j,lo,rfl,h1,h2,⟨by omega,h3⟩,h4⟩
 refine bI (fun s:Int×Int×List Int×Int×List eX×List (List UInt8) =>∃q b j ss lo,s=(q,b,l,j,ss,lo)∧0≤j∧(0≤b∧lo.length+b≤kk)∧(ss.length:Int)=q∧q≤max m 0∧∀s∈ss,WS 3 3 n s) (fun s=>(max m 0-s.1).toNat)
  ⟨0,b,i,[],lo,rfl,hi,⟨hb,hl⟩,rfl,by omega,fun s h=>by cases h⟩ fun s ⟨q,b,j,ss,lo,e,h1,⟨h2,h3⟩,h4,h5,h6⟩ => ?_
 subst e
 refine bF (fun t=>t=true→q<m∧0<b) ?_ fun t ht=>bJ (fun e => ?_) fun _=>aC ⟨b,j,ss,lo,rfl,h1,⟨h2,h3⟩,by omega,h6⟩
 ·exact bJ (fun h=>aC fun h'=>⟨by simpa using h,by simpa using h'⟩) fun _=>aC fun h=>by cases h
 obtain ⟨t1,t2⟩:=ht e
 rw [show b_ (b-1)=b-1 from aO (by have:=h.k;omega)]
 refine bF _ (hr (b-1) j lo (by omega) (by omega) h1) fun y ⟨k,i',nm,es,th,el,b',j',lo',e,c1,c2,c3⟩ => ?_
 subst e
 have hk:=h.k
 refine bC (by unfold bV;simp;omega) (aC ⟨⟨_,b',j',_,lo',rfl,c1,c2,?_,?_,fun s hs => ?_⟩,?_⟩)
 all_goals try simp only [aO (x:=q+1) (by omega)]
 ·simp;omega
 ·omega
 ·rcases X1.1 hs with hs | hs
  ·exact h6 s hs
  ·rw [Qt] at hs;subst hs;exact c3
 ·omega
theorem ZU {rec:T59} {rec':T72} {u_:T85} {d n:Nat} (h:V3 kk l g fs) (hd:d≤100) (hr :∀m b i lo,m≤4→0≤b→lo.length+b≤kk→0≤i→Ok (rec d m b l i g fs lo) (PB (n+1) (max m 0) kk l g fs))
  {b i:Int} {lo} (hb:0≤b) (hl:lo.length+b≤kk) (hi:0≤i):Ok (agc rec rec' u_ (d+1:Nat) b l i g fs lo) (PL (n+2) kk l g fs):=by
 have hw:b_ (((d+1:Nat):Int)-1)=d:=by rw [aO (by omega)];omega
 have hE:=h.env (lo:=lo) (by omega)
 have hlo:=hE.lo
 unfold agc
 refine bF (PL (n+2) kk l g fs) ?_ fun y ⟨k,i,nm,es,th,b,j,lo,e,h⟩=>by subst e;exact bC (by simp) (bC (by simp) (aC ⟨k,i,nm,es,th,b,j,lo,rfl,h⟩))
 refine goP hE hi fun nm t j0 h0=>bF (fun y =>∃u j,0≤j∧(u=true→0<lo.length)∧y=(u,l,j)) ?_ fun y ⟨u,j,hj,hu,e⟩ => ?_
 ·refine bJ (fun hc=>goN h.b h0 (by omega) fun x j hj _ _=>aC ⟨_,_,hj,fun _=>by simpa using hc,rfl⟩) fun _=>aC ⟨_,_,h0,fun h=>(by cases h),rfl⟩
 subst e
 refine bF (fun y =>∃nm t j,0≤j∧y=(nm,t,l,j)) ?_ fun y ⟨nm,t,j,hj,e⟩ => ?_
 ·exact bJ (fun hc=>goN h.b hj (by omega) fun x j hj a1 a2=>bC (aj.2 ⟨a1,a2 (by have:=hu hc;omega)⟩) (aC ⟨_,_,_,hj,rfl⟩)) fun _=>aC ⟨_,_,_,hj,rfl⟩
 subst e
 refine bF (fun y =>∃t j,0≤j∧y=(t,l,j)) ?_ fun y ⟨t,j,hj,e⟩ => ?_
 ·exact bJ (fun _=>aC ⟨_,_,hj,rfl⟩) fun _=>goN h.b hj (by omega) fun x j hj _ _=>aC ⟨_,_,hj,rfl⟩
 subst e
 refine bJ (fun _=>TG hE hj fun _ _ _ _ _ _ j hj hx=>oP rfl (goN h.b hj (by omega) fun x j hj a1 a2=>agF hr hw ?_ hb hl hj fun ss b' j lo' c1 c2 c3 c4 c5=>aC ⟨5,_,_,[_],ss,b',j,lo',rfl,c1,⟨c2,c3⟩,LY hx (by omega) (by simp) c5 fun y h=>by cases h⟩)) fun _ => ?_
 ·have a2:=a2 (by omega)
  show b_ (1+x)≤4
  rw [aO (by omega)];omega
 refine goN h.b hj (by omega) fun x j hj _ _=>oP rfl (oP rfl (goN h.b hj (by omega) fun x2 j2 h2 _ b2=>agF hr hw (by have:=b2 (by omega);omega) hb hl h2 fun ss b' j lo' c1 c2 c3 c4 c5=>oP rfl (oP rfl (bC (by unfold bV;simp;omega) (aC ⟨5,_,_,[_],ss++[_],b',j,lo',rfl,c1,⟨c2,c3⟩,LY (we2 (we0 (by simp) (by simp) (by simp)) (we0 (by simp) (by simp) (by simp)) (by omega)) (by simp;omega) (by simp) (fun y hy => ?_) fun y h=>by cases h⟩)))))
 rcases X1.1 hy with hy | hy
 ·exact c5 y hy
 ·rw [Qt] at hy;subst hy
  exact GI (we2 (we0 (by simp) (by simp) (by simp)) (we0 (by simp) (by simp) (by simp)) (by omega))
end
section
variable {kk:Int} {l:List Int} {g:List aW} {fs:List aB}
theorem ZV {rec:T59} {rec':T72} {u_:T85} {d:Nat} (h:V3 kk l g fs) (hd:d≤100) (hr :∀e:Nat,e+1=d→∀m b i lo,m≤4→0≤b→lo.length+b≤kk→0≤i→Ok (rec e m b l i g fs lo) (PB (e+1) (max m 0) kk l g fs))
  (hp:0<d→∀b i lo,0≤b→lo.length+b≤kk→0≤i→Ok (u_ d b l i g fs lo) (PL (d+1) kk l g fs))
  {b i:Int} {lo} (hb:0≤b) (hl:lo.length+b+1≤kk) (hi:0≤i):Ok (agb rec rec' u_ d b l i g fs lo) (PS (d+1) kk l g fs):=by
 have hE:=h.env (lo:=lo) (by omega)
 have hlo:=hE.lo
 unfold agb
 refine bF (PS (d+1) kk l g fs) ?_ fun y ⟨k,i,nm,es,th,el,b,j,lo,e,h⟩=>by subst e;exact bC (by simp) (bC (by simp) (aC ⟨k,i,nm,es,th,el,b,j,lo,rfl,h⟩))
 refine goN h.b hi (by omega) fun x0 j0 h0 _ _=>bF (fun _=>True) ?_ fun s3 _ => ?_
 ·exact bJ (fun _=>aC trivial) fun _=>aC trivial
 refine pV (fun y =>∃j,0≤j∧y=(b,l,j)) ?_ fun y ⟨j,hj,e⟩ => ?_
 rotate_left
 ·subst e
  exact TG hE hj fun _ _ _ _ _ _ j hj hx=>oP rfl (aC ⟨7,_,_,[_],[],[],b,j,lo,rfl,hj,⟨hb,by omega⟩,GI hx⟩)
 refine bJ (fun _=>bF _ (adp hlo) fun y ⟨nm,t,e⟩ => ?_) fun _=>pV (fun y =>∃j,0≤j∧y=(b,l,j)) ?_ fun y ⟨j,hj,e⟩=>(by subst e;exact aC ⟨j,hj,rfl⟩)
 ·subst e
  refine bJ (fun _=>TG hE h0 fun _ _ _ _ _ _ j hj hx=>oP rfl (bC (by unfold bV;simp;omega) (aC ⟨1,_,_,[_],[],[],b,j,lo++[nm],rfl,hj,⟨hb,by simp;omega⟩,GI hx⟩))) fun _=>aC ⟨_,h0,rfl⟩
 refine bJ (fun _=>bJ (fun hc=>goN h.b h0 (by omega) fun x j hj a1 a2=>bC (aj.2 ⟨a1,a2 (by have:0<lo.length:=(by simpa using hc);omega)⟩) (TG hE hj fun _ _ _ _ _ _ j hj hx=>oP rfl (aC ⟨2,_,_,[_],[],[],b,j,lo,rfl,hj,⟨hb,by omega⟩,GI hx⟩))) fun _=>aC ⟨_,h0,rfl⟩) fun _=>pV (fun y =>∃j,0≤j∧y=(b,l,j)) ?_ fun y ⟨j,hj,e⟩=>(by subst e;exact aC ⟨j,hj,rfl⟩)
 refine bJ (fun _=>goP hE h0 fun nm t j hj=>bJ (fun _=>TG hE hj fun _ _ _ _ _ _ j hj hx=>oP rfl (aC ⟨2,_,_,[_],[],[],b,j,lo,rfl,hj,⟨hb,by omega⟩,GI hx⟩)) fun _=>aC ⟨_,hj,rfl⟩) fun _=>pV (fun y =>∃j,0≤j∧y=(b,l,j)) ?_ fun y ⟨j,hj,e⟩=>(by subst e;exact aC ⟨j,hj,rfl⟩)
 refine bJ (fun _=>goP hE h0 fun nm t j hj=>bJ (fun _=>aqr hE hj fun _ _ _ _ _ _ j hj hx=>TG hE hj fun _ _ _ _ _ _ j hj hz=>aC ⟨3,_,_,[_,_],[],[],b,j,lo,rfl,hj,⟨hb,by omega⟩,⟨by simp,fun h=>absurd h (by simp),agE hx hz,⟨by simp,by simp⟩,fun y h=>(by cases h),fun y h=>by cases h⟩⟩) fun _=>aC ⟨_,hj,rfl⟩) fun _=>bF (fun _=>True) ?_ fun s3 _=>pV (fun _=>True) ?_ fun _ _=>aC ⟨_,h0,rfl⟩
 ·exact bJ (fun _=>aC trivial) fun _=>aC trivial
 refine bJ (fun _=>bJ (fun hc => ?_) fun _=>aC trivial) fun _=>pV (fun _=>True) ?_ fun _ _=>aC trivial
 ·obtain ⟨e,rfl⟩ :∃e,d=e+1:=⟨d-1,by have:0<d:=(by simpa using hc);omega⟩
  have hw:b_ (((e+1:Nat):Int)-1)=e:=by rw [aO (by omega)];omega
  have hr:=hr e rfl
  have hone :∀x:Int,0≤x→(1≤(2:Int)→x<2)→b_ (1+x)≤4:=fun x h1 h2=>by have:=h2 (by omega);rw [aO (by omega)];omega
  refine TG hE h0 fun _ _ _ _ _ _ j hj hx=>oP rfl (goN h.b hj (by omega) fun x1 j1 h1 a1 b1=>agF hr hw (hone _ a1 b1) hb (show (lo.length:Int)+b≤kk by omega) h1 fun ss b' j lo' c1 c2 c3 c4 c5=>goN h.b c1 (by omega) fun x2 j2 h2 a2 b2 => ?_)
  refine bF (fun y =>∃b j lo el,y=(b,l,j,4,0,dX,lo,el)∧0≤j∧(0≤b∧lo.length+b≤kk)∧el.length≤4∧∀s∈el,WS 3 3 (e+1) s) ?_ fun y ⟨b,j,lo,el,e',d1,d2,d3,d4⟩=>by
   subst e';exact aC ⟨4,_,_,[_],ss,el,b,j,lo,rfl,d1,d2,LY hx (by omega) (by omega) c5 d4⟩
  exact bJ (fun _=>goN h.b h2 (by omega) fun x3 j3 h3 a3 b3=>agF hr hw (hone _ a3 b3) c2 c3 h3 fun ss b' j lo' c1 c2 c3 c4 c5=>aC ⟨b',j,lo',ss,rfl,c1,⟨c2,c3⟩,c4,c5⟩) fun _=>aC ⟨b',j2,lo',[],rfl,h2,⟨c2,c3⟩,by simp,fun s h=>by cases h⟩
 refine bJ (fun _=>bJ (fun hc=>bF _ (hp (by simpa using hc) b j0 lo hb (by omega) h0) fun y ⟨k,i,nm,es,th,b,j,lo,e,h1,h2,h3⟩=>by subst e;exact aC ⟨k,i,nm,es,th,[],b,j,lo,rfl,h1,h2,h3⟩) fun _=>aC trivial) fun _=>bJ (fun _ => ?_) fun _=>aC trivial
 exact goN h.b h0 (by omega) fun x j hj _ _=>bJ (fun _=>TG hE hj fun _ _ _ _ _ _ j hj hx=>oP rfl (aC ⟨6,_,_,[_],[],[],b,j,lo,rfl,hj,⟨hb,by omega⟩,GI hx⟩)) fun _=>aqs hE hj fun _ _ _ _ _ _ j hj hx=>oP rfl (aC ⟨8,_,_,[_],[],[],b,j,lo,rfl,hj,⟨hb,by omega⟩,GI hx⟩)
theorem adq (n:Nat):(kD (n+1)).1=aga (acV n) (agd n) (agf n):=rfl
theorem adr (n:Nat):(kD (n+1)).2.1=agb (acV n) (agd n) (agf n):=rfl
theorem ads (n:Nat):(kD (n+1)).2.2=agc (acV n) (agd n) (agf n):=rfl
theorem TJ (h:V3 kk l g fs) :∀n:Nat,(∀d:Nat,d≤100→3*d+2≤n→∀m b i lo,m≤4→0≤b→lo.length+b≤kk→0≤i→Ok (acV n d m b l i g fs lo) (PB (d+1) (max m 0) kk l g fs))∧
  (∀d:Nat,d≤100→3*d+1≤n→∀b i lo,0≤b→lo.length+b+1≤kk→0≤i→Ok (agd n d b l i g fs lo) (PS (d+1) kk l g fs))∧
  (∀d:Nat,d≤100→0<d→3*d≤n→∀b i lo,0≤b→lo.length+b≤kk→0≤i→Ok (agf n d b l i g fs lo) (PL (d+1) kk l g fs))
 |0=>⟨fun d _ h=>by omega,fun d _ h=>by omega,fun d _ h h'=>by omega⟩
 |n+1=>by
  obtain ⟨i1,i2,i3⟩:=TJ h n
  refine ⟨fun d h1 h2 m b i lo h3 h4 h5 h6=>ajk (by rw [adq];exact V4 h (i2 d h1 (by omega)) h3 h4 h5 h6),
   fun d h1 h2 b i lo h3 h4 h5=>ajl (by rw [adr];exact ZV h h1 (fun e he=>i1 e (by omega) (by omega)) (fun hd=>i3 d h1 hd (by omega)) h3 h4 h5),fun d h1 h2 h3 b i lo h4 h5 h6 => ?_⟩
  obtain ⟨e,rfl⟩ :∃e,d=e+1:=⟨d-1,by omega⟩
  exact ajm (by rw [ads];exact ZU h (by omega) (i1 e (by omega) (by omega)) h4 h5 h6)
end
structure Src (m h:Nat) (g:List aW) (fs:List aB):Prop where
 g:g.length≤100
 f:fs.length≤100
 ps :∀f∈fs,f.params.length≤2
 ws :∀f∈fs,f.body.length≤10∧∀s∈f.body,WS m h 3 s
theorem Hw {A R α:Type} {body:A→Option (A ⊕ R)} {Q:R→Prop} {a:A} (ct:A→Int) (ls:A→List α) (I:A→Prop) (m:Nat) (h0:I a) (hm:(ls a).length+ct a≤m) (hc:m≤1000)
  (h :∀a,I a→(ls a).length≤m→0<ct a→(ls a).length+ct a≤m→Ok (body a) (Lh (fun a'=>I a'∧ct a'=ct a-1∧(ls a').length=(ls a).length+1) Q))
  (he :∀a,I a→(ls a).length≤m→¬ 0<ct a→Ok (body a) (Lh (fun _=>False) Q)) (hl:(ls a).length≤m):Ok (bD body a) Q:=by
 refine bI (fun a=>I a∧(ls a).length≤m∧(0<ct a→(ls a).length+ct a≤m)) (fun a=>(ct a).toNat) ⟨h0,hl,fun _=>hm⟩ fun a ⟨h1,h2,h3⟩ => ?_
 by_cases hp:0<ct a
 ·refine lC (h a h1 h2 hp (h3 hp)) fun y hy => ?_
  cases y with
  |inl a'=>obtain ⟨g1,g2,g3⟩:=hy;exact ⟨⟨g1,by have:=h3 hp;omega,fun _=>by have:=h3 hp;omega⟩,by omega⟩
  |inr r=>exact hy
 ·refine lC (he a h1 h2 hp) fun y hy => ?_
  cases y with
  |inl a'=>exact hy.elim
  |inr r=>exact hy
theorem ZW {l:List Int} {i:Int} (hb:Bytes l) (hi:0≤i):Ok (f48 l i) fun y=>y.1=l∧0≤y.2.1∧Src 3 3 y.2.2.1 y.2.2.2:=by
 unfold f48
 refine oP rfl (goN hb hi (by omega) fun x1 j1 h1 a1 b1=>bF (fun y=>y.2.length≤2) ?_ fun ⟨z,g0⟩ hg0 => ?_)
 ·have b1:=b1 (by omega)
  refine Hw (fun s:Int×Int×List aW=>s.1) (fun s=>s.2.2) (fun _=>True) 2 trivial (by simp only [Kc];omega) (by omega) (fun ⟨q,z,gs⟩ _ e1 e2 e3 => ?_) (fun ⟨q,z,gs⟩ _ e1 e2=>pU (decide_eq_false e2) (aC e1)) (by simp)
  simp only at e1 e2 e3
  refine goT (decide_eq_true e2) (bF _ (uZ (by omega) (by simp only;omega)) fun nm hnm=>bC (oC.2 (by simp;omega)) (bC (by unfold bV;simp;omega) (aC ⟨trivial,aO (by omega),by simp⟩)))
 simp only at hg0
 refine goN hb h1 (by omega) fun x2 j2 h2 a2 b2=>bF (fun y=>y.1=l∧0≤y.2.1∧y.2.2.2.length≤4) ?_ fun ⟨l',j3,z',gs⟩ ⟨e1,e2,e3⟩ => ?_
 ·have b2:=b2 (by omega)
  refine Hw (fun s:Int×List Int×Int×Int×List aW=>s.1) (fun s=>s.2.2.2.2) (fun s=>s.2.1=l∧0≤s.2.2.1) 4 ⟨rfl,h2⟩ (by simp only;omega) (by omega) (fun ⟨q,l',j,z,gs⟩ ⟨c1,c2⟩ e1 e2 e3 => ?_) (fun ⟨q,l',j,z,gs⟩ ⟨c1,c2⟩ e1 e2=>pU (decide_eq_false e2) (aC ⟨c1,c2,e1⟩)) (by simp only;omega)
  simp only at e1 e2 e3 c1 c2
  subst c1
  refine goT (decide_eq_true e2) (bF _ (uZ (by omega) (by simp only;omega)) fun nm hnm=>bC (oC.2 (by simp;omega)) (goN hb c2 (by omega) fun x j hj _ _=>bC (by unfold bV;simp;omega) (aC ⟨⟨rfl,hj⟩,aO (by omega),by simp⟩)))
 simp only at e1 e2 e3
 subst e1
 refine goN hb e2 (by omega) fun x4 j4 h4 a4 b4=>bF (fun y=>y.1=l'∧0≤y.2.1∧(0<y.2.2.2.length∧y.2.2.2.length≤4)∧∀f∈y.2.2.2,f.params.length≤2∧f.body=[]) ?_ fun ⟨l2,j5,z2,fs⟩ ⟨e1,e2,e4,e5⟩ => ?_
 ·have b4:=b4 (by omega)
  refine Hw (fun s:Int×List Int×Int×Int×List aB=>s.1) (fun s=>s.2.2.2.2) (fun s=>s.2.1=l'∧0≤s.2.2.1∧0<s.2.2.2.2.length∧∀f∈s.2.2.2.2,f.params.length≤2∧f.body=[]) 4 ⟨rfl,h4,by simp,PY ⟨by simp,rfl⟩⟩ (by simp only [K0];omega) (by omega)
   (fun ⟨q,l',j,z,fs⟩ ⟨c1,c2,c3,c4⟩ e1 e2 e3 => ?_) (fun ⟨q,l',j,z,gs⟩ ⟨c1,c2,c3,c4⟩ e1 e2=>pU (decide_eq_false e2) (aC ⟨c1,c2,⟨c3,e1⟩,c4⟩)) (by simp)
  simp only at e1 e2 e3 c1 c2 c3 c4
  subst c1
  refine goT (decide_eq_true e2) (bF _ (uZ (by omega) (by simp only;omega)) fun nm hnm=>bC (oC.2 (by simp;omega)) (goN hb c2 (by omega) fun x j hj a5 b5=>bF (fun y=>y.2.2.length≤2) ?_ fun y hy=>bC (by unfold bV;simp;omega) (aC ⟨⟨rfl,hj,by simp,fun f hf => ?_⟩,aO (by omega),by simp⟩)))
  ·have b5:=b5 (by omega)
   refine Hw (fun s:Int×List UInt8×Int×List (List UInt8)=>s.1) (fun s=>s.2.2.2) (fun _=>True) 2 trivial (by simp only [Kc];omega) (by omega) (fun ⟨q,z,z',gs⟩ _ e1 e2 e3 => ?_) (fun ⟨q,z,z',gs⟩ _ e1 e2=>pU (decide_eq_false e2) (aC e1)) (by simp)
   simp only at e1 e2 e3
   refine goT (decide_eq_true e2) (bF _ (uZ (by omega) (by simp only;omega)) fun nm hnm=>bC (oC.2 (by simp;omega)) (bC (by unfold bV;simp;omega) (aC ⟨trivial,aO (by omega),by simp⟩)))
  ·rcases X1.1 hf with hf | hf
   ·exact c4 f hf
   ·rw [Qt] at hf;subst hf;exact ⟨hy,rfl⟩
 simp only at e1 e2 e3 e4 e5
 subst e1
 refine bF (fun y=>y.1=l2∧0≤y.2.1∧Src 3 3 y.2.2.2.1 y.2.2.2.2.1) ?_ fun y hy=>aC hy
 refine bI (fun s:Int×List Int×Int×Int×List aW×List aB×List (List UInt8)=>s.2.1=l2∧0≤s.2.2.1∧s.2.2.2.2.1=gs∧s.2.2.2.2.2.1.length=fs.length∧(0≤s.1∧s.1≤fs.length)∧∀f∈s.2.2.2.2.2.1,f.params.length≤2∧f.body.length≤10∧∀s∈f.body,WS 3 3 3 s) (fun s=>(fs.length-s.1).toNat)
  ⟨rfl,e2,rfl,rfl,⟨by simp,by simp⟩,fun f hf=>⟨(e5 f hf).1,by rw [(e5 f hf).2];exact ⟨by simp,fun s h=>by cases h⟩⟩⟩ fun ⟨q,l3,j,z,gs',fs',lo⟩ ⟨c1,c2,c3,c4,c5,c6⟩ => ?_
 simp only at c1 c2 c3 c4 c5 c6
 subst c1;subst c3
 refine bJ (fun hc => ?_) fun _=>aC ⟨rfl,c2,⟨by simp only;omega,by simp only;omega,fun f hf=>(c6 f hf).1,fun f hf=>(c6 f hf).2⟩⟩
 have hc:q<fs'.length:=by simpa using hc
 have hq:q.toNat<fs'.length:=by omega
 have hf:=c6 _ (XX hq)
 rw [←getD_at h_ hq] at hf
 generalize hfd:fs'.getD q.toNat h_=fd at hf
 have hES:V3 20 l3 gs' fs':=⟨hb,by omega,by omega,by omega,fun f hf=>(c6 f hf).1,by omega⟩
 refine bC (aj.2 ⟨c5.1,hc⟩) (bC ?_ (goN hb c2 (by omega) fun x6 j6 h6 a6 b6 => ?_))
 ·show (true&&decide _)=true;simp [hfd];omega
 simp only [hfd]
 have b6:=b6 (by omega)
 rw [show b_ (1+x6)=1+x6 from aO (by omega)]
 refine bF _ ((TJ hES 1048576).1 2 (by omega) (by omega) (1+x6) 7 j6 (kH++fd.params) (by omega) (by omega) (by simp;omega) h6) fun y ⟨ss,b,j,lo,e,d1,d2,d3,d4⟩ => ?_
 subst e
 refine bC (aj.2 ⟨c5.1,hc⟩) (aC ⟨⟨rfl,d1,rfl,?_,?_,fun f h => ?_⟩,?_⟩)
 ·simp only [ZD];exact c4
 ·simp only [aO (x:=q+1) (by omega)];omega
 ·rcases qi h with h | h
  ·exact c6 f h
  ·subst h;exact ⟨hf.1,d3.1,d4⟩
 ·simp only [aO (x:=q+1) (by omega)];omega
theorem oV {R:Type} {body:Int→Option (Int ⊕ R)} {Q:R→Prop} (n:Nat) (hn:n≤4000000000) (h :∀i:Int,0≤i→i<n→Ok (body i) (Lh (fun j=>j=b_ (i+1)) Q)) (he:Ok (body n) (Lh (fun _=>False) Q)):Ok (bD body 0) Q:=by
 refine bI (fun i:Int=>0≤i∧i≤n) (fun i=>(n-i).toNat) ⟨by simp,by omega⟩ fun i ⟨h1,h2⟩ => ?_
 by_cases hi:i<n
 ·refine lC (h i h1 hi) fun y hy => ?_
  cases y with
  |inl j=>have e:j=b_ (i+1):=hy;rw [aO (by omega)] at e;exact ⟨⟨by omega,by omega⟩,by omega⟩
  |inr r=>exact hy
 ·have e:i=n:=by omega
  subst e
  refine lC he fun y hy => ?_
  cases y with
  |inl j=>exact hy.elim
  |inr r=>exact hy
section
variable {g:List aW} {fs:List aB} {lo:List (List UInt8)}
theorem wO {nm:List UInt8} (hg:g.length≤1000000):Ok (f53 g fs nm) fun y=>-1≤y∧y<g.length:=by
 unfold f53
 refine pV (fun _=>True) (oV g.length (by omega) (fun i h0 h1=>goT (decide_eq_true h1) (bC (aj.2 ⟨h0,h1⟩) (bJ (fun _=>aC ⟨by omega,h1⟩) fun _=>aC rfl))) (pU (decide_eq_false (by omega)) (aC trivial))) fun _ _=>aC ⟨by omega,by omega⟩
theorem Hy {nm:List UInt8} (hg:fs.length≤1000000):Ok (f54 g fs nm) fun y=>-1≤y∧y<fs.length:=by
 unfold f54
 refine pV (fun _=>True) (oV fs.length (by omega) (fun i h0 h1=>goT (decide_eq_true h1) (bC (aj.2 ⟨h0,h1⟩) (bJ (fun _=>aC ⟨by omega,h1⟩) fun _=>aC rfl))) (pU (decide_eq_false (by omega)) (aC trivial))) fun _ _=>aC ⟨by omega,by omega⟩
theorem adt {nm:List UInt8} (hg:lo.length≤1000000):Ok (f56 lo nm) fun _=>True:=by
 unfold f56
 refine pV (fun _=>True) (oV lo.length (by omega) (fun i h0 h1=>goT (decide_eq_true h1) (bC (aj.2 ⟨h0,h1⟩) (bJ (fun _=>aC trivial) fun _=>aC rfl))) (pU (decide_eq_false (by omega)) (aC trivial))) fun _ _=>aC trivial
structure Sc (g:List aW) (fs:List aB) (lo:List (List UInt8)):Prop where
 g:g.length≤1000000
 f:fs.length≤1000000
 lo:lo.length≤1000000
theorem TL {nm:List UInt8} (hg:g.length≤1000000) (hf:fs.length≤1000000):Ok (f57 g fs nm) fun y=>y=4→Ok (f54 g fs nm) fun i=>0≤i∧i<fs.length:=by
 unfold f57
 refine bF _ (wO hg) fun c ⟨h1,h2⟩=>bJ (fun h=>bC (aj.2 ⟨by simpa using h,h2⟩) (bJ (fun _=>aC fun h=>absurd h (by simp)) fun _=>aC fun h=>absurd h (by simp))) fun _ => ?_
 obtain ⟨c,hc,h3,h4⟩:=Hy (g:=g) (nm:=nm) hf
 exact oP hc (bJ (fun h=>aC fun _=>⟨c,hc,by simpa using h,h4⟩) fun _=>aC fun h=>absurd h (by simp))
theorem agG {nm:List UInt8} (h:Sc g fs lo) {a b:Int}:Ok (f71 nm g fs a b lo) fun y =>∃k,y=(k,g,fs,a,b,lo)∧(k=4→Ok (f54 g fs nm) fun i=>0≤i∧i<fs.length):=by
 refine bF (fun y =>∃k,y=(k,g,fs,a,b,lo)∧(k=4→Ok (f54 g fs nm) fun i=>0≤i∧i<fs.length)) ?_ fun y ⟨k,e,h⟩=>by subst e;exact goK rfl (aC ⟨k,rfl,h⟩)
 unfold aiS
 refine bF (fun y =>∃k,y=(k,g,fs,a,b,lo)∧(k=4→Ok (f54 g fs nm) fun i=>0≤i∧i<fs.length)) ?_ fun y ⟨k,e,h⟩=>by subst e;exact bC (by simp) (aC ⟨k,rfl,h⟩)
 exact bF _ (adt h.lo) fun _ _=>bJ (fun _=>aC ⟨1,rfl,fun h=>absurd h (by simp)⟩) fun _=>bF _ (TL h.g h.f) fun c hc=>aC ⟨c,rfl,hc⟩
theorem agH {p q a b:Int}:Ok (f69 p q g fs a b lo) fun y =>∃a b,y=(g,fs,a,b,lo):=by
 refine bF (fun y =>∃a b,y=(g,fs,a,b,lo)) ?_ fun y ⟨a,b,e⟩=>by subst e;exact goK rfl (aC ⟨a,b,rfl⟩)
 unfold aiR
 refine bF (fun y =>∃a b,y=(g,fs,a,b,lo)) ?_ fun y ⟨a,b,e⟩=>by subst e;exact bC (by simp) (aC ⟨a,b,rfl⟩)
 exact bF (fun y =>∃a b,y=(g,fs,a,b)) (bJ (fun _=>aC ⟨_,_,rfl⟩) fun _=>aC ⟨_,_,rfl⟩) fun y ⟨a,b,e⟩=>by subst e;exact aC ⟨_,_,rfl⟩
theorem rE {β:Type} {p q a b:Int} {f:List aW×List aB×Int×Int×List (List UInt8)→Option β} {Q:β→Prop} (k :∀a b,Ok (f (g,fs,a,b,lo)) Q):Ok (Option.bind (f69 p q g fs a b lo) f) Q:=
 bF _ agH fun y ⟨a,b,e⟩=>by subst e;exact k a b
theorem PZ {β:Type} {nm:List UInt8} (h:Sc g fs lo) {a b:Int} {f} {Q:β→Prop} (k :∀q,(q=4→Ok (f54 g fs nm) fun i=>0≤i∧i<fs.length)→Ok (f (q,g,fs,a,b,lo)) Q):Ok (Option.bind (f71 nm g fs a b lo) f) Q:=
 bF _ (agG h) fun y ⟨q,e,h⟩=>by subst e;exact k q h
theorem agI (h:Sc g fs lo) {k o v i:Int} {nm:List UInt8} {ar:List bK} {p q a b:Int}:Ok (f78 k o v i nm ar p q g fs a b lo) fun y =>∃a b,y=(g,fs,a,b,lo):=by
 refine bF (fun y =>∃a b,y=(g,fs,a,b,lo)) ?_ fun y ⟨a,b,e⟩=>by subst e;exact goK rfl (aC ⟨a,b,rfl⟩)
 unfold aiW
 refine bF (fun y =>∃a b,y=(g,fs,a,b,lo)) ?_ fun y ⟨a,b,e⟩=>by subst e;exact bC (by simp) (aC ⟨a,b,rfl⟩)
 refine PZ h fun q _=>bF (fun y =>∃a b,y=(g,fs,a,b)) ?_ fun y ⟨a,b,e⟩=>by subst e;exact aC ⟨_,_,rfl⟩
 refine bJ (fun _=>rE fun _ _=>aC ⟨_,_,rfl⟩) fun _=>bF (fun _=>True) ?_ fun _ _=>bF (fun y =>∃a b,y=(g,fs,a,b)) ?_ fun y ⟨a,b,e⟩=>by subst e;exact aC ⟨_,_,rfl⟩
 ·exact bJ (fun _=>aC trivial) fun _=>aC trivial
 ·exact bJ (fun _=>rE fun _ _=>aC ⟨_,_,rfl⟩) fun _=>aC ⟨_,_,rfl⟩
theorem V5 {β:Type} (h:Sc g fs lo) {k o v i:Int} {nm:List UInt8} {ar:List bK} {p q a b:Int} {f} {Q:β→Prop} (k' :∀a b,Ok (f (g,fs,a,b,lo)) Q):Ok (Option.bind (f78 k o v i nm ar p q g fs a b lo) f) Q:=
 bF _ (agI h) fun y ⟨a,b,e⟩=>by subst e;exact k' a b
theorem adu (h:Sc g fs lo) {i a b:Int} {nm:List UInt8}:Ok (f79 nm i g fs a b lo) fun y =>∃k,(k=2∨k=3)∧y=(k,0,0,i,nm,g,fs,a,b,lo):=by
 refine bF (fun y =>∃k,(k=2∨k=3)∧y=(k,0,0,i,nm,g,fs,a,b,lo)) ?_ fun y ⟨k,hk,e⟩=>by subst e;exact goK rfl (aC ⟨k,hk,rfl⟩)
 unfold aiX
 refine bF (fun y =>∃k,(k=2∨k=3)∧y=(k,0,0,i,nm,g,fs,a,b,lo)) ?_ fun y ⟨k,hk,e⟩=>by subst e;exact bC (by simp) (aC ⟨k,hk,rfl⟩)
 exact PZ h fun q _=>bF (fun k=>k=2∨k=3) (bJ (fun _=>aC (by simp)) fun _=>aC (by simp)) fun k hk=>aC ⟨k,hk,rfl⟩
theorem Yl {β:Type} (h:Sc g fs lo) {i a b:Int} {nm:List UInt8} {f} {Q:β→Prop} (k' :∀k,(k=2∨k=3)→Ok (f (k,0,0,i,nm,g,fs,a,b,lo)) Q):Ok (Option.bind (f79 nm i g fs a b lo) f) Q:=
 bF _ (adu h) fun y ⟨k,hk,e⟩=>by subst e;exact k' k hk
def PX (n:Nat) (g:List aW) (fs:List aB) (lo:List (List UInt8)) (y:Int×Int×Int×Int×List UInt8×List aW×List aB×Int×Int×List (List UInt8)×List bK):Prop:=
 ∃k o v i nm a b ar,y=(k,o,v,i,nm,g,fs,a,b,lo,ar)∧WE 4 n (bK.mk k o v i nm ar)
def PXs (n m:Nat) (g:List aW) (fs:List aB) (lo:List (List UInt8)) (y:List aW×List aB×Int×Int×List (List UInt8)×List bK):Prop:=
 ∃a b ar,y=(g,fs,a,b,lo,ar)∧ar.length=m∧∀x∈ar,WE 4 n x
theorem V6 {rec:T70} {rec':T80} {n:Nat} {ls:List bK} (hl:ls.length≤10) (hr :∀x∈ls,∀a b,Ok (rec x.kind x.op x.value x.line x.name x.args g fs a b lo) (PX n g fs lo)) {a b:Int} :
  Ok (afF rec rec' ls g fs a b lo) (PXs n ls.length g fs lo):=by
 unfold afF
 refine bF (PXs n ls.length g fs lo) ?_ fun y ⟨a,b,ar,e,h⟩=>by subst e;exact bC (by simp) (aC ⟨a,b,ar,rfl,h⟩)
 refine bF (fun y =>∃a b ar,y=(g,fs,a,b,ar)∧ar.length=ls.length∧∀x∈ar,WE 4 n x) ?_ fun y ⟨a,b,ar,e,h⟩=>by subst e;exact aC ⟨a,b,ar,rfl,h⟩
 refine bI (fun s:Int×List aW×List aB×Int×Int×List bK =>∃q a b ar,s=(q,g,fs,a,b,ar)∧(ar.length:Int)=q∧ar.length≤ls.length∧∀x∈ar,WE 4 n x) (fun s=>(ls.length-s.1).toNat) ⟨0,a,b,[],rfl,rfl,by simp,fun x h=>by cases h⟩ fun s ⟨q,a,b,ar,e,h1,h2,h3⟩ => ?_
 subst e;subst h1
 refine bJ (fun hc => ?_) fun hc=>aC ⟨a,b,ar,rfl,?_,h3⟩
 ·have hc:ar.length<ls.length:=by simp at hc;omega
  refine bC (aj.2 ⟨by simp only;omega,by simp only;omega⟩) (bF _ (hr _ (by rw [getD_at _ (by simpa using hc)];exact XX _) a b) fun y ⟨k,o,v,i,nm,a,b,ar',e,hx⟩ => ?_)
  subst e
  refine bC (by unfold bV;simp;omega) (aC ⟨⟨_,a,b,_,rfl,?_,?_,fun x hx' => ?_⟩,?_⟩)
  all_goals try simp only [aO (x:=(ar.length:Int)+1) (by omega)]
  ·simp
  ·simp;omega
  ·rcases X1.1 hx' with h | h
   ·exact h3 x h
   ·rw [Qt] at h;subst h;exact hx
  ·omega
 ·have hc:¬ (ar.length:Int)<ls.length:=by simpa using hc
  omega
theorem adv {rec:T70} {rec':T80} {n:Nat} (h:Sc g fs lo) {k o v i a b:Int} {nm:List UInt8} {ar:List bK} (hx:WE 3 (n+1) (bK.mk k o v i nm ar)) (hr :∀a b,Ok (rec' ar g fs a b lo) (PXs (n+1) ar.length g fs lo)) :
  Ok (afE rec rec' k o v i nm ar g fs a b lo) (PX (n+2) g fs lo):=by
 obtain ⟨w1,w2,w3,w4⟩:=hx
 unfold afE
 refine bF (PX (n+2) g fs lo) ?_ fun y ⟨k,o,v,i,nm,a,b,ar,e,h⟩=>by subst e;exact bC (by simp) (aC ⟨k,o,v,i,nm,a,b,ar,rfl,h⟩)
 refine bJ (fun _=>V5 h fun a b=>Yl h fun k hk=>aC ⟨k,0,0,i,nm,a,b,[],rfl,we0 (by omega) (by omega) (by omega)⟩) fun _ => ?_
 have fin :∀y:List aW×List aB×Int×Int,(∃a b,y=(g,fs,a,b))→Ok (Option.bind (rec' ar y.1 y.2.1 y.2.2.1 y.2.2.2 lo) fun c40=>some (k,o,v,i,nm,c40.1,c40.2.1,c40.2.2.1,c40.2.2.2.1,lo,c40.2.2.2.2.2)) (PX (n+2) g fs lo):=fun y ⟨a,b,e⟩=>by
  subst e
  refine bF _ (hr a b) fun y ⟨a,b,ar',e,h1,h2⟩ => ?_
  subst e
  exact aC ⟨k,o,v,i,nm,a,b,ar',rfl,⟨by simp only at w1 ⊢;omega,fun h=>by have:=w2 h;simp only at this ⊢;omega,fun h=>by have:=w3 h;simp only at this ⊢;omega,h2⟩⟩
 refine pV (fun y =>∃a b,y=(g,fs,a,b)) ?_ fin
 refine bJ (fun _=>V5 h fun a b=>aC ⟨_,_,rfl⟩) fun _=>pV (fun y =>∃a b,y=(g,fs,a,b)) ?_ fun y ⟨a,b,e⟩=>by subst e;exact aC ⟨_,_,rfl⟩
 refine bJ (fun _=>V5 h fun a b=>aC ⟨_,_,rfl⟩) fun _=>pV (fun y =>∃a b,y=(g,fs,a,b)) ?_ fun y ⟨a,b,e⟩=>by subst e;exact aC ⟨_,_,rfl⟩
 refine bJ (fun _=>PZ h fun q hq=>pV (fun y =>∃a b,y=(g,fs,a,b)) ?_ fun y ⟨a,b,e⟩=>by subst e;exact aC ⟨_,_,rfl⟩) fun _=>bF (fun y =>∃a b,y=(g,fs,a,b)) ?_ fun y ⟨a,b,e⟩=>by subst e;exact aC ⟨_,_,rfl⟩
 ·refine bJ (fun _=>rE fun a b=>aC ⟨_,_,rfl⟩) fun _=>pV (fun y =>∃a b,y=(g,fs,a,b)) ?_ fun y ⟨a,b,e⟩=>by subst e;exact aC ⟨_,_,rfl⟩
  refine bJ (fun _=>rE fun a b=>aC ⟨_,_,rfl⟩) fun _=>bJ (fun h4=>bF _ (hq (by simpa using h4)) fun c hc=>bC (aj.2 hc) (bF (fun y =>∃a b,y=(g,fs,a,b)) ?_ fun y ⟨a,b,e⟩=>by subst e;exact aC ⟨_,_,rfl⟩)) fun _=>bF (fun y =>∃a b,y=(g,fs,a,b)) ?_ fun y ⟨a,b,e⟩ => ?_
  ·exact bJ (fun _=>rE fun a b=>aC ⟨_,_,rfl⟩) fun _=>aC ⟨_,_,rfl⟩
  ·exact bJ (fun _=>rE fun a b=>aC ⟨_,_,rfl⟩) fun _=>aC ⟨_,_,rfl⟩
  ·subst e
   refine Yl h fun k hk=>bF _ (hr a b) fun y ⟨a,b,ar',e,h1,h2⟩ => ?_
   subst e
   refine bC (by unfold bV;simp at w1 ⊢;omega) (aC ⟨10,0,0,i,dX,a,b,_,rfl,⟨by simp at w1 ⊢;omega,fun h=>absurd h (by simp),fun h=>by simp,fun z hz => ?_⟩⟩)
   rcases X1.1 hz with hz | hz
   ·rw [Qt] at hz;subst hz;exact we0 (by omega) (by omega) (by omega)
   ·exact h2 z hz
 ·refine bJ (fun _=>bF (fun y =>∃a b,y=(g,fs,a,b)) ?_ fun y ⟨a,b,e⟩=>by subst e;exact aC ⟨_,_,rfl⟩) fun _=>aC ⟨_,_,rfl⟩
  exact bJ (fun _=>rE fun a b=>aC ⟨_,_,rfl⟩) fun _=>aC ⟨_,_,rfl⟩
theorem adw (n:Nat):(uf (n+1)).1=afE (afG n) (alB n):=rfl
theorem adx (n:Nat):(uf (n+1)).2=afF (afG n) (alB n):=rfl
theorem ND (h:Sc g fs lo) :∀n:Nat,∀k,2*n≤k→∀x,WE 3 n x→∀a b,Ok (afG k x.kind x.op x.value x.line x.name x.args g fs a b lo) (PX (n+1) g fs lo)
 |0,_,_=>fun _ h=>h.elim
 |n+1,0,hk=>by omega
 |n+1,1,hk=>by omega
 |n+1,k+2,hk=>fun x hx a b=>by
  have ih:=ND h n k (by omega)
  obtain ⟨x1,x2,x3,x4,x5,x6⟩:=x
  refine bF (PX (n+2) g fs lo) ?_ fun y ⟨k,o,v,i,nm,a,b,ar,e,h⟩=>by subst e;exact goK rfl (aC ⟨k,o,v,i,nm,a,b,ar,rfl,h⟩)
  rw [adw]
  refine adv h hx fun a b => ?_
  refine bF (PXs (n+1) x6.length g fs lo) ?_ fun y ⟨a,b,ar,e,h⟩=>by subst e;exact goK rfl (aC ⟨a,b,ar,rfl,h⟩)
  rw [adx]
  exact V6 (Vn hx.1 (by omega)) fun z hz a b=>ih z (hx.2.2.2 z hz) a b
theorem NG {m:Nat} (hm:m≤10) :∀n k:Nat,n≤k→∀x,WE m n x→Ok (aiQ k x.kind x.op x.value x.line x.name x.args) fun _=>True
 |0,_,_,_,h=>h.elim
 |n+1,0,hk,_,_=>by omega
 |n+1,k+1,hk,x,h=>by
  have ih:=NG hm n k (by omega)
  show Ok (aiP (aiQ k) x.kind x.op x.value x.line x.name x.args) _
  unfold aiP
  refine bF (fun _=>True) ?_ fun _ _=>aC trivial
  have hl:=h.1
  refine bI (fun s:Int×Int=>0≤s.2∧s.2≤x.args.length) (fun s=>(x.args.length-s.2).toNat) ⟨by simp,by simp⟩ fun ⟨z,q⟩ ⟨h1,h2⟩=>bJ (fun hc => ?_) fun _=>aC trivial
  have hc:q<x.args.length:=by simpa using hc
  simp only at h1 h2
  refine bC (aj.2 ⟨h1,hc⟩) (bF _ (ih _ (h.2.2.2 _ (by rw [getD_at _ (by simp only;omega)];exact XX _))) fun _ _=>aC ⟨⟨?_,?_⟩,?_⟩)
  all_goals simp only [aO (x:=q+1) (by omega)];omega
end
def V:Nat→Nat
 |0=>0
 |n+1=>1+20*V n
theorem kX {α:Type} {l:List α} {q:Int} (d:α) (h0:0≤q) (h1:q<l.length):l.getD q.toNat d∈l:=by
 rw [getD_at _ (by omega)];exact XX _
theorem P5 {q m:Nat} (V:Nat) (h:q<m):(q+1)*V=q*V+V∧q*V+V≤m*V:=by
 have e:(q+1)*V=q*V+V:=Nat.succ_mul q V
 exact ⟨e,e▸XN V h⟩
theorem Hz {m h:Nat} :∀n k:Nat,n+1≤k→∀ss:List eX,ss.length≤10→(∀s∈ss,WS m h n s)→∀l,l.length+10*V n≤1000000→Ok (aiH k ss l) fun y=>y.length≤l.length+ss.length*V n
 |_,0,hk,_,_,_,_,_=>by omega
 |n,k+1,hk,ss,hs,hw,l,hl=>by
  show Ok (aiG (aiH k) ss l) _
  unfold aiG
  refine bF (fun y=>y.length≤l.length+ss.length*V n) ?_ fun y hy=>aC hy
  refine bI (fun s:Int×List (List UInt8) =>∃q:Nat,s.1=q∧q≤ss.length∧s.2.length≤l.length+q*V n) (fun s=>(ss.length-s.1).toNat) ⟨0,rfl,by omega,by simp⟩ fun ⟨q,acc⟩ ⟨q',e1,e2,e3⟩ => ?_
  simp only at e1 e3
  subst e1
  refine bJ (fun hc => ?_) fun hc=>aC ?_
  rotate_left
  ·have hc:¬ (q':Int)<ss.length:=by simpa using hc
   have:q'=ss.length:=by omega
   subst this;exact e3
  have hc:(q':Int)<ss.length:=by simpa using hc
  have hin:=aj.2 (show 0≤(q':Int)∧(q':Int)<ss.length from ⟨by omega,hc⟩)
  have hx:=hw _ (kX kJ (by omega) hc)
  simp only [QP] at hx
  generalize hxe:ss.getD q' kJ=x at hx
  cases n with
  |zero=>exact hx.elim
  |succ n=>
   have hm:=P5 (V (n+1)) (show q'<10 by omega)
   have hV:V (n+1)=1+20*V n:=rfl
   have ht:x.then'.length*V n≤10*V n:=XN _ hx.2.2.2.1.1
   have hel:x.else'.length*V n≤10*V n:=XN _ hx.2.2.2.1.2
   refine bC hin (bF (fun y=>y.length≤acc.length+1) ?_ fun y hy=>bC hin (bF (fun z=>z.length≤y.length+10*V n) ?_ fun z hz=>bC hin (bF (fun w=>w.length≤z.length+10*V n) ?_ fun w hw=>aC ⟨⟨q'+1,?_,by omega,?_⟩,?_⟩)))
   ·exact bJ (fun _=>bC hin (bC (by unfold bV;simp;omega) (aC (by simp)))) fun _=>aC (by simp)
   ·simp only [QP,hxe]
    exact lC (Hz n k (by omega) _ hx.2.2.2.1.1 hx.2.2.2.2.1 _ (by omega)) fun z hz=>by omega
   ·simp only [QP,hxe]
    exact lC (Hz n k (by omega) _ hx.2.2.2.1.2 hx.2.2.2.2.2 _ (by omega)) fun z hz=>by omega
   ·show b_ ((q':Int)+1)=_
    rw [aO (by omega)];rfl
   ·show w.length≤_
    omega
   ·show ((ss.length:Int)-b_ ((q':Int)+1)).toNat<((ss.length:Int)-q').toNat
    rw [aO (by omega)];omega
theorem P6 {m h:Nat} :∀n k:Nat,n+1≤k→∀ss:List eX,ss.length≤10→(∀s∈ss,WS m h n s)→Ok (aiJ k ss) fun _=>True
 |_,0,hk,_,_,_=>by omega
 |n,k+1,hk,ss,hs,hw=>by
  show Ok (aiI (aiJ k) ss) _
  unfold aiI
  refine bF (fun _=>True) ?_ fun _ _=>aC trivial
  refine bI (fun s:Int×Int=>0≤s.2∧s.2≤ss.length) (fun s=>(ss.length-s.2).toNat) ⟨by simp,by simp⟩ fun ⟨z,q⟩ ⟨h1,h2⟩=>bJ (fun hc => ?_) fun _=>aC trivial
  have hc:q<ss.length:=by simpa using hc
  simp only at h1 h2
  have hx:=hw _ (kX kJ h1 hc)
  cases n with
  |zero=>exact hx.elim
  |succ n=>
   refine bC (aj.2 ⟨h1,hc⟩) (bF _ (P6 n k (by omega) _ hx.2.2.2.1.1 hx.2.2.2.2.1) fun _ _=>bC (aj.2 ⟨h1,hc⟩) (bF _ (P6 n k (by omega) _ hx.2.2.2.1.2 hx.2.2.2.2.2) fun _ _=>aC ⟨⟨?_,?_⟩,?_⟩))
   all_goals simp only [aO (x:=q+1) (by omega)];omega
section
variable {g:List aW} {fs:List aB}
def PR (n m:Nat) (g:List aW) (fs:List aB) (lo:List (List UInt8)) (y:List aW×List aB×Int×Int×List eX×List (List UInt8)):Prop:=
 ∃a b ss lo',y=(g,fs,a,b,ss,lo')∧ss.length=m∧(∀s∈ss,WS 4 4 n s)∧lo'.length≤lo.length+m*V n
theorem ER (hg:g.length≤1000000) (hf:fs.length≤1000000) :∀n k:Nat,n+1≤k→∀ss:List eX,ss.length≤10→(∀s∈ss,WS 3 3 n s)→∀a b lo,lo.length+10*V n≤1000000→Ok (ai6 k ss g fs a b lo) (PR n ss.length g fs lo)
 |_,0,hk,_,_,_,_,_,_,_=>by omega
 |n,k+1,hk,ss,hs,hw,a,b,lo,hl=>by
  show Ok (ai5 (ai6 k) ss g fs a b lo) _
  unfold ai5
  refine bF (PR n ss.length g fs lo) ?_ fun y ⟨a,b,ss,lo,e,h⟩=>by subst e;exact aC ⟨a,b,ss,lo,rfl,h⟩
  refine bI (fun s:Int×List aW×List aB×Int×Int×List eX×List (List UInt8) =>∃q:Nat,∃a b rs lo',s=((q:Int),g,fs,a,b,rs,lo')∧q≤ss.length∧rs.length=q∧(∀s∈rs,WS 4 4 n s)∧lo'.length≤lo.length+q*V n) (fun s=>(ss.length-s.1).toNat)
   ⟨0,a,b,[],lo,rfl,by omega,rfl,fun s h=>(by cases h),by simp⟩ fun s ⟨q,a,b,rs,lo',e,e1,e2,e3,e4⟩ => ?_
  subst e
  refine bJ (fun hc => ?_) fun hc=>aC ?_
  rotate_left
  ·have hc:¬ (q:Int)<ss.length:=by simpa using hc
   have:q=ss.length:=by omega
   subst this;exact ⟨a,b,rs,lo',rfl,e2,e3,e4⟩
  have hc:(q:Int)<ss.length:=by simpa using hc
  have hin:=aj.2 (show 0≤(q:Int)∧(q:Int)<ss.length from ⟨by omega,hc⟩)
  have hx:=hw _ (kX kJ (by omega) hc)
  obtain ⟨x,hxe⟩ :∃x,ss.getD (q:Int).toNat kJ=x:=⟨_,rfl⟩
  rw [hxe] at hx
  simp only [hxe]
  cases n with
  |zero=>exact hx.elim
  |succ n=>
   have hm:=P5 (V (n+1)) (show q<10 by omega)
   have hV:V (n+1)=1+20*V n:=rfl
   have ht:x.then'.length*V n≤10*V n:=XN _ hx.2.2.2.1.1
   have hel:x.else'.length*V n≤10*V n:=XN _ hx.2.2.2.1.2
   obtain ⟨x1,x2,x3,⟨x4,x5⟩,x6,x7⟩:=hx
   have hSc:Sc g fs lo':=⟨hg,hf,by omega⟩
   refine bC hin (bF (fun y =>∃a b ar,y=(g,fs,a,b,ar)∧ar.length=x.exprs.length∧∀z∈ar,WE 4 4 z) ?_ fun y ⟨a,b,ar,e,f1,f2⟩ => ?_)
   ·refine bI (fun s:Int×List aW×List aB×Int×Int×List bK =>∃a b ar,s=((ar.length:Int),g,fs,a,b,ar)∧ar.length≤x.exprs.length∧∀z∈ar,WE 4 4 z) (fun s=>(x.exprs.length-s.1).toNat) ⟨a,b,[],rfl,by simp,fun z h=>by cases h⟩ fun s ⟨a,b,ar,e,f1,f2⟩ => ?_
    subst e
    refine bJ (fun hc => ?_) fun hc=>aC ⟨a,b,ar,rfl,?_,f2⟩
    rotate_left
    ·have hc:¬ (ar.length:Int)<x.exprs.length:=by simpa using hc
     omega
    have hc:(ar.length:Int)<x.exprs.length:=by simpa using hc
    have hin:=aj.2 (show 0≤(ar.length:Int)∧(ar.length:Int)<x.exprs.length from ⟨by omega,hc⟩)
    have hz:=x3 _ (kX iK (by omega) hc)
    refine bC hin (bF _ (NG (by omega) 3 1048576 (by omega) _ hz) fun _ _=>bF (fun y =>∃a b,y=(g,fs,a,b)) ?_ fun y ⟨a,b,e⟩ => ?_)
    ·exact bJ (fun _=>bC hin (rE fun _ _=>aC ⟨_,_,rfl⟩)) fun _=>aC ⟨_,_,rfl⟩
    subst e
    refine bC hin (bF _ (ND hSc 3 1048576 (by omega) _ hz a b) fun y ⟨k,o,v,i,nm,a,b,ar',e,hr⟩ => ?_)
    subst e
    refine bC (by unfold bV;simp;omega) (aC ⟨⟨a,b,ar++[bK.mk k o v i nm ar'],?_,by simp;omega,fun z h => ?_⟩,?_⟩)
    ·simp only [aO (x:=(ar.length:Int)+1) (by omega)];simp
    ·rcases X1.1 h with h | h
     ·exact f2 z h
     ·rw [Qt] at h;subst h;exact hr
    ·simp only [aO (x:=(ar.length:Int)+1) (by omega)];omega
   subst e
   refine PZ hSc fun w _=>bF (fun y =>∃a b lo2,y=(g,fs,a,b,lo2)∧lo2.length≤lo'.length+1) ?_ fun y ⟨a,b,lo2,e,f3⟩ => ?_
   ·refine bJ (fun _=>bF (fun y =>∃a b,y=(g,fs,a,b)) ?_ fun y ⟨a,b,e⟩=>by subst e;exact bC (by unfold bV;simp;omega) (aC ⟨_,_,_,rfl,by simp⟩)) fun _=>bF (fun _=>True) ?_ fun u _=>bF (fun y =>∃a b,y=(g,fs,a,b)) ?_ fun y ⟨a,b,e⟩=>by subst e;exact aC ⟨_,_,_,rfl,by simp⟩
    ·exact bJ (fun _=>rE fun _ _=>aC ⟨_,_,rfl⟩) fun _=>aC ⟨_,_,rfl⟩
    ·exact bJ (fun _=>aC trivial) fun _=>aC trivial
    ·refine bJ (fun _=>bF (fun y =>∃a b,y=(g,fs,a,b)) ?_ fun y ⟨a,b,e⟩=>by subst e;exact aC ⟨_,_,rfl⟩) fun _=>aC ⟨_,_,rfl⟩
     refine bJ (fun _=>rE fun _ _=>aC ⟨_,_,rfl⟩) fun _=>bF (fun _=>True) ?_ fun u _=>bF (fun y =>∃a b,y=(g,fs,a,b)) ?_ fun y ⟨a,b,e⟩=>by subst e;exact aC ⟨_,_,rfl⟩
     ·exact bJ (fun _=>bJ (fun _=>bJ (fun _=>aC trivial) fun _=>bJ (fun _=>aC trivial) fun _=>aC trivial) fun _=>bJ (fun _=>aC trivial) fun _=>aC trivial) fun _=>bJ (fun _=>aC trivial) fun _=>aC trivial
     ·exact bJ (fun _=>rE fun _ _=>aC ⟨_,_,rfl⟩) fun _=>aC ⟨_,_,rfl⟩
   subst e
   refine bF _ (ER hg hf n k (by omega) _ x4 x6 a b lo2 (by omega)) fun y ⟨a,b,s1,lo3,e,c1,c2,c3⟩ => ?_
   subst e
   refine bF _ (ER hg hf n k (by omega) _ x5 x7 a b lo3 (by omega)) fun y ⟨a,b,s2,lo4,e,d1,d2,d3⟩ => ?_
   subst e
   refine bC (by unfold bV;simp;omega) (aC ⟨⟨q+1,a,b,rs++[eX.mk x.kind x.line x.name ar s1 s2],lo4,?_,by omega,?_,fun s h => ?_,by omega⟩,?_⟩)
   ·show (b_ ((q:Int)+1),_)=_
    rw [aO (by omega)];rfl
   ·simp;exact e2
   ·rcases X1.1 h with h | h
    ·exact e3 s h
    ·rw [Qt] at h;subst h
     exact ⟨by simp only;omega,fun h=>by have:=x2 h;simp only;omega,f2,⟨by simp only;omega,by simp only;omega⟩,c2,d2⟩
   ·show ((ss.length:Int)-b_ ((q:Int)+1)).toNat<((ss.length:Int)-q).toNat
    rw [aO (by omega)];omega
end
theorem wP {m h:Nat}:Src m h [] []:=⟨by simp,by simp,fun f h=>(by cases h),fun f h=>by cases h⟩
theorem V7 {g:List aW} {fs:List aB} (h:Src 3 3 g fs):Ok (f47 g fs) fun y=>Src 4 4 y.2.2.1 y.2.2.2:=by
 have hg:=h.g;have hf:=h.f
 unfold f47
 refine bF (fun _=>True) ?_ fun s5 _=>bJ (fun _=>aC wP) fun _ => ?_
 ·exact bJ (fun _=>aC trivial) fun _=>aC trivial
 refine bF (fun _=>True) ?_ fun s5 _=>bJ (fun _=>aC wP) fun _ => ?_
 ·refine bJ (fun _=>aC trivial) fun hc => ?_
  have hin:inB (0:Int) fs.length=true:=aj.2 ⟨by omega,by simp at hc;cases fs with
   |nil=>exact absurd rfl hc
   |cons a l=>simp⟩
  exact bC hin (bJ (fun _=>aC trivial) fun _=>bC hin (aC trivial))
 refine pV (fun _=>True) (oV g.length (by omega) (fun i h0 h1=>goT (decide_eq_true h1) (bC (aj.2 ⟨h0,h1⟩) (bF _ (wO (by omega)) fun _ _=>bJ (fun _=>aC wP) fun _=>aC rfl))) (pU (decide_eq_false (by omega)) (aC trivial))) fun _ _ => ?_
 refine pV (fun _=>True) (oV fs.length (by omega) (fun i h0 h1=>goT (decide_eq_true h1) (bF (fun _=>True) ?_ fun s _=>bJ (fun _=>bC (aj.2 ⟨h0,h1⟩) (aC wP)) fun _=>aC rfl)) (pU (decide_eq_false (by omega)) (aC trivial))) fun _ _ => ?_
 ·exact bC (aj.2 ⟨h0,h1⟩) (bF _ (wO (by omega)) fun _ _=>bJ (fun _=>aC trivial) fun _=>bC (aj.2 ⟨h0,h1⟩) (bF _ (Hy (by omega)) fun _ _=>aC trivial))
 refine bC (by unfold bV;simp;omega) (pV (fun rs=>rs.length≤100∧(∀f∈rs,f.params.length≤2)∧∀f∈rs,f.body.length≤10∧∀s∈f.body,WS 4 4 3 s) ?_ fun rs ⟨r1,r2,r3⟩=>aC ⟨by simpa using hg,r1,r2,r3⟩)
 refine bI (fun s:Int×List aB=>(0≤s.1∧s.1≤fs.length)∧(s.2.length:Int)=s.1∧(∀f∈s.2,f.params.length≤2)∧∀f∈s.2,f.body.length≤10∧∀s∈f.body,WS 4 4 3 s) (fun s=>(fs.length-s.1).toNat) ⟨⟨by simp,by simp⟩,rfl,fun f h=>(by cases h),fun f h=>by cases h⟩ fun ⟨q,rs⟩ ⟨⟨e1,e2⟩,e3,e4,e5⟩ => ?_
 simp only at e1 e2 e3 e4 e5
 refine bJ (fun hc => ?_) fun _=>aC ⟨by simp only;omega,e4,e5⟩
 have hc:q<fs.length:=by simpa using hc
 have hx:=kX h_ e1 hc
 have hp:=h.ps _ hx
 obtain ⟨hb,hw⟩:=h.ws _ hx
 obtain ⟨f,hfe⟩ :∃f,fs.getD q.toNat h_=f:=⟨_,rfl⟩
 rw [hfe] at hx hp hb hw
 simp only [hfe]
 have hcap:(true&&decide ((List.length kH+f.params.length)*16≤140737488355328))=true:=by simp;omega
 refine bC (aj.2 ⟨e1,hc⟩) (bF (fun _=>True) ?_ fun _ _=>bJ (fun _=>aC wP) fun _=>pV (fun _=>True) (oV f.params.length (by omega) (fun i h0 h1=>goT (decide_eq_true h1) (bF (fun _=>True) ?_ fun s _=>bJ (fun _=>aC wP) fun _=>aC rfl)) (pU (decide_eq_false (by omega)) (aC trivial))) fun _ _ => ?_)
 ·refine bJ (fun _=>aC trivial) fun _=>bF (fun _=>True) ?_ fun _ _=>bJ (fun _=>aC trivial) fun _=>bF _ (P6 3 1048576 (by omega) _ hb hw) fun _ _=>aC trivial
  unfold f41
  exact bC hcap (bF _ (Hz 3 1048576 (by omega) _ hb hw _ (by simp [V];omega)) fun _ _=>aC trivial)
 ·exact bC (rC.2 ⟨⟨by omega,h0⟩,by omega⟩) (bC (aj.2 ⟨h0,h1⟩) (bF _ (adt (by simp;omega)) fun _ _=>bJ (fun _=>aC trivial) fun _=>bC (aj.2 ⟨h0,h1⟩) (bF _ (TL (by omega) (by omega)) fun _ _=>aC trivial)))
 ·refine bC hcap (bF _ (ER (by omega) (by omega) 3 1048576 (by omega) _ hb hw 0 0 _ (by simp [V];omega)) fun y ⟨a,b,ss,lo',e,c1,c2,c3⟩ => ?_)
  subst e
  refine bJ (fun _=>aC wP) fun _=>bC hcap (bC (by unfold bV;simp;omega) (aC ⟨⟨?_,?_,fun f hf => ?_,fun f hf => ?_⟩,?_⟩))
  ·simp only [aO (x:=q+1) (by omega)];omega
  ·simp only [aO (x:=q+1) (by omega)];simp;omega
  ·rcases X1.1 hf with h | h
   ·exact e4 f h
   ·rw [Qt] at h;subst h;simpa using hp
  ·rcases X1.1 hf with h | h
   ·exact e5 f h
   ·rw [Qt] at h;subst h;exact ⟨by simp only;omega,c2⟩
  ·simp only [aO (x:=q+1) (by omega)];omega
structure Bd (k:Nat) (at':Int) (bl:List aG):Prop where
 at0:0≤at'
 Uc:at'<bl.length
 len:bl.length≤k
 ins :∀b∈bl,b.instrs.length≤k∧∀i∈b.instrs,i.args.length≤10
theorem Bd.up {k k':Nat} {a:Int} {bl:List aG} (h:Bd k a bl) (hk:k≤k'):Bd k' a bl:=⟨h.at0,h.Uc,Vn h.len hk,fun b hb=>⟨Vn (h.ins b hb).1 hk,(h.ins b hb).2⟩⟩
section
variable {g:List aW} {fs:List aB} {lo:List (List UInt8)} {nu:Int}
theorem nU {β:Type} {k:Nat} {a a' re ln:Int} {bl:List aG} {f} {Q:β→Prop} (h:Bd k a bl) (hk:k≤1000000000) (c :∀iY,iY.length=bl.length+1→Bd (k+1) bl.length iY→Ok (f ((bl.length:Int),g,fs,lo,nu,re,(bl.length:Int),iY)) Q) :
  Ok (Option.bind (f42 ln g fs lo nu re a' bl) f) Q:=by
 have hl:=h.len
 refine bF (fun y =>∃iY,y=((bl.length:Int),g,fs,lo,nu,re,(bl.length:Int),iY)∧iY.length=bl.length+1∧Bd (k+1) bl.length iY) (bC (by unfold bV;simp;omega) (aC ⟨bl++[_],rfl,by simp,⟨by omega,by simp;omega,by simp;omega,fun b hb => ?_⟩⟩)) fun y ⟨iY,e,h1,h2⟩=>by subst e;exact c iY h1 h2
 rcases X1.1 hb with hb | hb
 ·exact ⟨Nat.le_succ_of_le (h.ins b hb).1,(h.ins b hb).2⟩
 ·rw [Qt] at hb;subst hb;exact ⟨qS _,fun i h=>by cases h⟩
theorem Gv {β:Type} {k:Nat} {a re p0 p1 p2 p3 p4 p5:Int} {ar:List Int} {bl:List aG} {f} {Q:β→Prop} (h:Bd k a bl) (hk:k≤1000000000) (ha:ar.length≤10) (c :∀iY,iY.length=bl.length→Bd (k+1) a iY→Ok (f (g,fs,lo,nu,re,a,iY)) Q) :
  Ok (Option.bind (f44 p0 p1 p2 p3 p4 p5 ar g fs lo nu re a bl) f) Q:=by
 have hl:=h.len
 have hin:=aj.2 ⟨h.at0,h.Uc⟩
 have hx:=h.ins _ (kX ah h.at0 h.Uc)
 refine bF (fun y =>∃iY,y=(g,fs,lo,nu,re,a,iY)∧iY.length=bl.length∧Bd (k+1) a iY) ?_ fun y ⟨iY,e,h1,h2⟩=>by subst e;exact c iY h1 h2
 unfold f44
 refine bF (fun y =>∃iY,y=(g,fs,lo,nu,re,a,iY)∧iY.length=bl.length∧Bd (k+1) a iY) ?_ fun y ⟨iY,e,h1,h2⟩=>by subst e;exact bC (by simp [h1]) (aC ⟨iY,rfl,h1,h2⟩)
 refine bC hin (bC ?_ (bC hin (bC (by simp) (aC ⟨_,rfl,by simp,⟨h.at0,by rw [ZD];exact h.Uc,by rw [ZD];omega,fun b hb => ?_⟩⟩))))
 ·show (true&&decide _)=true
  simp only [Bool.true_and,decide_eq_true_eq,K0];omega
 ·rcases qi hb with hb | hb
  ·exact ⟨Nat.le_succ_of_le (h.ins b hb).1,(h.ins b hb).2⟩
  ·subst hb
   refine ⟨by rw [Z0,K0];omega,fun i hi => ?_⟩
   rcases X1.1 hi with hi | hi
   ·exact hx.2 i hi
   ·rw [Qt] at hi;subst hi;exact ha
theorem rF {β:Type} {k:Nat} {a re p0 p1 p2 p3 p4:Int} {bl:List aG} {f} {Q:β→Prop} (h:Bd k a bl) (h0:0≤p0) (h1:p0<bl.length) (c :∀iY,iY.length=bl.length→Bd k a iY→Ok (f (g,fs,lo,nu,re,a,iY)) Q) :
  Ok (Option.bind (f45 p0 p1 p2 p3 p4 g fs lo nu re a bl) f) Q:=by
 have hx:=h.ins _ (kX ah h0 h1)
 refine bF (fun y =>∃iY,y=(g,fs,lo,nu,re,a,iY)∧iY.length=bl.length∧Bd k a iY) ?_ fun y ⟨iY,e,h1,h2⟩=>by subst e;exact c iY h1 h2
 unfold f45
 refine bF (fun y =>∃iY,y=(g,fs,lo,nu,re,a,iY)∧iY.length=bl.length∧Bd k a iY) ?_ fun y ⟨iY,e,h1,h2⟩=>by subst e;exact bC (by simp [h1]) (aC ⟨iY,rfl,h1,h2⟩)
 refine bC (aj.2 ⟨h0,h1⟩) (aC ⟨_,rfl,by simp,⟨h.at0,by rw [ZD];exact h.Uc,by rw [ZD];exact h.len,fun b hb => ?_⟩⟩)
 rcases qi hb with hb | hb
 ·exact h.ins b hb
 ·subst hb;exact hx
theorem Ym {β:Type} {nm:List UInt8} {re a:Int} {bl:List aG} {f} {Q:β→Prop} (hl:lo.length≤1000000) (c :∀q,Ok (f (q,g,fs,lo,nu,re,a,bl)) Q):Ok (Option.bind (f63 nm g fs lo nu re a bl) f) Q:=by
 refine bF (fun y =>∃q,y=(q,g,fs,lo,nu,re,a,bl)) ?_ fun y ⟨q,e⟩=>by subst e;exact c q
 refine bF (fun y =>∃q,y=(q,g,fs,lo,nu,re,a,bl)) ?_ fun y ⟨q,e⟩=>by subst e;exact goK rfl (aC ⟨q,rfl⟩)
 unfold aiN
 refine bF (fun y =>∃q,y=(q,g,fs,lo,nu,re,a,bl)) ?_ fun y ⟨q,e⟩=>by subst e;exact bC (by simp) (aC ⟨q,rfl⟩)
 exact pV (fun _=>True) (oV lo.length (by omega) (fun i h0 h1=>goT (decide_eq_true h1) (bC (aj.2 ⟨h0,h1⟩) (bJ (fun _=>aC ⟨_,rfl⟩) fun _=>aC rfl))) (pU (decide_eq_false (by omega)) (aC trivial))) fun _ _=>aC ⟨_,rfl⟩
def PV (k m:Nat) (g:List aW) (fs:List aB) (lo:List (List UInt8)) (nu:Int) (y:List aW×List aB×List (List UInt8)×Int×Int×Int×List aG):Prop:=
 ∃re a bl,y=(g,fs,lo,nu,re,a,bl)∧m≤bl.length∧Bd k a bl
def CX:Nat→Nat
 |0=>0
 |n+1=>4*CX n+6
theorem goV {β:Type} {rec:Z_} {c:Nat} {x:bK} {t a re:Int} {k:Nat} {bl:List aG} {f} {Q:β→Prop} (hr :∀t re a bl k,Bd k a bl→k+c≤1000000000→Ok (rec x.kind x.op x.value x.line x.name x.args t g fs lo nu re a bl) (PV (k+c) bl.length g fs lo nu))
  (h:Bd k a bl) (hk:k+c≤1000000000) (q :∀re' a' iY,bl.length≤iY.length→Bd (k+c) a' iY→Ok (f (g,fs,lo,nu,re',a',iY)) Q):Ok (Option.bind (rec x.kind x.op x.value x.line x.name x.args t g fs lo nu re a bl) f) Q:=
 bF _ (hr t re a bl k h hk) fun y ⟨re',a',iY,e,h1,h2⟩=>by subst e;exact q re' a' iY h1 h2
theorem ZX {rec:Z_} {rec':T73} {u_:T74} {n:Nat} {p0 p1 p2 p3 t re a:Int} {p4:List UInt8} {ar:List bK} (har:2≤ar.length∧ar.length≤4)
  (hr :∀x∈ar,∀t re a bl k,Bd k a bl→k+CX n≤1000000000→Ok (rec x.kind x.op x.value x.line x.name x.args t g fs lo nu re a bl) (PV (k+CX n) bl.length g fs lo nu))
  {bl:List aG} {k:Nat} (h:Bd k a bl) (hk:k+CX (n+1)≤1000000000):Ok (afx rec rec' u_ p0 p1 p2 p3 p4 ar t g fs lo nu re a bl) (PV (k+CX (n+1)) bl.length g fs lo nu):=by
 have hc:CX (n+1)=4*CX n+6:=rfl
 have m0:ar.getD (Int.toNat 0) iK∈ar:=kX iK (by omega) (by omega)
 have m1:ar.getD (Int.toNat 1) iK∈ar:=kX iK (by omega) (by omega)
 unfold afx
 refine bC (aj.2 ⟨by omega,by omega⟩) (goV (hr _ m0) h (by omega) fun re1 a1 b1 l1 h1=>nU h1 (by omega) fun b2 l2 h2=>bC (aj.2 ⟨by omega,by omega⟩) (goV (hr _ m1) h2 (by omega) fun re3 a3 b3 l3 h3=>nU h3 (by omega) fun b4 l4 h4=>Gv h4 (by omega) (by simp) fun b5 l5 h5=>nU h5 (by omega) fun b6 l6 h6=>Gv h6 (by omega) (by simp) fun b7 l7 h7=>nU h7 (by omega) fun b8 l8 h8 => ?_))
 simp only at l1 l2 l3 l4 l5 l6 l7 l8
 refine rF h8 h3.at0 (by have:=h3.Uc;simp only;omega) fun b9 l9 h9=>bF (fun y =>∃iY,y=(g,fs,lo,nu,re3,(b7.length:Int),iY)∧iY.length=b9.length∧Bd (k+CX n+1+CX n+1+1+1+1+1) b7.length iY) ?_ fun y ⟨b10,e,l10,h10⟩ => ?_
 ·exact bJ (fun _=>rF h9 h1.at0 (by have:=h1.Uc;simp only at l9 ⊢;omega) fun b l h=>aC ⟨b,rfl,l,h⟩) fun _=>rF h9 h1.at0 (by have:=h1.Uc;simp only at l9 ⊢;omega) fun b l h=>aC ⟨b,rfl,l,h⟩
 subst e
 simp only at l9
 exact rF h10 (by simp only;omega) (by simp only;omega) fun b11 l11 h11=>rF h11 (by simp only;omega) (by simp only at l11 ⊢;omega) fun b12 l12 h12=>aC ⟨_,_,b12,rfl,by simp only at l11 l12;omega,h12.up (by omega)⟩
theorem TM {rec:Z_} {rec':T73} {u_:T74} {n:Nat} {t re a:Int} {ar:List bK} (har:ar.length≤4)
  (hr :∀x∈ar,∀t re a bl k,Bd k a bl→k+CX n≤1000000000→Ok (rec x.kind x.op x.value x.line x.name x.args t g fs lo nu re a bl) (PV (k+CX n) bl.length g fs lo nu))
  {bl:List aG} {k:Nat} (h:Bd k a bl) (hk:k+4*CX n≤1000000000):Ok (afy rec rec' u_ ar t g fs lo nu re a bl) fun y =>∃re a rs iY,y=(g,fs,lo,nu,re,a,rs,iY)∧rs.length=ar.length∧bl.length≤iY.length∧Bd (k+4*CX n) a iY:=by
 unfold afy
 refine bF (fun y =>∃re a rs iY,y=(g,fs,lo,nu,re,a,rs,iY)∧rs.length=ar.length∧bl.length≤iY.length∧Bd (k+4*CX n) a iY) ?_ fun y ⟨re,a,rs,iY,e,h⟩=>by subst e;exact aC ⟨re,a,rs,iY,rfl,h⟩
 refine bI (fun s:Int×List aW×List aB×List (List UInt8)×Int×Int×Int×List Int×List aG =>∃q:Nat,∃re a rs iY,s=((q:Int),g,fs,lo,nu,re,a,rs,iY)∧rs.length=q∧q≤ar.length∧bl.length≤iY.length∧Bd (k+q*CX n) a iY) (fun s=>(ar.length-s.1).toNat)
  ⟨0,re,a,[],bl,rfl,rfl,by omega,YY _,h.up (by omega)⟩ fun s ⟨q,re,a,rs,iY,e,h1,h2,h3,h4⟩ => ?_
 subst e
 refine bJ (fun hc => ?_) fun hc=>aC ⟨re,a,rs,iY,rfl,?_,h3,h4.up (Nat.add_le_add_left (XN _ (by omega)) _)⟩
 rotate_left
 ·have hc:¬ (q:Int)<ar.length:=by simpa using hc
  omega
 have hc:(q:Int)<ar.length:=by simpa using hc
 have hm:=P5 (CX n) (show q<4 by omega)
 refine bC (aj.2 ⟨by simp only;omega,hc⟩) (goV (hr _ (kX iK (by omega) hc)) h4 (by omega) fun re' a' bl2 l2 h5=>bC (by unfold bV;simp;omega) (aC ⟨⟨q+1,re',a',rs++[b_ (t+q)],bl2,?_,?_,by omega,by simp only at l2;omega,?_⟩,?_⟩))
 ·show (b_ ((q:Int)+1),_)=_
  rw [aO (by omega)];rfl
 ·simp [h1]
 ·exact h5.up (by omega)
 ·show ((ar.length:Int)-b_ ((q:Int)+1)).toNat<((ar.length:Int)-q).toNat
  rw [aO (by omega)];omega
theorem uh {k m:Nat} {x:Option (List aW×List aB×List (List UInt8)×Int×Int×Int×List aG)} (h:Ok x (PV k m g fs lo nu)):Ok (Option.bind x fun s=>some (s.1,s.2.1,s.2.2.1,s.2.2.2.1,s.2.2.2.2.1,s.2.2.2.2.2.1,s.2.2.2.2.2.2)) (PV k m g fs lo nu):=
 bF _ h fun y ⟨re,a,bl,e,h⟩=>by subst e;exact aC ⟨re,a,bl,rfl,h⟩
theorem V8 {rec:Z_} {rec':T73} {u_:T74} {n:Nat} (hS:Sc g fs lo) {x:bK} (hx:WE 4 (n+1) x) {t re a:Int} {bl:List aG} {k:Nat} (h:Bd k a bl) (hk:k+CX (n+1)≤1000000000)
  (hl:2≤x.args.length→∀re,Ok (rec' x.kind x.op x.value x.line x.name x.args t g fs lo nu re a bl) (PV (k+CX (n+1)) bl.length g fs lo nu))
  (hv :∀re,Ok (u_ x.args t g fs lo nu re a bl) fun y =>∃re a rs iY,y=(g,fs,lo,nu,re,a,rs,iY)∧rs.length=x.args.length∧bl.length≤iY.length∧Bd (k+4*CX n) a iY) :
  Ok (afw rec rec' u_ x.kind x.op x.value x.line x.name x.args t g fs lo nu re a bl) (PV (k+CX (n+1)) bl.length g fs lo nu):=by
 have hc:CX (n+1)=4*CX n+6:=rfl
 obtain ⟨w1,w2,w3,w4⟩:=hx
 unfold afw
 refine bF (fun s=>s=true→x.kind=7∨x.kind=8) ?_ fun s hs=>bJ (fun e=>uh (hl (w2 (hs e)) _)) fun _=>bF _ (hv _) fun y ⟨re,a,rs,iY,e,l1,l2,h'⟩ => ?_
 ·exact bJ (fun e=>aC fun _=>.inl (by simpa using e)) fun _=>aC fun e=>.inr (by simpa using e)
 subst e
 have put :∀{p0 p1 p2 p3 p4 p5:Int} {ar:List Int},ar.length≤10→Ok (f44 p0 p1 p2 p3 p4 p5 ar g fs lo nu re a iY) (PV (k+CX (n+1)) bl.length g fs lo nu):=fun {p0 p1 p2 p3 p4 p5 ar} har=>by
  have:=Gv (g:=g) (fs:=fs) (lo:=lo) (nu:=nu) (re:=re) (p0:=p0) (p1:=p1) (p2:=p2) (p3:=p3) (p4:=p4) (p5:=p5) (ar:=ar) (f:=some) (Q:=PV (k+CX (n+1)) bl.length g fs lo nu) h' (by omega) har fun b l h=>aC ⟨re,a,b,rfl,by omega,h.up (by omega)⟩
  rwa [show∀z:Option (List aW×List aB×List (List UInt8)×Int×Int×Int×List aG),Option.bind z some=z from fun z=>by cases z<;>rfl] at this
 refine uh (bJ (fun _=>uh (put (by simp))) fun _=>uh (bJ (fun _=>Ym hS.lo fun q=>uh (put (by simp))) fun _=>uh (bJ (fun _=>bF _ (wO hS.g) fun _ _=>uh (put (by simp))) fun _=>uh (bJ (fun _=>bF _ (wO hS.g) fun _ _=>uh (put (by simp))) fun _=>
  uh (bJ (fun _=>uh (put (by simp))) fun _=>uh (bJ (fun _=>uh (put (by simp))) fun _=>uh (bJ (fun _=>bF _ (Hy hS.f) fun _ _=>uh (put (by simp only;omega))) fun _=>uh (bJ (fun e => ?_) fun _=>uh (bJ (fun _=>bF _ (Hy hS.f) fun _ _=>uh (put (by simp))) fun _=>uh (bJ (fun _=>uh (put (by simp))) fun _=>aC ⟨re,a,iY,rfl,l2,h'.up (by omega)⟩))))))))))
 have:=w3 (by simpa using e)
 exact bC (rC.2 ⟨⟨by omega,by simp only;omega⟩,by simp only;omega⟩) (uh (put (by simp;omega)))
theorem ady (n:Nat):(jy (n+1)).1=afw (acC n) (aiT n) (aiU n):=rfl
theorem adz (n:Nat):(jy (n+1)).2.1=afx (acC n) (aiT n) (aiU n):=rfl
theorem adA (n:Nat):(jy (n+1)).2.2=afy (acC n) (aiT n) (aiU n):=rfl
theorem Yn (hS:Sc g fs lo) :∀n k:Nat,2*n≤k→∀x,WE 4 n x→∀t re a bl q,Bd q a bl→q+CX n≤1000000000→Ok (acC k x.kind x.op x.value x.line x.name x.args t g fs lo nu re a bl) (PV (q+CX n) bl.length g fs lo nu)
 |0,_,_=>fun _ h=>h.elim
 |n+1,0,hk=>by omega
 |n+1,1,hk=>by omega
 |n+1,k+2,hk=>fun x hx t re a bl q hb hq=>by
  have ih:=Yn hS n k (by omega)
  have hc:CX (n+1)=4*CX n+6:=rfl
  show Ok ((jy (k+2)).1 x.kind x.op x.value x.line x.name x.args t g fs lo nu re a bl) _
  rw [ady]
  refine V8 hS hx hb hq (fun h2 re => ?_) fun re => ?_
  ·show Ok ((jy (k+1)).2.1 x.kind x.op x.value x.line x.name x.args t g fs lo nu re a bl) _
   rw [adz]
   exact ZX ⟨h2,hx.1⟩ (fun z hz=>ih z (hx.2.2.2 z hz)) hb hq
  ·show Ok ((jy (k+1)).2.2 x.args t g fs lo nu re a bl) _
   rw [adA]
   exact TM hx.1 (fun z hz=>ih z (hx.2.2.2 z hz)) hb (by omega)
end
def CS:Nat→Nat
 |0=>0
 |n+1=>20*CS n+1030
section
variable {g:List aW} {fs:List aB} {lo:List (List UInt8)} {nu:Int}
def PW (k m:Nat) (g:List aW) (fs:List aB) (lo:List (List UInt8)) (nu:Int) (y:Bool×List aW×List aB×List (List UInt8)×Int×Int×Int×List aG):Prop:=
 ∃t re a bl,y=(t,g,fs,lo,nu,re,a,bl)∧m≤bl.length∧Bd k a bl
theorem amq {β:Type} {x:bK} {t a re:Int} {k:Nat} {bl:List aG} {f} {Q:β→Prop} (hS:Sc g fs lo) (hx:WE 4 4 x) (h:Bd k a bl) (hk:k+510≤1000000000) (q :∀re' a' iY,bl.length≤iY.length→Bd (k+510) a' iY→Ok (f (g,fs,lo,nu,re',a',iY)) Q) :
  Ok (Option.bind (f62 x.kind x.op x.value x.line x.name x.args t g fs lo nu re a bl) f) Q:=
 goV (rec:=f62) (c:=510) (fun t re a bl k h hk=>Yn hS 4 1048576 (by omega) x hx t re a bl k h hk) h hk q
theorem ajn {β:Type} {rec:T43} {c:Nat} {ss:List eX} {a re:Int} {k:Nat} {bl:List aG} {f} {Q:β→Prop} (hr :∀re a bl k,Bd k a bl→k+c≤1000000000→Ok (rec ss g fs lo nu re a bl) (PW (k+c) bl.length g fs lo nu))
  (h:Bd k a bl) (hk:k+c≤1000000000) (q :∀t re' a' iY,bl.length≤iY.length→Bd (k+c) a' iY→Ok (f (t,g,fs,lo,nu,re',a',iY)) Q):Ok (Option.bind (rec ss g fs lo nu re a bl) f) Q:=
 bF _ (hr re a bl k h hk) fun y ⟨t,re',a',iY,e,h1,h2⟩=>by subst e;exact q t re' a' iY h1 h2
theorem V9 {rec:T43} {rec':T51} {TN:T61} {TQ:T64} {c:Nat} {p0 p1 t re a:Int} {nm:List UInt8} {es:List bK} {th el:List eX} (hS:Sc g fs lo) (he:1≤es.length) (hw :∀x∈es,WE 4 4 x)
  (hr :∀re a bl k,Bd k a bl→k+c≤1000000000→Ok (rec th g fs lo nu re a bl) (PW (k+c) bl.length g fs lo nu)) {bl:List aG} {k:Nat} (h:Bd k a bl) (hk:k+c+520≤1000000000) :
  Ok (afT rec rec' TN TQ p0 p1 nm es th el t g fs lo nu re a bl) (PV (k+c+520) bl.length g fs lo nu):=by
 have m0:es.getD (Int.toNat 0) iK∈es:=kX iK (by omega) (by omega)
 have ha:=h.Uc;have ha0:=h.at0
 unfold afT
 refine nU h (by omega) fun b1 l1 h1=>rF h1 ha0 (by simp only;omega) fun b2 l2 h2=>bC (aj.2 ⟨by omega,by omega⟩) (amq hS (hw _ m0) h2 (by omega) fun re3 a3 b3 l3 h3=>nU h3 (by omega) fun b4 l4 h4=>ajn hr h4 (by omega) fun u re5 a5 b5 l5 h5 => ?_)
 have e1:=h3.at0;have e2:=h3.Uc
 simp only at l2 l3 l4 l5
 refine bF (fun y =>∃iY,y=(g,fs,lo,nu,re5,a5,iY)∧iY.length=b5.length∧Bd (k+1+510+1+c) a5 iY) ?_ fun y ⟨b6,e,l6,h6⟩ => ?_
 ·exact bJ (fun _=>rF h5 h5.at0 h5.Uc fun b l h=>aC ⟨b,rfl,l,h⟩) fun _=>aC ⟨b5,rfl,rfl,h5⟩
 subst e
 exact nU h6 (by omega) fun b7 l7 h7=>rF h7 e1 (by simp only at l7 ⊢;omega) fun b8 l8 h8=>aC ⟨_,_,b8,rfl,by simp only at l7 l8;omega,h8.up (by omega)⟩
theorem TR {rec:T43} {rec':T51} {TN:T61} {TQ:T64} {c:Nat} {p0 p1 t re a:Int} {nm:List UInt8} {es:List bK} {th el:List eX}
  (hr :∀re a bl k,Bd k a bl→k+c≤1000000000→Ok (rec th g fs lo nu re a bl) (PW (k+c) bl.length g fs lo nu)) (hr' :∀re a bl k,Bd k a bl→k+c≤1000000000→Ok (rec el g fs lo nu re a bl) (PW (k+c) bl.length g fs lo nu))
  {bl:List aG} {k:Nat} (h:Bd k a bl) (hk:k+c+c+3≤1000000000):Ok (afU rec rec' TN TQ p0 p1 nm es th el t g fs lo nu re a bl) (PW (k+c+c+3) bl.length g fs lo nu):=by
 have ha:=h.Uc;have ha0:=h.at0
 unfold afU
 refine nU h (by omega) fun b1 l1 h1=>ajn hr h1 (by omega) fun u re2 a2 b2 l2 h2 => ?_
 have e1:=h2.at0;have e2:=h2.Uc
 simp only at l1 l2
 refine bJ (fun _=>nU h2 (by omega) fun b3 l3 h3=>rF h3 ha0 (by simp only at l3 ⊢;omega) fun b4 l4 h4 => ?_) fun _=>nU h2 (by omega) fun b3 l3 h3=>rF h3 ha0 (by simp only at l3 ⊢;omega) fun b4 l4 h4=>ajn hr' h4 (by omega) fun u' re5 a5 b5 l5 h5 => ?_
 ·simp only at l3 l4
  refine bF (PV (k+c+c+3) bl.length g fs lo nu) ?_ fun y ⟨re,a,b,e,l,h⟩=>by subst e;exact aC ⟨true,re,a,b,rfl,l,h⟩
  exact bJ (fun _=>rF h4 e1 (by simp only;omega) fun b l h=>aC ⟨_,_,b,rfl,by simp only at l;omega,h.up (by omega)⟩) fun _=>aC ⟨_,_,b4,rfl,by omega,h4.up (by omega)⟩
 ·have e3:=h5.at0;have e4:=h5.Uc
  simp only at l3 l4 l5
  refine bF (fun _=>True) ?_ fun s _=>bJ (fun _=>aC ⟨false,_,_,b5,rfl,by omega,h5.up (by omega)⟩) fun _=>nU h5 (by omega) fun b6 l6 h6 => ?_
  ·exact bJ (fun _=>aC trivial) fun _=>aC trivial
  simp only at l6
  refine bF (fun y =>∃iY,y=(g,fs,lo,nu,re5,(b5.length:Int),iY)∧iY.length=b6.length∧Bd (k+1+c+1+c+1) b5.length iY) ?_ fun y ⟨b7,e,l7,h7⟩ => ?_
  ·exact bJ (fun _=>rF h6 e1 (by simp only;omega) fun b l h=>aC ⟨b,rfl,l,h⟩) fun _=>aC ⟨b6,rfl,rfl,h6⟩
  subst e
  refine bF (PV (k+c+c+3) bl.length g fs lo nu) ?_ fun y ⟨re,a,b,e,l,h⟩=>by subst e;exact aC ⟨true,re,a,b,rfl,l,h⟩
  exact bJ (fun _=>rF h7 e3 (by simp only;omega) fun b l h=>aC ⟨_,_,b,rfl,by simp only at l;omega,h.up (by omega)⟩) fun _=>aC ⟨_,_,b7,rfl,by omega,h7.up (by omega)⟩
theorem V_ {rec:T43} {rec':T51} {TN:T61} {TQ:T64} {c:Nat} {x:eX} {re a:Int} (hS:Sc g fs lo) (he:x.exprs.length≤2) (hw :∀z∈x.exprs,WE 4 4 z) {bl:List aG} {k:Nat} (h:Bd k a bl) (hk:k+c+1030≤1000000000)
  (h5:x.kind=5→∀t,Ok (TN x.kind x.line x.name x.exprs x.then' x.else' t g fs lo nu re a bl) (PV (k+c+1030) bl.length g fs lo nu))
  (h4 :∀t re a b,bl.length≤b.length→Bd (k+1020) a b→Ok (TQ x.kind x.line x.name x.exprs x.then' x.else' t g fs lo nu re a b) (PW (k+c+1030) bl.length g fs lo nu)) :
  Ok (afS rec rec' TN TQ x.kind x.line x.name x.exprs x.then' x.else' g fs lo nu re a bl) (PW (k+c+1030) bl.length g fs lo nu):=by
 unfold afS
 refine bJ (fun e=>bF _ (h5 (by simpa using e) _) fun y ⟨re,a,b,e,l,h⟩=>by subst e;exact aC ⟨true,re,a,b,rfl,l,h⟩) fun _=>bF (PV (k+1020) bl.length g fs lo nu) ?_ fun y ⟨re,a,b,e,l,h⟩ => ?_
 ·refine bI (fun s:Int×List aW×List aB×List (List UInt8)×Int×Int×Int×List aG =>∃q:Nat,∃re a b,s=((q:Int),g,fs,lo,nu,re,a,b)∧q≤x.exprs.length∧bl.length≤b.length∧Bd (k+q*510) a b) (fun s=>(x.exprs.length-s.1).toNat)
   ⟨0,re,a,bl,rfl,by omega,YY _,h.up (by omega)⟩ fun s ⟨q,re,a,b,e,h1,h2,h3⟩ => ?_
  subst e
  refine bJ (fun hc => ?_) fun _=>aC ⟨re,a,b,rfl,h2,h3.up (by omega)⟩
  have hc:(q:Int)<x.exprs.length:=by simpa using hc
  refine bC (aj.2 ⟨by simp only;omega,hc⟩) (amq hS (hw _ (kX iK (by omega) hc)) h3 (by omega) fun re' a' b' l' h'=>aC ⟨⟨q+1,re',a',b',?_,by omega,by simp only at l';omega,h'.up (by omega)⟩,?_⟩)
  ·show (b_ ((q:Int)+1),_)=_
   rw [aO (by omega)];rfl
  ·show ((x.exprs.length:Int)-b_ ((q:Int)+1)).toNat<((x.exprs.length:Int)-q).toNat
   rw [aO (by omega)];omega
 subst e
 have hq:=fun (re:Int) (b':List aG) (l':b'.length=b.length) (h':Bd (k+1020+1) a b')=>show PV (k+c+1030) bl.length g fs lo nu (g,fs,lo,nu,re,a,b') from ⟨re,a,b',rfl,by omega,h'.up (by omega)⟩
 have hk':k+1020≤1000000000:=by omega
 refine bF (fun _=>True) ?_ fun _ _=>pV (PV (k+c+1030) bl.length g fs lo nu) ?_ fun y ⟨re,a,b,e,l,h⟩=>by subst e;exact aC ⟨true,re,a,b,rfl,l,h⟩
 ·exact bJ (fun _=>aC trivial) fun _=>aC trivial
 refine bJ (fun _=>Ym hS.lo fun q=>bF (PV (k+c+1030) bl.length g fs lo nu) ?_ fun y ⟨re,a,b,e,l,h⟩=>by subst e;exact aC ⟨re,a,b,rfl,l,h⟩) fun _=>pV (PV (k+c+1030) bl.length g fs lo nu) ?_ fun y ⟨re,a,b,e,l,h⟩=>by subst e;exact aC ⟨re,a,b,rfl,l,h⟩
 ·exact bJ (fun _=>Gv h hk' (by simp) fun b' l' h'=>aC (hq _ b' l' h')) fun _=>bF _ (wO hS.g) fun _ _=>Gv h hk' (by simp) fun b' l' h'=>aC (hq _ b' l' h')
 refine bJ (fun _=>bF _ (wO hS.g) fun _ _=>Gv h hk' (by simp) fun b' l' h'=>aC (hq _ b' l' h')) fun _ => ?_
 refine bJ (fun _=>rF h h.at0 h.Uc fun b' l' h'=>aC ⟨false,_,_,b',rfl,by simp only at l';omega,h'.up (by omega)⟩) fun _=>pV (PV (k+c+1030) bl.length g fs lo nu) ?_ fun y ⟨re,a,b,e,l,h⟩=>by subst e;exact aC ⟨re,a,b,rfl,l,h⟩
 exact bJ (fun _=>Gv h hk' (by simp) fun b' l' h'=>aC (hq _ b' l' h')) fun _=>bJ (fun _=>bF _ (h4 _ re a b l h) fun y ⟨t,re,a,b,e,l,h⟩=>by subst e;exact aC ⟨t,re,a,b,rfl,l,h⟩) fun _=>aC ⟨re,a,b,rfl,l,h.up (by omega)⟩
theorem Gw {rec:T43} {rec':T51} {TN:T61} {TQ:T64} {c:Nat} {ss:List eX} (hs:ss.length≤10)
  (hr :∀x∈ss,∀re a bl k,Bd k a bl→k+c≤1000000000→Ok (rec' x.kind x.line x.name x.exprs x.then' x.else' g fs lo nu re a bl) (PW (k+c) bl.length g fs lo nu)) {re a:Int} {bl:List aG} {k:Nat} (h:Bd k a bl) (hk:k+10*c≤1000000000) :
  Ok (afR rec rec' TN TQ ss g fs lo nu re a bl) (PW (k+10*c) bl.length g fs lo nu):=by
 unfold afR
 refine pV (PV (k+10*c) bl.length g fs lo nu) ?_ fun y ⟨re,a,b,e,l,h⟩=>by subst e;exact aC ⟨true,re,a,b,rfl,l,h⟩
 refine bI (fun s:Int×List aW×List aB×List (List UInt8)×Int×Int×Int×List aG =>∃q:Nat,∃re a b,s=((q:Int),g,fs,lo,nu,re,a,b)∧q≤ss.length∧bl.length≤b.length∧Bd (k+q*c) a b) (fun s=>(ss.length-s.1).toNat)
  ⟨0,re,a,bl,rfl,by omega,YY _,h.up (by omega)⟩ fun s ⟨q,re,a,b,e,h1,h2,h3⟩ => ?_
 subst e
 refine bJ (fun hc => ?_) fun _=>aC ⟨re,a,b,rfl,h2,h3.up (Nat.add_le_add_left (XN _ (by omega)) _)⟩
 have hc:(q:Int)<ss.length:=by simpa using hc
 have hm:=P5 c (show q<10 by omega)
 refine bC (aj.2 ⟨by simp only;omega,hc⟩) (bF _ (hr _ (kX kJ (by omega) hc) re a b _ h3 (by omega)) fun y ⟨t,re',a',b',e,l',h'⟩ => ?_)
 subst e
 refine bJ (fun _=>aC ⟨false,re',a',b',rfl,by omega,h'.up (by omega)⟩) fun _=>aC ⟨⟨q+1,re',a',b',?_,by omega,by omega,h'.up (by omega)⟩,?_⟩
 ·show (b_ ((q:Int)+1),_)=_
  rw [aO (by omega)];rfl
 ·show ((ss.length:Int)-b_ ((q:Int)+1)).toNat<((ss.length:Int)-q).toNat
  rw [aO (by omega)];omega
theorem TU (n:Nat):(fP (n+1)).1=afR (ZC n) (afV n) (afW n) (afX n):=rfl
theorem adB (n:Nat):(fP (n+1)).2.1=afS (ZC n) (afV n) (afW n) (afX n):=rfl
theorem adC (n:Nat):(fP (n+1)).2.2.1=afT (ZC n) (afV n) (afW n) (afX n):=rfl
theorem adD (n:Nat):(fP (n+1)).2.2.2=afU (ZC n) (afV n) (afW n) (afX n):=rfl
theorem Yo (hS:Sc g fs lo) :∀n k:Nat,3*n+1≤k→∀ss:List eX,ss.length≤10→(∀s∈ss,WS 4 4 n s)→∀re a bl q,Bd q a bl→q+10*CS n≤1000000000→Ok (ZC k ss g fs lo nu re a bl) (PW (q+10*CS n) bl.length g fs lo nu)
 |_,0,hk=>by omega
 |0,k+1,hk=>fun ss hs hw re a bl q hb hq=>by
  show Ok ((fP (k+1)).1 ss g fs lo nu re a bl) _
  rw [TU]
  exact Gw hs (fun x hx=>(hw x hx).elim) hb hq
 |n+1,1,hk=>by omega
 |n+1,2,hk=>by omega
 |n+1,k+3,hk=>fun ss hs hw re a bl q hb hq=>by
  have ih:=Yo hS n k (by omega)
  have hc:CS (n+1)=20*CS n+1030:=rfl
  show Ok ((fP (k+3)).1 ss g fs lo nu re a bl) _
  rw [TU]
  refine Gw hs (fun x hx re a bl q hb hq => ?_) hb hq
  obtain ⟨x1,x2,x3,⟨x4,x5⟩,x6,x7⟩:=hw x hx
  show Ok ((fP (k+2)).2.1 x.kind x.line x.name x.exprs x.then' x.else' g fs lo nu re a bl) _
  rw [adB,hc,←Up]
  refine V_ hS x1 x3 hb (by omega) (fun h5 t => ?_) fun t re a b hl hb' => ?_
  ·show Ok ((fP (k+1)).2.2.1 x.kind x.line x.name x.exprs x.then' x.else' t g fs lo nu re a bl) _
   rw [adC]
   exact lC (V9 hS (x2 h5) x3 (c:=10*CS n) (fun re a bl q hb hq=>ih _ x4 x6 re a bl q hb hq) hb (by omega)) fun y ⟨re,a,b,e,l,h⟩=>⟨re,a,b,e,l,h.up (by omega)⟩
  ·show Ok ((fP (k+1)).2.2.2 x.kind x.line x.name x.exprs x.then' x.else' t g fs lo nu re a b) _
   rw [adD]
   exact lC (TR (c:=10*CS n) (fun re a bl q hb hq=>ih _ x4 x6 re a bl q hb hq) (fun re a bl q hb hq=>ih _ x5 x7 re a bl q hb hq) hb' (by omega)) fun y ⟨t,re,a,b,e,l,h⟩=>⟨t,re,a,b,e,by omega,h.up (by omega)⟩
end
section
variable {g:List aW} {fs:List aF}
theorem agJ {k o d a b v:Int} {ar:List Int} (h:ar.length≤10):Ok (f75 k o d a b v ar) fun y=>y.length≤11:=by
 unfold f75
 refine bF (fun _=>True) ?_ fun s _=>bJ (fun _=>aC (by simp)) fun _=>bF (fun _=>True) ?_ fun s _=>bJ (fun _=>aC (by simp)) fun _=>bJ (fun _=>bC (by unfold bV;simp;omega) (aC (by simp;omega))) fun _=>bJ (fun _=>bC (by unfold bV;simp;omega) (aC (by simp;omega))) fun _=>aC (by simp)
 all_goals repeat' first | exact aC trivial | refine bJ (fun _ => ?_) (fun _ => ?_) | refine bF (fun _=>True) ?_ (fun _ _ => ?_)
theorem ajo {k o d a b v:Int} {ar:List Int}:Ok (f76 k o d a b v ar) fun _=>True:=by
 unfold f76
 repeat' first | exact aC trivial | refine bJ (fun _ => ?_) (fun _ => ?_) | refine bF (fun _=>True) ?_ (fun _ _ => ?_)
theorem NH {a b v:Int} {p:Bool}:Ok (f77 g fs a b v p) fun _=>True:=by
 unfold f77
 refine bF (fun _=>True) (bJ (fun h0=>bJ (fun h1=>bC (aj.2 ⟨by simpa using h0,by simpa using h1⟩) (aC trivial)) fun _=>aC trivial) fun _=>aC trivial) fun _ _=>aC trivial
theorem adE {n:Nat} {v:Int} {x:Option Bool} (h:x=(bif decide (v<0) then some true else some (decide ((n:Int)≤v)))):Ok x fun s=>s=false→0≤v∧v<n:=by
 subst h
 refine bJ (fun _=>aC fun e=>by cases e) fun h=>aC fun e => ?_
 simp only [decide_eq_false_iff_not] at h e
 omega
theorem instrC_ok {a b:Int} {nm:List UInt8} {pa re:Int} {bl:List aG} {k o d x y v:Int} {ar:List Int} (h:ar.length≤10):Ok (f66 g fs a b nm pa re bl k o d x y v ar) fun _=>True:=by
 unfold f66
 refine bF (fun _=>True) ?_ fun rO _=>bJ (fun _=>aC trivial) fun _=>bF _ (agJ h) fun c39 h39=>bF _ ajo fun c40 _=>bF (fun y=>y.length≤12) ?_ fun s43 h43 => ?_
 ·repeat' first | exact aC trivial | refine bJ (fun _ => ?_) (fun _ => ?_) | refine bF (fun _=>True) ?_ (fun _ _ => ?_)
 ·exact bJ (fun _=>bC (by unfold bV;simp;omega) (aC (by simp;omega))) fun _=>aC (by omega)
 refine pV (fun _=>True) (oV s43.length (by omega) (fun i h0 h1=>goT (decide_eq_true h1) (bF (fun _=>True) (bC (aj.2 ⟨h0,h1⟩) (bJ (fun _=>aC trivial) fun _=>bC (aj.2 ⟨h0,h1⟩) (aC trivial))) fun _ _=>bJ (fun _=>aC trivial) fun _=>aC rfl)) (pU (decide_eq_false (by omega)) (aC trivial))) fun _ _ => ?_
 refine bF (fun _=>True) (bJ (fun _=>aC trivial) fun _=>aC trivial) fun s57 _=>pV (fun _=>True) ?_ fun _ _=>aC trivial
 refine bJ (fun _=>bF _ NH fun _ _=>bJ (fun _=>aC trivial) fun _=>aC trivial) fun _=>bF (fun _=>True) (bJ (fun _=>aC trivial) fun _=>aC trivial) fun s62 _=>pV (fun _=>True) ?_ fun _ _=>aC trivial
 refine bJ (fun _=>bF _ NH fun _ _=>bJ (fun _=>aC trivial) fun _=>aC trivial) fun _=>pV (fun _=>True) ?_ fun _ _=>aC trivial
 refine bJ (fun _=>bF _ (adE (n:=fs.length) (v:=v) rfl) fun s70 h70=>bJ (fun _=>aC trivial) fun hs=>bC (aj.2 (h70 hs)) (bJ (fun _=>aC trivial) fun _=>aC trivial)) fun _=>pV (fun _=>True) ?_ fun _ _=>aC trivial
 refine bJ (fun _=>bJ (fun _=>aC trivial) fun _=>aC trivial) fun _=>pV (fun _=>True) ?_ fun _ _=>aC trivial
 refine bJ (fun _=>bF (fun _=>True) (bJ (fun _=>aC trivial) fun _=>aC trivial) fun _ _=>bJ (fun _=>aC trivial) fun _=>aC trivial) fun _=>pV (fun _=>True) ?_ fun _ _=>aC trivial
 exact bJ (fun _=>bF (fun _=>True) (bJ (fun _=>aC trivial) fun _=>aC trivial) fun _ _=>bJ (fun _=>aC trivial) fun _=>aC trivial) fun _=>aC trivial
theorem agK {nm:List UInt8} {pa re:Int} {bl:List aG} {k a t e:Int}:Ok (f67 nm pa re bl k a t e) fun y=>y=0→(k=1∨k=2∨k=3)∧∀x∈succs k t e,0≤x∧x<bl.length:=by
 unfold f67
 refine bF (fun s=>s=false→k=1∨k=2∨k=3) (bJ (fun _=>aC fun e=>by cases e) fun h=>aC fun e => ?_) fun s3 h3=>bJ (fun _=>aC fun e=>by cases e) fun hs=>bF (fun _=>True) ?_ fun s10 _=>bJ (fun _=>aC fun e=>by cases e) fun _=>oP (Tt k a t e) ?_
 ·simp only [decide_eq_false_iff_not] at h e;omega
 ·exact bJ (fun _=>bJ (fun _=>aC trivial) fun _=>aC trivial) fun _=>aC trivial
 have h3:=h3 hs
 have hl:(succs k t e).length≤2:=by
  unfold succs;split
  ·simp
  ·split<;>simp
 generalize succs k t e=l at hl
 refine pV (fun _ =>∀x∈l,0≤x∧x<bl.length) ?_ fun _ h=>aC fun _=>⟨h3,h⟩
 refine bI (fun i:Int=>(0≤i∧i≤l.length)∧∀x∈l.take i.toNat,0≤x∧x<bl.length) (fun i=>(l.length-i).toNat) ⟨⟨by simp,by omega⟩,by simp⟩ fun i ⟨⟨h0,h1⟩,h2⟩ => ?_
 refine bJ (fun hi => ?_) (fun hi=>aC ?_)
 rotate_left
 ·have:i.toNat=l.length:=by simp at hi;omega
  rw [this,VV] at h2
  exact h2
 have hi:i<l.length:=by simpa using hi
 have hin:=aj.2 ⟨h0,hi⟩
 refine bF (fun s=>s=false→0≤l.getD i.toNat 0∧l.getD i.toNat 0<bl.length) ?_ fun s hs=>bJ (fun _=>aC fun e=>by cases e) fun e=>aC ?_
 ·refine bC hin (bJ (fun _=>aC fun e=>by cases e) fun h=>bC hin (aC fun e => ?_))
  simp only [decide_eq_false_iff_not] at h e;omega
 ·have hs:=hs e
  refine ⟨⟨⟨?_,?_⟩,?_⟩,?_⟩
  all_goals rw [aO (by omega)]
  ·omega
  ·omega
  ·intro x hx
   rw [show (i+1).toNat=i.toNat+1 by omega,take_snoc (by omega)] at hx
   rcases X1.1 hx with hx | hx
   ·exact h2 x hx
   ·rw [Qt] at hx
    rw [getD_at _ (by omega:i.toNat<l.length)] at hs
    rw [hx];exact hs
  ·omega
theorem ZY {nm:List UInt8} {pa re:Int} {bl:List aG} (h:bl.length≤1000000):Ok (f65 nm pa re bl) fun _=>True:=by
 unfold f65
 refine bF (fun _=>True) ?_ fun _ _=>aC trivial
 refine bI (fun s:Int×Int=>0≤s.2∧s.2≤bl.length) (fun s=>(bl.length-s.2).toNat) ⟨by simp,by simp⟩ fun ⟨n,i⟩ ⟨h0,h1⟩ => ?_
 simp only at h0 h1
 refine bJ (fun hi => ?_) (fun hi=>aC trivial)
 have hi:i<bl.length:=by simpa using hi
 refine bC (aj.2 ⟨h0,hi⟩) (aC ⟨⟨?_,?_⟩,?_⟩)
 all_goals simp only;rw [aO (by omega)];omega
theorem TY {a b:Int} {nm:List UInt8} {pa re:Int} {bl:List aG} {k:Nat} (hk:k≤1000000000) (h :∀b∈bl,b.instrs.length≤k∧∀i∈b.instrs,i.args.length≤10):Ok (f52 g fs a b nm pa re bl) fun y=>y=0→bl.length≤1000∧0<bl.length∧yV bl∧ZI bl:=by
 unfold f52
 refine bF (fun s=>s=false→0<bl.length∧bl.length≤256) (bJ (fun _=>aC fun e=>by cases e) fun h0=>bJ (fun _=>aC fun e=>by cases e) fun h1 => ?_) fun s8 h8=>bJ (fun _=>aC fun e=>by cases e) fun hs => ?_
 ·simp only [decide_eq_false_iff_not] at h0 h1
  exact bF _ (ZY (by omega)) fun _ _=>aC fun _=>⟨by omega,by omega⟩
 obtain ⟨l0,l1⟩:=h8 hs
 refine bF (fun _=>True) ?_ fun s16 _=>bJ (fun _=>aC fun e=>by cases e) fun _ => ?_
 ·repeat' first | exact aC trivial | refine bJ (fun _ => ?_) (fun _ => ?_)
 refine pV (fun _=>yV bl) ?_ fun _ hE => ?_
 ·refine bI (fun i:Int=>(0≤i∧i≤bl.length)∧∀b:Nat,(b:Int)<i→((bl.getD b ah).aA=1∨(bl.getD b ah).aA=2∨(bl.getD b ah).aA=3)∧∀x∈rD bl b,0≤x∧x<bl.length) (fun i=>(bl.length-i).toNat) ⟨⟨by simp,by omega⟩,fun b hb=>by omega⟩ fun i ⟨⟨h0,h1⟩,h2⟩ => ?_
  refine bJ (fun hi => ?_) (fun hi=>aC ?_)
  rotate_left
  ·have hi:i=bl.length:=by simp at hi;omega
   subst hi
   refine ⟨fun b hb=>⟨fun hn => ?_,fun hn => ?_⟩,fun b hb=>(h2 b (by omega)).1⟩
   ·have:=h2 b (by omega)
    exact this.2 _ (PO.1 (by omega))
   ·exact (h2 b (by omega)).2 _ (PO.2 hn)
  have hi:i<bl.length:=by simpa using hi
  have hin:=aj.2 ⟨h0,hi⟩
  obtain ⟨hb1,hb2⟩:=h _ (kX ah h0 hi)
  refine pV (fun _=>True) ?_ fun _ _=>bC hin (bF _ agK fun c31 h31=>bJ (fun hc=>aC fun e => ?_) fun hc=>aC ?_)
  ·refine oV _ (by omega) (fun j j0 j1=>bC hin (goT (decide_eq_true j1) (bC hin (bC (aj.2 ⟨j0,j1⟩) (bF _ (instrC_ok (hb2 _ (kX (fM.mk 0 0 0 0 0 0 eInt) j0 j1))) fun Qc _=>bJ (fun hc=>aC fun e => ?_) fun _=>aC rfl))))) (bC hin (pU (decide_eq_false (by omega)) (aC trivial)))
   rw [e] at hc;simp at hc
  ·rw [e] at hc;simp at hc
  ·have h31:=h31 (by simpa using hc)
   have hw:b_ (i+1)=i+1:=aO (by omega)
   refine ⟨⟨⟨by omega,by omega⟩,fun b hb => ?_⟩,by omega⟩
   by_cases e:(b:Int)<i
   ·exact h2 b e
   ·have e:i.toNat=b:=by omega
    rw [e] at h31
    exact h31
 refine bF _ (Tz hE l0 (by omega)) fun m ⟨hM,_⟩ => ?_
 have hml:=hM.len
 refine pV (fun _ =>∀b,b<bl.length→m.getD b false=true) ?_ fun _ hm=>aC fun _=>⟨by omega,l0,hE,fun S s0 hS b hb=>hM.all S s0 (fun b hb sb x hx => ?_) b hb (hm b hb)⟩
 ·refine bI (fun i:Int=>(0≤i∧i≤m.length)∧∀b:Nat,(b:Int)<i→m.getD b false=true) (fun i=>(m.length-i).toNat) ⟨⟨by simp,by omega⟩,fun b hb=>by omega⟩ fun i ⟨⟨h0,h1⟩,h2⟩ => ?_
  refine bJ (fun hi => ?_) (fun hi=>aC ?_)
  rotate_left
  ·have hi:i=m.length:=by simp at hi;omega
   exact fun b hb=>h2 b (by omega)
  have hi:i<m.length:=by simpa using hi
  refine bC (aj.2 ⟨h0,hi⟩) (bJ (fun _=>aC fun e=>by cases e) fun hc=>aC ?_)
  have hw:b_ (i+1)=i+1:=aO (by omega)
  refine ⟨⟨⟨by omega,by omega⟩,fun b hb => ?_⟩,by omega⟩
  by_cases e:(b:Int)<i
  ·exact h2 b e
  ·have e:i.toNat=b:=by omega
   rw [e] at hc;simpa using hc
 ·obtain ⟨q1,q2⟩:=hS b hb sb
  have h3:=hE.2 b hb
  unfold rD succs at hx
  split at hx
  ·rename_i h
   rcases QR.1 hx with hx | hx
   ·rw [hx];exact q1 (by omega)
   ·rw [Qt] at hx;rw [hx];exact q2 h.1
  ·split at hx
   ·rw [Qt] at hx;rw [hx];exact q1 (by omega)
   ·cases hx
theorem adF {a b:Int} {k:Nat} (hk:k≤1000000000) (hg:g.length≤1000000) (h :∀f∈fs,∀b∈f.blocks,b.instrs.length≤k∧∀i∈b.instrs,i.args.length≤10):Ok (f46 g fs a b) fun y=>y=0→fs.length≤1000∧∀f∈fs,Good f:=by
 unfold f46
 refine bF (fun s=>s=false→0<fs.length∧fs.length≤64) (bJ (fun _=>aC fun e=>by cases e) fun h0=>bJ (fun _=>aC fun e=>by cases e) fun h1 => ?_) fun s12 h12=>bJ (fun _=>aC fun e=>by cases e) fun hs => ?_
 ·simp only [decide_eq_false_iff_not] at h0 h1
  have hl:0<fs.length∧fs.length≤64:=⟨by omega,by omega⟩
  exact bJ (fun _=>aC fun e=>by cases e) fun _=>bJ (fun _=>aC fun e=>by cases e) fun _=>aC fun _=>hl
 obtain ⟨l0,l1⟩:=h12 hs
 refine pV (fun _=>True) (oV g.length (by omega) (fun i h0 h1=>goT (decide_eq_true h1) (bF (fun _=>True) (bC (aj.2 ⟨h0,h1⟩) (bJ (fun _=>aC trivial) fun _=>bC (aj.2 ⟨h0,h1⟩) (aC trivial))) fun _ _=>bJ (fun _=>aC fun e=>by cases e) fun _=>aC rfl)) (pU (decide_eq_false (by omega)) (aC trivial))) fun _ _ => ?_
 refine bF (fun _=>True) (bJ (fun _=>aC trivial) fun _=>aC trivial) fun Qb _=>bJ (fun _=>aC fun e=>by cases e) fun _=>bC (aj.2 ⟨by omega,by omega⟩) (bJ (fun _=>aC fun e=>by cases e) fun _ => ?_)
 refine pV (fun _ =>∀f∈fs,Good f) ?_ fun _ h=>aC fun _=>⟨by omega,h⟩
 refine bI (fun i:Int=>(0≤i∧i≤fs.length)∧∀f∈fs.take i.toNat,Good f) (fun i=>(fs.length-i).toNat) ⟨⟨by simp,by omega⟩,by simp⟩ fun i ⟨⟨h0,h1⟩,h2⟩ => ?_
 refine bJ (fun hi => ?_) (fun hi=>aC ?_)
 rotate_left
 ·have:i.toNat=fs.length:=by simp at hi;omega
  rw [this,VV] at h2
  exact h2
 have hi:i<fs.length:=by simpa using hi
 have hm:=kX ak h0 hi
 refine bC (aj.2 ⟨h0,hi⟩) (bF _ (TY hk (h _ hm)) fun GV h35=>bJ (fun hc=>aC fun e => ?_) fun hc=>aC ?_)
 ·rw [e] at hc;simp at hc
 have h35:=h35 (by simpa using hc)
 have hw:b_ (i+1)=i+1:=aO (by omega)
 refine ⟨⟨⟨by omega,by omega⟩,fun f hf => ?_⟩,by omega⟩
 rw [hw,show (i+1).toNat=i.toNat+1 by omega,take_snoc (by omega)] at hf
 rcases X1.1 hf with hf | hf
 ·exact h2 f hf
 ·rw [Qt,←getD_at ak (by omega:i.toNat<fs.length)] at hf
  rw [hf];exact h35
end
def ajp (k:Nat) (bl:List aG):Prop :=∀b∈bl,b.instrs.length≤k∧∀i∈b.instrs,i.args.length≤10
theorem cs3:CS 3=433630:=rfl
theorem v3:V 3=421:=rfl
theorem adG {g:List aW} {fs:List aB} (h:Src 4 4 g fs):Ok (f29 g fs) fun y=>y.2.2.2.2.length≤1000∧∀f∈y.2.2.2.2,Good f:=by
 have hg:=h.g;have hf:=h.f
 unfold f29
 refine bC (by unfold bV;simp;omega) ?_
 refine bF (fun s=>s.2.2.length≤100∧∀f∈s.2.2,ajp 5000000 f.blocks) ?_ fun zy ⟨h1,h2⟩=>bF _ (adF (by omega) (by simp;omega) h2) fun KI h22=>bJ (fun _=>aC ⟨by simp,by simp⟩) fun hc=>aC (h22 (by simpa using hc))
 refine bI (fun s:Int×Int×Int×List aF=>(0≤s.1∧s.1≤fs.length)∧(s.2.2.2.length:Int)=s.1∧∀f∈s.2.2.2,ajp 5000000 f.blocks) (fun s=>(fs.length-s.1).toNat) ⟨⟨by simp,by simp⟩,rfl,by simp⟩ fun ⟨i,x,z,rs⟩ ⟨⟨h0,h1⟩,h2,h3⟩ => ?_
 simp only at h0 h1 h2 h3
 refine bJ (fun hi => ?_) (fun hi=>aC ⟨by simp only;omega,h3⟩)
 have hi:i<fs.length:=by simpa using hi
 have hx:=kX h_ h0 hi
 have hp:=h.ps _ hx
 obtain ⟨hb,hw⟩:=h.ws _ hx
 refine bC (aj.2 ⟨h0,hi⟩) ?_
 obtain ⟨f,hfe⟩ :∃f,fs.getD i.toNat h_=f:=⟨_,rfl⟩
 simp only [hfe] at hp hb hw ⊢
 refine bF (fun y =>∃lo,y=(g,fs,lo,i,(0:Int),(0:Int),([]:List aG))∧lo.length≤1000000) ?_ fun s7 ⟨lo,e,hlo⟩ => ?_
 ·refine bF (fun lo=>lo.length≤1000000) ?_ fun lo hlo=>aC ⟨lo,rfl,hlo⟩
  unfold f41
  refine bC (by simp;omega) (bF (fun lo=>lo.length≤1000000) ?_ fun lo hlo=>aC hlo)
  refine lC (Hz 3 1048576 (by omega) f.body hb hw _ (by rw [v3];simp;omega)) fun y hy => ?_
  rw [v3] at hy
  simp at hy;omega
 subst e
 have hS:Sc g fs lo:=⟨by omega,by omega,hlo⟩
 refine bF (fun y =>∃b:aG,y=((0:Int),g,fs,lo,i,(lo.length:Int),(0:Int),[b])∧b.instrs=[]) (bC (by unfold bV;simp) (aC ⟨_,rfl,rfl⟩)) fun c9 ⟨b,e,hbi⟩ => ?_
 subst e
 have hB:Bd 1 0 [b]:=⟨by omega,by simp,by simp,fun b' hb'=>by rw [Qt] at hb';subst hb';rw [hbi];simp⟩
 refine bF _ (Yo hS 3 1048576 (by omega) f.body hb hw _ _ _ _ hB (by rw [cs3];omega)) fun c10 ⟨t,re,a,bl,e,hl,hB⟩ => ?_
 subst e
 rw [cs3] at hB
 simp only
 refine bF (fun y=>ajp 5000000 y.2.2.2.2.2.2) ?_ fun s16 h16=>bC (by unfold bV;simp;omega) (aC ⟨⟨⟨?_,?_⟩,?_,?_⟩,?_⟩)
 ·refine bJ (fun _=>Gv hB (by omega) (by simp) fun iY e' hB'=>rF hB' hB'.at0 hB'.Uc fun bl2 e2 hB2=>aC (hB2.up (by omega)).ins) fun _=>aC (hB.up (by omega)).ins
 all_goals simp only
 all_goals try rw [aO (by omega)]
 ·omega
 ·omega
 ·simp;omega
 ·intro f' hf'
  rcases X1.1 hf' with hf' | hf'
  ·exact h3 f' hf'
  ·rw [Qt] at hf';subst hf';exact h16
 ·omega
theorem agL {l:List Int} {i:Int} (hb:Bytes l) (hi:0≤i):Ok (f7 l i) fun y=>(y.1.length≤1000∧∀f∈y.1,Good f)∧y.2.2.2.1=l∧0≤y.2.2.2.2.1:=by
 unfold f7
 refine goN hb hi (by omega) fun c j hj _ _=>bJ (fun _=>bF (fun y=>(y.2.2.1=l∧0≤y.2.2.2.1)∧y.2.2.2.2.2.length≤1000∧∀f∈y.2.2.2.2.2,Good f) ?_ fun y hy=>aC ⟨hy.2,hy.1⟩) fun _=>bF _ (adl hb hj) fun y hy=>aC ⟨hy.2,hy.1⟩
 unfold f15
 refine bF (fun y=>(y.1=l∧0≤y.2.1)∧Src 4 4 y.2.2.1 y.2.2.2) ?_ fun y hy=>bF _ (adG hy.2) fun z hz=>aC ⟨hy.1,hz⟩
 unfold f30
 exact bF _ (ZW hb hj) fun y ⟨h1,h2,hy⟩=>bF _ (V7 hy) fun z hz=>aC ⟨⟨h1,h2⟩,hz⟩
theorem refuses {l:List Int} (hb:Bytes l):f4 l=some true:=by
 apply ok_eq
 obtain ⟨c2,h6,hc1,hc2⟩:=ajh (n:=500) hb (by omega)
 refine aji adf h6 ?_
 rw [show c2.2=0 from hc1]
 exact lC (agL hc2 (Kx _)) fun y ⟨h1,h2,h3⟩=>⟨h1,by rw [h2];exact hc2,h3⟩
end Go.Fg.Ytfklooeiipkijaa

