/-
  Chapter 21, plain: groups of points (the root with its path halved, the join of two).
-/
import Derived.Test.YtfklooeiipkijaaFgB
import Derived.Test.YtfklooeiipkijaaZd
namespace Go.Fg.Ytfklooeiipkijaa
open Go.Fw
set_option linter.unusedVariables false
set_option linter.unusedSimpArgs false
structure UF (g:List Int) (rep r:Nat→Nat):Prop where
 val :∀x,x<g.length→0≤g.getD x 0∧g.getD x 0<g.length
 lt :∀x,x<g.length→rep x<g.length
 step :∀x,x<g.length→rep (g.getD x 0).toNat=rep x
 rank :∀x,x<g.length→g.getD x 0≠x→r (g.getD x 0).toNat<r x
 fix :∀x,x<g.length→g.getD x 0=x→rep x=x
 idem :∀x,x<g.length→rep (rep x)=rep x
 root :∀x,x<g.length→rep x=x→g.getD x 0=x
theorem je {l:List Int} {a z:Nat} {v:Int} (ha:a<l.length):(l.set a v).getD z 0=if z=a then v else l.getD z 0:=by
 rw [List.getD_eq_getElem?_getD,List.getD_eq_getElem?_getD]
 by_cases h:z=a
 ·subst h;rw [List.getElem?_set_self ha,if_pos rfl];rfl
 ·rw [List.getElem?_set_ne (fun e=>h e.symm),if_neg h]
theorem U8 {g:List Int} {rep r:Nat→Nat} {x:Nat} (h:UF g rep r) (hx:x<g.length):Ok (f35 x g) fun y=>y.1=(rep x:Int)∧y.2.length=g.length∧UF y.2 rep r:=by
 unfold f35
 refine goB (fun y=>y.1=(rep x:Int)∧y.2.length=g.length∧UF y.2 rep r) ?_ fun y hy=>goC (decide_eq_true hy.2.1.symm) (aC hy)
 refine goB (fun y=>y.1=(rep x:Int)∧y.2.length=g.length∧UF y.2 rep r) ?_ fun y hy=>aC hy
 refine bQ (fun s:Int×List Int =>∃k:Nat,s.1=k∧k<g.length∧rep k=rep x∧s.2.length=g.length∧UF s.2 rep r) (fun s=>r s.1.toNat) ⟨x,rfl,hx,rfl,rfl,h⟩ fun s ⟨k,e1,e2,e3,e4,e5⟩ => ?_
 obtain ⟨k',m⟩:=s
 simp only at e1 e4 e5
 subst e1
 have hk:k<m.length:=by omega
 have v1:=e5.val k hk
 have v2:=e5.val (m.getD k 0).toNat (by omega)
 refine goC (aG.2 ⟨by omega,by omega⟩) (goI (fun hne => ?_) (fun heq=>aC ?_))
 ·simp only [Int.toNat_natCast] at hne ⊢
  have hne:m.getD k 0≠k:=by simpa using hne
  refine goC (aG.2 ⟨by omega,by omega⟩) (goC (aG.2 ⟨v1.1,v1.2⟩) (goC (aG.2 ⟨by omega,by omega⟩) (goC (aG.2 ⟨by omega,by simp;omega⟩) (aC ?_))))
  have hr1:=e5.rank k hk hne
  have hr2:r (m.getD (m.getD k 0).toNat 0).toNat<r k:=by
   by_cases hq:m.getD (m.getD k 0).toNat 0=((m.getD k 0).toNat:Int)
   ·rw [hq];exact hr1
   ·exact Nat.lt_trans (e5.rank _ (by omega) hq) hr1
  have hgk:(m.set k (m.getD (m.getD k 0).toNat 0)).getD k 0=m.getD (m.getD k 0).toNat 0:=by rw [je hk,if_pos rfl]
  have hrep:rep (m.getD (m.getD k 0).toNat 0).toNat=rep k:=by rw [e5.step _ (by omega),e5.step k hk]
  refine ⟨⟨(m.getD (m.getD k 0).toNat 0).toNat,?_,by omega,by rw [hrep];exact e3,by simp [e4],?_⟩,?_⟩
  ·simp only;rw [hgk];omega
  ·refine ⟨fun z hz => ?_,fun z hz => ?_,fun z hz => ?_,fun z hz => ?_,fun z hz => ?_,fun z hz => ?_,fun z hz => ?_⟩<;>simp only [List.length_set] at hz ⊢
   ·rw [je hk];split
    ·exact v2
    ·exact e5.val z hz
   ·exact e5.lt z hz
   ·rw [je hk];split
    ·rename_i e;subst e;exact hrep
    ·exact e5.step z hz
   ·rw [je hk];split
    ·rename_i e;subst e;intro _;exact hr2
    ·exact e5.rank z hz
   ·rw [je hk];split
    ·rename_i e;subst e;intro hq
     rw [hq,Int.toNat_natCast] at hr2
     omega
    ·exact e5.fix z hz
   ·exact e5.idem z hz
   ·rw [je hk];split
    ·rename_i e;subst e;intro hq
     exact absurd (e5.root z hk hq) hne
    ·exact e5.root z hz
  ·simp only;rw [hgk];simpa using hr2
 ·simp only [Int.toNat_natCast] at heq
  have heq:m.getD k 0=k:=by simpa using heq
  exact ⟨by simp only;rw [←e3,e5.fix k hk heq],e4,e5⟩
def link (rep:Nat→Nat) (a b z:Nat):Nat:=if rep z=a then b else rep z
theorem U9 {ls:List bY} {g:List Int} {ins:List Bool} {rep r:Nat→Nat} {k u v:Nat} (h:UF g rep r) (hk:k<ls.length) (hki:k<ins.length) (hu:(ls.getD k (bY.mk 0 0)).from'=u) (hv:(ls.getD k (bY.mk 0 0)).to=v) (MW:u<g.length) (hvl:v<g.length) :
  Ok (f37 k ls g ins) fun y=>y.1.length=g.length∧y.2.1=ls∧y.2.2=ins.set k (!decide ((rep u:Int)=rep v))∧∃r',UF y.1 (link rep (rep u) (rep v)) r':=by
 unfold f37
 refine goB (fun y=>y.1.length=g.length∧y.2.1=ls∧y.2.2=ins.set k (!decide ((rep u:Int)=rep v))∧∃r',UF y.1 (link rep (rep u) (rep v)) r') ?_ fun y hy=>
  goC (decide_eq_true hy.1.symm) (goC (decide_eq_true (by rw [hy.2.2.1,List.length_set])) (aC hy))
 refine goC (aG.2 ⟨by omega,by omega⟩) ?_
 simp only [Int.toNat_natCast,hu,hv]
 refine goB _ (U8 h MW) fun c1 ⟨a1,a2,a3⟩=>goC (aG.2 ⟨by omega,by omega⟩) (goB _ (U8 a3 (by omega:v<c1.2.length)) fun c3 ⟨b1,b2,b3⟩ => ?_)
 have anh:=h.lt u MW
 have ani:=h.lt v hvl
 obtain ⟨ca,g1⟩:=c1
 obtain ⟨cb,g2⟩:=c3
 simp only at a1 a2 a3 b1 b2 b3
 subst a1;subst b1
 refine goC (aG.2 ⟨by omega,by omega⟩) (goC (aG.2 ⟨by omega,by simp only;omega⟩) (aC ⟨by simp;omega,rfl,by simp,?_⟩))
 simp only [Int.toNat_natCast]
 have hl:rep u<g2.length:=by omega
 have ia:rep (rep u)=rep u:=b3.idem u (by omega)
 have ib:rep (rep v)=rep v:=b3.idem v (by omega)
 by_cases hab:rep u=rep v
 ·-- nothing is joined
  refine ⟨r,?_⟩
  have aio:link rep (rep u) (rep v)=rep:=by
   funext z;unfold link;split
   ·rename_i e;rw [e,hab]
   ·rfl
  have hroot:g2.getD (rep u) 0=(rep u:Int):=b3.root _ hl ia
  have:g2.set (rep u) (rep v:Int)=g2:=by
   rw [←hab,←hroot,getD_at 0 hl];exact List.set_getElem_self hl
  rw [this,aio];exact b3
 ·refine ⟨fun z=>if rep z=rep u then r z+r (rep v)+1 else r z,?_⟩
  refine ⟨fun z hz => ?_,fun z hz => ?_,fun z hz => ?_,fun z hz => ?_,fun z hz => ?_,fun z hz => ?_,fun z hz => ?_⟩<;>simp only [List.length_set] at hz ⊢
  ·rw [je hl];split
   ·omega
   ·exact b3.val z hz
  ·unfold link;split
   ·omega
   ·exact b3.lt z hz
  ·rw [je hl];split
   ·rename_i e;subst e
    unfold link
    rw [Int.toNat_natCast,ia,if_pos rfl,ib,if_neg (fun e=>hab e.symm)]
   ·unfold link;rw [b3.step z hz]
  ·rw [je hl];split
   ·rename_i e;subst e
    intro _
    rw [Int.toNat_natCast,ib,ia,if_neg (fun e=>hab e.symm),if_pos rfl];omega
   ·intro hne
    rw [b3.step z hz]
    have:=b3.rank z hz hne
    split<;>omega
  ·rw [je hl];split
   ·rename_i e;subst e;intro hq;omega
   ·rename_i hne;intro hq
    have:=b3.fix z hz hq
    unfold link;rw [this,if_neg hne]
  ·unfold link
   by_cases hz2:rep z=rep u
   ·rw [if_pos hz2,ib,if_neg (fun e=>hab e.symm)]
   ·rw [if_neg hz2,b3.idem z hz,if_neg hz2]
  ·unfold link
   intro hq
   by_cases hz2:rep z=rep u
   ·rw [if_pos hz2] at hq
    subst hq
    rw [ib] at hz2;exact absurd hz2.symm hab
   ·rw [if_neg hz2] at hq
    rw [je hl,if_neg (fun e=>by subst e;exact hz2 ia)]
    exact b3.root z hz hq
def comps (rep:Nat→Nat):Nat→Nat
 |0=>0
 |n+1=>comps rep n+if rep n=n then 1 else 0
theorem Ig {rep aip:Nat→Nat} :∀{n:Nat},(∀z,z<n→(aip z=z↔rep z=z))→comps aip n=comps rep n
 |0,_=>rfl
 |n+1,h=>by
  simp only [comps]
  rw [Ig fun z hz=>h z (by omega)]
  have:=h n (by omega)
  by_cases e:rep n=n
  ·rw [if_pos e,if_pos (this.2 e)]
  ·rw [if_neg e,if_neg fun e'=>e (this.1 e')]
theorem Ih {rep:Nat→Nat} {a b:Nat} (hab:a≠b) (ha:rep a=a) (hb:rep b=b) :∀{n:Nat},a<n→comps (link rep a b) n+1=comps rep n
 |n+1,h=>by
  have hz :∀z,z≠a→(link rep a b z=z↔rep z=z):=by
   intro z hz
   unfold link
   constructor
   ·intro hq
    split at hq
    ·rename_i e;subst hq;rw [hb] at e;exact absurd e.symm hab
    ·exact hq
   ·intro hq
    rw [if_neg (by rw [hq];exact hz)];exact hq
  simp only [comps]
  by_cases e:n=a
  ·subst e
   rw [Ig fun z hz'=>hz z (by omega),if_pos ha]
   have:¬ link rep n b n=n:=by unfold link;rw [if_pos ha];exact fun e=>hab e.symm
   rw [if_neg this]
  ·have:=Ih hab ha hb (n:=n) (by omega)
   by_cases e2:rep n=n
   ·rw [if_pos e2,if_pos ((hz n e).2 e2)];omega
   ·rw [if_neg e2,if_neg fun e'=>e2 ((hz n e).1 e')];omega
end Go.Fg.Ytfklooeiipkijaa

