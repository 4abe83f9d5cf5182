/-
  Chapter 11, plain: Graph draws programs whose functions are good.
-/
import Derived.Test.YtmgfidfcioiedaaLk
namespace Go.Fg.Ytmgfidfcioiedaa
open Go.Fw
set_option linter.unusedVariables false
set_option linter.unusedSimpArgs false
theorem KJ {α:Type} {l:List α} {a z:Nat} {v d:α} (ha:a<l.length):(l.set a v).getD z d=if z=a then v else l.getD z d:=by
 rw [List.getD_eq_getElem?_getD,List.getD_eq_getElem?_getD]
 by_cases h:z=a
 ·subst h;rw [List.getElem?_set_self ha,if_pos rfl];rfl
 ·rw [List.getElem?_set_ne (fun e=>h e.symm),if_neg h]
def HG (N i:Nat) (P:List aH→Prop) (fs:List aO):Prop:=fs.length=N∧∀k,k<N→(fs.getD k aC).params≤10∧(fs.getD k aC).regs≤4∧(k<i→Good (fs.getD k aC))∧(k=i→P (fs.getD k aC).blocks)∧(i<k→(fs.getD k aC).blocks=[])
theorem HG.put {N i:Nat} {P Q:List aH→Prop} {fs:List aO} {nm:List UInt8} {pa re:Int} {bl:List aH} (h:HG N i P fs) (hi:i<N) (hp:pa=(fs.getD i aC).params) (hr:re=(fs.getD i aC).regs) (hq:Q bl):HG N i Q (fs.set i (aO.mk nm pa re bl)):=by
 refine ⟨by simp [h.1],fun k hk => ?_⟩
 rw [KJ (by rw [h.1];exact hi)]
 obtain ⟨a1,a2,a3,a4,a5⟩:=h.2 k hk
 split
 ·rename_i e;subst e
  exact ⟨by simp only [hp];exact a1,by simp only [hr];exact a2,fun e=>absurd e (Nat.lt_irrefl _),fun _=>hq,fun e=>absurd e (Nat.lt_irrefl _)⟩
 ·rename_i e
  exact ⟨a1,a2,a3,fun e'=>absurd e' e,a5⟩
theorem HG.next {N i:Nat} {fs:List aO} (h:HG N i (fun bl=>bl.length≤1000∧0<bl.length∧mJ bl∧TJ bl) fs):HG N (i+1) (fun bl=>bl=[]) fs:=
 ⟨h.1,fun k hk=>have ⟨a1,a2,a3,a4,a5⟩:=h.2 k hk;⟨a1,a2,fun e=>(by rcases Nat.lt_or_ge k i with e' | e';exact a3 e';exact a4 (by omega)),fun e=>a5 (by omega),fun e=>a5 (by omega)⟩⟩
theorem set_self {fs:List aO} {i:Nat} (hi:i<fs.length):fs.set i (aO.mk (fs.getD i aC).name (fs.getD i aC).params (fs.getD i aC).regs (fs.getD i aC).blocks)=fs:=by
 have:aO.mk (fs.getD i aC).name (fs.getD i aC).params (fs.getD i aC).regs (fs.getD i aC).blocks=fs[i]:=by rw [getD_at _ hi]
 rw [this,List.set_getElem_self]
def Nw (m b:Nat) (bl:List aH):Prop:=bl.length=m∧∀k,k<b→((bl.getD k aj).aU=1∨(bl.getD k aj).aU=2∨(bl.getD k aj).aU=3)∧(0≤(bl.getD k aj).dQ∧(bl.getD k aj).dQ<m)∧0≤(bl.getD k aj).bC∧(bl.getD k aj).bC<m
theorem Nw.ends {m:Nat} {bl:List aH} (h:Nw m m bl):mJ bl:=
 ⟨fun b hb=>have:=(h.2 b (h.1▸hb)).2;h.1▸⟨fun _=>this.1,fun _=>this.2⟩,fun b hb=>(h.2 b (h.1▸hb)).1⟩
theorem aaT {l:List Int} {i:Int} (hb:Bytes l) (hi:0≤i):Ok (f18 l i) fun y=>y.2.2.2.2.2.length≤1000∧∀f∈y.2.2.2.2.2,Good f:=by
 unfold f18
 refine goN hb hi (by omega) fun x0 j0 h0 a0 b0=>goN hb h0 (by omega) fun x1 j1 h1 a1 b1 => ?_
 have b1:=b1 (by omega)
 obtain ⟨N,hN'⟩ :∃N:Nat,1+x1=N:=⟨(1+x1).toNat,by omega⟩
 simp only [show bW (1+x1)=N from (aK (by omega)).trans hN']
 refine goB (fun s=>s.1=l∧0≤s.2.1∧HG N 0 (fun bl=>bl=[]) s.2.2.2.2) ?_ fun s ⟨e1,e2,e3⟩ => ?_
 ·refine aZ (fun s:Int×List Int×Int×Int×Int×List aO=>s.2.1=l∧0≤s.2.2.1∧(s.2.2.2.2.2.length:Int)=s.1∧s.1≤N∧∀f∈s.2.2.2.2.2,f.params≤10∧f.regs≤4∧f.blocks=[]) (fun s=>(N-s.1).toNat)
   ⟨rfl,h1,rfl,by simp,fun f hf=>by cases hf⟩ fun ⟨q,l',j,z1,z2,fs⟩ ⟨e1,e2,e3,e4,e5⟩ => ?_
  simp only at e1 e2 e3 e4 e5
  subst e1;subst e3
  refine goI (fun hc => ?_) (fun hc=>ay ⟨rfl,e2,?_,fun k hk => ?_⟩)
  ·have hc:(fs.length:Int)<N:=by simpa using hc
   refine goB _ (sO (by omega) (by omega)) fun nm hnm=>goC (m_.2 (by simp;omega)) (goN hb e2 (by omega) fun x2 j2 h2 a2 b2 => ?_)
   have b2:=b2 (by omega)
   have hw:bW (1+x2)=1+x2:=aK (by omega)
   refine goB (fun s=>s.1=l'∧0≤s.2.1∧s.2.2.2.1≤10∧s.2.2.2.2≤4) ?_ fun ⟨s1,s2,s3,s4,s5⟩ ⟨g1,g2,g3,g4⟩=>goC (by unfold bG;simp;omega) (ay ⟨⟨g1,g2,?_,?_,fun f hf => ?_⟩,?_⟩)
   ·refine goI (fun _ => ?_) (fun _=>ay ⟨rfl,h2,by simp,by simp only [hw];omega⟩)
    have hm:bW (min (1+x2) 2+1)=min (1+x2) 2+1:=aK (by omega)
    rw [acG,hw,hm]
    exact goN hb h2 (by omega) fun x3 j3 h3 a3 b3=>ay ⟨rfl,h3,by simp only;omega,by simp only;omega⟩
   all_goals try simp only [aK (x:=(fs.length:Int)+1) (by omega)]
   ·simp
   ·omega
   ·rcases List.mem_append.1 hf with hf | hf
    ·exact e5 f hf
    ·rw [List.mem_singleton] at hf;subst hf;exact ⟨g3,g4,rfl⟩
   ·omega
  ·have hc:¬ (fs.length:Int)<N:=by simpa using hc
   simp only at e4 ⊢;omega
  ·have hc:¬ (fs.length:Int)<N:=by simpa using hc
   have hk':k<fs.length:=by omega
   simp only [getD_at aC hk']
   obtain ⟨r1,r2,r3⟩:=e5 _ (List.getElem_mem hk')
   exact ⟨r1,r2,fun h=>absurd h (Nat.not_lt_zero _),fun _=>r3,fun _=>r3⟩
 obtain ⟨s1,s2,s3,s4,fs0⟩:=s
 simp only at e1 e2 e3
 subst e1
 rw [show bW ((N:Int)+1)=N+1 from aK (by omega)]
 refine goN hb e2 (by omega) fun ca jc hjc ac bc => ?_
 have bc:=bc (by omega)
 refine goB (fun s=>s.2.2.length≤1000∧∀f∈s.2.2,Good f) ?_ fun s hs=>ay hs
 refine aZ (fun s:Int×List Int×Int×List aO =>∃i:Nat,s.1=i∧i≤N∧s.2.1=s1∧0≤s.2.2.1∧HG N i (fun bl=>bl=[]) s.2.2.2) (fun s=>(N-s.1).toNat)
  ⟨0,rfl,by omega,rfl,hjc,e3⟩ fun ⟨q,l',j,fs⟩ ⟨i,g1,g2,g3,g4,g5⟩ => ?_
 simp only at g1 g3 g4 g5
 subst g1;subst g3
 refine goI (fun hc => ?_) (fun hc=>ay ⟨by simp only;have:=g5.1;omega,fun f hf => ?_⟩)
 rotate_left
 ·have hc:¬ (i:Int)<N:=by simpa using hc
  obtain ⟨k,hk,e⟩:=List.getElem_of_mem hf
  have hk2:k<N:=by have:=g5.1;simp only at hk;omega
  have:=(g5.2 k hk2).2.2.1 (by omega)
  rw [getD_at _ hk,e] at this
  exact this
 have hi:i<N:=by simp at hc;omega
 refine goC (aA.2 ⟨by simp only;omega,by have:=g5.1;simp only;omega⟩) (goN hb g4 (by omega) fun x2 j2 h2 a2 b2 => ?_)
 have b2:=b2 (by omega)
 obtain ⟨M,hM⟩ :∃M:Nat,1+x2=M:=⟨(1+x2).toNat,by omega⟩
 simp only [Int.toNat_natCast,show bW (1+x2)=M from (aK (by omega)).trans hM]
 refine goB (fun s=>s.1=l'∧0≤s.2.1∧HG N i (fun bl=>bl.length=M) s.2.2) ?_ fun ⟨s1,s2,s3⟩ ⟨k1,k2,k3⟩ => ?_
 ·refine aZ (fun s:Int×List Int×Int×List aO=>s.2.1=l'∧0≤s.2.2.1∧(0≤s.1∧s.1≤M)∧HG N i (fun bl=>(bl.length:Int)=M-s.1) s.2.2.2) (fun s=>s.1.toNat)
   ⟨rfl,h2,⟨by simp,by simp⟩,g5.1,fun k hk=>have ⟨z1,z2,z3,z4,z5⟩:=g5.2 k hk;⟨z1,z2,z3,fun e=>(by rw [z4 e];simp),z5⟩⟩ fun ⟨c,l2,j,fs⟩ ⟨r1,r2,r3,r4⟩ => ?_
  simp only at r1 r2 r3 r4
  subst r1
  have hfl:i<fs.length:=by rw [r4.1];exact hi
  obtain ⟨y1,y2,y3,y4,y5⟩:=r4.2 i hi
  have y4:=y4 rfl
  refine goI (fun hp => ?_) (fun hp=>ay ⟨rfl,r2,?_⟩)
  rotate_left
  ·have hp:¬ 0<c:=by simpa using hp
   have:c=0:=by omega
   subst this
   exact ⟨r4.1,fun k hk=>have ⟨z1,z2,z3,z4,z5⟩:=r4.2 k hk;⟨z1,z2,z3,fun e=>(by have:=z4 e;simp only;omega),z5⟩⟩
  have hp:0<c:=by simpa using hp
  refine goN hb r2 (by omega) fun x3 j3 h3 a3 b3=>goN hb h3 (by omega) fun x4 j4 h4 a4 b4 => ?_
  have b4:=b4 (by omega)
  refine goB (fun s=>s.1=l2∧0≤s.2.1∧s.2.2.1=fs) ?_ fun s ⟨k1,k2,k3⟩ => ?_
  ·refine aZ (fun s:Int×List Int×Int×List aO×Int×Int×Int×Int×Int×Int×Int×List fB=>s.2.1=l2∧0≤s.2.2.1∧s.2.2.2.1=fs∧(0≤s.1∧s.1≤4)∧(s.2.2.2.2.2.2.2.2.2.2.2.length:Int)≤4-s.1) (fun s=>s.1.toNat)
    ⟨rfl,h4,rfl,⟨a4,by simp only;omega⟩,by simp only [List.length_nil];omega⟩ fun ⟨c',l3,j3,fs',v1,v2,v3,v4,v5,v6,v7,is⟩ ⟨u1,u2,u3,u4,u5⟩ => ?_
   simp only at u1 u2 u3 u4 u5
   subst u1;subst u3
   refine goI (fun hp' => ?_) (fun _=>ay ⟨rfl,u2,rfl⟩)
   have hp':0<c':=by simpa using hp'
   simp only [set_self hfl]
   refine goB _ (instr_ok hb u2 (by omega) (by omega) ⟨by omega,by have:=r4.1;omega⟩ fun f hf => ?_) fun y ⟨y1,y2⟩=>goC (by unfold bG;simp;omega) (ay ⟨⟨y1,y2,rfl,?_,?_⟩,?_⟩)
   ·obtain ⟨k,hk,e⟩:=List.getElem_of_mem hf
    have:=(r4.2 k (by rw [←r4.1];exact hk)).1
    rw [getD_at _ hk,e] at this
    exact this
   all_goals simp only [aK (x:=c'-1) (by omega)]
   ·omega
   ·simp;omega
   ·omega
  obtain ⟨s1,s2,s3,s⟩:=s
  simp only at k1 k2 k3
  subst k1;subst k3
  refine goC (by simp [-List.getD_eq_getElem?_getD];omega) (goC (by simp) (ay ⟨⟨rfl,k2,?_,r4.put hi rfl rfl ?_⟩,?_⟩))
  all_goals simp only [aK (x:=c-1) (by omega)]
  ·omega
  ·simp [-List.getD_eq_getElem?_getD];omega
  ·omega
 simp only at k1 k2 k3
 subst k1
 refine goB (fun s=>s.1=s1∧0≤s.2.1∧HG N i (Nw M M) s.2.2) ?_ fun ⟨t1,t2,t3⟩ ⟨k4,k5,k6⟩ => ?_
 ·refine aZ (fun s:Int×List Int×Int×List aO =>∃b:Nat,s.1=b∧b≤M∧s.2.1=s1∧0≤s.2.2.1∧HG N i (Nw M b) s.2.2.2) (fun s=>(M-s.1).toNat)
   ⟨0,rfl,by omega,rfl,k2,k3.1,fun k hk=>have ⟨z1,z2,z3,z4,z5⟩:=k3.2 k hk;⟨z1,z2,z3,fun e=>⟨z4 e,fun _ h=>absurd h (Nat.not_lt_zero _)⟩,z5⟩⟩ fun ⟨c,l2,j,fs⟩ ⟨b,r0,r1,r2,r3,r4⟩ => ?_
  simp only at r0 r2 r3 r4
  subst r0;subst r2
  have hfl:i<fs.length:=by rw [r4.1];exact hi
  obtain ⟨y1,y2,y3,y4,y5⟩:=r4.2 i hi
  have y4:=y4 rfl
  simp only [List.length_replicate,y4.1]
  refine goI (fun hp => ?_) (fun hp=>ay ⟨rfl,r3,?_⟩)
  rotate_left
  ·have hp:¬ (b:Int)<M:=by simpa using hp
   have:b=M:=by omega
   subst this
   exact r4
  have hp:b<M:=by simp at hp;omega
  refine goN hb r3 (by omega) fun x3 j3 h3 a3 b3=>goC (aA.2 ⟨a3,by have:=b3 (by omega);simp;omega⟩) (goN hb h3 (by omega) fun x4 j4 h4 a4 b4=>goN hb h4 (by omega) fun x5 j5 h5 a5 b5=>goN hb h5 (by omega) fun x6 j6 h6 a6 b6=>goC (aA.2 ⟨by omega,by omega⟩) (ay ⟨⟨b+1,?_,by omega,rfl,h6,?_⟩,?_⟩))
  ·simp only [aK (x:=(b:Int)+1) (by omega)];simp
  ·refine r4.put hi rfl rfl ⟨by rw [List.length_set];exact y4.1,fun k hk => ?_⟩
   simp only [Int.toNat_natCast]
   rw [KJ (by rw [y4.1];exact hp)]
   split
   ·refine ⟨?_,⟨a5,b5 (by omega)⟩,a6,b6 (by omega)⟩
    have:=b3 (by omega)
    have:x3=0∨x3=1∨x3=2∨x3=3:=by omega
    rcases this with e | e | e | e<;>subst e<;>simp
   ·exact y4.2 k (by omega)
  ·simp only [aK (x:=(b:Int)+1) (by omega)];omega
 simp only at k4 k5 k6
 subst k4
 obtain ⟨y1,y2,y3,y4,y5⟩:=k6.2 i hi
 have y4:=y4 rfl
 refine goB _ (TL (bs:=(t3.getD i aC).blocks) y4.ends (by have:=y4.1;omega) (by have:=y4.1;omega)) fun ⟨c1,c2,c3,c4⟩ ⟨p1,p2,p3,p4,p5,p6,p7⟩=>goC (by simp) (ay ⟨⟨i+1,?_,by omega,rfl,k5,HG.next (k6.put hi p2 p3 ⟨Nat.le_trans p5 (by have:=y4.1;omega),p4,p6,p7⟩)⟩,?_⟩)
 ·show bW ((i:Int)+1)=_
  rw [aK (by omega)];rfl
 ·show ((N:Int)-bW ((i:Int)+1)).toNat<((N:Int)-i).toNat
  rw [aK (by omega)];omega
end Go.Fg.Ytmgfidfcioiedaa

