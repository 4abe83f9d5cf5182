/-
  Chapter 11, plain: the sanity check; the law DominateWalks.
-/
import Derived.Test.YtmgfidfcioiedaaMb
namespace Go.Fg.Ytmgfidfcioiedaa
open Go.Fw
set_option linter.unusedVariables false
set_option linter.unusedSimpArgs false
theorem TN {l₁ l₂:List Nat} (h1:l₁.Pairwise (· < ·)) (h2:l₂.Pairwise (· < ·)) (h :∀x,x∈l₁↔x∈l₂):l₁=l₂:=by
 have n1:l₁.Nodup:=h1.imp fun h=>Nat.ne_of_lt h
 have n2:l₂.Nodup:=h2.imp fun h=>Nat.ne_of_lt h
 exact List.Perm.eq_of_pairwise (le:=fun a b=>a<b) (fun a b _ _ h h'=>absurd h (by omega)) h1 h2 ((List.perm_ext_iff_of_nodup n1 n2).2 h)
def XT:aN:=aN.mk cu 0 1 [aG.mk qF 2 0 1 2 0 0 0,aG.mk qF 1 0 0 0 0 0 0,aG.mk qF 3 0 0 0 0 0 0]
theorem agU:dQ XT.blocks 0=[1,2]∧dQ XT.blocks 1=[0]∧dQ XT.blocks 2=[]:=⟨rfl,rfl,rfl⟩
theorem VK:Good XT:=by
 have hlen:XT.blocks.length=3:=rfl
 have h3 :∀b,b<3→b=0∨b=1∨b=2:=fun b hb=>by omega
 refine ⟨by rw [hlen];omega,by rw [hlen];omega,⟨fun b hb => ?_,fun b hb => ?_⟩,fun S s0 hs b hb => ?_⟩
 ·rw [hlen] at hb ⊢
  rcases h3 b hb with e | e | e<;>subst e<;>simp [XT]
 ·rw [hlen] at hb
  rcases h3 b hb with e | e | e<;>subst e<;>simp [XT]
 ·rw [hlen] at hb
  have h0:=hs 0 (by rw [hlen];omega) s0
  have g1:S 1:=h0.1 (by simp [XT])
  have g2:S 2:=h0.2 (by simp [XT])
  rcases h3 b hb with e | e | e<;>subst e<;>assumption
theorem aeZ (x:Nat) (hx:x<3):XQ (Ed XT.blocks) 0 x↔x=0∨x=1:=by
 obtain ⟨e0,e1,e2⟩:=agU
 have h10:Ed XT.blocks 1 0:=⟨by decide,by rw [e1];simp⟩
 constructor
 ·intro h
  rcases h with ⟨e,_⟩ | h
  ·exact .inl e
  ·have h2 :∀y,¬ Ed XT.blocks 2 y:=fun y hy=>by have:=hy.2;rw [e2] at this;cases this
   have:x≠2:=fun e=>by
    subst e
    cases h with
    |src h _ _=>exact h2 _ h
    |pre _ h _=>exact h2 _ h
   omega
 ·rintro (e | e)
  ·subst e;exact .inl ⟨rfl,1,h10,II 1⟩
  ·subst e;exact .inr (.src h10 (II 1) (by omega))
theorem aa9:f6=some true:=by
 apply ok_eq
 unfold f6
 have hl:=aef VK (h:=0) (by decide)
 refine goB _ hl fun y ⟨L,e,hp,_,hm⟩ => ?_
 have hL:L=[0,1]:=TN hp (by simp) fun x=>by
  rw [hm x]
  constructor
  ·rintro ⟨h1,h2⟩
   have:=(aeZ x h1).1 h2
   simp;omega
  ·intro h
   have h:x=0∨x=1:=by simpa using h
   have hx:x<3:=by omega
   exact ⟨hx,(aeZ x hx).2 h⟩
 subst hL
 subst e
 refine goB (fun y=>y=true) (goT rfl (goC rfl (goT rfl (goB _ (Nu VK (a:=0) (b:=2) (by decide) (by decide)) fun y hy=>aA (hy.2 (II 2)))))) fun y e=>aA e
theorem walks {p0 p1:List Int} (hb:Bytes p0) (hw:Bytes p1):f3 p0 p1=some true:=by
 apply ok_eq
 unfold f3
 refine goB (fun s=>s=decide (60<(p1.length:Int))) (xP aa9 (EN rfl (aA rfl))) fun s e => ?_
 subst e
 refine goI (fun h=>aA h) fun h => ?_
 have apb:p1.length≤60:=by simp at h;omega
 obtain ⟨c2,h6,e2,hb2⟩:=agK hb (n:=400) (by omega)
 refine xP h6 (goB _ (ad9 hb2 (by omega)) fun c3 ⟨hm,hG⟩ => ?_)
 generalize c3.1=fs at hm hG ⊢
 refine qZ (fun _=>True) ?_ fun _ _=>aA rfl
 refine bf (fun s:Int =>∃i:Nat,s=i∧i≤fs.length) (fun s=>fs.length-s.toNat) ⟨0,rfl,by omega⟩ fun s ⟨i,e1,e2⟩ => ?_
 subst e1
 refine goI (fun hi => ?_) (fun hi=>aA trivial)
 have hi:i<fs.length:=by simpa using hi
 have hg:=hG _ (List.getElem_mem hi)
 refine goC (au.2 ⟨by omega,by omega⟩) ?_
 have e:fs.getD i aB=fs[i]:=getD_at _ hi
 simp only [Int.toNat_natCast,e]
 generalize fs[i]=f at hg
 obtain ⟨O,out,o1,o2,o3,o4⟩:=C_ hg
 obtain ⟨g1,g2,g3,g4⟩:=hg
 refine xP o3 ?_
 generalize f.blocks=bs at *
 have hT:=o4.T
 have hol:=hT.len
 refine goB (fun s=>s=false) (EN (by simp [hol]) (goC (au.2 ⟨by omega,by omega⟩) (aA ?_))) fun s e => ?_
 ·have h0:out.getD (Int.toNat 0) 0=-1:=by
   have:=ED (show 0<out.length by omega)
   rw [hT.zero] at this;exact this
  rw [h0];rfl
 subst e
 refine EN rfl (goC (nN.2 (by omega)) ?_)
 have hwi:bW ((i:Int)+1)=((i+1:Nat):Int):=by rw [aJ (by omega)];omega
 refine qZ (fun _=>True) ?_ fun _ _=>by rw [hwi];exact aA ⟨⟨i+1,rfl,by omega⟩,by simp only [Int.toNat_natCast];omega⟩
 refine bf (fun s:Int×Int×List Bool =>∃b k:Nat,s.1=b∧s.2.1=k∧b<bs.length∧k≤p1.length∧s.2.2.length=bs.length∧∀d,iE out d b→d=b∨s.2.2.getD d false=true) (fun s=>p1.length+1-s.2.1.toNat)
  ⟨0,0,rfl,rfl,by omega,by omega,by simp,fun d hd=>.inl (Qh hT hd)⟩ fun ⟨b',k',ps⟩ ⟨b,k,q1,q2,q3,q4,q5,q6⟩ => ?_
 simp only at q1 q2 q5 q6
 subst q1;subst q2
 refine goT (decide_eq_true (by simp only;omega)) (goC (au.2 ⟨by simp only;omega,by simp only;omega⟩) ?_)
 simp only [Int.toNat_natCast]
 have hset :∀z,(ps.set b true).getD z false=if z=b then true else ps.getD z false:=fun z=>j_ (by omega)
 have hall :∀d,iE out d b→(ps.set b true).getD d false=true:=fun d hd=>by
  rw [hset]
  split
  ·rfl
  ·rename_i hne;exact (q6 d hd).resolve_left hne
 have hpl:(ps.set b true).length=bs.length:=by simp [q5]
 obtain ⟨pm,hpm⟩ :∃pm,ps.set b true=pm:=⟨_,rfl⟩
 simp only [hpm] at hall hpl ⊢
 refine qZ (fun _=>True) ?_ fun _ _ => ?_
 ·refine bf (fun s:Int=>s=-1∨∃c:Nat,s=c∧c<bs.length∧iE out c b) (fun s=>if 0≤s then O.idxOf s.toNat+1 else 0) (.inr ⟨b,rfl,q3,.refl⟩) fun s hs => ?_
  rcases hs with e | ⟨c,e,hc,ha⟩
  ·subst e;exact EN (by decide) (aA trivial)
  subst e
  refine goT (by simp) (goB (fun s=>s=false) (EN (by simp;omega) (goC (au.2 ⟨by omega,by omega⟩) (EN ?_ (goI (fun h0=>goC (au.2 ⟨by omega,by omega⟩) (aA ?_)) fun h0=>aA rfl)))) fun s e => ?_)
  ·simp only [Int.toNat_natCast];rw [hall c ha];rfl
  ·simp only [Int.toNat_natCast,ED (show c<out.length by omega)]
   refine decide_eq_false fun h => ?_
   obtain ⟨v1,v2,v3⟩:=hT.val hc (by omega)
   rw [h] at v2;simp at v2
  subst e
  refine EN rfl (goC (au.2 ⟨by omega,by omega⟩) ?_)
  simp only [Int.toNat_natCast,ED (show c<out.length by omega)]
  have hlow:=hT.low hc
  refine aA ⟨?_,?_⟩
  ·by_cases hu:0≤up out c
   ·exact .inr ⟨(up out c).toNat,by omega,(hT.val hc hu).1,(iE.up hu .refl).trans ha⟩
   ·exact .inl (by omega)
  ·rw [if_pos (by omega:(0:Int)≤(c:Int))]
   split
   ·rename_i hu
    have:=(hT.val hc hu).2.1
    omega
   ·omega
 refine goC (au.2 ⟨by omega,by omega⟩) ?_
 refine xP (IL _ _ _ _) ?_
 have hsd:succs (bs.getD b ah).aT (bs.getD b ah).dP (bs.getD b ah).bn=dQ bs b:=rfl
 rw [hsd]
 have hin:=w_ g3 q3
 have hl2:(dQ bs b).length≤2:=by unfold dQ succs;(repeat' split)<;>simp
 refine goB (fun s=>s=false→0<(dQ bs b).length∧k<p1.length) (goI (fun h=>aA fun e=>by cases e) fun h=>aA fun e => ?_) fun s hs=>goI (fun _=>aA trivial) fun h => ?_
 ·simp at h e
  exact ⟨List.length_pos_iff.2 h,by omega⟩
 obtain ⟨r1,r2⟩:=hs h
 obtain ⟨w1,w2⟩:=bytes_at hw (n:=(k:Int)) (by omega) (by omega)
 refine goC (au.2 ⟨by omega,by omega⟩) ?_
 simp only [Int.toNat_natCast] at w1 w2 ⊢
 rw [aJ (x:=p1.getD k 0) (by omega)]
 refine goC (by simp;exact List.length_pos_iff.1 r1) ?_
 have t1:0≤Int.tmod (p1.getD k 0) (dQ bs b).length:=Int.tmod_nonneg _ w1
 have t2:Int.tmod (p1.getD k 0) (dQ bs b).length<(dQ bs b).length:=Int.tmod_lt_of_pos _ (by omega)
 refine goC (au.2 ⟨t1,t2⟩) ?_
 have hmem:=jC 0 t1 t2
 generalize (dQ bs b).getD (Int.tmod (p1.getD k 0) (dQ bs b).length).toNat 0=x at hmem
 have hr:=hin x hmem
 obtain ⟨c,rfl⟩ :∃c:Nat,x=c:=⟨x.toNat,by omega⟩
 have hcn:c<bs.length:=by omega
 have hwk:bW ((k:Int)+1)=((k+1:Nat):Int):=by rw [aJ (by omega)];omega
 rw [hwk]
 refine aA ⟨⟨c,k+1,rfl,rfl,hcn,by omega,hpl,fun d hd => ?_⟩,by simp only [Int.toNat_natCast];omega⟩
 by_cases e:d=c
 ·exact .inl e
 ·have hdn:=(uG hT hd hcn).1
  exact .inr (hall d ((o4.iff hdn q3).2 (A_ ((o4.iff hdn hcn).1 hd) ⟨q3,hmem⟩ e)))
end Go.Fg.Ytmgfidfcioiedaa

