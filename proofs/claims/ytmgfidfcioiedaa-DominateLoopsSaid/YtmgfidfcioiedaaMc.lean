/-
  Chapter 11, plain: the sanity check; the law DominateWalks.
-/
import Derived.Test.YtmgfidfcioiedaaMb
namespace Go.Fg.Ytmgfidfcioiedaa
open Go.Fw
set_option linter.unusedVariables false
set_option linter.unusedSimpArgs false
theorem I4 {l₁ l₂:List Nat} (h1:l₁.Pairwise (· < ·)) (h2:l₂.Pairwise (· < ·)) (h :∀x,x∈l₁↔x∈l₂):l₁=l₂:=by
 have n1:l₁.Nodup:=h1.imp fun h=>Nat.ne_of_lt h
 have n2:l₂.Nodup:=h2.imp fun h=>Nat.ne_of_lt h
 exact List.Perm.eq_of_pairwise (le:=fun a b=>a<b) (fun a b _ _ h h'=>absurd h (by omega)) h1 h2 ((List.perm_ext_iff_of_nodup n1 n2).2 h)
def X0:aO:=aO.mk cO 0 1 [aH.mk qJ 2 0 1 2 0 0 0,aH.mk qJ 1 0 0 0 0 0 0,aH.mk qJ 3 0 0 0 0 0 0]
theorem ag3:dW X0.blocks 0=[1,2]∧dW X0.blocks 1=[0]∧dW X0.blocks 2=[]:=⟨rfl,rfl,rfl⟩
theorem VT:Good X0:=by
 have hlen:X0.blocks.length=3:=rfl
 have h3 :∀b,b<3→b=0∨b=1∨b=2:=fun b hb=>by omega
 refine ⟨by rw [hlen];omega,by rw [hlen];omega,⟨fun b hb => ?_,fun b hb => ?_⟩,fun S s0 hs b hb => ?_⟩
 ·rw [hlen] at hb ⊢
  rcases h3 b hb with e | e | e<;>subst e<;>simp [X0]
 ·rw [hlen] at hb
  rcases h3 b hb with e | e | e<;>subst e<;>simp [X0]
 ·rw [hlen] at hb
  have h0:=hs 0 (by rw [hlen];omega) s0
  have g1:S 1:=h0.1 (by simp [X0])
  have g2:S 2:=h0.2 (by simp [X0])
  rcases h3 b hb with e | e | e<;>subst e<;>assumption
theorem ae5 (x:Nat) (hx:x<3):NP (Ed X0.blocks) 0 x↔x=0∨x=1:=by
 obtain ⟨e0,e1,e2⟩:=ag3
 have h10:Ed X0.blocks 1 0:=⟨by decide,by rw [e1];simp⟩
 constructor
 ·intro h
  rcases h with ⟨e,_⟩ | h
  ·exact .inl e
  ·have h2 :∀y,¬ Ed X0.blocks 2 y:=fun y hy=>by have:=hy.2;rw [e2] at this;cases this
   have:x≠2:=fun e=>by
    subst e
    cases h with
    |src h _ _=>exact h2 _ h
    |pre _ h _=>exact h2 _ h
   omega
 ·rintro (e | e)
  ·subst e;exact .inl ⟨rfl,1,h10,IQ 1⟩
  ·subst e;exact .inr (.src h10 (IQ 1) (by omega))
theorem abj:f6=some true:=by
 apply ok_eq
 unfold f6
 have hl:=NG VT (h:=0) (by decide)
 refine goB _ hl fun y ⟨L,e,hp,_,hm⟩ => ?_
 have hL:L=[0,1]:=I4 hp (by simp) fun x=>by
  rw [hm x]
  constructor
  ·rintro ⟨h1,h2⟩
   have:=(ae5 x h1).1 h2
   simp;omega
  ·intro h
   have h:x=0∨x=1:=by simpa using h
   have hx:x<3:=by omega
   exact ⟨hx,(ae5 x hx).2 h⟩
 subst hL
 subst e
 refine goB (fun y=>y=true) (goT rfl (goC rfl (goT rfl (goB _ (Bl VT (a:=0) (b:=2) (by decide) (by decide)) fun y hy=>ay (hy.2 (IQ 2)))))) fun y e=>ay e
end Go.Fg.Ytmgfidfcioiedaa

