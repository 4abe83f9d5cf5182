/-
  Chapter 11, plain: programs are lowered; a drawn program is good.
-/
import Derived.Test.YtmgfidfcioiedaaLt
namespace Go.Fg.Ytmgfidfcioiedaa
open Go.Fw
set_option linter.unusedVariables false
set_option linter.unusedSimpArgs false
def agR (k:Nat) (bl:List aG):Prop :=∀b∈bl,b.instrs.length≤k∧∀i∈b.instrs,i.args.length≤10
theorem cs3:CS 3=433630:=rfl
theorem v3:V 3=421:=rfl
theorem aa5 {g:List aI} {fs:List aj} (h:Src 4 4 g fs):Ok (f28 g fs) fun y=>y.2.2.2.2.length≤1000∧∀f∈y.2.2.2.2,Good f:=by
 have hg:=h.g;have hf:=h.f
 unfold f28
 refine goC (by unfold bG;simp;omega) ?_
 refine goB (fun s=>s.2.2.length≤100∧∀f∈s.2.2,agR 5000000 f.blocks) ?_ fun xQ ⟨h1,h2⟩=>goB _ (aa4 (by omega) (by simp;omega) h2) fun IY h22=>goI (fun _=>aA ⟨by simp,by simp⟩) fun hc=>aA (h22 (by simpa using hc))
 refine bf (fun s:Int×Int×Int×List aN=>(0≤s.1∧s.1≤fs.length)∧(s.2.2.2.length:Int)=s.1∧∀f∈s.2.2.2,agR 5000000 f.blocks) (fun s=>(fs.length-s.1).toNat) ⟨⟨by simp,by simp⟩,rfl,by simp⟩ fun ⟨i,x,z,rs⟩ ⟨⟨h0,h1⟩,h2,h3⟩ => ?_
 simp only at h0 h1 h2 h3
 refine goI (fun hi => ?_) (fun hi=>aA ⟨by simp only;omega,h3⟩)
 have hi:i<fs.length:=by simpa using hi
 have hx:=jC fJ h0 hi
 have hp:=h.ps _ hx
 obtain ⟨hb,hw⟩:=h.ws _ hx
 refine goC (au.2 ⟨h0,hi⟩) ?_
 obtain ⟨f,hfe⟩ :∃f,fs.getD i.toNat fJ=f:=⟨_,rfl⟩
 simp only [hfe] at hp hb hw ⊢
 refine goB (fun y =>∃lo,y=(g,fs,lo,i,(0:Int),(0:Int),([]:List aG))∧lo.length≤1000000) ?_ fun s7 ⟨lo,e,hlo⟩ => ?_
 ·refine goB (fun lo=>lo.length≤1000000) ?_ fun lo hlo=>aA ⟨lo,rfl,hlo⟩
  unfold f35
  refine goC (by simp;omega) (goB (fun lo=>lo.length≤1000000) ?_ fun lo hlo=>aA hlo)
  refine jZ (Fq 3 1048576 (by omega) f.body hb hw _ (by rw [v3];simp;omega)) fun y hy => ?_
  rw [v3] at hy
  simp at hy;omega
 subst e
 have hS:Sc g fs lo:=⟨by omega,by omega,hlo⟩
 refine goB (fun y =>∃b:aG,y=((0:Int),g,fs,lo,i,(lo.length:Int),(0:Int),[b])∧b.instrs=[]) (goC (by unfold bG;simp) (aA ⟨_,rfl,rfl⟩)) fun c9 ⟨b,e,hbi⟩ => ?_
 subst e
 have hB:Bd 1 0 [b]:=⟨by omega,by simp,by simp,fun b' hb'=>by rw [List.mem_singleton] at hb';subst hb';rw [hbi];simp⟩
 refine goB _ (VJ hS 3 1048576 (by omega) f.body hb hw _ _ _ _ hB (by rw [cs3];omega)) fun c10 ⟨t,re,a,bl,e,hl,hB⟩ => ?_
 subst e
 rw [cs3] at hB
 simp only
 refine goB (fun y=>agR 5000000 y.2.2.2.2.2.2) ?_ fun s16 h16=>goC (by unfold bG;simp;omega) (aA ⟨⟨⟨?_,?_⟩,?_,?_⟩,?_⟩)
 ·refine goI (fun _=>Ez hB (by omega) (by simp) fun gX e' hB'=>pK hB' hB'.at0 hB'.QF fun bl2 e2 hB2=>aA (hB2.up (by omega)).ins) fun _=>aA (hB.up (by omega)).ins
 all_goals simp only
 all_goals try rw [aJ (by omega)]
 ·omega
 ·omega
 ·simp;omega
 ·intro f' hf'
  rcases List.mem_append.1 hf' with hf' | hf'
  ·exact h3 f' hf'
  ·rw [List.mem_singleton] at hf';subst hf';exact h16
 ·omega
theorem ad9 {l:List Int} {i:Int} (hb:Bytes l) (hi:0≤i):Ok (f8 l i) fun y=>y.1.length≤1000∧∀f∈y.1,Good f:=by
 unfold f8
 refine goN hb hi (by omega) fun c j hj _ _=>goI (fun _=>goB (fun y=>y.2.2.2.2.2.length≤1000∧∀f∈y.2.2.2.2.2,Good f) ?_ fun y hy=>aA hy) fun _=>goB _ (aaL hb hj) fun y hy=>aA hy
 unfold f17
 refine goB (fun y=>Src 4 4 y.2.2.1 y.2.2.2) ?_ fun y hy=>goB _ (aa5 hy) fun z hz=>aA hz
 unfold f29
 exact goB _ (XE hb hj) fun y ⟨_,_,hy⟩=>goB _ (TF hy) fun z hz=>aA hz
end Go.Fg.Ytmgfidfcioiedaa

