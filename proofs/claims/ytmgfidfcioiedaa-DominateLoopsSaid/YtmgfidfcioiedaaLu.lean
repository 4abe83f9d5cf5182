/-
  Chapter 11, plain: programs are lowered; a drawn program is good.
-/
import Derived.Test.YtmgfidfcioiedaaLt
namespace Go.Fg.Ytmgfidfcioiedaa
open Go.Fw
set_option linter.unusedVariables false
set_option linter.unusedSimpArgs false
def ag0 (k:Nat) (bl:List aH):Prop :=∀b∈bl,b.instrs.length≤k∧∀i∈b.instrs,i.args.length≤10
theorem cs3:CS 3=433630:=rfl
theorem v3:V 3=421:=rfl
theorem abe {g:List aJ} {fs:List au} (h:Src 4 4 g fs):Ok (f28 g fs) fun y=>y.2.2.2.2.length≤1000∧∀f∈y.2.2.2.2,Good f:=by
 have hg:=h.g;have hf:=h.f
 unfold f28
 refine goC (by unfold bG;simp;omega) ?_
 refine goB (fun s=>s.2.2.length≤100∧∀f∈s.2.2,ag0 5000000 f.blocks) ?_ fun xX ⟨h1,h2⟩=>goB _ (abd (by omega) (by simp;omega) h2) fun I8 h22=>goI (fun _=>ay ⟨by simp,by simp⟩) fun hc=>ay (h22 (by simpa using hc))
 refine aZ (fun s:Int×Int×Int×List aO=>(0≤s.1∧s.1≤fs.length)∧(s.2.2.2.length:Int)=s.1∧∀f∈s.2.2.2,ag0 5000000 f.blocks) (fun s=>(fs.length-s.1).toNat) ⟨⟨by simp,by simp⟩,rfl,by simp⟩ fun ⟨i,x,z,rs⟩ ⟨⟨h0,h1⟩,h2,h3⟩ => ?_
 simp only at h0 h1 h2 h3
 refine goI (fun hi => ?_) (fun hi=>ay ⟨by simp only;omega,h3⟩)
 have hi:i<fs.length:=by simpa using hi
 have hx:=jD fK h0 hi
 have hp:=h.ps _ hx
 obtain ⟨hb,hw⟩:=h.ws _ hx
 refine goC (aA.2 ⟨h0,hi⟩) ?_
 obtain ⟨f,hfe⟩ :∃f,fs.getD i.toNat fK=f:=⟨_,rfl⟩
 simp only [hfe] at hp hb hw ⊢
 refine goB (fun y =>∃lo,y=(g,fs,lo,i,(0:Int),(0:Int),([]:List aH))∧lo.length≤1000000) ?_ fun s7 ⟨lo,e,hlo⟩ => ?_
 ·refine goB (fun lo=>lo.length≤1000000) ?_ fun lo hlo=>ay ⟨lo,rfl,hlo⟩
  unfold f35
  refine goC (by simp;omega) (goB (fun lo=>lo.length≤1000000) ?_ fun lo hlo=>ay hlo)
  refine ku (FB 3 1048576 (by omega) f.body hb hw _ (by rw [v3];simp;omega)) fun y hy => ?_
  rw [v3] at hy
  simp at hy;omega
 subst e
 have hS:Sc g fs lo:=⟨by omega,by omega,hlo⟩
 refine goB (fun y =>∃b:aH,y=((0:Int),g,fs,lo,i,(lo.length:Int),(0:Int),[b])∧b.instrs=[]) (goC (by unfold bG;simp) (ay ⟨_,rfl,rfl⟩)) fun c9 ⟨b,e,hbi⟩ => ?_
 subst e
 have hB:Bd 1 0 [b]:=⟨by omega,by simp,by simp,fun b' hb'=>by rw [List.mem_singleton] at hb';subst hb';rw [hbi];simp⟩
 refine goB _ (VQ hS 3 1048576 (by omega) f.body hb hw _ _ _ _ hB (by rw [cs3];omega)) fun c10 ⟨t,re,a,bl,e,hl,hB⟩ => ?_
 subst e
 rw [cs3] at hB
 simp only
 refine goB (fun y=>ag0 5000000 y.2.2.2.2.2.2) ?_ fun s16 h16=>goC (by unfold bG;simp;omega) (ay ⟨⟨⟨?_,?_⟩,?_,?_⟩,?_⟩)
 ·refine goI (fun _=>EI hB (by omega) (by simp) fun gY e' hB'=>pV hB' hB'.at0 hB'.QN fun bl2 e2 hB2=>ay (hB2.up (by omega)).ins) fun _=>ay (hB.up (by omega)).ins
 all_goals simp only
 all_goals try rw [aK (by omega)]
 ·omega
 ·omega
 ·simp;omega
 ·intro f' hf'
  rcases List.mem_append.1 hf' with hf' | hf'
  ·exact h3 f' hf'
  ·rw [List.mem_singleton] at hf';subst hf';exact h16
 ·omega
theorem aeg {l:List Int} {i:Int} (hb:Bytes l) (hi:0≤i):Ok (f8 l i) fun y=>y.1.length≤1000∧∀f∈y.1,Good f:=by
 unfold f8
 refine goN hb hi (by omega) fun c j hj _ _=>goI (fun _=>goB (fun y=>y.2.2.2.2.2.length≤1000∧∀f∈y.2.2.2.2.2,Good f) ?_ fun y hy=>ay hy) fun _=>goB _ (aaT hb hj) fun y hy=>ay hy
 unfold f17
 refine goB (fun y=>Src 4 4 y.2.2.1 y.2.2.2) ?_ fun y hy=>goB _ (abe hy) fun z hz=>ay hz
 unfold f29
 exact goB _ (XL hb hj) fun y ⟨_,_,hy⟩=>goB _ (TU hy) fun z hz=>ay hz
end Go.Fg.Ytmgfidfcioiedaa

