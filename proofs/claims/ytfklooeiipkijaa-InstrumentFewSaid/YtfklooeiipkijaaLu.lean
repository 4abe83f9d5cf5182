/-
  Chapter 21, plain: programs are lowered; a drawn program is good; the law InstrumentFew.
-/
import Derived.Test.YtfklooeiipkijaaLt
namespace Go.Fg.Ytfklooeiipkijaa
open Go.Fw
set_option linter.unusedVariables false
set_option linter.unusedSimpArgs false
def agc (k:Nat) (bl:List ak):Prop :=∀b∈bl,b.instrs.length≤k∧∀i∈b.instrs,i.args.length≤10
theorem cs3:CS 3=433630:=rfl
theorem v3:V 3=421:=rfl
theorem aav {g:List ah} {fs:List au} (h:Src 4 4 g fs):Ok (f29 g fs) fun y=>y.2.2.2.2.length≤1000∧∀f∈y.2.2.2.2,Good f:=by
 have hg:=h.g;have hf:=h.f
 unfold f29
 refine goC (by unfold bF;simp;omega) ?_
 refine goB (fun s=>s.2.2.length≤100∧∀f∈s.2.2,agc 5000000 f.blocks) ?_ fun zy ⟨h1,h2⟩=>goB _ (aau (by omega) (by simp;omega) h2) fun Iq h22=>goI (fun _=>aC ⟨by simp,by simp⟩) fun hc=>aC (h22 (by simpa using hc))
 refine bQ (fun s:Int×Int×Int×List aH=>(0≤s.1∧s.1≤fs.length)∧(s.2.2.2.length:Int)=s.1∧∀f∈s.2.2.2,agc 5000000 f.blocks) (fun s=>(fs.length-s.1).toNat) ⟨⟨by simp,by simp⟩,rfl,by simp⟩ fun ⟨i,x,z,rs⟩ ⟨⟨h0,h1⟩,h2,h3⟩ => ?_
 simp only at h0 h1 h2 h3
 refine goI (fun hi => ?_) (fun hi=>aC ⟨by simp only;omega,h3⟩)
 have hi:i<fs.length:=by simpa using hi
 have hx:=jW fQ h0 hi
 have hp:=h.ps _ hx
 obtain ⟨hb,hw⟩:=h.ws _ hx
 refine goC (aG.2 ⟨h0,hi⟩) ?_
 obtain ⟨f,hfe⟩ :∃f,fs.getD i.toNat fQ=f:=⟨_,rfl⟩
 simp only [hfe] at hp hb hw ⊢
 refine goB (fun y =>∃lo,y=(g,fs,lo,i,(0:Int),(0:Int),([]:List ak))∧lo.length≤1000000) ?_ fun s7 ⟨lo,e,hlo⟩ => ?_
 ·refine goB (fun lo=>lo.length≤1000000) ?_ fun lo hlo=>aC ⟨lo,rfl,hlo⟩
  unfold f41
  refine goC (by simp;omega) (goB (fun lo=>lo.length≤1000000) ?_ fun lo hlo=>aC hlo)
  refine kU (EO 3 1048576 (by omega) f.body hb hw _ (by rw [v3];simp;omega)) fun y hy => ?_
  rw [v3] at hy
  simp at hy;omega
 subst e
 have hS:Sc g fs lo:=⟨by omega,by omega,hlo⟩
 refine goB (fun y =>∃b:ak,y=((0:Int),g,fs,lo,i,(lo.length:Int),(0:Int),[b])∧b.instrs=[]) (goC (by unfold bF;simp) (aC ⟨_,rfl,rfl⟩)) fun c9 ⟨b,e,hbi⟩ => ?_
 subst e
 have hB:Bd 1 0 [b]:=⟨by omega,by simp,by simp,fun b' hb'=>by rw [List.mem_singleton] at hb';subst hb';rw [hbi];simp⟩
 refine goB _ (Vg hS 3 1048576 (by omega) f.body hb hw _ _ _ _ hB (by rw [cs3];omega)) fun c10 ⟨t,re,a,bl,e,hl,hB⟩ => ?_
 subst e
 rw [cs3] at hB
 simp only
 refine goB (fun y=>agc 5000000 y.2.2.2.2.2.2) ?_ fun s16 h16=>goC (by unfold bF;simp;omega) (aC ⟨⟨⟨?_,?_⟩,?_,?_⟩,?_⟩)
 ·refine goI (fun _=>D_ hB (by omega) (by simp) fun g_ e' hB'=>pF hB' hB'.at0 hB'.Qn fun bl2 e2 hB2=>aC (hB2.up (by omega)).ins) fun _=>aC (hB.up (by omega)).ins
 all_goals simp only
 all_goals try rw [aP (by omega)]
 ·omega
 ·omega
 ·simp;omega
 ·intro f' hf'
  rcases List.mem_append.1 hf' with hf' | hf'
  ·exact h3 f' hf'
  ·rw [List.mem_singleton] at hf';subst hf';exact h16
 ·omega
theorem adH {l:List Int} {i:Int} (hb:Bytes l) (hi:0≤i):Ok (f7 l i) fun y=>y.1.length≤1000∧∀f∈y.1,Good f:=by
 unfold f7
 refine goN hb hi (by omega) fun c j hj _ _=>goI (fun _=>goB (fun y=>y.2.2.2.2.2.length≤1000∧∀f∈y.2.2.2.2.2,Good f) ?_ fun y hy=>aC hy) fun _=>goB _ (Z_ hb hj) fun y hy=>aC hy
 unfold f15
 refine goB (fun y=>Src 4 4 y.2.2.1 y.2.2.2) ?_ fun y hy=>goB _ (aav hy) fun z hz=>aC hz
 unfold f30
 exact goB _ (Xd hb hj) fun y ⟨_,_,hy⟩=>goB _ (SI hy) fun z hz=>aC hz
theorem few {l:List Int} (hb:Bytes l):f3 l=some true:=by
 obtain ⟨c2,h6,e2,hb2⟩:=af6 hb (n:=500) (by omega)
 exact ok_eq (af5 Z5 h6 (adH hb2 (by omega)))
end Go.Fg.Ytfklooeiipkijaa

