/-
  Chapter 21, plain: the parts of a function's ways; the probes of a program.
-/
import Derived.Test.YtfklooeiipkijaaLe
namespace Go.Fg.Ytfklooeiipkijaa
open Go.Fw
set_option linter.unusedVariables false
set_option linter.unusedSimpArgs false
theorem Sz {l:List Bool} {i:Nat} {p:Bool} (h:i<l.length):(l.take (i+1)).count p=(l.take i).count p+if l.getD i false==p then 1 else 0:=by
 rw [take_snoc h,List.count_append,getD_at _ h]
 simp [List.count_cons]
theorem Ii :∀l:List Bool,l.count true+l.count false=l.length
 | []=>rfl
 |b::l=>by
  have:=Ii l
  cases b<;>simp [List.count_cons]<;>omega
theorem Va {nm:List UInt8} {a b:Int} {bs:List ak} {p:Bool} {ins:List Bool} (hl:bs.length≤1000000) (hins:f21 nm a b bs=some ins) (hle:(bD bs).length≤ins.length) :
  Ok (f17 nm a b bs p) fun l=>l.length=(ins.take (bD bs).length).count p∧∀w∈l,∃x∈bD bs,w.way=x.way:=by
 have hw:=xH (nm:=nm) (a:=a) (b:=b) hl
 unfold f17
 refine yg hins (yg hw.1 ?_)
 refine goB (fun l=>l.length=(ins.take (bD bs).length).count p∧∀w∈l,∃x∈bD bs,w.way=x.way) ?_ fun y hy=>aC hy
 refine wK (bD bs) (fun i s=>(i,s.2)) (fun s w=>(s.1+1,if ins.getD s.1 false==p then s.2++[aT.mk w.func w.block w.way] else s.2)) (fun i s=>s.1=i∧s.2.length=(ins.take i).count p∧∀w∈s.2,∃x∈bD bs,w.way=x.way) (s0:=((0:Nat),([]:List aT))) rfl ⟨rfl,by simp,by simp⟩ (fun i h s ⟨h1,h2,h3⟩ _ => ?_) (fun s ⟨h1,h2,h3⟩ hs => ?_)
 ·obtain ⟨j,l⟩:=s
  simp only at h1 h2 h3
  subst j
  have hc:(ins.take i).count p≤i:=by
   have:=List.count_le_length (a:=p) (l:=ins.take i)
   rw [List.length_take] at this;omega
  refine goT (decide_eq_true (by simp only;omega)) (goC (aG.2 ⟨by simp only;omega,by simp only;omega⟩) (goC (aG.2 ⟨by simp only;omega,by simp only;omega⟩) ?_))
  have e:(bD bs).getD i (aT.mk 0 0 0)=(bD bs)[i]:=getD_at _ h
  simp only [Int.toNat_natCast,e]
  refine goB (fun y=>y=if ins.getD i false==p then l++[aT.mk (bD bs)[i].func (bD bs)[i].block (bD bs)[i].way] else l) ?_ fun y hy => ?_
  ·refine goI (fun hc => ?_) (fun hc => ?_)
   ·refine goC (MJ (by simp;omega)) (aC ?_)
    rw [if_pos hc]
   ·refine aC ?_
    rw [if_neg (by rw [hc];simp)]
  ·subst hy
   refine aC ⟨by rw [aP (by omega)],by first | rfl | trivial,?_,?_⟩
   ·rw [Sz (by omega)]
    split<;>simp [h2]
   ·intro w hw
    split at hw
    ·rcases List.mem_append.1 hw with hw | hw
     ·exact h3 w hw
     ·rw [List.mem_singleton] at hw
      exact ⟨_,List.getElem_mem h,by rw [hw]⟩
    ·exact h3 w hw
 ·exact DF (decide_eq_false (by simp only;omega)) (aC ⟨h2,h3⟩)
def Good (f:aH):Prop:=f.blocks.length≤1000∧0<f.blocks.length∧Ends f.blocks∧WY f.blocks
def own (f:aH):Nat:=(bD f.blocks).length+wS f.blocks-f.blocks.length
theorem Z4 {f:aH} (h:Good f):(∃l,f17 f.name f.params f.regs f.blocks true=some l∧l.length+wS f.blocks=f.blocks.length)∧(∃l,f17 f.name f.params f.regs f.blocks false=some l∧l.length=own f∧∀w∈l,∃x∈bD f.blocks,w.way=x.way)∧
  f.blocks.length≤(bD f.blocks).length+wS f.blocks∧(bD f.blocks).length≤2001∧wS f.blocks≤f.blocks.length:=by
 obtain ⟨h1,h2,h3,h4⟩:=h
 obtain ⟨ins,hins,hlen,hcnt⟩:=adv (nm:=f.name) (a:=f.params) (b:=f.regs) (by omega) h2 h3 h4
 have hw:=xH (nm:=f.name) (a:=f.params) (b:=f.regs) (bs:=f.blocks) (by omega)
 have hle:(bD f.blocks).length≤ins.length:=by rw [hlen];unfold b_;simp
 obtain ⟨l1,e1,q1,_⟩:=Va (p:=true) (by omega) hins hle
 obtain ⟨l2,e2,q2,q2'⟩:=Va (p:=false) (by omega) hins hle
 have hsum:=Ii (ins.take (bD f.blocks).length)
 rw [List.length_take,Nat.min_eq_left hle] at hsum
 have hr:wS f.blocks≤f.blocks.length:=List.countP_le_length
 refine ⟨⟨l1,e1,by omega⟩,⟨l2,e2,by unfold own;omega,q2'⟩,by omega,by omega,hr⟩
end Go.Fg.Ytfklooeiipkijaa

