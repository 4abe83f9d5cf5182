/-
  Chapter 21, plain: the probes of a program; the law InstrumentFew of a program that is as it should be.
-/
import Derived.Test.YtfklooeiipkijaaLf
namespace Go.Fg.Ytfklooeiipkijaa
open Go.Fw
set_option linter.unusedVariables false
set_option linter.unusedSimpArgs false
theorem zu {α:Type} (p:α→Bool) :∀(l:List α) (s:Nat),l.foldl (fun s w=>s+if p w then 1 else 0) s=s+l.countP p
 | [],s=>rfl
 |x::l,s=>by rw [List.foldl_cons,zu p l,List.countP_cons];omega
def o_ (fs:List aH):Nat:=(fs.map own).sum
theorem Ij {fs:List aH} {i:Nat} (h:i<fs.length):o_ (fs.take (i+1))=o_ (fs.take i)+own fs[i]:=by
 unfold o_;rw [take_snoc h]
 simp only [List.map_append,List.map_cons,List.map_nil,List.sum_append,List.sum_cons,List.sum_nil,Nat.add_zero]
theorem SA {f:aH} (h:Good f):own f≤3001:=by
 have:=Z4 h;unfold own;omega
theorem MN {fs:List aH} (h :∀f∈fs,Good f) :∀i,i≤fs.length→o_ (fs.take i)≤3001*i
 |0,_=>by simp [o_]
 |i+1,hi=>by
  rw [Ij (by omega)]
  have:=MN h i (by omega)
  have:=SA (h _ (List.getElem_mem (by omega:i<fs.length)))
  omega
def pf (j:Nat) (w:aT):Bool:=decide (w.func=j)
theorem JZ {gl:List ah} {fs:List aH} {a b:Int} (hG :∀f∈fs,Good f) (hm:fs.length≤1000) :
  Ok (f8 gl fs a b) fun l=>l.length=o_ fs∧(∀j,(hj:j<fs.length)→l.countP (pf j)=own fs[j])∧∀w∈l,∃f∈fs,∃x∈bD f.blocks,w.way=x.way:=by
 unfold f8
 refine goB (fun l=>l.length=o_ fs∧(∀j,(hj:j<fs.length)→l.countP (pf j)=own fs[j])∧∀w∈l,∃f∈fs,∃x∈bD f.blocks,w.way=x.way) ?_ fun y hy=>aC hy
 refine bQ (fun s:Int×List aT =>∃i:Nat,s.1=i∧i≤fs.length∧s.2.length=o_ (fs.take i)∧(∀j,(hj:j<fs.length)→j<i→s.2.countP (pf j)=own fs[j])∧(∀j,i≤j→s.2.countP (pf j)=0)∧∀w∈s.2,∃f∈fs,∃x∈bD f.blocks,w.way=x.way) (fun s=>fs.length-s.1.toNat)
  ⟨0,rfl,by omega,by simp [o_],fun j _ h=>by omega,fun j _=>rfl,by simp⟩ fun s ⟨i,e1,e2,e3,e4,e5,e6⟩ => ?_
 obtain ⟨i',acc⟩:=s
 simp only at e1 e3 e4 e5 e6
 subst e1
 refine goI (fun hi => ?_) (fun hi=>aC ?_)
 rotate_left
 ·have:i=fs.length:=by simp at hi;omega
  subst this
  rw [List.take_length] at e3
  exact ⟨e3,fun j hj=>e4 j hj hj,e6⟩
 have hi:i<fs.length:=by simpa using hi
 have hg:=hG _ (List.getElem_mem hi)
 obtain ⟨_,⟨l,hl,hll,hlw⟩,_⟩:=Z4 hg
 have ho:=SA hg
 have hs:=MN hG i e2
 refine goC (aG.2 ⟨by simp only;omega,by simp only;omega⟩) ?_
 have e:fs.getD i aA=fs[i]:=getD_at _ hi
 simp only [Int.toNat_natCast,e]
 refine yg hl ?_
 refine goB (fun y=>y=acc++l.map fun w=>aT.mk i w.block w.way) ?_ fun y hy => ?_
 ·refine wK l (fun k s=>(k,s)) (fun s w=>s++[aT.mk i w.block w.way]) (fun k s=>s.length=acc.length+k) (s0:=acc) rfl rfl (fun k h s h1 _ => ?_) (fun s h1 hs => ?_)
  ·refine goT (decide_eq_true (by simp only;omega)) (goC (aG.2 ⟨by simp only;omega,by simp only;omega⟩) ?_)
   have e:l.getD k (aT.mk 0 0 0)=l[k]:=getD_at _ h
   simp only [Int.toNat_natCast,e]
   refine goC (MJ (by simp;omega)) (aC ⟨by rw [aP (by omega)],by simp;omega⟩)
  ·refine DF (decide_eq_false (by simp only;omega)) (aC ?_)
   rw [hs]
   have :∀(l:List aT) (s:List aT),l.foldl (fun s w=>s++[aT.mk (i:Int) w.block w.way]) s=s++l.map fun w=>aT.mk i w.block w.way:=by
    intro l
    induction l with
    |nil=>intro s;simp
    |cons w l ih=>intro s;simp [ih]
   exact this l acc
 ·subst hy
  have hcm :∀j:Nat,(l.map fun w=>aT.mk (i:Int) w.block w.way).countP (pf j)=if j=i then own fs[i] else 0:=by
   intro j
   rw [List.countP_map]
   by_cases h:j=i
   ·rw [if_pos h,←hll,List.countP_eq_length]
    intro w _;simp [pf,h]
   ·rw [if_neg h,List.countP_eq_zero]
    intro w _;simp [pf];omega
  refine aC ⟨⟨i+1,by rw [aP (by omega)];simp,by omega,by rw [Ij hi];simp;omega,fun j hj h => ?_,fun j h => ?_,fun w hw => ?_⟩,by simp only;rw [aP (by omega)];omega⟩
  ·simp only;rw [List.countP_append,hcm]
   by_cases h':j=i
   ·subst h';rw [if_pos rfl,e5 j (Nat.le_refl _)];omega
   ·rw [if_neg h',e4 j hj (by omega)];rfl
  ·simp only;rw [List.countP_append,hcm,if_neg (by omega),e5 j (by omega)]
  ·rcases List.mem_append.1 hw with hw | hw
   ·exact e6 w hw
   ·obtain ⟨w',hw',e⟩:=List.mem_map.1 hw
    obtain ⟨x,hx,ex⟩:=hlw w' hw'
    exact ⟨fs[i],List.getElem_mem hi,x,hx,by rw [←e];exact ex⟩
theorem af5 {p0:List Int} {c2:List Int×Int} (h5:f5=some true) (h6:f6 p0 500=some c2)
  (h7:Ok (f7 c2.1 c2.2) fun c3=>c3.1.length≤1000∧∀f∈c3.1,Good f):Ok (f3 p0) fun y=>y=true:=by
 unfold f3
 refine yg h5 (DF rfl (yg h6 (goB _ h7 fun c3 ⟨hm,hG⟩=>goB _ (JZ hG hm) fun pr ⟨hp1,hp2,_⟩ => ?_)))
 generalize c3.1=fs at hm hG hp1 hp2 ⊢
 have hsl:=MN hG fs.length (Nat.le_refl _)
 rw [List.take_length] at hsl
 refine rW (fun n=>n=(o_ fs:Int)) ?_ fun n hn=>aC (decide_eq_true (by rw [hn,hp1]))
 refine bQ (fun s:Int×Int =>∃i:Nat,s.2=i∧i≤fs.length∧s.1=(o_ (fs.take i):Int)) (fun s=>fs.length-s.2.toNat) ⟨0,rfl,by omega,rfl⟩ fun s ⟨i,e1,e2,e3⟩ => ?_
 obtain ⟨n,i'⟩:=s
 simp only at e1 e3
 subst e1;subst e3
 refine goI (fun hi => ?_) (fun hi=>aC ?_)
 rotate_left
 ·have:i=fs.length:=by simp at hi;omega
  subst this
  rw [List.take_length];rfl
 have hi:i<fs.length:=by simpa using hi
 have hg:=hG _ (List.getElem_mem hi)
 obtain ⟨⟨l,hl,hll⟩,_,q1,q2,q3⟩:=Z4 hg
 have ho:=SA hg
 have hs:=MN hG i e2
 have hb:=hg.1
 refine goC (aG.2 ⟨by simp only;omega,by simp only;omega⟩) ?_
 have e:fs.getD i aA=fs[i]:=getD_at _ hi
 simp only [Int.toNat_natCast,e]
 have hpi:=hp2 i hi
 have hsn:=Ij hi
 generalize fs[i]=f at hg hl hll q1 q2 q3 ho hb hpi hsn ⊢
 have h10:f10 f.name f.params f.regs f.blocks=some l:=by unfold f10;rw [hl];rfl
 refine yg (xH (by omega)).1 (yg h10 ?_)
 refine goB (fun y=>y=(own f:Int)) ?_ fun y hy => ?_
 ·refine wK pr (fun (k:Int) (s:Nat)=>((s:Int),k)) (fun s w=>s+if pf i w then 1 else 0) (fun k s=>s≤k) (s0:=(0:Nat)) rfl (Nat.le_refl _) (fun k h s h1 _ => ?_) (fun s h1 hs => ?_)
  ·refine goT (decide_eq_true (by simp only;omega)) (goC (aG.2 ⟨by simp only;omega,by simp only;omega⟩) ?_)
   have e:pr.getD k (aT.mk 0 0 0)=pr[k]:=getD_at _ h
   simp only [Int.toNat_natCast,e]
   refine goB (fun y=>y=((s+if pf i pr[k] then 1 else 0:Nat):Int)) ?_ fun y hy => ?_
   ·refine goI (fun hc=>aC ?_) (fun hc=>aC ?_)
    ·rw [if_pos (show pf i pr[k]=true from hc),aP (by omega)];simp
    ·rw [if_neg (by unfold pf;rw [hc];simp)];simp
   ·subst hy
    refine aC ⟨by rw [aP (by omega)],?_⟩
    split<;>omega
  ·refine DF (decide_eq_false (by simp only;omega)) (aC ?_)
   have hh:s=own f:=by rw [hs,zu,hpi,Nat.zero_add]
   exact congrArg Nat.cast hh
 subst hy
 refine goB (fun y=>y=(wS f.blocks:Int)) ?_ fun y hy => ?_
 ·refine wK f.blocks (fun (k:Int) (s:Nat)=>((s:Int),k)) (fun s t=>s+if decide (t.aQ=3) then 1 else 0) (fun k s=>s≤k) (s0:=(0:Nat)) rfl (Nat.le_refl _) (fun k h s h1 _ => ?_) (fun s h1 hs => ?_)
  ·refine goT (decide_eq_true (by simp only;omega)) (goC (aG.2 ⟨by simp only;omega,by simp only;omega⟩) ?_)
   have e:f.blocks.getD k aj=f.blocks[k]:=getD_at _ h
   simp only [Int.toNat_natCast,e]
   refine goB (fun y=>y=((s+if decide (f.blocks[k].aQ=3) then 1 else 0:Nat):Int)) ?_ fun y hy => ?_
   ·refine goI (fun hc=>aC ?_) (fun hc=>aC ?_)
    ·rw [if_pos hc,aP (by omega)];simp
    ·rw [if_neg (by rw [hc];simp)];simp
   ·subst hy
    refine aC ⟨by rw [aP (by omega)],?_⟩
    split<;>omega
  ·refine DF (decide_eq_false (by simp only;omega)) (aC ?_)
   have hh:s=wS f.blocks:=by rw [hs,zu,Nat.zero_add];rfl
   exact congrArg Nat.cast hh
 subst hy
 refine goB (fun y=>y=false) ?_ fun y hy => ?_
 ·rw [aP (x:=(l.length:Int)+own f) (by omega)]
  refine DF (by rw [decide_eq_true (by unfold own;omega)];rfl) (aC ?_)
  rw [aP (x:=((bD f.blocks).length:Int)+wS f.blocks) (by omega),aP (by omega),decide_eq_true (by unfold own;omega)];rfl
 ·subst hy
  refine DF rfl (aC ⟨⟨i+1,by simp only;rw [aP (by omega)];simp,by omega,?_⟩,by simp only;rw [aP (x:=(i:Int)+1) (by omega)];omega⟩)
  simp only
  rw [aP (by omega),hsn];omega
theorem Z5:f5=some true:=by
 apply ok_eq
 unfold f5
 have hgood:Good (aH.mk dA 0 1 [ak.mk ([]:(List d_)) 3 0 0 0 0 0 0]):=by
  refine ⟨by simp,by simp,fun b hb => ?_,fun S h0 _ b hb => ?_⟩
  ·have:b=0:=by simp at hb;exact hb
   subst this
   simp
  ·have:b=0:=by simp at hb;exact hb
   subst this;exact h0
 refine goB _ (JZ (gl:=gY) (a:=0) (b:=0) (fs:=[aH.mk dA 0 1 [ak.mk ([]:(List d_)) 3 0 0 0 0 0 0]]) (fun f hf=>by rw [List.mem_singleton] at hf;rw [hf];exact hgood) (by simp)) fun c ⟨h1,_,h3⟩ => ?_
 have hone:c.length=1:=by rw [h1];rfl
 refine goB (fun y=>y=true) ?_ fun y hy=>aC hy
 refine goT (by simp [hone]) (goC (aG.2 (by omega)) ?_)
 have ZY:(c.getD 0 (aT.mk 0 0 0)).way=2:=by
  have hm:c.getD 0 (aT.mk 0 0 0)∈c:=by rw [getD_at _ (by omega:0<c.length)];exact List.getElem_mem _
  obtain ⟨f,hf,x,hx,e⟩:=h3 _ hm
  rw [List.mem_singleton] at hf
  subst hf
  have:bD [ak.mk ([]:(List d_)) 3 0 0 0 0 0 0]=[aT.mk 0 0 2]:=rfl
  rw [this,List.mem_singleton] at hx
  rw [e,hx]
 refine goT (decide_eq_true ZY) (goC rfl (yg (xH (by simp)).1 (aC ?_)))
 rfl
end Go.Fg.Ytfklooeiipkijaa

