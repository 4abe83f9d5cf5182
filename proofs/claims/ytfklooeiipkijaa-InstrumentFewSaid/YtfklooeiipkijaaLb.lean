/-
  Chapter 21, plain: ways, lines.
-/
import Derived.Test.YtfklooeiipkijaaLa
namespace Go.Fg.Ytfklooeiipkijaa
open Go.Fw
set_option linter.unusedVariables false
set_option linter.unusedSimpArgs false
def lW (b:Nat) (t:ak):List aT:=(if t.aQ=3 then [] else [aT.mk 0 b 0])++(if t.aQ=2 then [aT.mk 0 b 1] else [])
def rY (s:Nat×List aT) (t:ak):Nat×List aT:=(s.1+1,s.2++lW s.1 t)
def bD (bs:List ak):List aT:=(bs.foldl rY (0,[aT.mk 0 0 2])).2
theorem MJ {a b:Nat} (h:a+b≤4000000):bF a b 24=true:=by unfold bF;simp;omega
theorem EK {a b:Nat} (h:a+b≤4000000):bF a b 16=true:=by unfold bF;simp;omega
theorem xH {nm:List UInt8} {a b:Int} {bs:List ak} (hl:bs.length≤1000000):f9 nm a b bs=some (bD bs)∧(bD bs).length≤2*bs.length+1:=by
 suffices h:Ok (f9 nm a b bs) fun y=>y=bD bs∧y.length≤2*bs.length+1 by
  obtain ⟨y,hy,rfl,h⟩:=h
  exact ⟨hy,h⟩
 unfold f9
 refine goB (fun y=>y=bD bs∧y.length≤2*bs.length+1) ?_ fun y hy=>aC hy
 refine wK bs (fun i s=>(i,s.2)) rY (fun i s=>s.1=i∧s.2.length≤2*i+1) (s0:=(0,[aT.mk 0 0 2])) rfl ⟨rfl,by simp⟩ (fun i h s ⟨h1,h2⟩ _ => ?_) (fun s ⟨h1,h2⟩ hs => ?_)
 ·obtain ⟨j,l⟩:=s
  simp only at h1 h2
  subst j
  refine goT (decide_eq_true (by simp only;omega)) (goC (aG.2 ⟨by simp only;omega,by simp only;omega⟩) ?_)
  have e:bs.getD ((i:Int)).toNat aj=bs[i]:=by rw [Int.toNat_natCast];exact getD_at _ h
  simp only [e]
  generalize bs[i]=t
  refine goB (fun y=>y=l++(if t.aQ=3 then [] else [aT.mk 0 i 0])) ?_ fun y hy => ?_
  ·refine goI (fun hc => ?_) (fun hc => ?_)
   ·refine goC (MJ (by simp;omega)) (aC ?_)
    rw [if_neg (by simpa using hc)]
   ·refine aC ?_
    rw [if_pos (by simpa using hc),List.append_nil]
  subst hy
  refine goB (fun y=>y=l++lW i t) ?_ fun y hy => ?_
  ·unfold lW
   refine goI (fun hc => ?_) (fun hc => ?_)
   ·have h2':t.aQ=2:=by simpa using hc
    refine goC (MJ (by rw [if_neg (by omega)];simp;omega)) (aC ?_)
    rw [if_pos h2',List.append_assoc]
   ·have h2':¬ t.aQ=2:=by simpa using hc
    refine aC ?_
    rw [if_neg h2',List.append_nil]
  ·subst hy
   refine aC ⟨?_,rfl,?_⟩
   ·rw [aP (by omega)];rfl
   ·have:(lW i t).length≤2:=by unfold lW;split<;>split<;>simp
    show (l++lW i t).length≤_
    rw [List.length_append];omega
 ·refine DF (decide_eq_false (by simp only;omega)) (aC ⟨by rw [hs];rfl,h2⟩)
def jA (bs:List ak) (w:aT):bY:=
 if w.way=0 then bY.mk w.block (bs.getD w.block.toNat aj).fE else if w.way=1 then bY.mk w.block (bs.getD w.block.toNat aj).bP else bY.mk bs.length 0
def Eo (n:Nat) (s:Nat×List bY) (t:ak):Nat×List bY:=(s.1+1,s.2++if t.aQ=3 then [bY.mk s.1 n] else [])
def uJ (bs:List ak):List bY:=(bs.foldl (Eo bs.length) (0,[])).2
theorem PO (n:Nat) (bs:List ak) :∀(k:Nat) (a b:List bY),bs.foldl (Eo n) (k,a++b)=((bs.foldl (Eo n) (k,b)).1,a++(bs.foldl (Eo n) (k,b)).2):=by
 induction bs with
 |nil=>intro k a b;rfl
 |cons t bs ih=>intro k a b;simp only [List.foldl_cons,Eo];rw [List.append_assoc,ih]
theorem adu (bs:List ak) :∀w∈bD bs,0≤w.block∧(w.block<bs.length∨w.block=0):=by
 have key :∀(l:List ak) (s:Nat×List aT) (n:Nat),s.1+l.length≤n→(∀w∈s.2,0≤w.block∧(w.block<n∨w.block=0))→∀w∈(l.foldl rY s).2,0≤w.block∧(w.block<n∨w.block=0):=by
  intro l
  induction l with
  |nil=>intro s n _ h;exact h
  |cons t l ih=>
   intro s n hn h
   simp only [List.length_cons] at hn
   refine ih _ n (by simp only [rY];omega) fun w hw => ?_
   rcases List.mem_append.1 hw with hw | hw
   ·exact h w hw
   ·unfold lW at hw
    have:w.block=s.1:=by
     rcases List.mem_append.1 hw with hw | hw<;>split at hw<;>simp at hw<;>rw [hw]
    omega
 exact key bs _ bs.length (by simp) (by simp)
theorem ZV {nm:List UInt8} {a b:Int} {bs:List ak} (hl:bs.length≤1000000) (h0:0<bs.length):f36 nm a b bs=some ((bD bs).map (jA bs)++uJ bs):=by
 apply ok_eq
 unfold f36
 have hw:=xH (nm:=nm) (a:=a) (b:=b) hl
 refine yg hw.1 ?_
 refine goB (fun y=>y=(bD bs).map (jA bs)) ?_ fun y hy => ?_
 ·refine wK (bD bs) (fun i s=>(i,s)) (fun s w=>s++[jA bs w]) (fun i s=>s.length=i) (s0:=[]) rfl rfl (fun i h s h1 _ => ?_) (fun s h1 hs => ?_)
  ·refine goT (decide_eq_true (by simp only;omega)) (goC (aG.2 ⟨by simp only;omega,by simp only;omega⟩) ?_)
   have e:(bD bs).getD ((i:Int)).toNat (aT.mk 0 0 0)=(bD bs)[i]:=by rw [Int.toNat_natCast];exact getD_at _ h
   have hin:=adu bs _ (List.getElem_mem h)
   simp only [e]
   generalize (bD bs)[i]=w at hin ⊢
   refine goC (aG.2 ⟨hin.1,by omega⟩) ?_
   refine goB (fun y=>y=s++[jA bs w]) ?_ fun y hy => ?_
   ·unfold jA
    refine goI (fun hc => ?_) (fun hc => ?_)
    ·refine goC (EK (by simp;omega)) (aC ?_)
     rw [if_pos (by simpa using hc)]
    ·rw [if_neg (by simpa using hc)]
     refine goB (fun y=>y=s++[if w.way=1 then bY.mk w.block (bs.getD w.block.toNat aj).bP else bY.mk bs.length 0]) ?_ fun y hy=>aC hy
     refine goI (fun hc => ?_) (fun hc => ?_)
     ·refine goC (EK (by simp;omega)) (aC ?_)
      rw [if_pos (by simpa using hc)]
     ·refine goC (EK (by simp;omega)) (aC ?_)
      rw [if_neg (by simpa using hc)]
   ·subst hy
    exact aC ⟨by rw [aP (by omega)],by simp [h1]⟩
  ·refine DF (decide_eq_false (by simp only;omega)) (aC ?_)
   rw [hs]
   have :∀(l:List aT) (s:List bY),l.foldl (fun s w=>s++[jA bs w]) s=s++l.map (jA bs):=by
    intro l
    induction l with
    |nil=>intro s;simp
    |cons w l ih=>intro s;simp [ih]
   rw [this];rfl
 subst hy
 refine goB (fun y=>y=(bD bs).map (jA bs)++uJ bs) ?_ fun y hy=>aC hy
 refine wK bs (fun i s=>(i,s.2)) (Eo bs.length) (fun i s=>s.1=i∧s.2.length≤2*bs.length+1+i) (s0:=(0,(bD bs).map (jA bs))) rfl ⟨rfl,by simp;omega⟩ (fun i h s ⟨h1,h2⟩ _ => ?_) (fun s ⟨h1,h2⟩ hs => ?_)
 ·obtain ⟨j,l⟩:=s
  simp only at h1 h2
  subst j
  refine goT (decide_eq_true (by simp only;omega)) (goC (aG.2 ⟨by simp only;omega,by simp only;omega⟩) ?_)
  have e:bs.getD ((i:Int)).toNat aj=bs[i]:=by rw [Int.toNat_natCast];exact getD_at _ h
  simp only [e]
  generalize bs[i]=t
  refine goB (fun y=>y=l++if t.aQ=3 then [bY.mk i bs.length] else []) ?_ fun y hy => ?_
  ·refine goI (fun hc => ?_) (fun hc => ?_)
   ·refine goC (EK (by simp;omega)) (aC ?_)
    rw [if_pos (by simpa using hc)]
   ·refine aC ?_
    rw [if_neg (by simpa using hc),List.append_nil]
  ·subst hy
   refine aC ⟨?_,rfl,?_⟩
   ·rw [aP (by omega)];rfl
   ·show (l++_).length≤_
    rw [List.length_append]
    split<;>simp<;>omega
 ·refine DF (decide_eq_false (by simp only;omega)) (aC ?_)
  rw [hs]
  have:=PO bs.length bs 0 ((bD bs).map (jA bs)) []
  rw [List.append_nil] at this
  rw [this];rfl
end Go.Fg.Ytfklooeiipkijaa

