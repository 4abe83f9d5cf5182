/-
  Chapter 21, plain: how many ways the tree has.
-/
import Derived.Test.YtfklooeiipkijaaLc
namespace Go.Fg.Ytfklooeiipkijaa
open Go.Fw
set_option linter.unusedVariables false
set_option linter.unusedSimpArgs false
theorem PU :∀n,comps (fun z=>z) n=n
 |0=>rfl
 |n+1=>by simp only [comps];rw [PU n];simp
theorem WX {rep:Nat→Nat} {c N:Nat} (hc:c<N) (h :∀z,z<N→rep z=c):comps rep N=1:=by
 have key :∀m,m≤N→comps rep m=if c<m then 1 else 0:=by
  intro m
  induction m with
  |zero=>intro _;rfl
  |succ m ih=>
   intro hm
   simp only [comps]
   rw [ih (by omega),h m (by omega)]
   by_cases e:c=m
   ·rw [if_neg (by omega),if_pos e,if_pos (by omega)]
   ·rw [if_neg e]
    by_cases e2:c<m
    ·rw [if_pos e2,if_pos (by omega)]
    ·rw [if_neg e2,if_neg (by omega)]
 rw [key N (Nat.le_refl _),if_pos hc]
def Ends (bs:List ak):Prop :=∀b,b<bs.length→((bs.getD b aj).aQ≠3→0≤(bs.getD b aj).fE∧(bs.getD b aj).fE<bs.length)∧((bs.getD b aj).aQ=2→0≤(bs.getD b aj).bP∧(bs.getD b aj).bP<bs.length)
def WY (bs:List ak):Prop :=∀S:Nat→Prop,S 0→(∀b,b<bs.length→S b→((bs.getD b aj).aQ≠3→S (bs.getD b aj).fE.toNat)∧((bs.getD b aj).aQ=2→S (bs.getD b aj).bP.toNat))→∀b,b<bs.length→S b
def wS (bs:List ak):Nat:=bs.countP fun t=>decide (t.aQ=3)
theorem Ce (n:Nat) :∀(l:List ak) (k:Nat),(∀e∈(l.foldl (Eo n) (k,[])).2,∃b:Nat,k≤b∧b<k+l.length∧e=bY.mk b n)∧(l.foldl (Eo n) (k,[])).2.Pairwise (fun a b=>a.from'<b.from')∧(l.foldl (Eo n) (k,[])).2.length=wS l
 | [],k=>by simp [wS]
 |t::l,k=>by
  obtain ⟨h1,h2,h3⟩:=Ce n l (k+1)
  have e:((t::l).foldl (Eo n) (k,[])).2=(if t.aQ=3 then [bY.mk k n] else [])++(l.foldl (Eo n) (k+1,[])).2:=by
   have:=PO n l (k+1) (if t.aQ=3 then [bY.mk k n] else []) []
   rw [List.append_nil] at this
   show (l.foldl (Eo n) (k+1,[]++_)).2=_
   rw [List.nil_append,this]
  rw [e]
  unfold wS at h3 ⊢
  rw [List.countP_cons]
  by_cases ht:t.aQ=3
  ·rw [if_pos ht]
   refine ⟨fun e he => ?_,?_,by simp [ht,h3]⟩
   ·rcases List.mem_append.1 he with he | he
    ·simp at he;exact ⟨k,Nat.le_refl _,by simp,he⟩
    ·obtain ⟨b,q1,q2,q3⟩:=h1 e he
     exact ⟨b,by omega,by simp;omega,q3⟩
   ·rw [List.singleton_append,List.pairwise_cons]
    refine ⟨fun e he => ?_,h2⟩
    obtain ⟨b,q1,q2,q3⟩:=h1 e he
    rw [q3];simp only;omega
  ·rw [if_neg ht]
   refine ⟨fun e he => ?_,by simpa using h2,by simp [ht,h3]⟩
   obtain ⟨b,q1,q2,q3⟩:=h1 e (by simpa using he)
   exact ⟨b,by omega,by simp;omega,q3⟩
theorem Sm (bs:List ak) :∃l,bD bs=aT.mk 0 0 2::l:=by
 have key :∀(l:List ak) (s:Nat×List aT) (x:aT) (t:List aT),s.2=x::t→∃l',(l.foldl rY s).2=x::l':=by
  intro l
  induction l with
  |nil=>intro s x t h;exact ⟨t,h⟩
  |cons b l ih=>intro s x t h;exact ih _ x (t++lW s.1 b) (by simp only [rY];rw [h];rfl)
 exact key bs _ _ [] rfl
theorem PY (bs:List ak) :∀b,b<bs.length→∀w∈lW b (bs.getD b aj),w∈bD bs:=by
 have keep :∀(l:List ak) (s:Nat×List aT) (w:aT),w∈s.2→w∈(l.foldl rY s).2:=by
  intro l
  induction l with
  |nil=>intro s w h;exact h
  |cons t l ih=>intro s w h;exact ih _ w (List.mem_append_left _ h)
 have key :∀(l:List ak) (s:Nat×List aT) (b:Nat),b<l.length→∀w∈lW (s.1+b) (l.getD b aj),w∈(l.foldl rY s).2:=by
  intro l
  induction l with
  |nil=>intro s b h;simp at h
  |cons t l ih=>
   intro s b h w hw
   cases b with
   |zero=>exact keep l _ w (List.mem_append_right _ hw)
   |succ b=>
    refine ih _ b (by simpa using h) w ?_
    have:(rY s t).1+b=s.1+(b+1):=by simp only [rY];omega
    rw [this];exact hw
 intro b hb w hw
 exact key bs (0,[aT.mk 0 0 2]) b hb w (by rw [Nat.zero_add];exact hw)
theorem Sr (bs:List ak) :∀w∈bD bs,w=aT.mk 0 0 2∨∃b:Nat,b<bs.length∧w∈lW b (bs.getD b aj):=by
 have key :∀(l:List ak) (s:Nat×List aT),∀w∈(l.foldl rY s).2,w∈s.2∨∃b:Nat,b<l.length∧w∈lW (s.1+b) (l.getD b aj):=by
  intro l
  induction l with
  |nil=>intro s w h;exact .inl h
  |cons t l ih=>
   intro s w h
   rcases ih _ w h with h | ⟨b,h1,h2⟩
   ·rcases List.mem_append.1 h with h | h
    ·exact .inl h
    ·exact .inr ⟨0,by simp,h⟩
   ·refine .inr ⟨b+1,by simpa using h1,?_⟩
    have:(rY s t).1+b=s.1+(b+1):=by simp only [rY];omega
    rw [this] at h2;exact h2
 intro w hw
 rcases key bs (0,[aT.mk 0 0 2]) w hw with h | ⟨b,h1,h2⟩
 ·exact .inl (by simpa using h)
 ·exact .inr ⟨b,h1,by rw [Nat.zero_add] at h2;exact h2⟩
theorem zq {b:Nat} {t:ak} {w:aT}:w∈lW b t↔(t.aQ≠3∧w=aT.mk 0 b 0)∨(t.aQ=2∧w=aT.mk 0 b 1):=by
 unfold lW
 rw [List.mem_append]
 by_cases h1:t.aQ=3<;>by_cases h2:t.aQ=2<;>simp [h1,h2]
def b_ (bs:List ak):List bY:=(bD bs).map (jA bs)++uJ bs
theorem ZW {bs:List ak} (hE:Ends bs) (h0:0<bs.length) :∀w∈bD bs,(0≤(jA bs w).from'∧(jA bs w).from'<(bs.length+1:Nat))∧0≤(jA bs w).to∧(jA bs w).to<(bs.length+1:Nat):=by
 intro w hw
 rcases Sr bs w hw with rfl | ⟨b,hb,hw⟩
 ·simp [jA];omega
 ·obtain ⟨e1,e2⟩:=hE b hb
  rcases zq.1 hw with ⟨h,rfl⟩ | ⟨h,rfl⟩
  ·have:=e1 h;simp only [jA,if_pos,Int.toNat_natCast];omega
  ·have:=e2 h
   unfold jA
   rw [if_neg (by simp),if_pos rfl]
   simp only [Int.toNat_natCast];omega
theorem ZX {bs:List ak} (hE:Ends bs) (h0:0<bs.length):MK (b_ bs) (bs.length+1):=by
 intro k hk
 rw [getD_at _ hk]
 have hm:=List.getElem_mem hk
 rcases List.mem_append.1 hm with h | h
 ·obtain ⟨w,hw,e⟩:=List.mem_map.1 h
  rw [←e];exact ZW hE h0 w hw
 ·obtain ⟨b,q1,q2,e⟩:=(Ce bs.length bs 0).1 _ h
  rw [e];simp only;omega
end Go.Fg.Ytfklooeiipkijaa

