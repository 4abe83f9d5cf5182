/-
  Chapter 21, plain: expressions are lowered.
-/
import Derived.Test.YtfklooeiipkijaaLq
namespace Go.Fg.Ytfklooeiipkijaa
open Go.Fw
set_option linter.unusedVariables false
set_option linter.unusedSimpArgs false
structure Bd (k:Nat) (at':Int) (bl:List ak):Prop where
 at0:0≤at'
 Qn:at'<bl.length
 len:bl.length≤k
 ins :∀b∈bl,b.instrs.length≤k∧∀i∈b.instrs,i.args.length≤10
theorem Bd.up {k k':Nat} {a:Int} {bl:List ak} (h:Bd k a bl) (hk:k≤k'):Bd k' a bl:=⟨h.at0,h.Qn,Nat.le_trans h.len hk,fun b hb=>⟨Nat.le_trans (h.ins b hb).1 hk,(h.ins b hb).2⟩⟩
section
variable {g:List ah} {fs:List au} {lo:List (List UInt8)} {nu:Int}
theorem lX {β:Type} {k:Nat} {a a' re ln:Int} {bl:List ak} {f} {Q:β→Prop} (h:Bd k a bl) (hk:k≤1000000000) (c :∀g_,g_.length=bl.length+1→Bd (k+1) bl.length g_→Ok (f ((bl.length:Int),g,fs,lo,nu,re,(bl.length:Int),g_)) Q) :
  Ok (Option.bind (f42 ln g fs lo nu re a' bl) f) Q:=by
 have hl:=h.len
 refine goB (fun y =>∃g_,y=((bl.length:Int),g,fs,lo,nu,re,(bl.length:Int),g_)∧g_.length=bl.length+1∧Bd (k+1) bl.length g_) (goC (by unfold bF;simp;omega) (aC ⟨bl++[_],rfl,by simp,⟨by omega,by simp;omega,by simp;omega,fun b hb => ?_⟩⟩)) fun y ⟨g_,e,h1,h2⟩=>by subst e;exact c g_ h1 h2
 rcases List.mem_append.1 hb with hb | hb
 ·exact ⟨Nat.le_succ_of_le (h.ins b hb).1,(h.ins b hb).2⟩
 ·rw [List.mem_singleton] at hb;subst hb;exact ⟨Nat.zero_le _,fun i h=>by cases h⟩
theorem D_ {β:Type} {k:Nat} {a re p0 p1 p2 p3 p4 p5:Int} {ar:List Int} {bl:List ak} {f} {Q:β→Prop} (h:Bd k a bl) (hk:k≤1000000000) (ha:ar.length≤10) (c :∀g_,g_.length=bl.length→Bd (k+1) a g_→Ok (f (g,fs,lo,nu,re,a,g_)) Q) :
  Ok (Option.bind (f44 p0 p1 p2 p3 p4 p5 ar g fs lo nu re a bl) f) Q:=by
 have hl:=h.len
 have hin:=aG.2 ⟨h.at0,h.Qn⟩
 have hx:=h.ins _ (jW aj h.at0 h.Qn)
 refine goB (fun y =>∃g_,y=(g,fs,lo,nu,re,a,g_)∧g_.length=bl.length∧Bd (k+1) a g_) ?_ fun y ⟨g_,e,h1,h2⟩=>by subst e;exact c g_ h1 h2
 unfold f44
 refine goB (fun y =>∃g_,y=(g,fs,lo,nu,re,a,g_)∧g_.length=bl.length∧Bd (k+1) a g_) ?_ fun y ⟨g_,e,h1,h2⟩=>by subst e;exact goC (by simp [h1]) (aC ⟨g_,rfl,h1,h2⟩)
 refine goC hin (goC ?_ (goC hin (goC (by simp) (aC ⟨_,rfl,by simp,⟨h.at0,by rw [List.length_set];exact h.Qn,by rw [List.length_set];omega,fun b hb => ?_⟩⟩))))
 ·show (true&&decide _)=true
  simp only [Bool.true_and,decide_eq_true_eq,List.length_singleton];omega
 ·rcases List.mem_or_eq_of_mem_set hb with hb | hb
  ·exact ⟨Nat.le_succ_of_le (h.ins b hb).1,(h.ins b hb).2⟩
  ·subst hb
   refine ⟨by rw [List.length_append,List.length_singleton];omega,fun i hi => ?_⟩
   rcases List.mem_append.1 hi with hi | hi
   ·exact hx.2 i hi
   ·rw [List.mem_singleton] at hi;subst hi;exact ha
theorem pF {β:Type} {k:Nat} {a re p0 p1 p2 p3 p4:Int} {bl:List ak} {f} {Q:β→Prop} (h:Bd k a bl) (h0:0≤p0) (h1:p0<bl.length) (c :∀g_,g_.length=bl.length→Bd k a g_→Ok (f (g,fs,lo,nu,re,a,g_)) Q) :
  Ok (Option.bind (f45 p0 p1 p2 p3 p4 g fs lo nu re a bl) f) Q:=by
 have hx:=h.ins _ (jW aj h0 h1)
 refine goB (fun y =>∃g_,y=(g,fs,lo,nu,re,a,g_)∧g_.length=bl.length∧Bd k a g_) ?_ fun y ⟨g_,e,h1,h2⟩=>by subst e;exact c g_ h1 h2
 unfold f45
 refine goB (fun y =>∃g_,y=(g,fs,lo,nu,re,a,g_)∧g_.length=bl.length∧Bd k a g_) ?_ fun y ⟨g_,e,h1,h2⟩=>by subst e;exact goC (by simp [h1]) (aC ⟨g_,rfl,h1,h2⟩)
 refine goC (aG.2 ⟨h0,h1⟩) (aC ⟨_,rfl,by simp,⟨h.at0,by rw [List.length_set];exact h.Qn,by rw [List.length_set];exact h.len,fun b hb => ?_⟩⟩)
 rcases List.mem_or_eq_of_mem_set hb with hb | hb
 ·exact h.ins b hb
 ·subst hb;exact hx
theorem Ve {β:Type} {nm:List UInt8} {re a:Int} {bl:List ak} {f} {Q:β→Prop} (hl:lo.length≤1000000) (c :∀q,Ok (f (q,g,fs,lo,nu,re,a,bl)) Q):Ok (Option.bind (f63 nm g fs lo nu re a bl) f) Q:=by
 refine goB (fun y =>∃q,y=(q,g,fs,lo,nu,re,a,bl)) ?_ fun y ⟨q,e⟩=>by subst e;exact c q
 refine goB (fun y =>∃q,y=(q,g,fs,lo,nu,re,a,bl)) ?_ fun y ⟨q,e⟩=>by subst e;exact goK rfl (aC ⟨q,rfl⟩)
 unfold afC
 refine goB (fun y =>∃q,y=(q,g,fs,lo,nu,re,a,bl)) ?_ fun y ⟨q,e⟩=>by subst e;exact goC (by simp) (aC ⟨q,rfl⟩)
 exact rW (fun _=>True) (m_ lo.length (by omega) (fun i h0 h1=>goT (decide_eq_true h1) (goC (aG.2 ⟨h0,h1⟩) (goI (fun _=>aC ⟨_,rfl⟩) fun _=>aC rfl))) (DF (decide_eq_false (by omega)) (aC trivial))) fun _ _=>aC ⟨_,rfl⟩
def PV (k m:Nat) (g:List ah) (fs:List au) (lo:List (List UInt8)) (nu:Int) (y:List ah×List au×List (List UInt8)×Int×Int×Int×List ak):Prop:=
 ∃re a bl,y=(g,fs,lo,nu,re,a,bl)∧m≤bl.length∧Bd k a bl
def CX:Nat→Nat
 |0=>0
 |n+1=>4*CX n+6
theorem goV {β:Type} {rec:Xj} {c:Nat} {x:aI} {t a re:Int} {k:Nat} {bl:List ak} {f} {Q:β→Prop} (hr :∀t re a bl k,Bd k a bl→k+c≤1000000000→Ok (rec x.kind x.op x.value x.line x.name x.args t g fs lo nu re a bl) (PV (k+c) bl.length g fs lo nu))
  (h:Bd k a bl) (hk:k+c≤1000000000) (q :∀re' a' g_,bl.length≤g_.length→Bd (k+c) a' g_→Ok (f (g,fs,lo,nu,re',a',g_)) Q):Ok (Option.bind (rec x.kind x.op x.value x.line x.name x.args t g fs lo nu re a bl) f) Q:=
 goB _ (hr t re a bl k h hk) fun y ⟨re',a',g_,e,h1,h2⟩=>by subst e;exact q re' a' g_ h1 h2
theorem Xe {rec:Xj} {rec':T73} {su:T74} {n:Nat} {p0 p1 p2 p3 t re a:Int} {p4:List UInt8} {ar:List aI} (har:2≤ar.length∧ar.length≤4)
  (hr :∀x∈ar,∀t re a bl k,Bd k a bl→k+CX n≤1000000000→Ok (rec x.kind x.op x.value x.line x.name x.args t g fs lo nu re a bl) (PV (k+CX n) bl.length g fs lo nu))
  {bl:List ak} {k:Nat} (h:Bd k a bl) (hk:k+CX (n+1)≤1000000000):Ok (acD rec rec' su p0 p1 p2 p3 p4 ar t g fs lo nu re a bl) (PV (k+CX (n+1)) bl.length g fs lo nu):=by
 have hc:CX (n+1)=4*CX n+6:=rfl
 have m0:ar.getD (Int.toNat 0) gI∈ar:=jW gI (by omega) (by omega)
 have m1:ar.getD (Int.toNat 1) gI∈ar:=jW gI (by omega) (by omega)
 unfold acD
 refine goC (aG.2 ⟨by omega,by omega⟩) (goV (hr _ m0) h (by omega) fun re1 a1 b1 l1 h1=>lX h1 (by omega) fun b2 l2 h2=>goC (aG.2 ⟨by omega,by omega⟩) (goV (hr _ m1) h2 (by omega) fun re3 a3 b3 l3 h3=>lX h3 (by omega) fun b4 l4 h4=>D_ h4 (by omega) (by simp) fun b5 l5 h5=>lX h5 (by omega) fun b6 l6 h6=>D_ h6 (by omega) (by simp) fun b7 l7 h7=>lX h7 (by omega) fun b8 l8 h8 => ?_))
 simp only at l1 l2 l3 l4 l5 l6 l7 l8
 refine pF h8 h3.at0 (by have:=h3.Qn;simp only;omega) fun b9 l9 h9=>goB (fun y =>∃g_,y=(g,fs,lo,nu,re3,(b7.length:Int),g_)∧g_.length=b9.length∧Bd (k+CX n+1+CX n+1+1+1+1+1) b7.length g_) ?_ fun y ⟨b10,e,l10,h10⟩ => ?_
 ·exact goI (fun _=>pF h9 h1.at0 (by have:=h1.Qn;simp only at l9 ⊢;omega) fun b l h=>aC ⟨b,rfl,l,h⟩) fun _=>pF h9 h1.at0 (by have:=h1.Qn;simp only at l9 ⊢;omega) fun b l h=>aC ⟨b,rfl,l,h⟩
 subst e
 simp only at l9
 exact pF h10 (by simp only;omega) (by simp only;omega) fun b11 l11 h11=>pF h11 (by simp only;omega) (by simp only at l11 ⊢;omega) fun b12 l12 h12=>aC ⟨_,_,b12,rfl,by simp only at l11 l12;omega,h12.up (by omega)⟩
theorem Qd {rec:Xj} {rec':T73} {su:T74} {n:Nat} {t re a:Int} {ar:List aI} (har:ar.length≤4)
  (hr :∀x∈ar,∀t re a bl k,Bd k a bl→k+CX n≤1000000000→Ok (rec x.kind x.op x.value x.line x.name x.args t g fs lo nu re a bl) (PV (k+CX n) bl.length g fs lo nu))
  {bl:List ak} {k:Nat} (h:Bd k a bl) (hk:k+4*CX n≤1000000000):Ok (acE rec rec' su ar t g fs lo nu re a bl) fun y =>∃re a rs g_,y=(g,fs,lo,nu,re,a,rs,g_)∧rs.length=ar.length∧bl.length≤g_.length∧Bd (k+4*CX n) a g_:=by
 unfold acE
 refine goB (fun y =>∃re a rs g_,y=(g,fs,lo,nu,re,a,rs,g_)∧rs.length=ar.length∧bl.length≤g_.length∧Bd (k+4*CX n) a g_) ?_ fun y ⟨re,a,rs,g_,e,h⟩=>by subst e;exact aC ⟨re,a,rs,g_,rfl,h⟩
 refine bQ (fun s:Int×List ah×List au×List (List UInt8)×Int×Int×Int×List Int×List ak =>∃q:Nat,∃re a rs g_,s=((q:Int),g,fs,lo,nu,re,a,rs,g_)∧rs.length=q∧q≤ar.length∧bl.length≤g_.length∧Bd (k+q*CX n) a g_) (fun s=>(ar.length-s.1).toNat)
  ⟨0,re,a,[],bl,rfl,rfl,by omega,Nat.le_refl _,h.up (by omega)⟩ fun s ⟨q,re,a,rs,g_,e,h1,h2,h3,h4⟩ => ?_
 subst e
 refine goI (fun hc => ?_) fun hc=>aC ⟨re,a,rs,g_,rfl,?_,h3,h4.up (Nat.add_le_add_left (Nat.mul_le_mul_right _ (by omega)) _)⟩
 rotate_left
 ·have hc:¬ (q:Int)<ar.length:=by simpa using hc
  omega
 have hc:(q:Int)<ar.length:=by simpa using hc
 have hm:=MS (CX n) (show q<4 by omega)
 refine goC (aG.2 ⟨by simp only;omega,hc⟩) (goV (hr _ (jW gI (by omega) hc)) h4 (by omega) fun re' a' bl2 l2 h5=>goC (by unfold bF;simp;omega) (aC ⟨⟨q+1,re',a',rs++[dI (t+q)],bl2,?_,?_,by omega,by simp only at l2;omega,?_⟩,?_⟩))
 ·show (dI ((q:Int)+1),_)=_
  rw [aP (by omega)];rfl
 ·simp [h1]
 ·exact h5.up (by omega)
 ·show ((ar.length:Int)-dI ((q:Int)+1)).toNat<((ar.length:Int)-q).toNat
  rw [aP (by omega)];omega
theorem qU {k m:Nat} {x:Option (List ah×List au×List (List UInt8)×Int×Int×Int×List ak)} (h:Ok x (PV k m g fs lo nu)):Ok (Option.bind x fun s=>some (s.1,s.2.1,s.2.2.1,s.2.2.2.1,s.2.2.2.2.1,s.2.2.2.2.2.1,s.2.2.2.2.2.2)) (PV k m g fs lo nu):=
 goB _ h fun y ⟨re,a,bl,e,h⟩=>by subst e;exact aC ⟨re,a,bl,rfl,h⟩
theorem SK {rec:Xj} {rec':T73} {su:T74} {n:Nat} (hS:Sc g fs lo) {x:aI} (hx:WE 4 (n+1) x) {t re a:Int} {bl:List ak} {k:Nat} (h:Bd k a bl) (hk:k+CX (n+1)≤1000000000)
  (hl:2≤x.args.length→∀re,Ok (rec' x.kind x.op x.value x.line x.name x.args t g fs lo nu re a bl) (PV (k+CX (n+1)) bl.length g fs lo nu))
  (hv :∀re,Ok (su x.args t g fs lo nu re a bl) fun y =>∃re a rs g_,y=(g,fs,lo,nu,re,a,rs,g_)∧rs.length=x.args.length∧bl.length≤g_.length∧Bd (k+4*CX n) a g_) :
  Ok (acC rec rec' su x.kind x.op x.value x.line x.name x.args t g fs lo nu re a bl) (PV (k+CX (n+1)) bl.length g fs lo nu):=by
 have hc:CX (n+1)=4*CX n+6:=rfl
 obtain ⟨w1,w2,w3,w4⟩:=hx
 unfold acC
 refine goB (fun s=>s=true→x.kind=7∨x.kind=8) ?_ fun s hs=>goI (fun e=>qU (hl (w2 (hs e)) _)) fun _=>goB _ (hv _) fun y ⟨re,a,rs,g_,e,l1,l2,h'⟩ => ?_
 ·exact goI (fun e=>aC fun _=>.inl (by simpa using e)) fun _=>aC fun e=>.inr (by simpa using e)
 subst e
 have put :∀{p0 p1 p2 p3 p4 p5:Int} {ar:List Int},ar.length≤10→Ok (f44 p0 p1 p2 p3 p4 p5 ar g fs lo nu re a g_) (PV (k+CX (n+1)) bl.length g fs lo nu):=fun {p0 p1 p2 p3 p4 p5 ar} har=>by
  have:=D_ (g:=g) (fs:=fs) (lo:=lo) (nu:=nu) (re:=re) (p0:=p0) (p1:=p1) (p2:=p2) (p3:=p3) (p4:=p4) (p5:=p5) (ar:=ar) (f:=some) (Q:=PV (k+CX (n+1)) bl.length g fs lo nu) h' (by omega) har fun b l h=>aC ⟨re,a,b,rfl,by omega,h.up (by omega)⟩
  rwa [show∀z:Option (List ah×List au×List (List UInt8)×Int×Int×Int×List ak),Option.bind z some=z from fun z=>by cases z<;>rfl] at this
 refine qU (goI (fun _=>qU (put (by simp))) fun _=>qU (goI (fun _=>Ve hS.lo fun q=>qU (put (by simp))) fun _=>qU (goI (fun _=>goB _ (uq hS.g) fun _ _=>qU (put (by simp))) fun _=>qU (goI (fun _=>goB _ (uq hS.g) fun _ _=>qU (put (by simp))) fun _=>
  qU (goI (fun _=>qU (put (by simp))) fun _=>qU (goI (fun _=>qU (put (by simp))) fun _=>qU (goI (fun _=>goB _ (EN hS.f) fun _ _=>qU (put (by simp only;omega))) fun _=>qU (goI (fun e => ?_) fun _=>qU (goI (fun _=>goB _ (EN hS.f) fun _ _=>qU (put (by simp))) fun _=>qU (goI (fun _=>qU (put (by simp))) fun _=>aC ⟨re,a,g_,rfl,l2,h'.up (by omega)⟩))))))))))
 have:=w3 (by simpa using e)
 exact goC (H9.2 ⟨⟨by omega,by simp only;omega⟩,by simp only;omega⟩) (qU (put (by simp;omega)))
theorem aan (n:Nat):(iO (n+1)).1=acC (Zv n) (afI n) (afJ n):=rfl
theorem aao (n:Nat):(iO (n+1)).2.1=acD (Zv n) (afI n) (afJ n):=rfl
theorem aap (n:Nat):(iO (n+1)).2.2=acE (Zv n) (afI n) (afJ n):=rfl
theorem Vf (hS:Sc g fs lo) :∀n k:Nat,2*n≤k→∀x,WE 4 n x→∀t re a bl q,Bd q a bl→q+CX n≤1000000000→Ok (Zv k x.kind x.op x.value x.line x.name x.args t g fs lo nu re a bl) (PV (q+CX n) bl.length g fs lo nu)
 |0,_,_=>fun _ h=>h.elim
 |n+1,0,hk=>by omega
 |n+1,1,hk=>by omega
 |n+1,k+2,hk=>fun x hx t re a bl q hb hq=>by
  have ih:=Vf hS n k (by omega)
  have hc:CX (n+1)=4*CX n+6:=rfl
  show Ok ((iO (k+2)).1 x.kind x.op x.value x.line x.name x.args t g fs lo nu re a bl) _
  rw [aan]
  refine SK hS hx hb hq (fun h2 re => ?_) fun re => ?_
  ·show Ok ((iO (k+1)).2.1 x.kind x.op x.value x.line x.name x.args t g fs lo nu re a bl) _
   rw [aao]
   exact Xe ⟨h2,hx.1⟩ (fun z hz=>ih z (hx.2.2.2 z hz)) hb hq
  ·show Ok ((iO (k+1)).2.2 x.args t g fs lo nu re a bl) _
   rw [aap]
   exact Qd hx.1 (fun z hz=>ih z (hx.2.2.2 z hz)) hb (by omega)
end
end Go.Fg.Ytfklooeiipkijaa

