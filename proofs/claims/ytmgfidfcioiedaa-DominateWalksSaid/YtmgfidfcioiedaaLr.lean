/-
  Chapter 11, plain: expressions are lowered.
-/
import Derived.Test.YtmgfidfcioiedaaLq
namespace Go.Fg.Ytmgfidfcioiedaa
open Go.Fw
set_option linter.unusedVariables false
set_option linter.unusedSimpArgs false
structure Bd (k:Nat) (at':Int) (bl:List aG):Prop where
 at0:0≤at'
 QF:at'<bl.length
 len:bl.length≤k
 ins :∀b∈bl,b.instrs.length≤k∧∀i∈b.instrs,i.args.length≤10
theorem Bd.up {k k':Nat} {a:Int} {bl:List aG} (h:Bd k a bl) (hk:k≤k'):Bd k' a bl:=⟨h.at0,h.QF,Nat.le_trans h.len hk,fun b hb=>⟨Nat.le_trans (h.ins b hb).1 hk,(h.ins b hb).2⟩⟩
section
variable {g:List aI} {fs:List aj} {lo:List (List UInt8)} {nu:Int}
theorem mg {β:Type} {k:Nat} {a a' re ln:Int} {bl:List aG} {f} {Q:β→Prop} (h:Bd k a bl) (hk:k≤1000000000) (c :∀gX,gX.length=bl.length+1→Bd (k+1) bl.length gX→Ok (f ((bl.length:Int),g,fs,lo,nu,re,(bl.length:Int),gX)) Q) :
  Ok (Option.bind (f36 ln g fs lo nu re a' bl) f) Q:=by
 have hl:=h.len
 refine goB (fun y =>∃gX,y=((bl.length:Int),g,fs,lo,nu,re,(bl.length:Int),gX)∧gX.length=bl.length+1∧Bd (k+1) bl.length gX) (goC (by unfold bG;simp;omega) (aA ⟨bl++[_],rfl,by simp,⟨by omega,by simp;omega,by simp;omega,fun b hb => ?_⟩⟩)) fun y ⟨gX,e,h1,h2⟩=>by subst e;exact c gX h1 h2
 rcases List.mem_append.1 hb with hb | hb
 ·exact ⟨Nat.le_succ_of_le (h.ins b hb).1,(h.ins b hb).2⟩
 ·rw [List.mem_singleton] at hb;subst hb;exact ⟨Nat.zero_le _,fun i h=>by cases h⟩
theorem Ez {β:Type} {k:Nat} {a re p0 p1 p2 p3 p4 p5:Int} {ar:List Int} {bl:List aG} {f} {Q:β→Prop} (h:Bd k a bl) (hk:k≤1000000000) (ha:ar.length≤10) (c :∀gX,gX.length=bl.length→Bd (k+1) a gX→Ok (f (g,fs,lo,nu,re,a,gX)) Q) :
  Ok (Option.bind (f38 p0 p1 p2 p3 p4 p5 ar g fs lo nu re a bl) f) Q:=by
 have hl:=h.len
 have hin:=au.2 ⟨h.at0,h.QF⟩
 have hx:=h.ins _ (jC ah h.at0 h.QF)
 refine goB (fun y =>∃gX,y=(g,fs,lo,nu,re,a,gX)∧gX.length=bl.length∧Bd (k+1) a gX) ?_ fun y ⟨gX,e,h1,h2⟩=>by subst e;exact c gX h1 h2
 unfold f38
 refine goB (fun y =>∃gX,y=(g,fs,lo,nu,re,a,gX)∧gX.length=bl.length∧Bd (k+1) a gX) ?_ fun y ⟨gX,e,h1,h2⟩=>by subst e;exact goC (by simp [h1]) (aA ⟨gX,rfl,h1,h2⟩)
 refine goC hin (goC ?_ (goC hin (goC (by simp) (aA ⟨_,rfl,by simp,⟨h.at0,by rw [List.length_set];exact h.QF,by rw [List.length_set];omega,fun b hb => ?_⟩⟩))))
 ·show (true&&decide _)=true
  simp only [Bool.true_and,decide_eq_true_eq,List.length_singleton];omega
 ·rcases List.mem_or_eq_of_mem_set hb with hb | hb
  ·exact ⟨Nat.le_succ_of_le (h.ins b hb).1,(h.ins b hb).2⟩
  ·subst hb
   refine ⟨by rw [List.length_append,List.length_singleton];omega,fun i hi => ?_⟩
   rcases List.mem_append.1 hi with hi | hi
   ·exact hx.2 i hi
   ·rw [List.mem_singleton] at hi;subst hi;exact ha
theorem pK {β:Type} {k:Nat} {a re p0 p1 p2 p3 p4:Int} {bl:List aG} {f} {Q:β→Prop} (h:Bd k a bl) (h0:0≤p0) (h1:p0<bl.length) (c :∀gX,gX.length=bl.length→Bd k a gX→Ok (f (g,fs,lo,nu,re,a,gX)) Q) :
  Ok (Option.bind (f39 p0 p1 p2 p3 p4 g fs lo nu re a bl) f) Q:=by
 have hx:=h.ins _ (jC ah h0 h1)
 refine goB (fun y =>∃gX,y=(g,fs,lo,nu,re,a,gX)∧gX.length=bl.length∧Bd k a gX) ?_ fun y ⟨gX,e,h1,h2⟩=>by subst e;exact c gX h1 h2
 unfold f39
 refine goB (fun y =>∃gX,y=(g,fs,lo,nu,re,a,gX)∧gX.length=bl.length∧Bd k a gX) ?_ fun y ⟨gX,e,h1,h2⟩=>by subst e;exact goC (by simp [h1]) (aA ⟨gX,rfl,h1,h2⟩)
 refine goC (au.2 ⟨h0,h1⟩) (aA ⟨_,rfl,by simp,⟨h.at0,by rw [List.length_set];exact h.QF,by rw [List.length_set];exact h.len,fun b hb => ?_⟩⟩)
 rcases List.mem_or_eq_of_mem_set hb with hb | hb
 ·exact h.ins b hb
 ·subst hb;exact hx
theorem VH {β:Type} {nm:List UInt8} {re a:Int} {bl:List aG} {f} {Q:β→Prop} (hl:lo.length≤1000000) (c :∀q,Ok (f (q,g,fs,lo,nu,re,a,bl)) Q):Ok (Option.bind (f69 nm g fs lo nu re a bl) f) Q:=by
 refine goB (fun y =>∃q,y=(q,g,fs,lo,nu,re,a,bl)) ?_ fun y ⟨q,e⟩=>by subst e;exact c q
 refine goB (fun y =>∃q,y=(q,g,fs,lo,nu,re,a,bl)) ?_ fun y ⟨q,e⟩=>by subst e;exact goK rfl (aA ⟨q,rfl⟩)
 unfold agi
 refine goB (fun y =>∃q,y=(q,g,fs,lo,nu,re,a,bl)) ?_ fun y ⟨q,e⟩=>by subst e;exact goC (by simp) (aA ⟨q,rfl⟩)
 exact qZ (fun _=>True) (nC lo.length (by omega) (fun i h0 h1=>goT (decide_eq_true h1) (goC (au.2 ⟨h0,h1⟩) (goI (fun _=>aA ⟨_,rfl⟩) fun _=>aA rfl))) (EN (decide_eq_false (by omega)) (aA trivial))) fun _ _=>aA ⟨_,rfl⟩
def PV (k m:Nat) (g:List aI) (fs:List aj) (lo:List (List UInt8)) (nu:Int) (y:List aI×List aj×List (List UInt8)×Int×Int×Int×List aG):Prop:=
 ∃re a bl,y=(g,fs,lo,nu,re,a,bl)∧m≤bl.length∧Bd k a bl
def CX:Nat→Nat
 |0=>0
 |n+1=>4*CX n+6
theorem goV {β:Type} {rec:XO} {c:Nat} {x:aU} {t a re:Int} {k:Nat} {bl:List aG} {f} {Q:β→Prop} (hr :∀t re a bl k,Bd k a bl→k+c≤1000000000→Ok (rec x.kind x.op x.value x.line x.name x.args t g fs lo nu re a bl) (PV (k+c) bl.length g fs lo nu))
  (h:Bd k a bl) (hk:k+c≤1000000000) (q :∀re' a' gX,bl.length≤gX.length→Bd (k+c) a' gX→Ok (f (g,fs,lo,nu,re',a',gX)) Q):Ok (Option.bind (rec x.kind x.op x.value x.line x.name x.args t g fs lo nu re a bl) f) Q:=
 goB _ (hr t re a bl k h hk) fun y ⟨re',a',gX,e,h1,h2⟩=>by subst e;exact q re' a' gX h1 h2
theorem XF {rec:XO} {rec':T85} {sK:T86} {n:Nat} {p0 p1 p2 p3 t re a:Int} {p4:List UInt8} {ar:List aU} (har:2≤ar.length∧ar.length≤4)
  (hr :∀x∈ar,∀t re a bl k,Bd k a bl→k+CX n≤1000000000→Ok (rec x.kind x.op x.value x.line x.name x.args t g fs lo nu re a bl) (PV (k+CX n) bl.length g fs lo nu))
  {bl:List aG} {k:Nat} (h:Bd k a bl) (hk:k+CX (n+1)≤1000000000):Ok (acY rec rec' sK p0 p1 p2 p3 p4 ar t g fs lo nu re a bl) (PV (k+CX (n+1)) bl.length g fs lo nu):=by
 have hc:CX (n+1)=4*CX n+6:=rfl
 have m0:ar.getD (Int.toNat 0) gB∈ar:=jC gB (by omega) (by omega)
 have m1:ar.getD (Int.toNat 1) gB∈ar:=jC gB (by omega) (by omega)
 unfold acY
 refine goC (au.2 ⟨by omega,by omega⟩) (goV (hr _ m0) h (by omega) fun re1 a1 b1 l1 h1=>mg h1 (by omega) fun b2 l2 h2=>goC (au.2 ⟨by omega,by omega⟩) (goV (hr _ m1) h2 (by omega) fun re3 a3 b3 l3 h3=>mg h3 (by omega) fun b4 l4 h4=>Ez h4 (by omega) (by simp) fun b5 l5 h5=>mg h5 (by omega) fun b6 l6 h6=>Ez h6 (by omega) (by simp) fun b7 l7 h7=>mg h7 (by omega) fun b8 l8 h8 => ?_))
 simp only at l1 l2 l3 l4 l5 l6 l7 l8
 refine pK h8 h3.at0 (by have:=h3.QF;simp only;omega) fun b9 l9 h9=>goB (fun y =>∃gX,y=(g,fs,lo,nu,re3,(b7.length:Int),gX)∧gX.length=b9.length∧Bd (k+CX n+1+CX n+1+1+1+1+1) b7.length gX) ?_ fun y ⟨b10,e,l10,h10⟩ => ?_
 ·exact goI (fun _=>pK h9 h1.at0 (by have:=h1.QF;simp only at l9 ⊢;omega) fun b l h=>aA ⟨b,rfl,l,h⟩) fun _=>pK h9 h1.at0 (by have:=h1.QF;simp only at l9 ⊢;omega) fun b l h=>aA ⟨b,rfl,l,h⟩
 subst e
 simp only at l9
 exact pK h10 (by simp only;omega) (by simp only;omega) fun b11 l11 h11=>pK h11 (by simp only;omega) (by simp only at l11 ⊢;omega) fun b12 l12 h12=>aA ⟨_,_,b12,rfl,by simp only at l11 l12;omega,h12.up (by omega)⟩
theorem Qq {rec:XO} {rec':T85} {sK:T86} {n:Nat} {t re a:Int} {ar:List aU} (har:ar.length≤4)
  (hr :∀x∈ar,∀t re a bl k,Bd k a bl→k+CX n≤1000000000→Ok (rec x.kind x.op x.value x.line x.name x.args t g fs lo nu re a bl) (PV (k+CX n) bl.length g fs lo nu))
  {bl:List aG} {k:Nat} (h:Bd k a bl) (hk:k+4*CX n≤1000000000):Ok (acZ rec rec' sK ar t g fs lo nu re a bl) fun y =>∃re a rs gX,y=(g,fs,lo,nu,re,a,rs,gX)∧rs.length=ar.length∧bl.length≤gX.length∧Bd (k+4*CX n) a gX:=by
 unfold acZ
 refine goB (fun y =>∃re a rs gX,y=(g,fs,lo,nu,re,a,rs,gX)∧rs.length=ar.length∧bl.length≤gX.length∧Bd (k+4*CX n) a gX) ?_ fun y ⟨re,a,rs,gX,e,h⟩=>by subst e;exact aA ⟨re,a,rs,gX,rfl,h⟩
 refine bf (fun s:Int×List aI×List aj×List (List UInt8)×Int×Int×Int×List Int×List aG =>∃q:Nat,∃re a rs gX,s=((q:Int),g,fs,lo,nu,re,a,rs,gX)∧rs.length=q∧q≤ar.length∧bl.length≤gX.length∧Bd (k+q*CX n) a gX) (fun s=>(ar.length-s.1).toNat)
  ⟨0,re,a,[],bl,rfl,rfl,by omega,Nat.le_refl _,h.up (by omega)⟩ fun s ⟨q,re,a,rs,gX,e,h1,h2,h3,h4⟩ => ?_
 subst e
 refine goI (fun hc => ?_) fun hc=>aA ⟨re,a,rs,gX,rfl,?_,h3,h4.up (Nat.add_le_add_left (Nat.mul_le_mul_right _ (by omega)) _)⟩
 rotate_left
 ·have hc:¬ (q:Int)<ar.length:=by simpa using hc
  omega
 have hc:(q:Int)<ar.length:=by simpa using hc
 have hm:=Nr (CX n) (show q<4 by omega)
 refine goC (au.2 ⟨by simp only;omega,hc⟩) (goV (hr _ (jC gB (by omega) hc)) h4 (by omega) fun re' a' bl2 l2 h5=>goC (by unfold bG;simp;omega) (aA ⟨⟨q+1,re',a',rs++[bW (t+q)],bl2,?_,?_,by omega,by simp only at l2;omega,?_⟩,?_⟩))
 ·show (bW ((q:Int)+1),_)=_
  rw [aJ (by omega)];rfl
 ·simp [h1]
 ·exact h5.up (by omega)
 ·show ((ar.length:Int)-bW ((q:Int)+1)).toNat<((ar.length:Int)-q).toNat
  rw [aJ (by omega)];omega
theorem rE {k m:Nat} {x:Option (List aI×List aj×List (List UInt8)×Int×Int×Int×List aG)} (h:Ok x (PV k m g fs lo nu)):Ok (Option.bind x fun s=>some (s.1,s.2.1,s.2.2.1,s.2.2.2.1,s.2.2.2.2.1,s.2.2.2.2.2.1,s.2.2.2.2.2.2)) (PV k m g fs lo nu):=
 goB _ h fun y ⟨re,a,bl,e,h⟩=>by subst e;exact aA ⟨re,a,bl,rfl,h⟩
theorem TG {rec:XO} {rec':T85} {sK:T86} {n:Nat} (hS:Sc g fs lo) {x:aU} (hx:WE 4 (n+1) x) {t re a:Int} {bl:List aG} {k:Nat} (h:Bd k a bl) (hk:k+CX (n+1)≤1000000000)
  (hl:2≤x.args.length→∀re,Ok (rec' x.kind x.op x.value x.line x.name x.args t g fs lo nu re a bl) (PV (k+CX (n+1)) bl.length g fs lo nu))
  (hv :∀re,Ok (sK x.args t g fs lo nu re a bl) fun y =>∃re a rs gX,y=(g,fs,lo,nu,re,a,rs,gX)∧rs.length=x.args.length∧bl.length≤gX.length∧Bd (k+4*CX n) a gX) :
  Ok (acX rec rec' sK x.kind x.op x.value x.line x.name x.args t g fs lo nu re a bl) (PV (k+CX (n+1)) bl.length g fs lo nu):=by
 have hc:CX (n+1)=4*CX n+6:=rfl
 obtain ⟨w1,w2,w3,w4⟩:=hx
 unfold acX
 refine goB (fun s=>s=true→x.kind=7∨x.kind=8) ?_ fun s hs=>goI (fun e=>rE (hl (w2 (hs e)) _)) fun _=>goB _ (hv _) fun y ⟨re,a,rs,gX,e,l1,l2,h'⟩ => ?_
 ·exact goI (fun e=>aA fun _=>.inl (by simpa using e)) fun _=>aA fun e=>.inr (by simpa using e)
 subst e
 have put :∀{p0 p1 p2 p3 p4 p5:Int} {ar:List Int},ar.length≤10→Ok (f38 p0 p1 p2 p3 p4 p5 ar g fs lo nu re a gX) (PV (k+CX (n+1)) bl.length g fs lo nu):=fun {p0 p1 p2 p3 p4 p5 ar} har=>by
  have:=Ez (g:=g) (fs:=fs) (lo:=lo) (nu:=nu) (re:=re) (p0:=p0) (p1:=p1) (p2:=p2) (p3:=p3) (p4:=p4) (p5:=p5) (ar:=ar) (f:=some) (Q:=PV (k+CX (n+1)) bl.length g fs lo nu) h' (by omega) har fun b l h=>aA ⟨re,a,b,rfl,by omega,h.up (by omega)⟩
  rwa [show∀z:Option (List aI×List aj×List (List UInt8)×Int×Int×Int×List aG),Option.bind z some=z from fun z=>by cases z<;>rfl] at this
 refine rE (goI (fun _=>rE (put (by simp))) fun _=>rE (goI (fun _=>VH hS.lo fun q=>rE (put (by simp))) fun _=>rE (goI (fun _=>goB _ (uH hS.g) fun _ _=>rE (put (by simp))) fun _=>rE (goI (fun _=>goB _ (uH hS.g) fun _ _=>rE (put (by simp))) fun _=>
  rE (goI (fun _=>rE (put (by simp))) fun _=>rE (goI (fun _=>rE (put (by simp))) fun _=>rE (goI (fun _=>goB _ (Fp hS.f) fun _ _=>rE (put (by simp only;omega))) fun _=>rE (goI (fun e => ?_) fun _=>rE (goI (fun _=>goB _ (Fp hS.f) fun _ _=>rE (put (by simp))) fun _=>rE (goI (fun _=>rE (put (by simp))) fun _=>aA ⟨re,a,gX,rfl,l2,h'.up (by omega)⟩))))))))))
 have:=w3 (by simpa using e)
 exact goC (AQ.2 ⟨⟨by omega,by simp only;omega⟩,by simp only;omega⟩) (rE (put (by simp;omega)))
theorem aaX (n:Nat):(iL (n+1)).1=acX (aac n) (agp n) (agq n):=rfl
theorem aaY (n:Nat):(iL (n+1)).2.1=acY (aac n) (agp n) (agq n):=rfl
theorem aaZ (n:Nat):(iL (n+1)).2.2=acZ (aac n) (agp n) (agq n):=rfl
theorem VI (hS:Sc g fs lo) :∀n k:Nat,2*n≤k→∀x,WE 4 n x→∀t re a bl q,Bd q a bl→q+CX n≤1000000000→Ok (aac k x.kind x.op x.value x.line x.name x.args t g fs lo nu re a bl) (PV (q+CX n) bl.length g fs lo nu)
 |0,_,_=>fun _ h=>h.elim
 |n+1,0,hk=>by omega
 |n+1,1,hk=>by omega
 |n+1,k+2,hk=>fun x hx t re a bl q hb hq=>by
  have ih:=VI hS n k (by omega)
  have hc:CX (n+1)=4*CX n+6:=rfl
  show Ok ((iL (k+2)).1 x.kind x.op x.value x.line x.name x.args t g fs lo nu re a bl) _
  rw [aaX]
  refine TG hS hx hb hq (fun h2 re => ?_) fun re => ?_
  ·show Ok ((iL (k+1)).2.1 x.kind x.op x.value x.line x.name x.args t g fs lo nu re a bl) _
   rw [aaY]
   exact XF ⟨h2,hx.1⟩ (fun z hz=>ih z (hx.2.2.2 z hz)) hb hq
  ·show Ok ((iL (k+1)).2.2 x.args t g fs lo nu re a bl) _
   rw [aaZ]
   exact Qq hx.1 (fun z hz=>ih z (hx.2.2.2 z hz)) hb (by omega)
end
end Go.Fg.Ytmgfidfcioiedaa

