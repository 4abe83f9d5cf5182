/-
  Chapter 11, plain: expressions are lowered.
-/
import Derived.Test.YtmgfidfcioiedaaLq
namespace Go.Fg.Ytmgfidfcioiedaa
open Go.Fw
set_option linter.unusedVariables false
set_option linter.unusedSimpArgs false
structure Bd (k:Nat) (at':Int) (bl:List aH):Prop where
 at0:0≤at'
 QN:at'<bl.length
 len:bl.length≤k
 ins :∀b∈bl,b.instrs.length≤k∧∀i∈b.instrs,i.args.length≤10
theorem Bd.up {k k':Nat} {a:Int} {bl:List aH} (h:Bd k a bl) (hk:k≤k'):Bd k' a bl:=⟨h.at0,h.QN,Nat.le_trans h.len hk,fun b hb=>⟨Nat.le_trans (h.ins b hb).1 hk,(h.ins b hb).2⟩⟩
section
variable {g:List aJ} {fs:List au} {lo:List (List UInt8)} {nu:Int}
theorem mG {β:Type} {k:Nat} {a a' re ln:Int} {bl:List aH} {f} {Q:β→Prop} (h:Bd k a bl) (hk:k≤1000000000) (c :∀gY,gY.length=bl.length+1→Bd (k+1) bl.length gY→Ok (f ((bl.length:Int),g,fs,lo,nu,re,(bl.length:Int),gY)) Q) :
  Ok (Option.bind (f36 ln g fs lo nu re a' bl) f) Q:=by
 have hl:=h.len
 refine goB (fun y =>∃gY,y=((bl.length:Int),g,fs,lo,nu,re,(bl.length:Int),gY)∧gY.length=bl.length+1∧Bd (k+1) bl.length gY) (goC (by unfold bG;simp;omega) (ay ⟨bl++[_],rfl,by simp,⟨by omega,by simp;omega,by simp;omega,fun b hb => ?_⟩⟩)) fun y ⟨gY,e,h1,h2⟩=>by subst e;exact c gY h1 h2
 rcases List.mem_append.1 hb with hb | hb
 ·exact ⟨Nat.le_succ_of_le (h.ins b hb).1,(h.ins b hb).2⟩
 ·rw [List.mem_singleton] at hb;subst hb;exact ⟨Nat.zero_le _,fun i h=>by cases h⟩
theorem EI {β:Type} {k:Nat} {a re p0 p1 p2 p3 p4 p5:Int} {ar:List Int} {bl:List aH} {f} {Q:β→Prop} (h:Bd k a bl) (hk:k≤1000000000) (ha:ar.length≤10) (c :∀gY,gY.length=bl.length→Bd (k+1) a gY→Ok (f (g,fs,lo,nu,re,a,gY)) Q) :
  Ok (Option.bind (f38 p0 p1 p2 p3 p4 p5 ar g fs lo nu re a bl) f) Q:=by
 have hl:=h.len
 have hin:=aA.2 ⟨h.at0,h.QN⟩
 have hx:=h.ins _ (jD aj h.at0 h.QN)
 refine goB (fun y =>∃gY,y=(g,fs,lo,nu,re,a,gY)∧gY.length=bl.length∧Bd (k+1) a gY) ?_ fun y ⟨gY,e,h1,h2⟩=>by subst e;exact c gY h1 h2
 unfold f38
 refine goB (fun y =>∃gY,y=(g,fs,lo,nu,re,a,gY)∧gY.length=bl.length∧Bd (k+1) a gY) ?_ fun y ⟨gY,e,h1,h2⟩=>by subst e;exact goC (by simp [h1]) (ay ⟨gY,rfl,h1,h2⟩)
 refine goC hin (goC ?_ (goC hin (goC (by simp) (ay ⟨_,rfl,by simp,⟨h.at0,by rw [List.length_set];exact h.QN,by rw [List.length_set];omega,fun b hb => ?_⟩⟩))))
 ·show (true&&decide _)=true
  simp only [Bool.true_and,decide_eq_true_eq,List.length_singleton];omega
 ·rcases List.mem_or_eq_of_mem_set hb with hb | hb
  ·exact ⟨Nat.le_succ_of_le (h.ins b hb).1,(h.ins b hb).2⟩
  ·subst hb
   refine ⟨by rw [List.length_append,List.length_singleton];omega,fun i hi => ?_⟩
   rcases List.mem_append.1 hi with hi | hi
   ·exact hx.2 i hi
   ·rw [List.mem_singleton] at hi;subst hi;exact ha
theorem pV {β:Type} {k:Nat} {a re p0 p1 p2 p3 p4:Int} {bl:List aH} {f} {Q:β→Prop} (h:Bd k a bl) (h0:0≤p0) (h1:p0<bl.length) (c :∀gY,gY.length=bl.length→Bd k a gY→Ok (f (g,fs,lo,nu,re,a,gY)) Q) :
  Ok (Option.bind (f39 p0 p1 p2 p3 p4 g fs lo nu re a bl) f) Q:=by
 have hx:=h.ins _ (jD aj h0 h1)
 refine goB (fun y =>∃gY,y=(g,fs,lo,nu,re,a,gY)∧gY.length=bl.length∧Bd k a gY) ?_ fun y ⟨gY,e,h1,h2⟩=>by subst e;exact c gY h1 h2
 unfold f39
 refine goB (fun y =>∃gY,y=(g,fs,lo,nu,re,a,gY)∧gY.length=bl.length∧Bd k a gY) ?_ fun y ⟨gY,e,h1,h2⟩=>by subst e;exact goC (by simp [h1]) (ay ⟨gY,rfl,h1,h2⟩)
 refine goC (aA.2 ⟨h0,h1⟩) (ay ⟨_,rfl,by simp,⟨h.at0,by rw [List.length_set];exact h.QN,by rw [List.length_set];exact h.len,fun b hb => ?_⟩⟩)
 rcases List.mem_or_eq_of_mem_set hb with hb | hb
 ·exact h.ins b hb
 ·subst hb;exact hx
theorem VO {β:Type} {nm:List UInt8} {re a:Int} {bl:List aH} {f} {Q:β→Prop} (hl:lo.length≤1000000) (c :∀q,Ok (f (q,g,fs,lo,nu,re,a,bl)) Q):Ok (Option.bind (f69 nm g fs lo nu re a bl) f) Q:=by
 refine goB (fun y =>∃q,y=(q,g,fs,lo,nu,re,a,bl)) ?_ fun y ⟨q,e⟩=>by subst e;exact c q
 refine goB (fun y =>∃q,y=(q,g,fs,lo,nu,re,a,bl)) ?_ fun y ⟨q,e⟩=>by subst e;exact goK rfl (ay ⟨q,rfl⟩)
 unfold agq
 refine goB (fun y =>∃q,y=(q,g,fs,lo,nu,re,a,bl)) ?_ fun y ⟨q,e⟩=>by subst e;exact goC (by simp) (ay ⟨q,rfl⟩)
 exact pR (fun _=>True) (jJ lo.length (by omega) (fun i h0 h1=>goT (decide_eq_true h1) (goC (aA.2 ⟨h0,h1⟩) (goI (fun _=>ay ⟨_,rfl⟩) fun _=>ay rfl))) (Ee (decide_eq_false (by omega)) (ay trivial))) fun _ _=>ay ⟨_,rfl⟩
def PV (k m:Nat) (g:List aJ) (fs:List au) (lo:List (List UInt8)) (nu:Int) (y:List aJ×List au×List (List UInt8)×Int×Int×Int×List aH):Prop:=
 ∃re a bl,y=(g,fs,lo,nu,re,a,bl)∧m≤bl.length∧Bd k a bl
def CX:Nat→Nat
 |0=>0
 |n+1=>4*CX n+6
theorem goV {β:Type} {rec:XW} {c:Nat} {x:aV} {t a re:Int} {k:Nat} {bl:List aH} {f} {Q:β→Prop} (hr :∀t re a bl k,Bd k a bl→k+c≤1000000000→Ok (rec x.kind x.op x.value x.line x.name x.args t g fs lo nu re a bl) (PV (k+c) bl.length g fs lo nu))
  (h:Bd k a bl) (hk:k+c≤1000000000) (q :∀re' a' gY,bl.length≤gY.length→Bd (k+c) a' gY→Ok (f (g,fs,lo,nu,re',a',gY)) Q):Ok (Option.bind (rec x.kind x.op x.value x.line x.name x.args t g fs lo nu re a bl) f) Q:=
 goB _ (hr t re a bl k h hk) fun y ⟨re',a',gY,e,h1,h2⟩=>by subst e;exact q re' a' gY h1 h2
theorem XM {rec:XW} {rec':T85} {sQ:T86} {n:Nat} {p0 p1 p2 p3 t re a:Int} {p4:List UInt8} {ar:List aV} (har:2≤ar.length∧ar.length≤4)
  (hr :∀x∈ar,∀t re a bl k,Bd k a bl→k+CX n≤1000000000→Ok (rec x.kind x.op x.value x.line x.name x.args t g fs lo nu re a bl) (PV (k+CX n) bl.length g fs lo nu))
  {bl:List aH} {k:Nat} (h:Bd k a bl) (hk:k+CX (n+1)≤1000000000):Ok (ac8 rec rec' sQ p0 p1 p2 p3 p4 ar t g fs lo nu re a bl) (PV (k+CX (n+1)) bl.length g fs lo nu):=by
 have hc:CX (n+1)=4*CX n+6:=rfl
 have m0:ar.getD (Int.toNat 0) gG∈ar:=jD gG (by omega) (by omega)
 have m1:ar.getD (Int.toNat 1) gG∈ar:=jD gG (by omega) (by omega)
 unfold ac8
 refine goC (aA.2 ⟨by omega,by omega⟩) (goV (hr _ m0) h (by omega) fun re1 a1 b1 l1 h1=>mG h1 (by omega) fun b2 l2 h2=>goC (aA.2 ⟨by omega,by omega⟩) (goV (hr _ m1) h2 (by omega) fun re3 a3 b3 l3 h3=>mG h3 (by omega) fun b4 l4 h4=>EI h4 (by omega) (by simp) fun b5 l5 h5=>mG h5 (by omega) fun b6 l6 h6=>EI h6 (by omega) (by simp) fun b7 l7 h7=>mG h7 (by omega) fun b8 l8 h8 => ?_))
 simp only at l1 l2 l3 l4 l5 l6 l7 l8
 refine pV h8 h3.at0 (by have:=h3.QN;simp only;omega) fun b9 l9 h9=>goB (fun y =>∃gY,y=(g,fs,lo,nu,re3,(b7.length:Int),gY)∧gY.length=b9.length∧Bd (k+CX n+1+CX n+1+1+1+1+1) b7.length gY) ?_ fun y ⟨b10,e,l10,h10⟩ => ?_
 ·exact goI (fun _=>pV h9 h1.at0 (by have:=h1.QN;simp only at l9 ⊢;omega) fun b l h=>ay ⟨b,rfl,l,h⟩) fun _=>pV h9 h1.at0 (by have:=h1.QN;simp only at l9 ⊢;omega) fun b l h=>ay ⟨b,rfl,l,h⟩
 subst e
 simp only at l9
 exact pV h10 (by simp only;omega) (by simp only;omega) fun b11 l11 h11=>pV h11 (by simp only;omega) (by simp only at l11 ⊢;omega) fun b12 l12 h12=>ay ⟨_,_,b12,rfl,by simp only at l11 l12;omega,h12.up (by omega)⟩
theorem Qy {rec:XW} {rec':T85} {sQ:T86} {n:Nat} {t re a:Int} {ar:List aV} (har:ar.length≤4)
  (hr :∀x∈ar,∀t re a bl k,Bd k a bl→k+CX n≤1000000000→Ok (rec x.kind x.op x.value x.line x.name x.args t g fs lo nu re a bl) (PV (k+CX n) bl.length g fs lo nu))
  {bl:List aH} {k:Nat} (h:Bd k a bl) (hk:k+4*CX n≤1000000000):Ok (ac9 rec rec' sQ ar t g fs lo nu re a bl) fun y =>∃re a rs gY,y=(g,fs,lo,nu,re,a,rs,gY)∧rs.length=ar.length∧bl.length≤gY.length∧Bd (k+4*CX n) a gY:=by
 unfold ac9
 refine goB (fun y =>∃re a rs gY,y=(g,fs,lo,nu,re,a,rs,gY)∧rs.length=ar.length∧bl.length≤gY.length∧Bd (k+4*CX n) a gY) ?_ fun y ⟨re,a,rs,gY,e,h⟩=>by subst e;exact ay ⟨re,a,rs,gY,rfl,h⟩
 refine aZ (fun s:Int×List aJ×List au×List (List UInt8)×Int×Int×Int×List Int×List aH =>∃q:Nat,∃re a rs gY,s=((q:Int),g,fs,lo,nu,re,a,rs,gY)∧rs.length=q∧q≤ar.length∧bl.length≤gY.length∧Bd (k+q*CX n) a gY) (fun s=>(ar.length-s.1).toNat)
  ⟨0,re,a,[],bl,rfl,rfl,by omega,Nat.le_refl _,h.up (by omega)⟩ fun s ⟨q,re,a,rs,gY,e,h1,h2,h3,h4⟩ => ?_
 subst e
 refine goI (fun hc => ?_) fun hc=>ay ⟨re,a,rs,gY,rfl,?_,h3,h4.up (Nat.add_le_add_left (Nat.mul_le_mul_right _ (by omega)) _)⟩
 rotate_left
 ·have hc:¬ (q:Int)<ar.length:=by simpa using hc
  omega
 have hc:(q:Int)<ar.length:=by simpa using hc
 have hm:=NC (CX n) (show q<4 by omega)
 refine goC (aA.2 ⟨by simp only;omega,hc⟩) (goV (hr _ (jD gG (by omega) hc)) h4 (by omega) fun re' a' bl2 l2 h5=>goC (by unfold bG;simp;omega) (ay ⟨⟨q+1,re',a',rs++[bW (t+q)],bl2,?_,?_,by omega,by simp only at l2;omega,?_⟩,?_⟩))
 ·show (bW ((q:Int)+1),_)=_
  rw [aK (by omega)];rfl
 ·simp [h1]
 ·exact h5.up (by omega)
 ·show ((ar.length:Int)-bW ((q:Int)+1)).toNat<((ar.length:Int)-q).toNat
  rw [aK (by omega)];omega
theorem rH {k m:Nat} {x:Option (List aJ×List au×List (List UInt8)×Int×Int×Int×List aH)} (h:Ok x (PV k m g fs lo nu)):Ok (Option.bind x fun s=>some (s.1,s.2.1,s.2.2.1,s.2.2.2.1,s.2.2.2.2.1,s.2.2.2.2.2.1,s.2.2.2.2.2.2)) (PV k m g fs lo nu):=
 goB _ h fun y ⟨re,a,bl,e,h⟩=>by subst e;exact ay ⟨re,a,bl,rfl,h⟩
theorem TY {rec:XW} {rec':T85} {sQ:T86} {n:Nat} (hS:Sc g fs lo) {x:aV} (hx:WE 4 (n+1) x) {t re a:Int} {bl:List aH} {k:Nat} (h:Bd k a bl) (hk:k+CX (n+1)≤1000000000)
  (hl:2≤x.args.length→∀re,Ok (rec' x.kind x.op x.value x.line x.name x.args t g fs lo nu re a bl) (PV (k+CX (n+1)) bl.length g fs lo nu))
  (hv :∀re,Ok (sQ x.args t g fs lo nu re a bl) fun y =>∃re a rs gY,y=(g,fs,lo,nu,re,a,rs,gY)∧rs.length=x.args.length∧bl.length≤gY.length∧Bd (k+4*CX n) a gY) :
  Ok (ac7 rec rec' sQ x.kind x.op x.value x.line x.name x.args t g fs lo nu re a bl) (PV (k+CX (n+1)) bl.length g fs lo nu):=by
 have hc:CX (n+1)=4*CX n+6:=rfl
 obtain ⟨w1,w2,w3,w4⟩:=hx
 unfold ac7
 refine goB (fun s=>s=true→x.kind=7∨x.kind=8) ?_ fun s hs=>goI (fun e=>rH (hl (w2 (hs e)) _)) fun _=>goB _ (hv _) fun y ⟨re,a,rs,gY,e,l1,l2,h'⟩ => ?_
 ·exact goI (fun e=>ay fun _=>.inl (by simpa using e)) fun _=>ay fun e=>.inr (by simpa using e)
 subst e
 have put :∀{p0 p1 p2 p3 p4 p5:Int} {ar:List Int},ar.length≤10→Ok (f38 p0 p1 p2 p3 p4 p5 ar g fs lo nu re a gY) (PV (k+CX (n+1)) bl.length g fs lo nu):=fun {p0 p1 p2 p3 p4 p5 ar} har=>by
  have:=EI (g:=g) (fs:=fs) (lo:=lo) (nu:=nu) (re:=re) (p0:=p0) (p1:=p1) (p2:=p2) (p3:=p3) (p4:=p4) (p5:=p5) (ar:=ar) (f:=some) (Q:=PV (k+CX (n+1)) bl.length g fs lo nu) h' (by omega) har fun b l h=>ay ⟨re,a,b,rfl,by omega,h.up (by omega)⟩
  rwa [show∀z:Option (List aJ×List au×List (List UInt8)×Int×Int×Int×List aH),Option.bind z some=z from fun z=>by cases z<;>rfl] at this
 refine rH (goI (fun _=>rH (put (by simp))) fun _=>rH (goI (fun _=>VO hS.lo fun q=>rH (put (by simp))) fun _=>rH (goI (fun _=>goB _ (uJ hS.g) fun _ _=>rH (put (by simp))) fun _=>rH (goI (fun _=>goB _ (uJ hS.g) fun _ _=>rH (put (by simp))) fun _=>
  rH (goI (fun _=>rH (put (by simp))) fun _=>rH (goI (fun _=>rH (put (by simp))) fun _=>rH (goI (fun _=>goB _ (Fz hS.f) fun _ _=>rH (put (by simp only;omega))) fun _=>rH (goI (fun e => ?_) fun _=>rH (goI (fun _=>goB _ (Fz hS.f) fun _ _=>rH (put (by simp))) fun _=>rH (goI (fun _=>rH (put (by simp))) fun _=>ay ⟨re,a,gY,rfl,l2,h'.up (by omega)⟩))))))))))
 have:=w3 (by simpa using e)
 exact goC (AY.2 ⟨⟨by omega,by simp only;omega⟩,by simp only;omega⟩) (rH (put (by simp;omega)))
theorem aa5 (n:Nat):(iL (n+1)).1=ac7 (aai n) (agw n) (agx n):=rfl
theorem aa6 (n:Nat):(iL (n+1)).2.1=ac8 (aai n) (agw n) (agx n):=rfl
theorem aa7 (n:Nat):(iL (n+1)).2.2=ac9 (aai n) (agw n) (agx n):=rfl
theorem VP (hS:Sc g fs lo) :∀n k:Nat,2*n≤k→∀x,WE 4 n x→∀t re a bl q,Bd q a bl→q+CX n≤1000000000→Ok (aai k x.kind x.op x.value x.line x.name x.args t g fs lo nu re a bl) (PV (q+CX n) bl.length g fs lo nu)
 |0,_,_=>fun _ h=>h.elim
 |n+1,0,hk=>by omega
 |n+1,1,hk=>by omega
 |n+1,k+2,hk=>fun x hx t re a bl q hb hq=>by
  have ih:=VP hS n k (by omega)
  have hc:CX (n+1)=4*CX n+6:=rfl
  show Ok ((iL (k+2)).1 x.kind x.op x.value x.line x.name x.args t g fs lo nu re a bl) _
  rw [aa5]
  refine TY hS hx hb hq (fun h2 re => ?_) fun re => ?_
  ·show Ok ((iL (k+1)).2.1 x.kind x.op x.value x.line x.name x.args t g fs lo nu re a bl) _
   rw [aa6]
   exact XM ⟨h2,hx.1⟩ (fun z hz=>ih z (hx.2.2.2 z hz)) hb hq
  ·show Ok ((iL (k+1)).2.2 x.args t g fs lo nu re a bl) _
   rw [aa7]
   exact Qy hx.1 (fun z hz=>ih z (hx.2.2.2 z hz)) hb (by omega)
end
end Go.Fg.Ytmgfidfcioiedaa

