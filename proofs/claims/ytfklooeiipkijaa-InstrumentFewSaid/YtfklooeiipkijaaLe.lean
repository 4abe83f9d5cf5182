/-
  Chapter 21, plain: the tree of a function whose blocks are all reached.
-/
import Derived.Test.YtfklooeiipkijaaLd
namespace Go.Fg.Ytfklooeiipkijaa
open Go.Fw
set_option linter.unusedVariables false
set_option linter.unusedSimpArgs false
theorem aiq {g:List Int} {N:Nat} (hl:g.length=N) (h :∀z,z<N→g.getD z 0=z):UF g (fun z=>z) (fun _=>0):=by
 refine ⟨fun x hx => ?_,fun x hx=>hx,fun x hx => ?_,fun x hx => ?_,fun x hx _=>rfl,fun x hx=>rfl,fun x hx _=>h x (by omega)⟩
 ·rw [h x (by omega)];omega
 ·rw [h x (by omega)];simp
 ·intro hne;exact absurd (h x (by omega)) hne
theorem PZ {bs:List ak} {j:Nat} (h:j<(bD bs).length):(b_ bs).getD j (bY.mk 0 0)=jA bs (bD bs)[j]:=by
 unfold b_
 rw [List.getD_eq_getElem?_getD,List.getElem?_append_left (by rw [List.length_map];exact h),List.getElem?_map,List.getElem?_eq_getElem h];rfl
theorem ML {bs:List ak} {j:Nat} (h1:(bD bs).length≤j) (h2:j-(bD bs).length<(uJ bs).length):(b_ bs).getD j (bY.mk 0 0)=(uJ bs)[j-(bD bs).length]:=by
 unfold b_
 rw [List.getD_eq_getElem?_getD,List.getElem?_append_right (by rw [List.length_map];exact h1)]
 simp only [List.length_map]
 rw [List.getElem?_eq_getElem h2];rfl
theorem adv {nm:List UInt8} {a b:Int} {bs:List ak} (hl:bs.length≤1000000) (h0:0<bs.length) (hE:Ends bs) (hC:WY bs) :
  Ok (f21 nm a b bs) fun ins=>ins.length=(b_ bs).length∧(ins.take (bD bs).length).count true+wS bs=bs.length:=by
 have hw:=xH (nm:=nm) (a:=a) (b:=b) hl
 obtain ⟨w1,hw1⟩:=Sm bs
 have hW:0<(bD bs).length:=by rw [hw1];simp
 obtain ⟨es1,es2,es3⟩:=Ce bs.length bs 0
 have es3:(uJ bs).length=wS bs:=es3
 have hr:wS bs≤bs.length:=List.countP_le_length
 have hLL:(b_ bs).length=(bD bs).length+wS bs:=by unfold b_;rw [List.length_append,List.length_map,es3]
 have hin:=ZX hE h0
 generalize hN:bs.length+1=N at hin
 have hNi:dI ((bs.length:Int)+1)=N:=by rw [aP (by omega)];omega
 unfold f21
 dsimp only
 rw [hNi]
 refine goC (Au.2 (by omega)) ?_
 refine goB (fun g=>g.length=N∧∀z,z<N→g.getD z 0=z) ?_ fun g ⟨g1,g2⟩ => ?_
 ·refine bQ (fun s:Int×List Int =>∃i:Nat,s.1=i∧i≤N∧s.2.length=N∧∀z,z<i→s.2.getD z 0=z) (fun s=>N-s.1.toNat) ⟨0,rfl,by omega,by simp,by simp⟩ fun s ⟨i,e1,e2,e3,e4⟩ => ?_
  obtain ⟨i',m⟩:=s
  simp only at e1 e3 e4
  subst e1
  refine goI (fun hi => ?_) (fun hi=>aC ⟨e3,fun z hz=>e4 z ?_⟩)
  ·simp at hi
   refine goC (aG.2 ⟨by simp only;omega,by simp only;omega⟩) (aC ⟨⟨i+1,by rw [aP (by simp only;omega)];simp,by omega,by simp [e3],fun z hz => ?_⟩,by simp only;rw [aP (by omega)];omega⟩)
   simp only [Int.toNat_natCast]
   rw [je (by omega)]
   split
   ·rename_i e;rw [e]
   ·exact e4 z (by omega)
  ·simp at hi;omega
 refine goB (fun y=>y=(((bD bs).length:Int),b_ bs)) (yg (ZV hl h0) (yg hw.1 (aC rfl))) fun s12 alJ => ?_
 subst alJ
 refine goC (Au.2 (by simp only;omega)) ?_
 have hrep:(List.replicate ((((b_ bs).length:Nat):Int)).toNat false).length=(b_ bs).length:=by simp
 have af2:Laid (b_ bs) N (fun _=>False) (List.replicate ((((b_ bs).length:Nat):Int)).toNat false) (fun z=>z):=by
  refine ⟨hrep,fun j hj _ => ?_,?_,fun j hj h=>h.elim⟩
  ·rw [getD_at _ (by rw [hrep];exact hj)];simp
  ·rw [PU];simp [List.count_replicate]
 have ge :∀j,(bD bs).length≤j→(hj:j<(b_ bs).length)→∃h':j-(bD bs).length<(uJ bs).length,(b_ bs).getD j (bY.mk 0 0)=(uJ bs)[j-(bD bs).length]:=by
  intro j h1 hj
  have h':j-(bD bs).length<(uJ bs).length:=by rw [es3];omega
  exact ⟨h',ML h1 h'⟩
 have fe :∀j,(bD bs).length≤j→j<(b_ bs).length→fr (b_ bs) j<bs.length∧to (b_ bs) j=bs.length:=by
  intro j h1 hj
  obtain ⟨h',e⟩:=ge j h1 hj
  obtain ⟨q,q1,q2,q3⟩:=es1 _ (List.getElem_mem h')
  have q3:(uJ bs)[j-(bD bs).length]=bY.mk q bs.length:=q3
  unfold fr to
  rw [e,q3];exact ⟨by simp only [Int.toNat_natCast];omega,Int.toNat_natCast _⟩
 have fne :∀i j,(bD bs).length≤i→i<j→j<(b_ bs).length→fr (b_ bs) i≠fr (b_ bs) j:=by
  intro i j h1 h2 hj
  obtain ⟨hi',ei⟩:=ge i h1 (by omega)
  obtain ⟨hj',ej⟩:=ge j (by omega) hj
  have hp:=List.pairwise_iff_getElem.1 es2 (i-(bD bs).length) (j-(bD bs).length) hi' hj' (by omega)
  have p1:=hin i (by omega)
  have p2:=hin j hj
  unfold fr
  rw [ei,ej] at *
  have hp:((uJ bs)[i-(bD bs).length]).from'<((uJ bs)[j-(bD bs).length]).from':=hp
  omega
 refine goB _ (U_ (lo:=(bD bs).length) (hi:=(b_ bs).length) (by omega) hin (Nat.le_refl _) (by omega) (fun k ins g=>rfl) (fun _=>False) (fun _ _ _ h=>h)
  (fun k ins rep=>ins.length=(b_ bs).length∧rep bs.length=bs.length∧(∀z,z<bs.length→(∀j,(bD bs).length≤j→j<k→fr (b_ bs) j≠z)→rep z=z)∧∀j,(bD bs).length≤j→j<k→ins.getD j false=true)
  (fun k ins rep h1 h2 hLd ⟨p0,p1,p2,p3⟩ => ?_) g1 (aiq g1 g2) af2 ⟨hrep,rfl,fun _ _ _=>rfl,fun j _ _=>by omega⟩) fun s20 ⟨q1,q2,ank,r1,q3,q4,_,_,_,q5⟩ => ?_
 ·obtain ⟨f1,f2⟩:=fe k h1 h2
  have hk:rep (fr (b_ bs) k)=fr (b_ bs) k:=p2 _ f1 fun j j1 j2=>fne j k j1 j2 h2
  have hne:fr (b_ bs) k≠bs.length:=by omega
  rw [hk,f2,p1]
  refine ⟨by rw [List.length_set];exact p0,?_,fun z hz hj => ?_,fun j j1 j2 => ?_⟩
  ·unfold link;rw [p1,if_neg (fun e=>hne e.symm)]
  ·have hz':=p2 z hz fun j j1 j2=>hj j j1 (by omega)
   unfold link;rw [hz',if_neg (fun e=>hj k h1 (by omega) e.symm)]
  ·rw [show (!decide ((fr (b_ bs) k:Int)=bs.length))=true from by simp;omega]
   by_cases e:j=k
   ·subst e;rw [List.getD_eq_getElem?_getD,List.getElem?_set_self (by omega)];rfl
   ·rw [List.getD_eq_getElem?_getD,List.getElem?_set_ne (fun e'=>e e'.symm),←List.getD_eq_getElem?_getD]
    exact p3 j j1 (by omega)
 obtain ⟨ls1,anl,gg1⟩:=s20
 simp only at q1 q2 q3 q4 q5
 subst q1
 refine goB _ (U_ (lo:=1) (hi:=(bD bs).length) (by omega) hin (by omega) (by omega) (fun k ins g=>rfl) (fun j=>False∨(bD bs).length≤j∧j<(b_ bs).length) (fun j h1 h2 h=>h.elim (fun f=>f) fun h=>by omega)
  (fun k ins rep=>ins.length=(b_ bs).length∧∀j,(bD bs).length≤j→j<(b_ bs).length→ins.getD j false=true)
  (fun k ins rep h1 h2 hLd ⟨p0,p3⟩=>⟨by rw [List.length_set];exact p0,fun j j1 j2 => ?_⟩) q2 q3 q4 ⟨q4.len,q5⟩) fun xJ ⟨t1,t2,Sv,r2,t3,t4,_,t5⟩ => ?_
 ·rw [List.getD_eq_getElem?_getD,List.getElem?_set_ne (by omega),←List.getD_eq_getElem?_getD]
  exact p3 j j1 j2
 obtain ⟨ls2,af4,gg2⟩:=xJ
 simp only at t1 t2 t3 t4 t5
 subst t1
 have hi0:=hin 0 (by omega)
 have hj:=U9 (ls:=b_ bs) (ins:=af4) (k:=0) (u:=fr (b_ bs) 0) (v:=to (b_ bs) 0) t3 (by omega) (by rw [t4.len];omega) (by unfold fr;omega) (by unfold to;omega) (by unfold fr;omega) (by unfold to;omega)
 refine goB _ hj fun c ⟨c1,c2,c3,r',c4⟩=>aC ?_
 have hfin:=JY t4 hin (k:=0) (by omega) (fun hd=>hd.elim (fun hd=>hd.elim (fun f=>f) fun h=>by omega) fun h=>by omega) (fun x hx=>by rw [←t2];exact t3.lt x (by omega)) (fun x hx=>t3.idem x (by omega))
 rw [c3]
 generalize link Sv (Sv (fr (b_ bs) 0)) (Sv (to (b_ bs) 0))=rep at hfin c4
 have hall :∀j,j<(b_ bs).length→rep (fr (b_ bs) j)=rep (to (b_ bs) j):=fun j hj=>hfin.same j hj (by
  by_cases e:j=0
  ·exact .inr e
  ·by_cases e2:(bD bs).length≤j
   ·exact .inl (.inl (.inr ⟨e2,hj⟩))
   ·exact .inl (.inr ⟨by omega,by omega⟩))
 have hkeep :∀j,(bD bs).length≤j→j<(b_ bs).length→(af4.set 0 (!decide ((Sv (fr (b_ bs) 0):Int)=Sv (to (b_ bs) 0)))).getD j false=true:=by
  intro j j1 j2
  rw [List.getD_eq_getElem?_getD,List.getElem?_set_ne (by omega),←List.getD_eq_getElem?_getD]
  exact t5 j j1 j2
 generalize af4.set 0 (!decide ((Sv (fr (b_ bs) 0):Int)=Sv (to (b_ bs) 0)))=ins at hfin hkeep ⊢
 have ZY :∀w∈bD bs,rep (jA bs w).from'.toNat=rep (jA bs w).to.toNat:=by
  intro w hw
  obtain ⟨j,hj,e⟩:=List.getElem_of_mem hw
  have:=hall j (by omega)
  unfold fr to at this
  have e2:(b_ bs).getD j (bY.mk 0 0)=jA bs w:=by rw [PZ hj,e]
  rw [e2] at this;exact this
 have hout:rep bs.length=rep 0:=by
  have:=ZY (aT.mk 0 0 2) (by rw [hw1];simp)
  simpa [jA] using this
 have hblk :∀z,z<bs.length→rep z=rep 0:=by
  refine hC (fun z=>rep z=rep 0) rfl fun z hz hs=>⟨fun hk => ?_,fun hk => ?_⟩
  ·have:=ZY (aT.mk 0 z 0) (PY bs z hz _ (zq.2 (.inl ⟨hk,rfl⟩)))
   simp only [jA,if_pos,Int.toNat_natCast] at this
   rw [←this];exact hs
  ·have:=ZY (aT.mk 0 z 1) (PY bs z hz _ (zq.2 (.inr ⟨hk,rfl⟩)))
   unfold jA at this
   rw [if_neg (by simp),if_pos rfl] at this
   simp only [Int.toNat_natCast] at this
   rw [←this];exact hs
 have hone:=WX (rep:=rep) (c:=rep 0) (N:=N) (by have:=c4.lt 0 (by omega);omega) fun z hz=>by
  by_cases e:z=bs.length
  ·rw [e];exact hout
  ·exact hblk z (by omega)
 have hcnt:=hfin.cnt
 have hlen:=hfin.len
 refine ⟨hlen,?_⟩
 have hsplit:ins.count true=(ins.take (bD bs).length).count true+(ins.drop (bD bs).length).count true:=by
  conv=>lhs;rw [←List.take_append_drop (bD bs).length ins,List.count_append]
 have hdrop:(ins.drop (bD bs).length).count true=wS bs:=by
  have:(ins.drop (bD bs).length)=List.replicate (wS bs) true:=by
   refine List.eq_replicate_iff.2 ⟨by rw [List.length_drop];omega,fun x hx => ?_⟩
   obtain ⟨j,hj,e⟩:=List.getElem_of_mem hx
   rw [List.getElem_drop] at e
   rw [List.length_drop] at hj
   have:=hkeep ((bD bs).length+j) (by omega) (by omega)
   rw [getD_at _ (by omega)] at this
   rw [←e];exact this
  rw [this];simp
 omega
end Go.Fg.Ytfklooeiipkijaa

