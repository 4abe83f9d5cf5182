/-
  Chapter 11, plain: loops are found.
-/
import Derived.Test.YtmgfidfcioiedaaMa
namespace Go.Fg.Ytmgfidfcioiedaa
open Go.Fw
set_option linter.unusedVariables false
set_option linter.unusedSimpArgs false
theorem XQ {l:List (List Int)} {k:Nat} (h:k<l.length):l.set k (l.getD k eInt)=l:=by
 refine List.ext_getElem (by simp) fun j h1 h2 => ?_
 rw [List.getElem_set]
 split
 ·rename_i e;subst e;rw [getD_at _ h2]
 ·rfl
structure Fl (bs:List aH) (h:Nat) (m:List Bool) (st:List Int):Prop where
 len:m.length=bs.length
 stk :∀z∈st,∃u:Nat,z=u∧u<bs.length∧NP (Ed bs) h u
 snd :∀x,x<bs.length→m.getD x false=true→NP (Ed bs) h x
 hd:(∃s,Ed bs s h∧Dom (Ed bs) h s)→m.getD h false=true
 src :∀s,Ed bs s h→Dom (Ed bs) h s→m.getD s false=true∨(s:Int)∈st
 cls :∀x,x<bs.length→m.getD x false=true→x≠h→∀u,Ed bs u x→m.getD u false=true∨(u:Int)∈st
theorem ag2 {bs:List aH} {h:Nat} {m:List Bool} (hE:mJ bs) (hF:Fl bs h m []) :∀x,x<bs.length→(m.getD x false=true↔NP (Ed bs) h x):=by
 have key :∀x,Lp (Ed bs) h x→m.getD x false=true:=by
  intro x hx
  induction hx with
  |src s1 s2 _=>exact (hF.src _ s1 s2).resolve_right (by simp)
  |pre hv he _ ih=>exact (hF.cls _ (QE hE he).2 ih hv.ne _ he).resolve_right (by simp)
 intro x hx
 refine ⟨hF.snd x hx,fun hi => ?_⟩
 rcases hi with ⟨e,hs⟩ | hi
 ·subst e;exact hF.hd hs
 ·exact key x hi
theorem ael {f:aO} (hg:Good f) {h:Nat} (hh:h<f.blocks.length) {B:List gK} (hB1 :∀e∈B,∃u v:Nat,e=gK.mk u v∧Ed f.blocks u v∧Dom (Ed f.blocks) v u) (hB2 :∀u v:Nat,Ed f.blocks u v→Dom (Ed f.blocks) v u→gK.mk u v∈B) (hBl:B.length≤2000) :
  Ok (f21 f.name f.params f.regs f.blocks h B) fun m=>m.length=f.blocks.length∧∀x,x<f.blocks.length→(m.getD x false=true↔NP (Ed f.blocks) h x):=by
 obtain ⟨hl,h0,hE,hC⟩:=hg
 unfold f21
 generalize f.blocks=bs at *
 refine goB _ (QF hE hl) fun P ⟨hP1,hP2⟩=>goC (pO.2 (by omega)) ?_
 simp only [Int.toNat_natCast]
 have hrep :∀x,(List.replicate bs.length false).getD x false=false:=fun x=>by
  rw [List.getD_eq_getElem?_getD,List.getElem?_replicate];split<;>rfl
 refine goB (fun s=>Fl bs h s.1 s.2∧s.2.length≤2000) ?_ fun ⟨m,st⟩ ⟨hF,hst⟩ => ?_
 ·refine aZ (fun s:Int×List Bool×List Int =>∃i:Nat,s.1=i∧i≤B.length∧s.2.1.length=bs.length∧(∀x,x<bs.length→(s.2.1.getD x false=true↔x=h∧∃e∈B.take i,e.to=h))∧(∀z,z∈s.2.2↔∃e∈B.take i,e.to=h∧z=e.from')∧s.2.2.length≤i) (fun s=>B.length-s.1.toNat)
   ⟨0,rfl,by omega,by simp,fun x hx=>⟨fun h=>(by simp only at h;rw [hrep x] at h;cases h),fun h=>by obtain ⟨_,e,he,_⟩:=h;simp at he⟩,by simp,by simp⟩ fun ⟨i',m,st⟩ ⟨i,q1,q2,q3,q4,q5,q6⟩ => ?_
  simp only at q1 q3 q4 q5 q6
  subst q1
  refine goI (fun hc => ?_) (fun hc=>ay ?_)
  rotate_left
  ·have:i=B.length:=by simp at hc;omega
   rw [this,List.take_length] at q4 q5
   have hex:(∃e∈B,e.to=(h:Int))→∃s,Ed bs s h∧Dom (Ed bs) h s:=fun ⟨e,he,ht⟩=>by
    obtain ⟨u,v,ee,h1,h2⟩:=hB1 e he
    subst ee
    have:v=h:=by simp only at ht;omega
    subst this;exact ⟨u,h1,h2⟩
   have hto :∀s,Ed bs s h→Dom (Ed bs) h s→∃e∈B,e.to=(h:Int)∧e.from'=(s:Int):=fun s h1 h2=>⟨_,hB2 s h h1 h2,rfl,rfl⟩
   refine ⟨⟨q3,fun z hz => ?_,fun x hx hm => ?_,fun ⟨s,h1,h2⟩ => ?_,fun s h1 h2 => ?_,fun x hx hm hne => ?_⟩,by simp only;omega⟩
   ·obtain ⟨e,he,ht,ez⟩:=(q5 z).1 hz
    obtain ⟨u,v,ee,h1,h2⟩:=hB1 e he
    subst ee
    have:v=h:=by simp only at ht;omega
    subst this
    refine ⟨u,ez,h1.1,?_⟩
    by_cases e:u=v
    ·subst e;exact .inl ⟨rfl,_,h1,h2⟩
    ·exact .inr (.src h1 h2 e)
   ·obtain ⟨e,hs⟩:=(q4 x hx).1 hm
    exact .inl ⟨e,hex hs⟩
   ·obtain ⟨e,he,ht,_⟩:=hto s h1 h2
    exact (q4 h hh).2 ⟨rfl,e,he,ht⟩
   ·obtain ⟨e,he,ht,hf⟩:=hto s h1 h2
    exact .inr ((q5 _).2 ⟨e,he,ht,hf.symm⟩)
   ·exact absurd ((q4 x hx).1 hm).1 hne
  have hi:i<B.length:=by simpa using hc
  refine goC (aA.2 ⟨by simp only;omega,by simp only;omega⟩) ?_
  have e:B.getD i (gK.mk 0 0)=B[i]:=getD_at _ hi
  simp only [Int.toNat_natCast,e]
  have hw:bW ((i:Int)+1)=((i+1:Nat):Int):=by rw [aK (by omega)];omega
  refine goB (fun y=>y.1.length=bs.length∧(∀x,x<bs.length→(y.1.getD x false=true↔x=h∧∃e∈B.take (i+1),e.to=h))∧(∀z,z∈y.2↔∃e∈B.take (i+1),e.to=h∧z=e.from')∧y.2.length≤i+1) ?_ fun ⟨y1,y2⟩ ⟨r1,r2,r3,r4⟩=>by
   rw [hw]
   exact ay ⟨⟨i+1,rfl,by omega,r1,r2,r3,r4⟩,by simp only [Int.toNat_natCast];omega⟩
  rw [take_snoc hi]
  have hex :∀p:gK→Prop,(∃e∈B.take i++[B[i]],p e)↔(∃e∈B.take i,p e)∨p B[i]:=fun p=>by
   constructor
   ·rintro ⟨e,he,hp⟩
    rcases List.mem_append.1 he with he | he
    ·exact .inl ⟨e,he,hp⟩
    ·rw [List.mem_singleton] at he;subst he;exact .inr hp
   ·rintro (⟨e,he,hp⟩ | hp)
    ·exact ⟨e,List.mem_append_left _ he,hp⟩
    ·exact ⟨_,List.mem_append_right _ (List.mem_singleton.2 rfl),hp⟩
  simp only [hex]
  refine goI (fun hc => ?_) (fun hc=>ay ⟨q3,fun x hx => ?_,fun z => ?_,by simp only;omega⟩)
  ·have hc:B[i].to=(h:Int):=by simpa using hc
   refine goC (aA.2 ⟨by omega,by omega⟩) (goC (by unfold bG;simp;omega) ?_)
   refine ay ⟨by simp [q3],fun x hx => ?_,fun z => ?_,by simp;omega⟩
   ·rw [lG (by omega)]
    by_cases ex:x=h
    ·rw [if_pos ex];exact ⟨fun _=>⟨ex,.inr hc⟩,fun _=>rfl⟩
    ·rw [if_neg ex,q4 x hx];exact ⟨fun h=>absurd h.1 ex,fun h=>absurd h.1 ex⟩
   ·rw [List.mem_append,q5 z,List.mem_singleton]
    exact ⟨fun h=>h.imp id fun e=>⟨hc,e⟩,fun h=>h.imp id fun e=>e.2⟩
  ·have hc:¬ B[i].to=(h:Int):=by simpa using hc
   rw [q4 x hx]
   exact ⟨fun h=>⟨h.1,.inl h.2⟩,fun h=>⟨h.1,h.2.resolve_right hc⟩⟩
  ·have hc:¬ B[i].to=(h:Int):=by simpa using hc
   rw [q5 z]
   exact ⟨fun h=>.inl h,fun h=>h.resolve_right fun e=>hc e.1⟩
 refine goB (fun m=>m.length=bs.length∧∀x,x<bs.length→(m.getD x false=true↔NP (Ed bs) h x)) ?_ fun m hm=>ay hm
 have hcn:cntF m≤1000:=by have h1:=List.count_le_length (a:=false) (l:=m);have h2:m.length=bs.length:=hF.len;unfold cntF;omega
 have hst:st.length≤2000:=hst
 refine aZ (fun s:List (List Int)×List Bool×List Int =>∃(m:List Bool) (st:List Int),s=(P,m,st)∧Fl bs h m st∧st.length+3000*cntF m≤4000000) (fun s=>s.2.2.length+3000*cntF s.2.1) ⟨m,st,rfl,hF,by omega⟩ fun s ⟨m,st,e,hF,hsz⟩ => ?_
 subst e
 refine goI (fun hne => ?_) (fun he=>ay ?_)
 rotate_left
 ·have:st=[]:=by simpa using he
  subst this
  exact ⟨hF.len,ag2 hE hF⟩
 have hpos:0<st.length:=by simpa using hne
 have hw:bW ((st.length:Int)-1)=((st.length-1:Nat):Int):=by rw [aK (by omega)];omega
 simp only [hw,Int.toNat_natCast]
 refine goC (aA.2 (by omega)) (goC (by simp) ?_)
 have hlast:st.getD (st.length-1) 0∈st:=by rw [getD_at _ (by omega)];exact List.getElem_mem _
 have hst:st=st.take (st.length-1)++[st.getD (st.length-1) 0]:=by
  rw [getD_at _ (by omega),←take_snoc (by omega),show st.length-1+1=st.length from by omega,List.take_length]
 obtain ⟨x,hx,hxn,hxi⟩:=hF.stk _ hlast
 generalize st.getD (st.length-1) 0=xv at hlast hst hx ⊢
 subst hx
 have htl:(st.take (st.length-1)).length=st.length-1:=by simp
 generalize st.take (st.length-1)=st' at hst htl ⊢
 have hml:=hF.len
 refine goC (aA.2 (by omega)) ?_
 simp only [Int.toNat_natCast]
 have hmem :∀{z:Int},z∈st→z∈st'∨z=x:=fun {z} hz=>by
  rw [hst] at hz
  rcases List.mem_append.1 hz with hz | hz
  ·exact .inl hz
  ·exact .inr (List.mem_singleton.1 hz)
 have hsub :∀{z:Int},z∈st'→z∈st:=fun {z} hz=>by rw [hst];exact List.mem_append_left _ hz
 refine goB (fun y =>∃m2 st2,y=(P,m2,st2)∧Fl bs h m2 st2∧st2.length+3000*cntF m2<st.length+3000*cntF m) ?_ fun y ⟨m2,st2,e,g1,g2⟩=>by subst e;exact ay ⟨⟨m2,st2,rfl,g1,by omega⟩,g2⟩
 refine goI (fun hc => ?_) (fun hc=>ay ⟨m,st',rfl,⟨hF.len,fun z hz=>hF.stk z (hsub hz),hF.snd,hF.hd,fun s h1 h2 => ?_,fun y hy hm hne u hu => ?_⟩,by omega⟩)
 ·have hmx:m.getD x false=false:=by simpa using hc
  have hPl:=(hP2 x hxn).2
  have hPm:=(hP2 x hxn).1
  have hpe:P.getD x eInt=P.getD x []:=rfl
  have hxh:x≠h:=fun e=>by
   subst e
   rcases hxi with ⟨_,hs⟩ | hl
   ·rw [hF.hd hs] at hmx;cases hmx
   ·exact hl.ne rfl
  refine goC (aA.2 (by omega)) (goC (aA.2 (by omega)) (goC ?_ ?_))
  ·have hpl:(P.getD x eInt).length≤2000:=hPl
   simp only [Bool.true_and,decide_eq_true_eq,Int.toNat_natCast];omega
  have hcs:=xA (by omega:x<m.length) hmx
  have hset :∀z,(m.set x true).getD z false=if z=x then true else m.getD z false:=fun z=>lG (by omega)
  have hup :∀z,m.getD z false=true→(m.set x true).getD z false=true:=fun z hz=>by
   rw [hset]
   split
   ·rfl
   ·exact hz
  refine ay ⟨m.set x true,st'++P.getD x [],by rw [XQ (by omega)],⟨by simp [hml],fun z hz => ?_,fun y hy hm => ?_,fun hs=>hup _ (hF.hd hs),fun s h1 h2 => ?_,fun y hy hm hne u hu => ?_⟩,by simp only [List.length_append];omega⟩
  ·rcases List.mem_append.1 hz with hz | hz
   ·exact hF.stk z (hsub hz)
   ·obtain ⟨u,e,hu⟩:=(hPm z).1 hz
    exact ⟨u,e,hu.1,hxi.pred hu hxh⟩
  ·rw [hset] at hm
   split at hm
   ·rename_i e;rw [e];exact hxi
   ·exact hF.snd y hy hm
  ·rcases hF.src s h1 h2 with g | g
   ·exact .inl (hup s g)
   ·rcases hmem g with g | g
    ·exact .inr (List.mem_append_left _ g)
    ·have:s=x:=by omega
     subst this
     exact .inl (by rw [hset,if_pos rfl])
  ·by_cases e:y=x
   ·subst e
    exact .inr (List.mem_append_right _ ((hPm _).2 ⟨u,rfl,hu⟩))
   ·rw [hset,if_neg e] at hm
    rcases hF.cls y hy hm hne u hu with g | g
    ·exact .inl (hup u g)
    ·rcases hmem g with g | g
     ·exact .inr (List.mem_append_left _ g)
     ·have:u=x:=by omega
      subst this
      exact .inl (by rw [hset,if_pos rfl])
 ·have hmx:m.getD x false=true:=by simpa using hc
  rcases hF.src s h1 h2 with g | g
  ·exact .inl g
  ·rcases hmem g with g | g
   ·exact .inr g
   ·exact .inl (by rw [show s=x by omega];exact hmx)
 ·have hmx:m.getD x false=true:=by simpa using hc
  rcases hF.cls y hy hm hne u hu with g | g
  ·exact .inl g
  ·rcases hmem g with g | g
   ·exact .inr g
   ·exact .inl (by rw [show u=x by omega];exact hmx)
theorem NG {f:aO} (hg:Good f) {h:Nat} (hh:h<f.blocks.length):Ok (f11 f.name f.params f.regs f.blocks h) fun y =>∃L:List Nat,y=L.map Int.ofNat∧L.Pairwise (· < ·)∧L.length≤1000∧∀x,x∈L↔x<f.blocks.length∧NP (Ed f.blocks) h x:=by
 have hl:=hg.1
 unfold f11
 refine goB _ (abh hg) fun B ⟨b1,b2,b3⟩=>goB _ (ael hg hh b1 b2 b3) fun m ⟨m1,m2⟩ => ?_
 generalize f.blocks=bs at *
 refine goB (fun y=>y=((List.range m.length).filter fun x=>m.getD x false).map Int.ofNat) ?_ fun y e=>ay ⟨_,e,(List.pairwise_lt_range).filter _,Nat.le_trans (List.length_filter_le _ _) (by simp;omega),fun x => ?_⟩
 rotate_left
 ·rw [List.mem_filter,List.mem_range,m1]
  exact ⟨fun h=>⟨h.1,(m2 x h.1).1 h.2⟩,fun h=>⟨h.1,(m2 x h.1).2 h.2⟩⟩
 refine aZ (fun s:Int×List Int =>∃i:Nat,s.1=i∧i≤m.length∧s.2=((List.range i).filter fun x=>m.getD x false).map Int.ofNat) (fun s=>m.length-s.1.toNat) ⟨0,rfl,by omega,rfl⟩ fun ⟨i',acc⟩ ⟨i,q1,q2,q3⟩ => ?_
 simp only at q1 q3
 subst q1;subst q3
 refine goI (fun hc => ?_) (fun hc=>ay ?_)
 rotate_left
 ·have:i=m.length:=by simp at hc;omega
  subst this;rfl
 have hi:i<m.length:=by simpa using hc
 have hfl:((List.range i).filter fun x=>m.getD x false).length≤i:=by have:=List.length_filter_le (fun x=>m.getD x false) (List.range i);simpa using this
 refine goC (aA.2 ⟨by simp only;omega,by simp only;omega⟩) ?_
 simp only [Int.toNat_natCast]
 have hw:bW ((i:Int)+1)=((i+1:Nat):Int):=by rw [aK (by omega)];omega
 refine goB (fun y=>y=((List.range (i+1)).filter fun x=>m.getD x false).map Int.ofNat) ?_ fun y e=>by
  subst e;rw [hw]
  exact ay ⟨⟨i+1,rfl,by omega,rfl⟩,by simp only [Int.toNat_natCast];omega⟩
 rw [List.range_succ,List.filter_append,List.map_append]
 refine goI (fun h=>goC (by unfold bG;simp only [List.length_map,List.length_singleton,Bool.true_and,decide_eq_true_eq];omega) (ay ?_)) fun h=>ay ?_
 ·rw [List.filter_cons_of_pos (by simpa using h)];rfl
 ·rw [List.filter_cons_of_neg (by rw [h];simp)];simp
end Go.Fg.Ytmgfidfcioiedaa

