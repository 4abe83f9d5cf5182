/-
  The framework (a machine on plain data that answers as the program does), part 2.
-/
import Derived.RangeFuncOwn
import Derived.Test.YtpbdikcmfgeooaaZa
set_option linter.unusedSimpArgs false
set_option linter.unusedVariables false
set_option linter.unusedSectionVars false
namespace Go.Fw
set_option linter.unusedSectionVars false
variable [dA]
set_option linter.unusedVariables false
def jq (o:Nat→O) (g:Nat):List (Nat×O):=match o g with
 |.ay a i sz ah l (some (n,c,d))=>match o d with
  |.arr false a' i' sz' l'=>if ah.lookup c=some sz'∧c<rw sz then [(g,.ay (a||a') (i||i') sz ah (iH l n c (P.dX sz' l')) none),(d,.none)] else []
  |_=>[]
 |_=>[]
section
variable {E:Env} {st st':St} {gh aQ:Nat→Gh} {w w':World} {val:Nat→Value}
theorem aU.cls {a i a' i':Bool} (ha:a=true→a'=true) (hi:i=true→i'=true) {x:P} {v:Value} (h:aU w (E.ok st gh w a i) x v):aU w (E.ok st gh w a' i') x v:=
 h.mono fun b hb=>⟨Env.kC ha hi hb,rfl⟩
theorem dw.cls {a i a' i':Bool} (ha:a=true→a'=true) (hi:i=true→i'=true) {sz:Nat} {l:List (List P)} {G:Gh} (h:dw E st gh w a i sz l G):dw E st gh w a' i' sz l G:=by
 rcases h with h | ⟨ad,ob,h1,h2,h3,h4,h6,h7⟩
 ·exact .inl h
 ·exact .inr ⟨ad,ob,h1,h2,h3,h4,h6,fun n x hx j y hy=>let ⟨v,hv,hr⟩:=h7 n x hx j y hy;⟨v,hv,hr.cls ha hi⟩⟩
theorem dw.sub {a i:Bool} {sz:Nat} {l:List (List P)} {G G':Gh} (e1:G'.ad=G.ad) (e2:G'.cap=G.cap) (h:dw E st gh w a i sz l G):dw E st gh w a i sz l G':=by
 unfold dw at *
 rw [e1,e2];exact h
theorem yN.cls {a i a' i':Bool} (ha:a=true→a'=true) (hi:i=true→i'=true) {G:Gh} {sz' n j:Nat} {y:P} {v:Value} (h:yN E st gh w a i G sz' n j y v):yN E st gh w a' i' G sz' n j y v:=by
 obtain ⟨l',ao,k,h1,h2,h3,h4⟩:=h
 exact ⟨l',ao,k,h1,h2,h3.cls ha hi,h4⟩
theorem Rel.shut (h:Rel E st gh val w) {g d:Nat} {a i a' i':Bool} {sz sz':Nat} {ah:List (Nat×Nat)} {l l':List (List P)} {n c:Nat} (ho:st.o g=.ay a i sz ah l (some (n,c,d))) (hd:st.o d=.arr false a' i' sz' l')
  (hc:ah.lookup c=some sz') (hcs:c<rw sz) :
  ∃aQ,Rel E (st.au [(g,.ay (a||a') (i||i') sz ah (iH l n c (P.dX sz' l')) none),(d,.none)] []) aQ val w∧
   Lets E st (st.au [(g,.ay (a||a') (i||i') sz ah (iH l n c (P.dX sz' l')) none),(d,.none)] []) gh aQ w w∧∀x,(aQ x).ad=(gh x).ad∧(aQ x).cap=(gh x).cap:=by
 have hgd:g≠d:=by intro e;subst e;rw [ho] at hd;cases hd
 have hgo:(st.o g).aX=true:=by rw [ho];rfl
 have hdo:(st.o d).aX=true:=by rw [hd];rfl
 have hgu:st.used g=true:=h.ul g (O.lV hgo)
 have hD:dY E st gh w a i sz ah l (some (n,c,d)) (gh g):=by have:=h.aJ g;rw [ho] at this;exact this
 have hA:dw E st gh w a' i' sz' l' (gh d):=by have:=h.aJ d;rw [hd] at this;exact this
 generalize hst:st.au [(g,.ay (a||a') (i||i') sz ah (iH l n c (P.dX sz' l')) none),(d,.none)] []=st'
 have e1:(d==g)=false:=by simpa using hgd.symm
 have hog:st'.o g=.ay (a||a') (i||i') sz ah (iH l n c (P.dX sz' l')) none:=by subst hst;simp [St.au,List.lookup]
 have hod:st'.o d=.none:=by subst hst;simp [St.au,List.lookup,e1]
 have zf :∀g',g'≠d→g'≠g→st'.o g'=st.o g':=by
  intro g' e2 e1
  subst hst
  have e1:(g'==g)=false:=by simpa using e1
  have e2:(g'==d)=false:=by simpa using e2
  simp [St.au,List.lookup,e1,e2]
 have hdis :∀b,(gh g).has b→(gh d).has b→False:=fun b h1 h2=>hgd (h.inj g d b hgo hdo h1 h2)
 let G:Gh:=⟨(gh g).ad,(gh g).cap,fun b=>if (gh d).ad.map (·.block)=some b then (if n<l.length then some (n,c) else none) else (gh g).sub b⟩
 have hGs :∀b,(G.sub b).isSome=true→((gh d).ad.map (·.block)=some b)∨((gh g).sub b).isSome=true:=by
  intro b hb
  by_cases e:(gh d).ad.map (·.block)=some b
  ·exact .inl e
  ·simp only [G,if_neg e] at hb;exact .inr hb
 have had :∀b,(gh d).ad.map (·.block)=some b→(gh d).has b:=by
  intro b e
  cases hx:(gh d).ad with
  |none=>rw [hx] at e;cases e
  |some ad=>rw [hx] at e;simp at e;exact .inl ⟨ad,hx,e⟩
 have hGb :∀b,G.has b→(gh g).has b∨(gh d).has b:=by
  rintro b (⟨ad,k1,k2⟩ | k1)
  ·exact .inl (.inl ⟨ad,k1,k2⟩)
  ·rcases hGs b k1 with q | q
   ·exact .inr (had b q)
   ·exact .inl (.inr q)
 obtain ⟨m1,m2⟩:=h.merge (fun g'=>g'=d) g (.ay (a||a') (i||i') sz ah (iH l n c (P.dX sz' l')) none) G st' w (by subst hst;rfl) hog (fun g' e _=>by subst e;exact hod) (fun g' e1 e2=>zf g' e1 e2)
  (fun g' hg'=>by subst hst;simp [St.au,hg']) (by subst hst;simp [St.au,hgu]) (fun _=>⟨⟨rfl,rfl⟩,by rw [ho];exact ⟨rfl,by simp only [ml,jc]⟩⟩)
  (fun b hb=>.inl (by
   rcases hGb b hb with q | q
   ·exact ⟨g,.inr rfl,hgo,q⟩
   ·exact ⟨d,.inl rfl,hdo,q⟩))
  (fun _ _ _=>rfl) (Nat.le_refl _) rfl rfl rfl (fun i1 b e1 hb hw=>by
   cases e1
   rcases hGb b hb with q | q
   ·have:=h.wi g i b (by rw [ho];rfl) q hw;simp [this]
   ·have:=h.wi d i' b (by rw [hd];rfl) q hw;simp [this])
  (fun _ e=>by cases e) (fun hl=>by
   rcases hD with ⟨k1,k2,k3,k4,k9⟩ | ⟨ad,ob,k1,k2,k3,k4,k6,⟨k7,k7'⟩,k8⟩
   ·subst k3
    refine .inl ⟨k1,k2,by simp [iH],fun b => ?_,k9⟩
    by_cases e:(gh d).ad.map (·.block)=some b
    ·show (if (gh d).ad.map (·.block)=some b then (if n<([]:List (List P)).length then some (n,c) else none) else (gh g).sub b)=none
     rw [if_pos e];rfl
    ·simp only [G,if_neg e];exact k4 b
   ·refine .inr ⟨ad,ob,k1,k2,k3,by rw [jc];exact k4,Ar k6 hcs,⟨?_,fun b hb => ?_⟩,fun m x hx j y hy => ?_⟩
    ·have:¬ (gh d).ad.map (·.block)=some ad.block:=fun e=>hdis _ (Gh.jk k1) (had _ e)
     simp only [G,if_neg this];exact k7
    ·rcases hGs b hb with q | q
     ·rcases hA with ⟨q1,_⟩ | ⟨ad',c',q1,_,q3,q4,_⟩
      ·rw [q1] at q;cases q
      ·rw [q1] at q;simp at q;subst q;exact ⟨_,q3,q4.blk⟩
     ·exact k7' b q
    ·have ca:a=true→(a||a')=true:=by simp;exact fun h=>.inl h
     have ci:i=true→(i||i')=true:=by simp;exact fun h=>.inl h
     have ca':a'=true→(a||a')=true:=by simp;exact fun h=>.inr h
     have ci':i'=true→(i||i')=true:=by simp;exact fun h=>.inr h
     have old :∀x0,l[m]?=some x0→x0[j]?=some y→¬ (n=m∧c=j)→∃v,vM sz ad.off m j ob=some v∧gB E st' (dH gh g G) w (a||a') (i||i') G ah none m j y v:=by
      intro x0 hx0 hy0 hne
      obtain ⟨v,hv,hr⟩:=k8 m x0 hx0 j y hy0
      refine ⟨v,hv,?_⟩
      unfold gB at hr ⊢
      cases hcj:ah.lookup j with
      |none=>rw [hcj] at hr;exact (hl.iY hr).cls ca ci
      |some sz2=>
       rw [hcj] at hr
       simp only [fM,if_neg hne] at hr ⊢
       obtain ⟨l2,ao2,k2,q1,q2,q3,q4⟩:=hr
       refine ⟨l2,ao2,k2,q1,q2,(hl.Ag (fun _ _=>rfl) q3).cls ca ci,fun Ak rX => ?_⟩
       have hs:=q4 Ak rX
       have:¬ (gh d).ad.map (·.block)=some Ak.block:=fun e=>hdis _ (.inr (by rw [hs];rfl)) (had _ e)
       simp only [G,if_neg this];exact hs
     rcases wG hx with ⟨e1,hx0⟩ | ⟨e1,x0,hx0,rfl⟩
     ·exact old x hx0 hy fun e=>e1 e.1.symm
     ·subst e1
      have hlen:=k6 x0 (List.mem_of_getElem? hx0)
      rw [cu (by simp;omega)] at hy
      split at hy
      ·rename_i hcj
       have:j=c:=by simp at hcj;omega
       subst this
       simp at hy;subst hy
       have hyc:x0[j]?=some x0[j]:=List.getElem?_eq_getElem (by omega)
       obtain ⟨v,hv,hr⟩:=k8 m x0 hx0 j _ hyc
       simp only [gB,hc,fM,and_self,if_true] at hr
       obtain ⟨hone,hr⟩:=hr
       have hv':v=hdl sz' (gh d).ad (ml sz' l') (gh d).cap:=by cases hr with | own _ _ _ hb=>exact hb _ _ (O.iq hd)
       refine ⟨v,hv,?_⟩
       simp only [gB,hc,fM]
       refine ⟨l',(gh d).ad,(gh d).cap,rfl,hv',((hl.Ag (fun _ _=>rfl) hA).cls ca' ci').sub rfl rfl,fun Ak rX => ?_⟩
       have hml:m<l.length:=(List.getElem?_eq_some_iff.1 hx0).1
       simp [G,rX,hml]
      ·rename_i hcj
       exact old x0 hx0 hy fun e=>hcj (by simp;omega))
  (fun g' hg'=>by simp [O.names,bn] at hg')
 refine ⟨_,m1,m2,fun x => ?_⟩
 unfold dH
 split
 ·rename_i e;subst e;exact ⟨rfl,rfl⟩
 ·exact ⟨rfl,rfl⟩
theorem Rel.jq (h:Rel E st gh val w) (g:Nat) :∃aQ,Rel E (st.au (Fw.jq st.o g) []) aQ val w∧Lets E st (st.au (Fw.jq st.o g) []) gh aQ w w∧∀x,(aQ x).ad=(gh x).ad∧(aQ x).cap=(gh x).cap:=by
 have triv :∃aQ,Rel E (st.au [] []) aQ val w∧Lets E st (st.au [] []) gh aQ w w∧∀x,(aQ x).ad=(gh x).ad∧(aQ x).cap=(gh x).cap:=by
  rw [FU]
  exact ⟨gh,h,⟨fun a i b hb=>⟨hb,rfl⟩,fun g _=>.inr ⟨⟨rfl,rfl⟩,O.dM _⟩⟩,fun _=>⟨rfl,rfl⟩⟩
 unfold Fw.jq
 split
 ·rename_i a i sz ah l n c d ho
  split
  ·rename_i a' i' sz' l' hd
   split
   ·rename_i hc
    exact h.shut ho hd hc.1 hc.2
   ·exact triv
  ·exact triv
 ·exact triv
def shuts:List Nat→St→St
 | [],st=>st
 |g::gs,st=>shuts gs (st.au (jq st.o g) [])
theorem FV :∀(gs:List Nat) (st:St),(Fw.shuts gs st).s=st.s
 | [],_=>rfl
 |g::gs,st=>FV gs _
theorem uJ :∀(gs:List Nat) (st:St),(Fw.shuts gs st).used=st.used
 | [],_=>rfl
 |g::gs,st=>(uJ gs _).trans (by funext x;simp [St.au])
theorem Rel.shuts :∀(gs:List Nat) {st:St} {gh:Nat→Gh},Rel E st gh val w→∃aQ,Rel E (Fw.shuts gs st) aQ val w∧Lets E st (Fw.shuts gs st) gh aQ w w∧∀x,(aQ x).ad=(gh x).ad∧(aQ x).cap=(gh x).cap
 | [],st,gh,h=>⟨gh,h,⟨fun a i b hb=>⟨hb,rfl⟩,fun g _=>.inr ⟨⟨rfl,rfl⟩,O.dM _⟩⟩,fun _=>⟨rfl,rfl⟩⟩
 |g::gs,st,gh,h=>by
  obtain ⟨jT,h1,l1,e1⟩:=h.jq g
  obtain ⟨wH,h2,l2,e2⟩:=Rel.shuts gs h1
  refine ⟨wH,h2,Lets.trans l1 l2 (fun g' hg'=>by simp [St.au,hg']),fun x=>⟨(e2 x).1.trans (e1 x).1,(e2 x).2.trans (e1 x).2⟩⟩
theorem RH {st:St} {g g':Nat} (h:st.o g'=.none):(st.au (Fw.jq st.o g) []).o g'=.none:=by
 unfold Fw.jq
 split
 ·rename_i a i sz ah l n c d ho
  split
  ·rename_i hd
   split
   ·have e1:(g'==g)=false:=by simp;intro e;subst e;rw [h] at ho;cases ho
    have e2:(g'==d)=false:=by simp;intro e;subst e;rw [h] at hd;cases hd
    simp [St.au,List.lookup,e1,e2,h]
   ·simpa [St.au] using h
  ·simpa [St.au] using h
 ·simpa [St.au] using h
theorem GV :∀(gs:List Nat) {st:St} {g':Nat},st.o g'=.none→(Fw.shuts gs st).o g'=.none
 | [],_,_,h=>h
 |g::gs,st,g',h=>GV gs (RH h)
def PartOf (st:St) (gh:Nat→Gh) (a i:Bool) (es:List (Nat×Nat)) (s j:Nat) (y:P) (u:Value):Prop:=
 ∃l',y=P.dX s l'∧((u=.slice none 0 0∧l'=[]∧s<MB)∨∃e a1 i1,(j,e)∈es∧st.o e=.arr false a1 i1 s l'∧(a1=true→a=true)∧(i1=true→i=true)∧u=hdl s (gh e).ad (ml s l') (gh e).cap)
def whose (gh:Nat→Gh) (es:List (Nat×Nat)) (b:Nat):Option (Nat×Nat):=es.find? fun p=>(gh p.2).ad.map (·.block)==some b
theorem uK {es:List (Nat×Nat)} {b:Nat} {p:Nat×Nat} (h:whose gh es b=some p):p∈es∧∃ad,(gh p.2).ad=some ad∧ad.block=b:=by
 unfold whose at h
 have h1:=List.find?_some h
 simp only [beq_iff_eq] at h1
 refine ⟨List.mem_of_find?_eq_some h,?_⟩
 cases hx:(gh p.2).ad with
 |none=>rw [hx] at h1;cases h1
 |some ad=>rw [hx] at h1;simp at h1;exact ⟨ad,rfl,h1⟩
theorem WQ {es:List (Nat×Nat)} (hnd:(es.map (·.2)).Nodup) {p q:Nat×Nat} (hp:p∈es) (hq:q∈es) (e:p.2=q.2):p=q:=by
 induction es with
 |nil=>cases hp
 |cons x es ih=>
  simp only [List.map_cons,List.nodup_cons] at hnd
  rcases List.mem_cons.1 hp with h1 | h1<;>rcases List.mem_cons.1 hq with h2 | h2
  ·rw [h1,h2]
  ·exact absurd (List.mem_map.2 ⟨q,h2,by rw [←e,h1]⟩) hnd.1
  ·exact absurd (List.mem_map.2 ⟨p,h1,by rw [e,h2]⟩) hnd.1
  ·exact ih hnd.2 h1 h2
theorem J_ (h:Rel E st gh val w) {es:List (Nat×Nat)} (hnd:(es.map (·.2)).Nodup) (hes :∀p∈es,(st.o p.2).aX=true) {p:Nat×Nat} (hp:p∈es) {ad:Addr} (had:(gh p.2).ad=some ad):whose gh es ad.block=some p:=by
 cases hw:whose gh es ad.block with
 |none=>
  have:=List.find?_eq_none.1 hw p hp
  simp [had] at this
 |some q=>
  obtain ⟨h1,ad',h2,h3⟩:=uK hw
  have:=h.inj q.2 p.2 ad.block (hes q h1) (hes p hp) (.inl ⟨ad',h2,h3⟩) (Gh.jk had)
  rw [WQ hnd h1 hp this]
theorem MJ {es:List (Nat×Nat)} {g:Nat}:((es.map fun p=>(p.2,O.none)).lookup g)=if g∈es.map (·.2) then some O.none else none:=by
 induction es with
 |nil=>rfl
 |cons x es ih=>
  simp only [List.map_cons,List.lookup,List.mem_cons]
  by_cases e:g=x.2
  ·subst e;simp
  ·have:(g==x.2)=false:=by simpa using e
   rw [this]
   simp only [e,false_or]
   exact ih
theorem Rel.aeu (h:Rel E st gh val w) {g:Nat} {a i:Bool} {sz:Nat} {ah:List (Nat×Nat)} {l:List (List P)} {hole:Option (Nat×Nat×Nat)} (hog:st.o g=.ay a i sz ah l hole) {ad:Addr} (had:(gh g).ad=some ad)
  {n:Nat} (hn:n<l.length) {off:Nat} {ps:List P} {us:List Value} (hsm:sz<MB) (hlen:ps.length=us.length) (hoff:off+ps.length≤sz) (a' i':Bool) (es:List (Nat×Nat)) (fC:Option (Nat×Nat×Nat))
  (hnd:(es.map (·.2)).Nodup) (hes :∀p∈es,∃a1 i1 s l',st.o p.2=.arr false a1 i1 s l'∧(i1=true→i'=true))
  (hcell :∀(j:Nat) y u,ps[j]?=some y→us[j]?=some u→match ah.lookup (off+j) with
   |none=>aU w (E.ok st gh w a' i') y u
   |some s=>PartOf st gh a' i' es s (off+j) y u)
  (hh1 :∀m j,¬ (m=n∧off≤j∧j<off+ps.length)→∀s,ah.lookup j=some s→fM fC m j=fM hole m j) (hh2 :∀j s,off≤j→j<off+ps.length→ah.lookup j=some s→fM fC n j=none) (hh3 :∀d∈bn fC,d∈bn hole)
  (w':World) (hw :∀b,b≠ad.block→w'.heap[b]?=w.heap[b]?) (hsz:w'.heap.size=w.heap.size) (hos:w'.os=w.os) (htape:w'.tape=w.tape) (hout:w'.output=w.output)
  (hst :∀c e,w.heap[ad.block]?=some (.cells c e (0,0))→∃c',w'.heap[ad.block]?=some (.cells c' e (0,0))∧c'.toList=aA c.toList (ad.off+n*sz+off) us) :
  ∃aQ,Rel E (st.au ((g,.ay (a||a') (i||i') sz ah (l.set n (aA (l.getD n []) off ps)) fC)::es.map fun p=>(p.2,.none)) []) aQ val w'∧
   Lets E st (st.au ((g,.ay (a||a') (i||i') sz ah (l.set n (aA (l.getD n []) off ps)) fC)::es.map fun p=>(p.2,.none)) []) gh aQ w w':=by
 have hgo:(st.o g).aX=true:=by rw [hog];rfl
 have hgu:st.used g=true:=h.ul g (O.lV hgo)
 have heo :∀p∈es,(st.o p.2).aX=true:=fun p hp=>by obtain ⟨_,_,_,_,e,_⟩:=hes p hp;rw [e];rfl
 have heg :∀p∈es,p.2≠g:=fun p hp e=>by obtain ⟨_,_,_,_,e',_⟩:=hes p hp;rw [e,hog] at e';cases e'
 have hD:dY E st gh w a i sz ah l hole (gh g):=by have:=h.aJ g;rw [hog] at this;exact this
 rcases dY.old hsm hD with ⟨k1,_⟩ | ⟨ad0,cs,ty,k1,k2,k3,k4,k5,k6,⟨k7,k7'⟩,k8⟩
 ·rw [had] at k1;cases k1
 rw [had] at k1;cases k1
 obtain ⟨c',s1,s2⟩:=hst cs ty k3
 generalize hX:O.ay (a||a') (i||i') sz ah (l.set n (aA (l.getD n []) off ps)) fC=X
 generalize WR:st.au ((g,X)::es.map fun p=>(p.2,.none)) []=st'
 have ai3:st'.o g=X:=by subst WR;simp [St.au,List.lookup]
 have zf :∀g',g'≠g→st'.o g'=if g'∈es.map (·.2) then .none else st.o g':=by
  intro g' e
  subst WR
  have e1:(g'==g)=false:=by simpa using e
  simp only [St.au,List.lookup,e1,MJ]
  by_cases hm:g'∈es.map (·.2)
  ·rw [if_pos hm,if_pos hm]
  ·rw [if_neg hm,if_neg hm]
 let G:Gh:=⟨(gh g).ad,(gh g).cap,fun b=>match whose gh es b with
  |some p=>some (n,p.1)
  |none=>(gh g).sub b⟩
 have hGs :∀b,(G.sub b).isSome=true→(∃p∈es,∃ad,(gh p.2).ad=some ad∧ad.block=b)∨((gh g).sub b).isSome=true:=by
  intro b hb
  cases hx:whose gh es b with
  |some p=>exact .inl ⟨p,uK hx⟩
  |none=>simp only [G,hx] at hb;exact .inr hb
 have hGb :∀b,G.has b→(gh g).has b∨∃p∈es,(gh p.2).has b:=by
  rintro b (⟨ad,q1,q2⟩ | q1)
  ·exact .inl (.inl ⟨ad,q1,q2⟩)
  ·rcases hGs b q1 with ⟨p,hp,q⟩ | q
   ·exact .inr ⟨p,hp,.inl q⟩
   ·exact .inl (.inr q)
 have hdis :∀b,∀p∈es,(gh g).has b→(gh p.2).has b→False:=fun b p hp h1 h2=>heg p hp (h.inj g p.2 b hgo (heo p hp) h1 h2).symm
 have hnw :∀b,(gh g).has b→whose gh es b=none:=fun b hb=>by
  cases hx:whose gh es b with
  |none=>rfl
  |some p=>obtain ⟨q1,q2⟩:=uK hx;exact (hdis b p q1 hb (.inl q2)).elim
 obtain ⟨m1,m2⟩:=h.merge (fun g'=>g'∈es.map (·.2)) g X G st' w' (by subst WR;rfl) ai3 (fun g' hm e=>by rw [zf g' e,if_pos hm]) (fun g' hm e=>by rw [zf g' e,if_neg hm])
  (fun g' hg'=>by subst WR;simp [St.au,hg']) (by subst WR;simp [St.au,hgu]) (fun _=>⟨⟨rfl,rfl⟩,by rw [hog,←hX];exact ⟨rfl,by simp [ml]⟩⟩)
  (fun b hb=>.inl (by
   rcases hGb b hb with q | ⟨p,hp,q⟩
   ·exact ⟨g,.inr rfl,hgo,q⟩
   ·exact ⟨p.2,.inl (List.mem_map.2 ⟨p,hp,rfl⟩),heo p hp,q⟩))
  (fun b _ hb=>hw b fun e=>hb g (.inr rfl) hgo (e▸Gh.jk had)) (by omega) hos htape hout (fun i1 b e1 hb hwr=>by
   subst hX;cases e1
   rcases hGb b hb with q | ⟨p,hp,q⟩
   ·have:=h.wi g i b (by rw [hog];rfl) q hwr;simp [this]
   ·obtain ⟨_,i1,_,_,e,hi⟩:=hes p hp
    have:=h.wi p.2 i1 b (by rw [e];rfl) q hwr;simp [hi this])
  (fun _ e=>by subst hX;cases e) (fun hl=>by
   subst hX
   have ca:a=true→(a||a')=true:=by simp;exact fun h=>.inl h
   have ci:i=true→(i||i')=true:=by simp;exact fun h=>.inl h
   have ca':a'=true→(a||a')=true:=by simp;exact fun h=>.inr h
   have ci':i'=true→(i||i')=true:=by simp;exact fun h=>.inr h
   have hle:(n+1)*sz≤(gh g).cap*sz:=Nat.mul_le_mul_right _ (by have:=k5.1;omega)
   rw [Nat.add_mul,Nat.one_mul] at hle
   have sW:c'.size=cs.size:=by
    have:=congrArg List.length s2
    rw [bK (by simp;omega)] at this;simpa using this
   have hln:l[n]?=some l[n]:=List.getElem?_eq_getElem hn
   have hrl:l[n].length=sz:=k6 _ (List.getElem_mem hn)
   have hgD:l.getD n []=l[n]:=by rw [List.getD_eq_getElem?_getD,hln];rfl
   rw [hgD]
   have hget :∀q:Nat,c'[q]?=(aA cs.toList (ad.off+n*sz+off) us)[q]?:=fun q=>by rw [←s2,Array.getElem?_toList]
   have YG :∀b,((gh g).sub b).isSome=true→b≠ad.block:=fun b hb e=>by rw [e,k7] at hb;cases hb
   refine dY.of hsm (.inr ⟨ad,c',ty,had,k2,s1,by rw [sW];exact k4,by simpa using k5,fun z hz => ?_,⟨?_,fun b hb => ?_⟩,fun m z hz j y hy => ?_⟩)
   ·obtain ⟨m,hm⟩:=List.mem_iff_getElem?.1 hz
    rw [List.getElem?_set] at hm
    split at hm
    ·simp only [Option.some.injEq] at hm;subst hm
     rw [bK (by rw [hrl];omega),hrl]
    ·exact k6 z (List.mem_of_getElem? hm)
   ·simp only [G,hnw _ (Gh.jk had)];exact k7
   ·rcases hGs b hb with ⟨p,hp,ad1,q1,q2⟩ | q
    ·have hne:b≠ad.block:=fun e=>hdis ad.block p hp (Gh.jk had) (.inl ⟨ad1,q1,by rw [q2,e]⟩)
     rw [hw b hne]
     obtain ⟨_,_,_,_,e,_⟩:=hes p hp
     have hA:=h.aJ p.2
     rw [e] at hA
     rcases hA with ⟨q3,_⟩ | ⟨Ak,c2,q3,_,q4,q5,_⟩
     ·rw [q1] at q3;cases q3
     ·rw [q1] at q3;cases q3;rw [←q2];exact ⟨_,q4,q5.blk⟩
    ·rw [hw b (YG b q)];exact k7' b q
   ·-- an old cell
    have old :∀x0,l[m]?=some x0→x0[j]?=some y→¬ (m=n∧off≤j∧j<off+ps.length)→∃v,c'[ad.off+m*sz+j]?=some v∧gB E st' (dH gh g G) w' (a||a') (i||i') G ah fC m j y v:=by
     intro x0 hx0 hy0 hne
     have hjs:j<sz:=by have:=(List.getElem?_eq_some_iff.1 hy0).1;have:=k6 x0 (List.mem_of_getElem? hx0);omega
     have hout:¬ (ad.off+n*sz+off≤ad.off+m*sz+j∧ad.off+m*sz+j<ad.off+n*sz+off+us.length):=by
      rintro ⟨q1,q2⟩
      rcases Nat.lt_trichotomy m n with hlt | heq | hgt
      ·have:(m+1)*sz≤n*sz:=Nat.mul_le_mul_right _ hlt
       rw [Nat.add_mul,Nat.one_mul] at this;omega
      ·subst heq;exact hne ⟨rfl,by omega,by omega⟩
      ·have:(n+1)*sz≤m*sz:=Nat.mul_le_mul_right _ hgt
       rw [Nat.add_mul,Nat.one_mul] at this;omega
     obtain ⟨v,hv,hr⟩:=k8 m x0 hx0 j y hy0
     refine ⟨v,by rw [hget,cu (by simp;omega),if_neg hout];simpa using hv,?_⟩
     unfold gB at hr ⊢
     cases hcj:ah.lookup j with
     |none=>rw [hcj] at hr;exact (hl.iY hr).cls ca ci
     |some s=>
      rw [hcj] at hr
      simp only at hr ⊢
      rw [hh1 m j hne s hcj]
      cases hho:fM hole m j with
      |some d=>
       rw [hho] at hr
       refine ⟨hr.1,hl.y9 (fun g0 hg0 => ?_) hr.2⟩
       have:g0=d:=by simpa [W.names] using hg0
       subst this
       refine h.uo g g0 ?_
       rw [hog]
       unfold fM at hho
       rcases hole with _ | ⟨n',j',d'⟩
       ·cases hho
       ·simp only at hho
        split at hho
        ·cases hho;simp [O.names,bn]
        ·cases hho
      |none=>
       rw [hho] at hr
       obtain ⟨l2,ao2,q,q1,q2,q3,q4⟩:=hr
       refine ⟨l2,ao2,q,q1,q2,(hl.Ag (fun Ak rX=>hw _ (YG _ (by rw [q4 Ak rX];rfl))) q3).cls ca ci,fun Ak rX => ?_⟩
       have hs:=q4 Ak rX
       show (match whose gh es Ak.block with | some p=>some (n,p.1) | none=>(gh g).sub Ak.block)=some (m,j)
       rw [hnw Ak.block (.inr (by rw [hs];rfl))];exact hs
    rw [List.getElem?_set] at hz
    split at hz
    ·rename_i hkm
     subst hkm
     simp only [Option.some.injEq] at hz;subst hz
     rw [cu (by rw [hrl];omega)] at hy
     split at hy
     ·rename_i hin
      have hj':j-off<us.length:=by omega
      have hu:us[j-off]?=some us[j-off]:=List.getElem?_eq_getElem hj'
      have hcv:=hcell (j-off) y _ hy hu
      have e1:off+(j-off)=j:=by omega
      rw [e1] at hcv
      refine ⟨us[j-off],?_,?_⟩
      ·rw [hget,cu (by simp;omega),if_pos (by omega)]
       have e2:ad.off+n*sz+j-(ad.off+n*sz+off)=j-off:=by omega
       rw [e2];exact hu
      ·unfold gB
       cases hcj:ah.lookup j with
       |none=>rw [hcj] at hcv;exact (hl.iY hcv).cls ca' ci'
       |some s=>
        rw [hcj] at hcv
        simp only at hcv ⊢
        rw [hh2 j s hin.1 hin.2 hcj]
        obtain ⟨l',rfl,hcv⟩:=hcv
        rcases hcv with ⟨q1,rfl,hss⟩ | ⟨e,a1,i1,q1,q2,q3,q4,q5⟩
        ·exact ⟨[],none,0,rfl,q1.trans (by rw [fD hss];simp [ml]),.inl ⟨rfl,rfl,rfl,hss⟩,fun Ak rX=>by cases rX⟩
        ·have hA:dw E st gh w a1 i1 s l' (gh e):=by have:=h.aJ e;rw [q2] at this;exact this
         refine ⟨l',(gh e).ad,(gh e).cap,rfl,q5,(((hl.Ag (fun Ak rX=>hw _ fun e3 => ?_) hA).cls q3 q4).cls ca' ci').sub rfl rfl,fun Ak rX => ?_⟩
         ·exact hdis ad.block (j,e) q1 (Gh.jk had) (.inl ⟨Ak,rX,e3⟩)
         ·have:=J_ h hnd heo q1 rX
          simp only [G,this]
     ·rename_i hin
      exact old l[n] hln hy fun e=>hin ⟨e.2.1,e.2.2⟩
    ·rename_i hkm
     exact old z hz hy fun e=>hkm e.1.symm)
  (fun d hd=>by
   subst hX WR
   simp only [O.names] at hd
   simp only [St.au,List.contains_nil,Bool.false_or]
   exact h.uo g d (by rw [hog];exact hh3 d hd))
 exact ⟨_,m1,m2⟩
theorem Rel.gather (h:Rel E st gh val w) (S:Nat→Prop) {d:Nat} (hd:st.used d=false) (a i:Bool) (sz:Nat) (ah:List (Nat×Nat)) (l:List (List P)) (G:Gh) (st':St) (w':World)
  (hs:st'.s=st.s) (hod:st'.o d=.ay a i sz ah l none) (hoS :∀g,S g→g≠d→st'.o g=.none) (zf :∀g,¬ S g→g≠d→st'.o g=st.o g) (hus :∀g,st.used g=true→st'.used g=true) (hud:st'.used d=true)
  {ad:Addr} {c:Array Value} {ty:TypeId} (hsm:sz<MB) (had:G.ad=some ad) (hsp:ad.spot=none) (hc:w'.heap[ad.block]?=some (.cells c ty (0,0))) (hcs:ad.off+G.cap*sz≤c.size) (hcap:l.length≤G.cap∧G.cap≤9223372036854775807) (hrow :∀x∈l,x.length=sz)
  (hself:G.sub ad.block=none) (hsub :∀b,(G.sub b).isSome=true→(∃g,S g∧(st.o g).aX=true∧(gh g).has b)∧∃ob,w.heap[b]?=some ob∧blk ob=true)
  (aga:(∃g,S g∧(st.o g).aX=true∧(gh g).has ad.block)∨(w.heap.size≤ad.block∧ad.block<w'.heap.size))
  (hw :∀b,b<w.heap.size→b≠ad.block→w'.heap[b]?=w.heap[b]?) (hsz:w.heap.size≤w'.heap.size) (hos:w'.os=w.os) (htape:w'.tape=w.tape) (hout:w'.output=w.output)
  (hwi :∀g i1,S g→(st.o g).inner=some i1→i1=true→i=true) (hSi :∀g,S g→(st.o g).aX=true→∃i1,(st.o g).inner=some i1)
  (hcell :∀(n:Nat) x,l[n]?=some x→∀(j:Nat) y,x[j]?=some y→∃v,c[ad.off+n*sz+j]?=some v∧match ah.lookup j with
   |none=>aU w (E.ok st gh w a i) y v
   |some s=>yN E st gh w a i G s n j y v) :
  Rel E st' (dH gh d G) val w'∧Lets E st st' gh (dH gh d G) w w':=by
 have hblt :∀b,(∃g,S g∧(st.o g).aX=true∧(gh g).has b)→b<w.heap.size:=fun b ⟨g,_,h1,h2⟩=>(h.wr g b h1 h2).2
 have hhas :∀b,G.has b→(∃g,S g∧(st.o g).aX=true∧(gh g).has b)∨(w.heap.size≤b∧b<w'.heap.size):=by
  rintro b (⟨ad',q1,q2⟩ | q1)
  ·rw [had] at q1;cases q1;rw [←q2];exact aga
  ·exact .inl (hsub b q1).1
 refine h.merge S d (.ay a i sz ah l none) G st' w' hs hod hoS zf hus hud (fun hu=>by rw [hd] at hu;cases hu)
  (fun b hb=>(hhas b hb).imp (fun ⟨g,q1,q2⟩=>⟨g,.inl q1,q2⟩) id)
  (fun b hb hno=>hw b hb fun e=>by
   rcases aga with ⟨g,q1,q2,q3⟩ | q
   ·exact hno g (.inl q1) q2 (e▸q3)
   ·omega)
  hsz hos htape hout (fun i1 b e1 hb hwr=>by
   cases e1
   rcases hhas b hb with ⟨g,q1,q2,q3⟩ | q
   ·obtain ⟨i1,e1⟩:=hSi g q1 q2
    exact hwi g i1 q1 e1 (h.wi g i1 b e1 q3 hwr)
   ·have:=h.wb _ hwr;have:=h.size;omega)
  (fun _ e=>by cases e) (fun hl => ?_) (fun g hg=>by simp [O.names,bn] at hg)
 have hne :∀b,(G.sub b).isSome=true→w'.heap[b]?=w.heap[b]?:=fun b hb=>hw b (hblt b (hsub b hb).1) fun e=>by rw [e,hself] at hb;cases hb
 refine dY.of hsm (.inr ⟨ad,c,ty,had,hsp,hc,hcs,hcap,hrow,⟨hself,fun b hb=>by rw [hne b hb];exact (hsub b hb).2⟩,fun n x hx j y hy => ?_⟩)
 obtain ⟨v,hv,hr⟩:=hcell n x hx j y hy
 refine ⟨v,hv,?_⟩
 unfold gB
 cases hcj:ah.lookup j with
 |none=>rw [hcj] at hr;exact hl.iY hr
 |some s=>
  rw [hcj] at hr
  obtain ⟨l',ao,k,q1,q2,q3,q4⟩:=hr
  exact ⟨l',ao,k,q1,q2,hl.Ag (fun Ak rX=>hne _ (by rw [q4 Ak rX];rfl)) q3,q4⟩
theorem PartOf.agb (h:Rel E st gh val w) {a i:Bool} {es:List (Nat×Nat)} {s q n j:Nat} {y:P} {u:Value} {G:Gh} (hp:PartOf st gh a i es s q y u) (hG :∀p∈es,p.1=q→∀ad,(gh p.2).ad=some ad→G.sub ad.block=some (n,j)):yN E st gh w a i G s n j y u:=by
 obtain ⟨l',rfl,hp⟩:=hp
 rcases hp with ⟨q1,rfl,hss⟩ | ⟨e,a1,i1,q1,q2,q3,q4,q5⟩
 ·exact ⟨[],none,0,rfl,q1.trans (by rw [fD hss];simp [ml]),.inl ⟨rfl,rfl,rfl,hss⟩,fun Ak rX=>by cases rX⟩
 ·have hA:dw E st gh w a1 i1 s l' (gh e):=by have:=h.aJ e;rw [q2] at this;exact this
  exact ⟨l',(gh e).ad,(gh e).cap,rfl,q5,(hA.cls q3 q4).sub rfl rfl,fun Ak rX=>hG (q,e) q1 rfl Ak rX⟩
theorem gB.oneCell {a i:Bool} {G:Gh} {ah:List (Nat×Nat)} {hole:Option (Nat×Nat×Nat)} {n j:Nat} {y:P} {v:Value} (h:gB E st gh w a i G ah hole n j y v):v.oneCell'=true:=by
 unfold gB at h
 split at h
 ·exact h.oneCell
 ·split at h
  ·exact h.1
  ·obtain ⟨l',ao,k,_,rfl,_⟩:=h;exact FM
theorem zq {Pg:Program} {a i:Bool} {sz:Nat} {ah:List (Nat×Nat)} {l:List (List P)} {hole:Option (Nat×Nat×Nat)} {G:Gh} (hsm:sz<MB) (h:dY E st gh w a i sz ah l hole G) (m:Nat) (hm:m≤l.length) :
  ∃cs:List Value,(Builtin.firstCells sz m (.slice G.ad m G.cap)).run Pg w=.ok cs.toArray w∧cs.length=m*sz∧(∀c∈cs,c.oneCell'=true)∧(∀x∈l,x.length=sz)∧
   ∀(n:Nat) x,n<m→l[n]?=some x→∀(j:Nat) y,x[j]?=some y→∃u,cs[n*sz+j]?=some u∧gB E st gh w a i G ah hole n j y u:=by
 rcases dY.old hsm h with ⟨h1,_,h3,_⟩ | ⟨ad,c,e,h1,h2,h3,h4,h5,h6,h7,h8⟩
 ·subst h3
  have:m=0:=by simpa using hm
  subst this
  exact ⟨[],by rw [h1];simp [Builtin.firstCells],by simp,by simp,by simp,by simp⟩
 ·obtain ⟨b,o,sp⟩:=ad
  simp only at h2 h3 h4 h8;subst h2
  have hle:m*sz≤G.cap*sz:=Nat.mul_le_mul_right _ (by omega)
  have key :∀k,k<m*sz→∃u,c[o+k]?=some u∧u.oneCell'=true:=by
   intro k hk
   have hsz:0<sz:=by rcases Nat.eq_zero_or_pos sz with e | e;(subst e;simp at hk);exact e
   have hq:k/sz<m:=(Nat.div_lt_iff_lt_mul hsz).2 hk
   have hr:=List.getElem?_eq_getElem (show k/sz<l.length by omega)
   have hmm:k % sz<(l[k/sz]).length:=by rw [h6 _ (List.getElem_mem _)];exact Nat.mod_lt _ hsz
   obtain ⟨u,hu,GN⟩:=h8 (k/sz) _ hr (k % sz) _ (List.getElem?_eq_getElem hmm)
   refine ⟨u,?_,GN.oneCell⟩
   rw [←hu]
   have:o+k/sz*sz+k % sz=o+k:=by
    have:=Nat.div_add_mod k sz
    rw [Nat.mul_comm] at this;omega
   rw [this]
  have hcell :∀k,w.cell? ⟨b,o+k,none⟩=c[o+k]?:=fun k=>by simp [World.cell?,h3]
  have hcs :∀j,j<m*sz→w.cell? ⟨b,o+j,none⟩=((List.range (m*sz)).map fun k=>(w.cell? ⟨b,o+k,none⟩).getD undef)[j]?:=by
   intro j hj
   obtain ⟨u,hu,_⟩:=key j hj
   simp [List.getElem?_map,List.getElem?_range hj,hcell,hu]
  refine ⟨(List.range (m*sz)).map fun k=>(w.cell? ⟨b,o+k,none⟩).getD undef,?_,by simp,fun u hu => ?_,h6,fun n x hnm hx j y hy => ?_⟩
  ·have:=kY (Pg:=Pg) (w:=w) ⟨b,o,none⟩ ((List.range (m*sz)).map fun k=>(w.cell? ⟨b,o+k,none⟩).getD undef) (m*sz) 0 #[] (fun j hj=>by
    rw [Addr.fK,Nat.zero_add];exact hcs j hj) (by simp)
   rw [h1]
   simp only [Builtin.firstCells,loadCells]
   rw [this]
   congr 1
   rw [List.take_of_length_le (by simp)]
   simp
  ·simp only [List.mem_map,List.mem_range] at hu
   obtain ⟨k,hk,rfl⟩:=hu
   obtain ⟨u,hu,ho⟩:=key k hk
   rw [hcell,hu];exact ho
  ·obtain ⟨u,hu,GN⟩:=h8 n x hx j y hy
   have hlt:n*sz+j<m*sz:=by
    have hj:j<sz:=by have:=(List.getElem?_eq_some_iff.1 hy).1;have:=h6 x (List.mem_of_getElem? hx);omega
    have:(n+1)*sz≤m*sz:=Nat.mul_le_mul_right _ hnm
    rw [Nat.add_mul,Nat.one_mul] at this;omega
   exact ⟨u,by rw [←hcs _ hlt,hcell,←Nat.add_assoc];exact hu,GN⟩
end
end Go.Fw

namespace Go.Fw
set_option linter.unusedSectionVars false
variable [dA]
set_option linter.unusedVariables false
def su:List Nat→Bool
 | []=>true
 |x::xs=>!xs.contains x&&su xs
def CO (xs ys:List Nat):Bool:=xs.all fun x=>!ys.contains x
def gY (ah:List (Nat×Nat)) (off n:Nat):List (Nat×Nat):=ah.filter fun c=>Nat.ble off c.1&&Nat.blt c.1 (off+n)
def gZ (o:Nat→O) (g:Nat):Option (Bool×Bool×Nat×List (Nat×Nat)×List (List P)):=match o g with
 |.ay a i sz ah l hole=>match hole with
  |none=>some (a,i,sz,ah,l)
  |some (n,c,d)=>match o d with
   |.arr false a' i' sz' l'=>if ah.lookup c=some sz'∧c<rw sz then some (a||a',i||i',sz,ah,iH l n c (P.dX sz' l')) else none
   |_=>none
 |_=>none
def kills (gs:List Nat):List (Nat×O):=gs.map fun g=>(g,.none)
def Ov (o:Nat→O) (col:Nat→Option Nat):Nat→List W→Option (List P×Bool×Bool×List Nat×List (Nat×Nat))
 |_,[]=>some ([],false,false,[],[])
 |j,x::xs=>match Ov o col (j+1) xs with
  |none=>none
  |some (ys,a',i',gs',es)=>match col j with
   |none=>match x.toP o with
    |some (y,a,i,gs)=>some (y::ys,a||a',i||i',gs++gs',es)
    |none=>none
   |some s=>match x with
    |.bg=>if s<MB then some (.sl 0 []::ys,a',i',gs',es) else none
    |.own e=>match o e with
     |.arr false a i s' l=>if s'=s then some (P.dX s l::ys,a||a',i||i',gs',(j,e)::es) else none
     |_=>none
    |_=>none
def baseD (o:Nat→O):W→Option (Prop×Bool×Bool×List (List P)×List Nat×Option (Nat×List (Nat×Nat)))
 |.bg=>some (True,false,false,[],[],none)
 |.own g=>match gZ o g with
  |some (a,i,sz,ah,l)=>some (True,a,i,l,g::(o g).hn,some (sz,ah))
  |none=>none
 |.vw g lo hi=>match gZ o g with
  |some (a,i,sz,ah,l)=>some (lo=jJ 0,a,i,l.take hi.nat,g::(o g).hn,some (sz,ah))
  |none=>none
 |_=>none
def hdr (l:List (List P)):P:=.sl 0 (List.replicate l.length [])
def OZ:List (Nat×Nat)→Bool
 | [(0,0)]=>true
 |_=>false
def sD (tt:TT) (o:Nat→O) (f:Operand→S) (t:TypeId) (x:Operand):Option Ae:=match tt t,f x with
 |some i,.v (.one (.ep g n off))=>match gZ o g with
  |some (a,i',sz,ah,l)=>match ah.lookup off with
   |some s=>if (off<sz∧s<MB)∧i.size=1∧i.agg=false then some (.pure (.v (.one (.p false false (hdr ((l.getD n.nat []).getD off default).list))))) else none
   |none=>none
  |none=>none
 |_,_=>none
def bQ (tt:TT) (dc:List (Nat×Nat)) (d:Nat) (o:Nat→O) (f:Operand→S) (op:Op) (ty:TypeId):Option Ae:=
 match op with
 |.load t x=>bif OZ dc then sD tt o f t x else match tt t,f x with
  |some i,.v (.one (.ep g n off))=>match o g with
   |.ay a0 i0 yg jD l0 hole=>if off+i.size≤yg∧0<i.size then match gY jD off i.size with
    | []=>some (.pure (V.dh i.agg ((List.range i.size).map fun j=>.p a0 i0 ((l0.getD n.nat []).getD (off+j) (FN i.zero j)))))
    | [(c,s)]=>match gZ o g with
     |some (a,i',sz,ah,l)=>some (.mk True (.sl sz l) (fun y=>V.dh i.agg ((List.range i.size).map fun j=>if Nat.beq (off+j) c=true then .own d else .p a i' ((y.list.getD n.nat []).getD (off+j) (FN i.zero j))))
       (fun y=>(g,.ay a i' sz ah y.list (some (n.nat,c,d)))::(d,.arr false a i' s ((y.list.getD n.nat []).getD c default).list)::kills (o g).hn) [d])
     |none=>none
    |_=>none
    else none
   |_=>none
  |_,_=>none
 |.store t x y=>match tt t,f x,f y with
  |some i,.v (.one (.ep g n off)),.v y=>match o g with
   |.ay a0 i0 sz ah l0 hole=>match Ov o (fun j=>ah.lookup j) off y.words with
    |some (ps,a',i',gs,es)=>if off+i.size≤sz∧y.words.length=i.size∧y.solid=true∧gs.contains g=false∧su (es.map (·.2))=true∧CO (es.map (·.2)) gs=true then
      let res (pre:Prop) (a i:Bool) (l:List (List P)) (fC:Option (Nat×Nat×Nat)) (ks:List Nat):Ae:=
       .mk pre (.sl sz (l.set n.nat (aA (l.getD n.nat []) off ps))) (fun _=>.no) (fun z=>(g,.ay (a||a') (i||i') sz ah z.list fC)::kills (es.map (·.2))++kills ks++gs.map (aC o)) []
      match gY ah off i.size with
      | []=>some (res True a0 i0 l0 hole [])
      |_::_=>match hole with
       |none=>some (res True a0 i0 l0 none [])
       |some (n0,c0,d0)=>match gZ o g with
        |some (a,i1,_,_,l)=>if (es.map (·.2)).contains d0=false∧gs.contains d0=false then some (res True a i1 l none [d0])
          else if off≤c0∧c0<off+i.size then some (res (n0=n.nat) a0 i0 l0 none []) else none
        |none=>if off≤c0∧c0<off+i.size then some (res (n0=n.nat) a0 i0 l0 none []) else none
      else none
    |none=>none
   |_=>none
  |_,_,_=>none
 |.buildSlice t n parts=>match tt t,dc with
  |some { k:=.slice e,.. },_::_=>match tt e with
   |some ie=>match kJ (fun m=>if m<n then some (m*ie.size,ie.size) else none) (dZ (ie.zero.map cv) n) (parts.toList.map fun p=>(p.1,f p.2)) with
    |some ws=>match Ov o (fun j=>dc.lookup (j % ie.size)) 0 ws with
     |some (ps,a,i,gs,es)=>if n+n*ie.size≤16777216∧su (es.map (·.2))=true∧CO (es.map (·.2)) gs=true then
       some (.mk True (.sl ie.size (chunks ie.size n ps)) (fun _=>.v (.one (.own d)))
        (fun y=>(d,.ay a i ie.size dc y.list none)::kills (es.map (·.2))++gs.map (aC o)) [d]) else none
     |none=>none
    |none=>none
   |none=>none
  |_,_=>none
 |.makeSlice t n c=>match tt t,f n,f c,dc with
  |some { k:=.slice e,.. },.v (.one (.p _ _ n)),.v (.one (.p _ _ c)),_::_=>match tt e with
   |some ie=>match Ov o (fun j=>dc.lookup j) 0 (ie.zero.map cv) with
    |some (ps,false,false,[],[])=>if 0<ie.size then
     some (.mk (∃m k:Nat,n=.int .i64 m∧c=.int .i64 k∧m≤k∧ie.bytes*k≤281474976710656∧k≤9223372036854775807) (.sl ie.size (List.replicate n.nat ps))
      (fun _=>.v (.one (.own d))) (fun y=>[(d,.ay false false ie.size dc y.list none)]) [d]) else none
    |_=>none
   |none=>none
  |_,_,_,_=>none
 |.call { callee:=.builtin .append,args,argTypes }=>match args.toList,argTypes.toList with
  | [s,x],sT::xT::_=>match tt sT,tt xT,f s,f x with
   |some { k:=.slice e,.. },some { k:=.slice _,.. },.v (.one s),.v (.one (.own g2))=>match tt e,baseD o s,gZ o g2 with
    |some ie,some (ask,a,i,old,ks,src),some (a2,i2,sz,ah,new)=>
     if ie.bytes≠0∧sz=ie.size∧(src=none∨src=some (sz,ah))∧su (ks++g2::(o g2).hn)=true then
      some (.mk (ask∧(old.length+new.length)*ie.bytes≤140737488355328) (.sl sz (old++new)) (fun _=>.v (.one (.own d)))
       (fun y=>(d,.ay (a||a2) (i||i2) sz ah y.list none)::kills (ks++g2::(o g2).hn)) [d]) else none
    |_,_,_=>none
   |_,_,_,_=>none
  |_,_=>none
 |.slice t x none hi none=>match tt t,f x with
  |some { k:=.slice e,.. },.v (.one (.own g))=>match tt e,o g with
   |some ie,.arr false a i sz l=>if sz=ie.size then match kK (jJ l.length) (hi.map f) with
    |some hi=>some (.mk (∃k:Nat,hi=.int .i64 k∧k≤l.length) (.sl sz (l.take hi.nat)) (fun _=>.v (.one (.own d))) (fun y=>[(d,.arr false a i sz y.list),(g,.none)]) [d])
    |none=>none
    else none
   |some ie,.ay a i sz ah l Option.none=>if sz=ie.size then match kK (jJ l.length) (hi.map f) with
    |some hi=>some (.mk (∃k:Nat,hi=.int .i64 k∧k≤l.length) (.sl sz (l.take hi.nat)) (fun _=>.v (.one (.own d))) (fun y=>[(d,.ay a i sz ah y.list Option.none),(g,.none)]) [d])
    |none=>none
    else none
   |_,_=>none
  |_,_=>none
 |_=>none
section
variable {E:Env} {st st':St} {gh aQ:Nat→Gh} {w w':World} {val:Nat→Value} {Pg:Program} {tt:TT}
theorem qU :∀{l:List Nat},su l=true→l.Nodup
 | [],_=>List.nodup_nil
 |x::l,h=>by
  simp only [su,Bool.and_eq_true,Bool.not_eq_true',List.contains_eq_mem,decide_eq_false_iff_not] at h
  exact List.nodup_cons.2 ⟨h.1,qU h.2⟩
theorem D7 {xs ys:List Nat} (h:CO xs ys=true) :∀x∈xs,x∉ys:=by
 intro x hx
 have:=(List.all_eq_true.1 h) x hx
 simpa using this
theorem gu {gs:List Nat} {g:Nat}:(kills gs).lookup g=if g∈gs then some O.none else none:=by
 induction gs with
 |nil=>rfl
 |cons x gs ih=>
  simp only [kills,List.map_cons,List.lookup,List.mem_cons]
  by_cases e:g=x
  ·subst e;simp
  ·have:(g==x)=false:=by simpa using e
   rw [this]
   simp only [e,false_or]
   exact ih
theorem uM {α:Type} {g:Nat} :∀{l r:List (Nat×α)},(l++r).lookup g=(l.lookup g).or (r.lookup g)
 | [],r=>by simp
 |(k,v)::l,r=>by
  simp only [List.cons_append,List.lookup]
  split
  ·rfl
  ·exact uM
theorem lookup_cons {α:Type} {g k:Nat} {v:α} {r:List (Nat×α)}:((k,v)::r).lookup g=if g=k then some v else r.lookup g:=by
 simp only [List.lookup]
 by_cases e:g=k
 ·subst e;simp
 ·have:(g==k)=false:=by simpa using e
  rw [this,if_neg e]
theorem GX {ah:List (Nat×Nat)} {off n j:Nat} (h:gY ah off n=[]) (h1:off≤j) (h2:j<off+n):ah.lookup j=none:=by
 cases hl:ah.lookup j with
 |none=>rfl
 |some s=>
  have hm:(j,s)∈ah:=by
   clear h
   induction ah with
   |nil=>cases hl
   |cons p ah ih=>
    obtain ⟨k,v⟩:=p
    rw [lookup_cons] at hl
    split at hl
    ·rename_i e;cases hl;subst e;simp
    ·exact List.mem_cons_of_mem _ (ih hl)
  have:(j,s)∈gY ah off n:=List.mem_filter.2 ⟨hm,by simp [h1,h2]⟩
  rw [h] at this;cases this
theorem D8 {α:Type} {g:Nat} {v:α} :∀{l:List (Nat×α)},l.lookup g=some v→(g,v)∈l
 | [],h=>by cases h
 |(k,x)::l,h=>by
  rw [lookup_cons] at h
  split at h
  ·rename_i e;cases h;subst e;simp
  ·exact List.mem_cons_of_mem _ (D8 h)
theorem RI {ah:List (Nat×Nat)} {off n c s:Nat} (h:gY ah off n=[(c,s)]):ah.lookup c=some s∧off≤c∧c<off+n∧∀j,off≤j→j<off+n→j≠c→ah.lookup j=none:=by
 have hm:(c,s)∈gY ah off n:=by rw [h];simp
 obtain ⟨m1,m2⟩:=List.mem_filter.1 hm
 simp only [Bool.and_eq_true,Nat.ble_eq,Nat.blt_eq] at m2
 have key :∀j s',ah.lookup j=some s'→off≤j→j<off+n→(j,s')=(c,s):=by
  intro j s' hl h1 h2
  have:(j,s')∈gY ah off n:=List.mem_filter.2 ⟨D8 hl,by simp [h1,h2]⟩
  rw [h] at this;simpa using this
 refine ⟨?_,m2.1,m2.2,fun j h1 h2 hne => ?_⟩
 ·cases hl:ah.lookup c with
  |none=>
   exfalso
   clear h hm key
   induction ah with
   |nil=>cases m1
   |cons p ah ih=>
    obtain ⟨k,v⟩:=p
    rw [lookup_cons] at hl
    split at hl
    ·cases hl
    ·rename_i e
     rcases List.mem_cons.1 m1 with e1 | e1
     ·cases e1;exact e rfl
     ·exact ih e1 hl
  |some s'=>have:=key c s' hl m2.1 m2.2;cases this;rfl
 ·cases hl:ah.lookup j with
  |none=>rfl
  |some s'=>have:=key j s' hl h1 h2;cases this;exact absurd rfl hne
theorem Rel.home (h:Rel E st gh val w) {g:Nat} {a i:Bool} {sz:Nat} {ah:List (Nat×Nat)} {l:List (List P)} (hh:gZ st.o g=some (a,i,sz,ah,l)) :
  ∃st1 jT,Rel E st1 jT val w∧Lets E st st1 gh jT w w∧(∀x,(jT x).ad=(gh x).ad∧(jT x).cap=(gh x).cap)∧st1.s=st.s∧(∀x,st1.used x=st.used x)∧st1.o g=.ay a i sz ah l none∧
   (∀d∈(st.o g).hn,st1.o d=.none∧d≠g)∧∀g',g'≠g→g'∉(st.o g).hn→st1.o g'=st.o g':=by
 unfold gZ at hh
 cases ho:st.o g with
 |ay a0 i0 yg jD l0 hole=>
  rw [ho] at hh
  simp only at hh
  rcases hole with _ | ⟨n,c,d⟩
  ·simp only [Option.some.injEq,Prod.mk.injEq] at hh
   obtain ⟨rfl,rfl,rfl,rfl,rfl⟩:=hh
   exact ⟨st,gh,h,⟨fun a i b hb=>⟨hb,rfl⟩,fun g _=>.inr ⟨⟨rfl,rfl⟩,O.dM _⟩⟩,fun _=>⟨rfl,rfl⟩,rfl,fun _=>rfl,ho,(fun d hd=>by cases hd),fun _ _ _=>rfl⟩
  ·simp only at hh
   cases hd:st.o d with
   |arr fz a' i' sz' l'=>
    rw [hd] at hh
    cases fz with
    |true=>cases hh
    |false=>
     simp only at hh
     split at hh
     ·rename_i hc
      simp only [Option.some.injEq,Prod.mk.injEq] at hh
      obtain ⟨rfl,rfl,rfl,rfl,rfl⟩:=hh
      obtain ⟨jT,h1,l1,e1⟩:=h.shut ho hd hc.1 hc.2
      have hne:d≠g:=by intro e;subst e;rw [ho] at hd;cases hd
      refine ⟨_,jT,h1,l1,e1,rfl,fun x=>by simp [St.au],by simp [St.au,List.lookup],fun d' hd' => ?_,fun g' h1 h2 => ?_⟩
      ·simp only [O.hn,bn,List.mem_singleton] at hd'
       subst hd'
       have e1:(d'==g)=false:=by simpa using hne
       exact ⟨by simp [St.au,List.lookup,e1],hne⟩
      ·have e1:(g'==g)=false:=by simpa using h1
       have e2:(g'==d)=false:=by simp;intro e;exact h2 (by rw [e];simp [O.hn,bn])
       simp [St.au,List.lookup,e1,e2]
     ·cases hh
   |_=>rw [hd] at hh;cases hh
 |_=>rw [ho] at hh;cases hh
theorem o9 {o:Nat→O} {g:Nat} {a i:Bool} {sz:Nat} {ah:List (Nat×Nat)} {l:List (List P)} (hh:gZ o g=some (a,i,sz,ah,l)):(o g).dim=some (sz,ml sz l):=by
 unfold gZ at hh
 cases ho:o g with
 |ay a0 i0 yg jD l0 hole=>
  rw [ho] at hh
  simp only at hh
  rcases hole with _ | ⟨n,c,d⟩
  ·simp only [Option.some.injEq,Prod.mk.injEq] at hh
   obtain ⟨rfl,rfl,rfl,rfl,rfl⟩:=hh;rfl
  ·simp only at hh
   split at hh
   ·split at hh
    ·simp only [Option.some.injEq,Prod.mk.injEq] at hh
     obtain ⟨rfl,rfl,rfl,rfl,rfl⟩:=hh
     simp [O.dim,ml,jc]
    ·cases hh
   ·cases hh
 |_=>rw [ho] at hh;cases hh
theorem GY {Q:Nat→Value→Prop} {b o n:Nat} (h :∀j,j<n→∃v,w.cell? ⟨b,o+j,none⟩=some v∧v.oneCell'=true∧Q j v) :
  ∃cs:List Value,cs.length=n∧(∀(j:Nat) u,cs[j]?=some u→w.cell? ⟨b,o+j,none⟩=some u)∧(∀c∈cs,c.oneCell'=true)∧∀(j:Nat) u,cs[j]?=some u→Q j u:=by
 have key :∀j u,((List.range n).map fun j=>(w.cell? ⟨b,o+j,none⟩).getD undef)[j]?=some u→j<n∧w.cell? ⟨b,o+j,none⟩=some u∧u.oneCell'=true∧Q j u:=by
  intro j u hu
  simp only [List.getElem?_map,Option.map_eq_some_iff] at hu
  obtain ⟨k,hk,rfl⟩:=hu
  obtain ⟨hlt,rfl⟩:=List.getElem?_eq_some_iff.1 hk
  simp at hlt ⊢
  obtain ⟨v,hv,h1,h2⟩:=h j hlt
  rw [hv];exact ⟨hlt,rfl,h1,h2⟩
 refine ⟨(List.range n).map fun j=>(w.cell? ⟨b,o+j,none⟩).getD undef,by simp,fun j u hu=>(key j u hu).2.1,fun c hc => ?_,fun j u hu=>(key j u hu).2.2.2⟩
 obtain ⟨j,hj⟩:=List.mem_iff_getElem?.1 hc
 exact (key j c hj).2.2.1
def pY (Pg:Program) (tt:TT) (dc:List (Nat×Nat)) (op:Op):Prop:=
 ∀(E:Env) (st:St) (gh:Nat→Gh) (val:Nat→Value) (w:World) (ρ:Operand→Value) (F:Operand→S) (o:Oper) (d:Nat) (r:Ae),o.op=op→Rel E st gh val w→
  (∀x,bD E st gh w (F x) (ρ x))→(∀x,∀g∈(F x).names,st.used g=true)→bQ tt dc d st.o F op o.type=some r→r.pre→(∀g∈r.new,st.used g=false)→
  ∃v w' aQ,Does Pg (execOp ρ o) w v w'∧Rel E (st.au (r.au r.val) r.new) aQ val w'∧Lets E st (st.au (r.au r.val) r.new) gh aQ w w'∧bD E (st.au (r.au r.val) r.new) aQ w' (r.dst r.val) v∧
   ∀g∈(r.dst r.val).names,(st.au (r.au r.val) r.new).used g=true
theorem St.CP {a b:St} (h1:a.s=b.s) (h2 :∀g,a.o g=b.o g) (h3 :∀g,a.used g=b.used g):a=b:=by
 obtain ⟨s,o,u⟩:=a
 obtain ⟨s',o',u'⟩:=b
 simp only at h1 h2 h3
 rw [h1,funext h2,funext h3]
theorem JC (htt:fF Pg tt) (t:TypeId) (x:Operand) {E:Env} {st:St} {gh:Nat→Gh} {val:Nat→Value} {w:World} {ρ:Operand→Value} {F:Operand→S} {o:Oper} {r:Ae} (ho:o.op=.load t x) (h:Rel E st gh val w)
  (hF :∀x,bD E st gh w (F x) (ρ x)) (hk:sD tt st.o F t x=some r) :
  ∃v w' aQ,Does Pg (execOp ρ o) w v w'∧Rel E (st.au (r.au r.val) r.new) aQ val w'∧Lets E st (st.au (r.au r.val) r.new) gh aQ w w'∧bD E (st.au (r.au r.val) r.new) aQ w' (r.dst r.val) v∧
   ∀g∈(r.dst r.val).names,(st.au (r.au r.val) r.new).used g=true:=by
 unfold sD at hk
 split at hk
 ·rename_i i g n off ht hx
  have rx:=hF x;rw [hx] at rx
  split at hk
  ·rename_i a i' sz ah l hh
   split at hk
   ·rename_i s abx
    split at hk
    ·rename_i hlt
     simp only [Option.some.injEq] at hk;subst hk
     obtain ⟨st1,jT,h1,l1,e1,es,eu,eo,ek,en1⟩:=h.home hh
     have JD:=o9 hh
     obtain ⟨ad,k,had,rfl,hkl,hv⟩:=(by cases rx.bC with | ep _ _ _ _ _ hb=>exact hb _ _ JD :∃(ad:Addr) (k:Nat),(gh g).ad=some ad∧n=.int .i64 k∧k<ml sz l∧ρ x=.pointer (some ⟨ad.block,ad.off+k*sz+off,none⟩))
     obtain ⟨hsm,hkl⟩:=Gx hkl
     have en:(P.int .i64 (k:Int)).nat=k:=by simp [P.nat,P.num]
     have JE:(jT g).ad=some ad:=by rw [(e1 g).1];exact had
     have hD:dY E st1 jT w a i' sz ah l none (jT g):=by have:=h1.aJ g;rw [eo] at this;exact this
     rcases dY.old hsm hD with ⟨k1,_⟩ | ⟨ad0,cs0,ty,k1,k2,k3,k4,k5,k6,_,k8⟩
     ·rw [JE] at k1;cases k1
     rw [JE] at k1;cases k1
     have hrow:l[k]?=some l[k]:=List.getElem?_eq_getElem hkl
     have hrl:l[k].length=sz:=k6 _ (List.getElem_mem hkl)
     have hoff:off<l[k].length:=by omega
     obtain ⟨v,hv0,hr⟩:=k8 k _ hrow off _ (List.getElem?_eq_getElem hoff)
     unfold gB at hr
     rw [abx] at hr
     simp only [fM] at hr
     obtain ⟨l',ao,kk,hy,agd,harr,_⟩:=hr
     have hss:=hlt.1.2
     rw [fD hss,fB hss] at agd
     subst agd
     have harr:=dw.old hss harr
     have hcell:w.cell? ⟨ad.block,ad.off+k*sz+off,none⟩=some (.slice ao l'.length kk):=by simp [World.cell?,k3,hv0]
     obtain ⟨v,hrun,hval⟩:=jl (Pg:=Pg) (w:=w) (htt _ _ ht) ad.block (ad.off+k*sz+off) [.slice ao l'.length kk] (by simp [hlt.2.1]) (fun j c hj=>by
      cases j with
      |zero=>simp at hj;subst hj;exact hcell
      |succ j=>simp at hj) (fun _=>by omega)
     have hvv:v=.slice ao l'.length kk:=by
      rw [hlt.2.2] at hval
      exact hval _ rfl
     have hdr':hdr ((l.getD (P.int .i64 (k:Int)).nat []).getD off default).list=.sl 0 (List.replicate l'.length []):=by
      rw [en]
      have e2:(l.getD k []).getD off default=l[k][off]:=by
       rw [List.getD_eq_getElem?_getD,List.getD_eq_getElem?_getD,hrow]
       simp [List.getElem?_eq_getElem hoff]
      rw [e2,hy,P.mZ];rfl
     rw [hdr']
     refine still h (v:=v) (by unfold execOp;rw [ho];exact eG (by rw [hv];simpa [Instr.loadAt,Instr.sureAddr] using hrun)) (bD.ofP ?_) fun g' hg'=>by simp [Ae.pure,S.names,V.names,W.names] at hg'
     rw [hvv]
     rcases harr with ⟨q1,q2,q3⟩ | ⟨Ak,c2,e2,q1,q2,q3,q4,q5,_⟩
     ·subst q3;exact .nil _ _ _
     ·have q1:ao=some Ak:=q1
      have q5:l'.length≤kk∧kk≤9223372036854775807:=q5
      rw [q1]
      have:=aU.sl (w:=w) (ok:=E.ok st gh w false false) 0 (List.replicate l'.length []) Ak kk (fun _ _=>undef) q2 (fun h0=>absurd h0 (Nat.lt_irrefl 0)) (by simpa using q5.1) (fun x hx=>by rw [List.eq_of_mem_replicate hx];rfl)
       (fun n x hx j y hy=>by rw [List.eq_of_mem_replicate (List.mem_of_getElem? hx)] at hy;simp at hy) (fun n x hx j y hy=>by rw [List.eq_of_mem_replicate (List.mem_of_getElem? hx)] at hy;simp at hy)
      simpa using this
    ·cases hk
   ·cases hk
  ·cases hk
 ·cases hk
theorem O1 {dc:List (Nat×Nat)} (htt:fF Pg tt) (t:TypeId) (x:Operand):pY Pg tt dc (.load t x):=by
 intro E st gh val w ρ F o d r ho h hF hFn hk hp hd
 simp only [bQ] at hk
 cases hhd:OZ dc with
 |true=>rw [hhd] at hk;exact JC htt t x ho h hF hk
 |false=>
 rw [hhd] at hk
 simp only [cond_false] at hk
 split at hk
 ·rename_i i g n off ht hx
  have rx:=hF x;rw [hx] at rx
  split at hk
  ·rename_i a0 i0 yg jD l0 hole hog
   split at hk
   ·rename_i hlt
    have JD:(st.o g).dim=some (yg,ml yg l0):=by rw [hog];rfl
    obtain ⟨ad,k,had,rfl,hkl,hv⟩:=(by cases rx.bC with | ep _ _ _ _ _ hb=>exact hb _ _ JD :∃(ad:Addr) (k:Nat),(gh g).ad=some ad∧n=.int .i64 k∧k<ml yg l0∧ρ x=.pointer (some ⟨ad.block,ad.off+k*yg+off,none⟩))
    obtain ⟨hsm,hkl⟩:=Gx hkl
    have en:(P.int .i64 (k:Int)).nat=k:=by simp [P.nat,P.num]
    split at hk
    ·rename_i hci
     simp only [Option.some.injEq] at hk;subst hk
     have hD:dY E st gh w a0 i0 yg jD l0 hole (gh g):=by have:=h.aJ g;rw [hog] at this;exact this
     rcases dY.old hsm hD with ⟨k1,_⟩ | ⟨ad0,cs0,ty,k1,k2,k3,k4,k5,k6,_,k8⟩
     ·rw [had] at k1;cases k1
     rw [had] at k1;cases k1
     have hrow:l0[k]?=some l0[k]:=List.getElem?_eq_getElem hkl
     have hrl:l0[k].length=yg:=k6 _ (List.getElem_mem hkl)
     have hget:l0.getD (P.int .i64 (k:Int)).nat []=l0[k]:=by rw [en,List.getD_eq_getElem?_getD,hrow];rfl
     obtain ⟨cs,hl,hcell,hone,hrep⟩:=GY (w:=w) (b:=ad.block) (o:=ad.off+k*yg+off) (n:=i.size) (Q:=fun j v=>aU w (E.ok st gh w a0 i0) (l0[k].getD (off+j) (FN i.zero j)) v) fun j hj=>by
      have hlt':off+j<l0[k].length:=by omega
      obtain ⟨v,hv,hr⟩:=k8 k _ hrow (off+j) _ (List.getElem?_eq_getElem hlt')
      simp only [gB,GX hci (show off≤off+j by omega) (show off+j<off+i.size by omega)] at hr
      have e0:ad.off+k*yg+off+j=ad.off+k*yg+(off+j):=by omega
      refine ⟨v,by rw [e0];simp [World.cell?,k3,hv],hr.oneCell,?_⟩
      rw [List.getD_eq_getElem?_getD,List.getElem?_eq_getElem hlt'];exact hr
     obtain ⟨v,hrun,hval⟩:=jl (Pg:=Pg) (w:=w) (htt _ _ ht) ad.block (ad.off+k*yg+off) cs hl hcell (fun _=>hlt.2)
     rw [hget]
     exact still h (v:=v) (by unfold execOp;rw [ho];exact eG (by rw [hv];simpa [Instr.loadAt,Instr.sureAddr] using hrun)) (iJ (by simp [hl]) hone (fun j y u hy hu=>by
       simp only [List.getElem?_map,Option.map_eq_some_iff] at hy
       obtain ⟨q,hq,rfl⟩:=hy
       obtain ⟨hlt2,rfl⟩:=List.getElem?_eq_some_iff.1 hq
       simp at hlt2 ⊢
       exact .p _ _ _ _ (hrep _ u hu)) v hval)
      fun g' hg'=>by obtain ⟨y,hy,hg'⟩:=gX hg';rw [nR hy] at hg';cases hg'
    ·rename_i c s hci
     split at hk
     ·rename_i a i' sz ah l hh
      simp only [Option.some.injEq] at hk;subst hk
      obtain ⟨st1,jT,h1,l1,e1,es,eu,eo,ek,en1⟩:=h.home hh
      have YH:=o9 hh
      rw [JD] at YH
      simp only [Option.some.injEq,Prod.mk.injEq] at YH
      obtain ⟨rfl,hll⟩:=YH
      have hcols:ah=jD:=by
       unfold gZ at hh
       rw [hog] at hh
       simp only at hh
       split at hh
       ·cases hh;rfl
       ·split at hh
        ·split at hh
         ·cases hh;rfl
         ·cases hh
        ·cases hh
      subst hcols
      obtain ⟨c1,c2,c3,c4⟩:=RI hci
      have D5:st.used d=false:=hd d (by simp)
      have JE:(jT g).ad=some ad:=by rw [(e1 g).1];exact had
      have hD:dY E st1 jT w a i' yg ah l none (jT g):=by have:=h1.aJ g;rw [eo] at this;exact this
      rcases dY.old hsm hD with ⟨k1,_⟩ | ⟨ad0,cs0,ty,k1,k2,k3,k4,k5,k6,_,k8⟩
      ·rw [JE] at k1;cases k1
      rw [JE] at k1;cases k1
      rw [fB hsm,fB hsm] at hll
      have hkl':k<l.length:=by omega
      have hrow:l[k]?=some l[k]:=List.getElem?_eq_getElem hkl'
      have hrl:l[k].length=yg:=k6 _ (List.getElem_mem hkl')
      have hget:l.getD (P.int .i64 (k:Int)).nat []=l[k]:=by rw [en,List.getD_eq_getElem?_getD,hrow];rfl
      have hyc:l[k][c]?=some l[k][c]:=List.getElem?_eq_getElem (by omega)
      obtain ⟨l',ao,kc,wH,hy,⟨Ak,ob2,q1,q2,q2',q3⟩,q4,q5,r1,r2⟩:=h1.split (d:=d) (by rw [eu];exact D5) eo c1 hrow hyc
      rw [JE] at q1;cases q1
      rw [k3] at q2;cases q2
      have q3:cs0[ad.off+k*yg+c]?=some (hdl s ao (ml s l') kc):=q3
      have hlist:((l.getD (P.int .i64 (k:Int)).nat []).getD c default).list=l':=by
       rw [hget,List.getD_eq_getElem?_getD,hyc]
       show (l[k][c]).list=l'
       rw [hy,P.mZ]
      have hgd:g≠d:=fun e=>by rw [←e,h.ul g (by rw [hog];simp)] at D5;cases D5
      have hst:st1.au [(g,.ay a i' yg ah l (some (k,c,d))),(d,.arr false a i' s l')] [d]=st.au ((g,.ay a i' yg ah l (some ((P.int .i64 (k:Int)).nat,c,d)))::(d,.arr false a i' s ((l.getD (P.int .i64 (k:Int)).nat []).getD c default).list)::kills (st.o g).hn) [d]:=by
       rw [hlist,en]
       refine St.CP es (fun x => ?_) (fun x=>by simp [St.au,eu])
       simp only [St.au,lookup_cons,gu]
       by_cases x1:x=g
       ·simp only [if_pos x1]
       ·by_cases x2:x=d
        ·simp only [if_neg x1,if_pos x2]
        ·simp only [if_neg x1,if_neg x2]
         by_cases x3:x∈(st.o g).hn
         ·simp only [if_pos x3];exact (ek x x3).1
         ·simp only [if_neg x3];exact en1 x x1 x3
      obtain ⟨cs,hl,hcell,hone,hrep⟩:=GY (w:=w) (b:=ad.block) (o:=ad.off+k*yg+off) (n:=i.size) (Q:=fun j v=>if Nat.beq (off+j) c=true then v=hdl s ao (ml s l') kc else aU w (E.ok st1 jT w a i') (l[k].getD (off+j) (FN i.zero j)) v) fun j hj=>by
       have hlt':off+j<l[k].length:=by omega
       obtain ⟨v,hv,hr⟩:=k8 k _ hrow (off+j) _ (List.getElem?_eq_getElem hlt')
       have e0:ad.off+k*yg+off+j=ad.off+k*yg+(off+j):=by omega
       refine ⟨v,by rw [e0];simp [World.cell?,k3,hv],hr.oneCell,?_⟩
       by_cases hjc:off+j=c
       ·rw [if_pos (by simpa using hjc)]
        rw [hjc] at hv
        rw [hv] at q3;exact Option.some.inj q3
       ·rw [if_neg (by simpa using hjc)]
        simp only [gB,c4 (off+j) (by omega) (by omega) hjc] at hr
        rw [List.getD_eq_getElem?_getD,List.getElem?_eq_getElem hlt'];exact hr
      obtain ⟨v,hrun,hval⟩:=jl (Pg:=Pg) (w:=w) (htt _ _ ht) ad.block (ad.off+k*yg+off) cs hl hcell (fun _=>hlt.2)
      have hod:(st1.au [(g,.ay a i' yg ah l (some (k,c,d))),(d,.arr false a i' s l')] [d]).o d=.arr false a i' s l':=by
       have:(d==g)=false:=by simpa using hgd.symm
       simp [St.au,List.lookup,this]
      refine ⟨v,w,wH,.inl (by unfold execOp;rw [ho];exact eG (by rw [hv];simpa [Instr.loadAt,Instr.sureAddr] using hrun)),?_,?_,?_,fun g' hg' => ?_⟩
      ·rw [hst] at r1;exact r1
      ·have:=Lets.trans l1 r2 fun g hg=>by rw [eu];exact hg
       rw [hst] at this;exact this
      ·have hS:bD E (st1.au [(g,.ay a i' yg ah l (some (k,c,d))),(d,.arr false a i' s l')] [d]) wH w (V.dh i.agg ((List.range i.size).map fun j=>if Nat.beq (off+j) c=true then W.own d else W.p a i' ((l.getD (P.int .i64 (k:Int)).nat []).getD (off+j) (FN i.zero j)))) v:=by
        rw [hget]
        refine iJ (by simp [hl]) hone (fun j y u hy hu => ?_) v hval
        simp only [List.getElem?_map,Option.map_eq_some_iff] at hy
        obtain ⟨q,hq,rfl⟩:=hy
        obtain ⟨hlt2,rfl⟩:=List.getElem?_eq_some_iff.1 hq
        simp at hlt2 ⊢
        have hr:=hrep _ u hu
        by_cases hjc:off+j=c
        ·rw [if_pos hjc]
         rw [if_pos (by simpa using hjc)] at hr
         subst hr
         exact .own d _ FM fun sz3 aiU hd3=>by rw [hod] at hd3;obtain ⟨e3,e2⟩:=O.iG hd3;rw [q4,q5,e2,e3]
        ·rw [if_neg hjc]
         rw [if_neg (by simpa using hjc)] at hr
         exact .p _ _ _ _ (r2.iY (by simpa using hr))
       rw [hst] at hS;exact hS
      ·have hg':g'∈(V.dh i.agg ((List.range i.size).map fun j=>if Nat.beq (off+j) c=true then W.own d else W.p a i' ((l.getD (P.int .i64 (k:Int)).nat []).getD (off+j) (FN i.zero j)))).names:=hg'
       obtain ⟨y,hy,hg'⟩:=gX hg'
       obtain ⟨j,_,rfl⟩:=List.mem_map.1 hy
       split at hg'
       ·simp only [W.names,List.mem_singleton] at hg';subst hg';simp [St.au]
       ·simp [W.names] at hg'
     ·cases hk
    ·cases hk
   ·cases hk
  ·cases hk
 ·cases hk
theorem PartOf.mono {a i a' i':Bool} {es es':List (Nat×Nat)} {s j:Nat} {y:P} {u:Value} (h:PartOf st gh a i es s j y u) (ha:a=true→a'=true) (hi:i=true→i'=true) (he :∀p∈es,p∈es'):PartOf st gh a' i' es' s j y u:=by
 obtain ⟨l',h1,h2⟩:=h
 refine ⟨l',h1,h2.imp id ?_⟩
 rintro ⟨e,a1,i1,q1,q2,q3,q4,q5⟩
 exact ⟨e,a1,i1,he _ q1,q2,fun h=>ha (q3 h),fun h=>hi (q4 h),q5⟩
theorem Az (h:Rel E st gh val w) {col:Nat→Option Nat} :∀{ws:List W} {cs:List Value} {ps:List P} {a i:Bool} {gs:List Nat} {es:List (Nat×Nat)} {j0:Nat},ws.length=cs.length→(∀(j:Nat) x u,ws[j]?=some x→cs[j]?=some u→dP E st gh w x u)→
  Ov st.o col j0 ws=some (ps,a,i,gs,es)→ps.length=ws.length∧wB st.o gs∧(∀p∈es,∃a1 i1 s l',st.o p.2=.arr false a1 i1 s l'∧(i1=true→i=true))∧
   ∀(j:Nat) y u,ps[j]?=some y→cs[j]?=some u→match col (j0+j) with
    |none =>∀st',(∀g∈gs,st'.o g=(Fw.aC st.o g).2)→Rel E st' gh val w→Lets E st st' gh gh w w→aU w (E.ok st' gh w a i) y u
    |some s=>PartOf st gh a i es s (j0+j) y u
 | [],cs,ps,a,i,gs,es,j0,hl,hr,ht=>by
  simp only [Ov,Option.some.injEq,Prod.mk.injEq] at ht
  obtain ⟨rfl,rfl,rfl,rfl,rfl⟩:=ht
  exact ⟨rfl,wB.nil,(fun p hp=>by cases hp),fun j y u hy=>by simp at hy⟩
 |x::ws,cs,ps,a,i,gs,es,j0,hl,hr,ht=>by
  cases cs with
  |nil=>simp at hl
  |cons c cs=>
   simp only [Ov] at ht
   split at ht
   ·cases ht
   ·rename_i ys a' i' gs' es' h2
    obtain ⟨q0,q1,qe,q2⟩:=Az h (j0:=j0+1) (by simpa using hl) (fun j a b ha hb=>hr (j+1) a b (by simpa using ha) (by simpa using hb)) h2
    have rest :∀(a i:Bool) (gs:List Nat) (es:List (Nat×Nat)),(a'=true→a=true)→(i'=true→i=true)→(∀g∈gs',g∈gs)→(∀p∈es',p∈es)→∀(j:Nat) y u,ys[j]?=some y→cs[j]?=some u→match col (j0+(j+1)) with
      |none =>∀st',(∀g∈gs,st'.o g=(Fw.aC st.o g).2)→Rel E st' gh val w→Lets E st st' gh gh w w→aU w (E.ok st' gh w a i) y u
      |some s=>PartOf st gh a i es s (j0+(j+1)) y u:=by
     intro a i gs es ha hi hg he j y u hy hu
     have:=q2 j y u hy hu
     have e:j0+1+j=j0+(j+1):=by omega
     rw [e] at this
     cases hc:col (j0+(j+1)) with
     |none=>rw [hc] at this;exact fun st' h1 h2 h3=>(this st' (fun g hg'=>h1 g (hg g hg')) h2 h3).cls ha hi
     |some s=>rw [hc] at this;exact this.mono ha hi he
    cases hc0:col j0 with
    |none=>
     rw [hc0] at ht
     simp only at ht
     split at ht
     ·rename_i y1 a1 i1 gs1 h1
      simp only [Option.some.injEq,Prod.mk.injEq] at ht
      obtain ⟨rfl,rfl,rfl,rfl,rfl⟩:=ht
      obtain ⟨k1,k2⟩:=Mc h (hr 0 x c rfl rfl) h1
      refine ⟨by simp [q0],k1.append q1,fun p hp=>let ⟨a2,i2,s2,l2,z1,z2⟩:=qe p hp;⟨a2,i2,s2,l2,z1,fun hh=>by simp [z2 hh]⟩,fun j y u hy hu => ?_⟩
      cases j with
      |zero=>
       simp at hy hu;subst hy hu
       rw [Nat.add_zero,hc0]
       exact fun st' hst h' hlet=>(k2 st' (fun g hg=>hst g (by simp [hg])) h' hlet).cls (by simp;exact fun h=>.inl h) (by simp;exact fun h=>.inl h)
      |succ j=>exact rest _ _ _ _ (by simp;exact fun h=>.inr h) (by simp;exact fun h=>.inr h) (fun g hg=>by simp [hg]) (fun p hp=>hp) j y u (by simpa using hy) (by simpa using hu)
     ·cases ht
    |some s=>
     rw [hc0] at ht
     simp only at ht
     split at ht
     ·split at ht
      rotate_left
      ·cases ht
      rename_i hss
      simp only [Option.some.injEq,Prod.mk.injEq] at ht
      obtain ⟨rfl,rfl,rfl,rfl,rfl⟩:=ht
      refine ⟨by simp [q0],q1,qe,fun j y u hy hu => ?_⟩
      cases j with
      |zero=>
       simp at hy hu;subst hy hu
       rw [Nat.add_zero,hc0]
       have r0:=hr 0 _ _ rfl rfl
       cases r0
       exact ⟨[],by rw [P.jU hss],.inl ⟨rfl,rfl,hss⟩⟩
      |succ j=>exact rest _ _ _ _ id id (fun g hg=>hg) (fun p hp=>hp) j y u (by simpa using hy) (by simpa using hu)
     ·rename_i e
      split at ht
      ·rename_i a1 i1 s' l1 hoe
       split at ht
       ·rename_i hs
        subst hs
        simp only [Option.some.injEq,Prod.mk.injEq] at ht
        obtain ⟨rfl,rfl,rfl,rfl,rfl⟩:=ht
        refine ⟨by simp [q0],q1,fun p hp => ?_,fun j y u hy hu => ?_⟩
        ·rcases List.mem_cons.1 hp with rfl | hp
         ·exact ⟨a1,i1,s',l1,hoe,fun hh=>by simp [hh]⟩
         ·obtain ⟨a2,i2,s2,l2,z1,z2⟩:=qe p hp
          exact ⟨a2,i2,s2,l2,z1,fun hh=>by simp [z2 hh]⟩
        cases j with
        |zero=>
         simp at hy hu;subst hy hu
         rw [Nat.add_zero,hc0]
         have r0:=hr 0 _ _ rfl rfl
         refine ⟨l1,rfl,.inr ⟨e,a1,i1,by simp,hoe,by simp;exact fun h=>.inl h,by simp;exact fun h=>.inl h,?_⟩⟩
         cases r0 with | own _ _ _ hb=>exact hb _ _ (O.iq hoe)
        |succ j=>exact rest _ _ _ _ (by simp;exact fun h=>.inr h) (by simp;exact fun h=>.inr h) (fun g hg=>hg) (fun p hp=>by simp [hp]) j y u (by simpa using hy) (by simpa using hu)
       ·cases ht
      ·cases ht
     ·cases ht
theorem zu {o:Nat→O} {g:Nat} {a0 i0:Bool} {yg:Nat} {jD:List (Nat×Nat)} {l0:List (List P)} {hole:Option (Nat×Nat×Nat)} {a i:Bool} {sz:Nat} {ah:List (Nat×Nat)} {l:List (List P)} (hog:o g=.ay a0 i0 yg jD l0 hole)
  (hh:gZ o g=some (a,i,sz,ah,l)):sz=yg∧ah=jD∧l.length=l0.length:=by
 unfold gZ at hh
 rw [hog] at hh
 simp only at hh
 split at hh
 ·cases hh;exact ⟨rfl,rfl,rfl⟩
 ·split at hh
  ·split at hh
   ·cases hh;exact ⟨rfl,rfl,jc⟩
   ·cases hh
  ·cases hh
theorem uN (htt:fF Pg tt) (h:Rel E st gh val w) {o:Oper} {ρ:Operand→Value} {t:TypeId} {x y:Operand} (ho:o.op=.store t x y) {i:TI} (ht:tt t=some i) {y':V} (ry:qK E st gh w y' (ρ y)) (hys:y'.solid=true) (hyl:y'.words.length=i.size)
  {g:Nat} {a1 i1:Bool} {sz:Nat} {ah:List (Nat×Nat)} {l:List (List P)} {hole fC:Option (Nat×Nat×Nat)} {ad:Addr} {k off:Nat} (hv:ρ x=.pointer (some ⟨ad.block,ad.off+k*sz+off,none⟩)) (hsz:off+i.size≤sz) (hsm:sz<MB) (hk:k<l.length)
  {ps:List P} {a' i':Bool} {gs:List Nat} {es:List (Nat×Nat)} (hD:Ov st.o (fun j=>ah.lookup j) off y'.words=some (ps,a',i',gs,es)) (hnd:(es.map (·.2)).Nodup) (hap :∀e∈es.map (·.2),e∉gs)
  {st1:St} {jT:Nat→Gh} (ks:List Nat) (h1:Rel E st1 jT val w) (l1:Lets E (st.au (gs.map (Fw.aC st.o)) []) st1 gh jT w w) (e1 :∀x,(jT x).ad=(gh x).ad∧(jT x).cap=(gh x).cap) (s1:st1.s=st.s) (u1 :∀x,st1.used x=st.used x)
  (o1:st1.o g=.ay a1 i1 sz ah l hole) (had:(gh g).ad=some ad) (ok1 :∀d∈ks,st1.o d=.none∧d≠g∧d∉es.map (·.2)) (oo1 :∀g',g'≠g→g'∉ks→st1.o g'=(st.au (gs.map (Fw.aC st.o)) []).o g') (hgg:g∉gs)
  (hh1 :∀m j,¬ (m=k∧off≤j∧j<off+i.size)→∀s,ah.lookup j=some s→fM fC m j=fM hole m j) (hh2 :∀j s,off≤j→j<off+i.size→ah.lookup j=some s→fM fC k j=none) (hh3 :∀d∈bn fC,d∈bn hole) :
  ∃v w' aQ,Does Pg (execOp ρ o) w v w'∧Rel E (st.au ((g,.ay (a1||a') (i1||i') sz ah (l.set k (aA (l.getD k []) off ps)) fC)::kills (es.map (·.2))++kills ks++gs.map (Fw.aC st.o)) []) aQ val w'∧
   Lets E st (st.au ((g,.ay (a1||a') (i1||i') sz ah (l.set k (aA (l.getD k []) off ps)) fC)::kills (es.map (·.2))++kills ks++gs.map (Fw.aC st.o)) []) gh aQ w w'∧
   bD E (st.au ((g,.ay (a1||a') (i1||i') sz ah (l.set k (aA (l.getD k []) off ps)) fC)::kills (es.map (·.2))++kills ks++gs.map (Fw.aC st.o)) []) aQ w' .no v∧
   ∀g∈S.names .no,(st.au ((g,.ay (a1||a') (i1||i') sz ah (l.set k (aA (l.getD k []) off ps)) fC)::kills (es.map (·.2))++kills ks++gs.map (Fw.aC st.o)) []).used g=true:=by
 obtain ⟨us,hus,L9,huo,hur⟩:=ry.cells hys
 have RF:us.length=i.size:=by rw [L9,hyl]
 obtain ⟨q0,q1,qe,q2⟩:=Az h L9.symm hur hD
 have hpl:ps.length=i.size:=by rw [q0,hyl]
 obtain ⟨f1,f2⟩:=Rel.freezes gs h q1
 have JE:(jT g).ad=some ad:=by rw [(e1 g).1];exact had
 have hDA:dY E st1 jT w a1 i1 sz ah l hole (jT g):=by have:=h1.aJ g;rw [o1] at this;exact this
 rcases dY.old hsm hDA with ⟨k1,_⟩ | ⟨ad0,cs0,ty,k1,k2,k3,k4,k5,k6,_,k8⟩
 ·rw [JE] at k1;cases k1
 rw [JE] at k1;cases k1
 have hle:(k+1)*sz≤(jT g).cap*sz:=Nat.mul_le_mul_right _ (by have:=k5.1;omega)
 rw [Nat.add_mul,Nat.one_mul] at hle
 obtain ⟨w',c',r1,r2,r3,r4,r5,r6,r7,r8⟩:=r_ (Pg:=Pg) (htt _ _ ht) ad.block (ad.off+k*sz+off) hus RF huo k3 (by omega)
 have hes1 :∀p∈es,st1.o p.2=st.o p.2:=by
  intro p hp
  have hpm:p.2∈es.map (·.2):=List.mem_map.2 ⟨p,hp,rfl⟩
  obtain ⟨a2,i2,s2,l2,z1,_⟩:=qe p hp
  by_cases e:p.2=g
  ·exfalso
   have hog:(st.au (gs.map (Fw.aC st.o)) []).o g=st.o g:=by rw [dS,if_neg hgg]
   have hlk:=l1.names g (by simp only [St.au,List.contains_nil,Bool.false_or];exact h.ul g (by rw [←e,z1];simp))
   rw [o1,hog,←e,z1] at hlk
   rcases hlk with hlk | ⟨_,hlk⟩
   ·cases hlk
   ·exact hlk
  ·rw [oo1 _ e fun hk=>(ok1 _ hk).2.2 hpm,dS,if_neg (hap _ hpm)]
 have hm:=h1.aeu o1 JE hk (off:=off) (ps:=ps) (us:=us) hsm (by omega) (by omega) a' i' es fC hnd (fun p hp=>by
   obtain ⟨a2,i2,s2,l2,z1,z2⟩:=qe p hp
   exact ⟨a2,i2,s2,l2,by rw [hes1 p hp];exact z1,z2⟩) (fun j y u hy hu=>by
   have:=q2 j y u hy hu
   cases hc:ah.lookup (off+j) with
   |none=>rw [hc] at this;exact l1.iY (this _ (fun g hg=>by rw [dS,if_pos hg]) f1 f2)
   |some s=>
    rw [hc] at this
    obtain ⟨l',z1,z2⟩:=this
    refine ⟨l',z1,z2.imp id ?_⟩
    rintro ⟨e,a2,i2,y1,y2,y3,y4,y5⟩
    exact ⟨e,a2,i2,y1,by rw [hes1 _ y1];exact y2,y3,y4,by rw [(e1 e).1,(e1 e).2];exact y5⟩)
  (by rw [hpl];exact hh1) (by rw [hpl];exact hh2) hh3 w' r4 r5 r6 r7 r8 (fun c e hce=>by
   rw [k3] at hce;cases hce
   exact ⟨c',r2,r3⟩)
 obtain ⟨aQ,m1,m2⟩:=hm
 have hst:st1.au ((g,.ay (a1||a') (i1||i') sz ah (l.set k (aA (l.getD k []) off ps)) fC)::es.map fun p=>(p.2,O.none)) [] =
   st.au ((g,.ay (a1||a') (i1||i') sz ah (l.set k (aA (l.getD k []) off ps)) fC)::kills (es.map (·.2))++kills ks++gs.map (Fw.aC st.o)) []:=by
  refine St.CP s1 (fun z => ?_) (fun z=>by simp [St.au,u1])
  have ek:(es.map fun p=>(p.2,O.none))=kills (es.map (·.2)):=by simp [kills]
  rw [ek]
  simp only [St.au,List.cons_append,lookup_cons,uM,gu]
  by_cases z1:z=g
  ·simp only [if_pos z1]
  ·simp only [if_neg z1]
   by_cases z2:z∈es.map (·.2)
   ·simp only [if_pos z2,Option.some_or]
   ·simp only [if_neg z2,Option.none_or]
    by_cases z3:z∈ks
    ·simp only [if_pos z3,Option.some_or];exact (ok1 z z3).1
    ·simp only [if_neg z3,Option.none_or]
     rw [oo1 z z1 z3]
     rfl
 rw [hst] at m1 m2
 refine ⟨undef,w',aQ,.inr ⟨?_,rfl⟩,m1,?_,.no _,fun g hg=>by simp [S.names] at hg⟩
 ·unfold execOp;rw [ho]
  refine UF ?_
  rw [hv]
  simpa [Instr.storeAt,Instr.sureAddr] using r1
 ·exact Lets.trans (Lets.trans f2 l1 (fun g hg=>by simpa [St.au] using hg)) m2 (fun g hg=>by rw [u1];exact hg)
theorem agf {o:Nat→O} {g:Nat} {a i:Bool} {sz:Nat} {ah:List (Nat×Nat)} {l:List (List P)} {hole:Option (Nat×Nat×Nat)} (h:o g=.ay a i sz ah l hole):(o g).hn=bn hole:=by rw [h];rfl
theorem MK {g:Nat} {gs:List Nat} (hg:g∉gs) (hn :∀d∈(st.o g).hn,d∉gs):gZ (st.au (gs.map (Fw.aC st.o)) []).o g=gZ st.o g:=by
 have e1:(st.au (gs.map (Fw.aC st.o)) []).o g=st.o g:=by rw [dS,if_neg hg]
 unfold gZ
 rw [e1]
 cases ho:st.o g with
 |ay a i sz ah l hole=>
  rcases hole with _ | ⟨n,c,d⟩
  ·rfl
  ·simp only
   rw [dS,if_neg (hn d (by rw [ho];simp [O.hn,bn]))]
 |_=>rfl
theorem ML {dc:List (Nat×Nat)} (htt:fF Pg tt) (t:TypeId) (x y:Operand):pY Pg tt dc (.store t x y):=by
 intro E st gh val w ρ F o d r ho h hF hFn hk hp hd
 simp only [bQ] at hk
 split at hk
 ·rename_i i g n off y' ht hx hy
  have rx:=hF x;rw [hx] at rx
  have ry:=hF y;rw [hy] at ry
  split at hk
  ·rename_i a0 i0 sz ah l0 hole hog
   split at hk
   ·rename_i ps a' i' gs es hD
    split at hk
    ·rename_i hc
     obtain ⟨hc1,hc2,hc3,hc4,hc5,hc6⟩:=hc
     have hgg:g∉gs:=fun hm=>by simp [hm] at hc4
     have hnd:=qU hc5
     have hap:=D7 hc6
     have JD:(st.o g).dim=some (sz,ml sz l0):=by rw [hog];rfl
     obtain ⟨ad,k,had,rfl,hkl,hv⟩:=(by cases rx.bC with | ep _ _ _ _ _ hb=>exact hb _ _ JD :∃(ad:Addr) (k:Nat),(gh g).ad=some ad∧n=.int .i64 k∧k<ml sz l0∧ρ x=.pointer (some ⟨ad.block,ad.off+k*sz+off,none⟩))
     obtain ⟨hsm,hkl⟩:=Gx hkl
     have en:(P.int .i64 (k:Int)).nat=k:=by simp [P.nat,P.num]
     have ogf:(st.au (gs.map (Fw.aC st.o)) []).o g=.ay a0 i0 sz ah l0 hole:=by rw [dS,if_neg hgg];exact hog
     obtain ⟨us,hus,L9,huo,hur⟩:=ry.Gz.cells hc3
     obtain ⟨_,q1,_,_⟩:=Az h L9.symm hur hD
     obtain ⟨f1,f2⟩:=Rel.freezes gs h q1
     have refl:Lets E (st.au (gs.map (Fw.aC st.o)) []) (st.au (gs.map (Fw.aC st.o)) []) gh gh w w:=⟨fun a i b hb=>⟨hb,rfl⟩,fun g _=>.inr ⟨⟨rfl,rfl⟩,O.dM _⟩⟩
     have home :∀(a i1:Bool) (l:List (List P)),gZ st.o g=some (a,i1,sz,ah,l)→(∀d∈(st.o g).hn,d∉es.map (·.2)∧d∉gs)→
       ∃v w' aQ,Does Pg (execOp ρ o) w v w'∧Rel E (st.au ((g,.ay (a||a') (i1||i') sz ah (l.set k (aA (l.getD k []) off ps)) none)::kills (es.map (·.2))++kills (st.o g).hn++gs.map (Fw.aC st.o)) []) aQ val w'∧Lets E st (st.au ((g,.ay (a||a') (i1||i') sz ah (l.set k (aA (l.getD k []) off ps)) none)::kills (es.map (·.2))++kills (st.o g).hn++gs.map (Fw.aC st.o)) []) gh aQ w w'∧bD E (st.au ((g,.ay (a||a') (i1||i') sz ah (l.set k (aA (l.getD k []) off ps)) none)::kills (es.map (·.2))++kills (st.o g).hn++gs.map (Fw.aC st.o)) []) aQ w' .no v∧∀g'∈S.names .no,(st.au ((g,.ay (a||a') (i1||i') sz ah (l.set k (aA (l.getD k []) off ps)) none)::kills (es.map (·.2))++kills (st.o g).hn++gs.map (Fw.aC st.o)) []).used g'=true:=fun a i1 l hh hno=>by
      have hh':gZ (st.au (gs.map (Fw.aC st.o)) []).o g=some (a,i1,sz,ah,l):=by rw [MK hgg fun d hd=>(hno d hd).2];exact hh
      have hhn:((st.au (gs.map (Fw.aC st.o)) []).o g).hn=(st.o g).hn:=by rw [ogf,hog]
      obtain ⟨st1,jT,h1,l1,e1,es1,eu,eo,ek,en1⟩:=f1.home hh'
      rw [hhn] at ek en1
      have hll:=(zu hog hh).2.2
      exact uN htt h ho ht ry.Gz hc3 hc2 hv hc1 hsm (by omega) hD hnd hap (st.o g).hn h1 l1 e1 (by rw [es1];rfl) (fun z=>by rw [eu];simp [St.au]) eo had
       (fun d hd=>⟨(ek d hd).1,(ek d hd).2,(hno d hd).1⟩) en1 hgg (fC:=none) (fun _ _ _ _ _=>rfl) (fun _ _ _ _ _=>rfl) (fun d hd=>by cases hd)
     have over :∀n0 c0 d0,hole=some (n0,c0,d0)→off≤c0∧c0<off+i.size→n0=k→_:=fun n0 c0 d0 hho hcr hp=>
      uN htt h ho ht ry.Gz hc3 hc2 hv hc1 hsm hkl hD hnd hap [] f1 refl (fun _=>⟨rfl,rfl⟩) rfl (fun z=>by simp [St.au]) ogf had (fun d hd=>by cases hd) (fun _ _ _=>rfl) hgg
       (fC:=none) (fun m j hne s hs=>by
        subst hho hp
        simp only [fM]
        rw [if_neg fun e=>hne ⟨e.1.symm,by omega,by omega⟩]) (fun _ _ _ _ _=>rfl) (fun d hd=>by cases hd)
     split at hk
     ·rename_i hci
      simp only [Option.some.injEq] at hk;subst hk
      have:=uN htt h ho ht ry.Gz hc3 hc2 hv hc1 hsm hkl hD hnd hap [] f1 refl (fun _=>⟨rfl,rfl⟩) rfl (fun z=>by simp [St.au]) ogf had (fun d hd=>by cases hd) (fun _ _ _=>rfl) hgg
       (fC:=hole) (fun _ _ _ _ _=>rfl) (fun j s h1 h2 h3=>by rw [GX hci h1 h2] at h3;cases h3) (fun d hd=>hd)
      rw [en];exact this
     ·split at hk
      ·simp only [Option.some.injEq] at hk;subst hk
       have:=uN htt h ho ht ry.Gz hc3 hc2 hv hc1 hsm hkl hD hnd hap [] f1 refl (fun _=>⟨rfl,rfl⟩) rfl (fun z=>by simp [St.au]) ogf had (fun d hd=>by cases hd) (fun _ _ _=>rfl) hgg
        (fC:=none) (fun _ _ _ _ _=>rfl) (fun _ _ _ _ _=>rfl) (fun d hd=>hd)
       rw [en];exact this
      ·rename_i n0 c0 d0
       split at hk
       ·rename_i a i1 _ _ l hh
        split at hk
        ·rename_i hcc
         simp only [Option.some.injEq] at hk;subst hk
         obtain ⟨e1,e2,e3⟩:=zu hog hh
         subst e1 e2
         have hhn:(st.o g).hn=[d0]:=by rw [agf hog];rfl
         have:=home a i1 l hh (fun d hd=>by
          rw [hhn,List.mem_singleton] at hd;subst hd
          exact ⟨fun hm=>by have:=hcc.1;simp only [List.contains_eq_mem,decide_eq_false_iff_not] at this;exact this hm,fun hm=>by have:=hcc.2;simp [hm] at this⟩)
         rw [hhn] at this
         rw [en];exact this
        ·split at hk
         ·rename_i hcr
          simp only [Option.some.injEq] at hk;subst hk
          have hp:n0=(P.int .i64 (k:Int)).nat:=hp
          rw [en] at hp
          rw [en];exact over n0 c0 d0 rfl hcr hp
         ·cases hk
       ·split at hk
        ·rename_i hcr
         simp only [Option.some.injEq] at hk;subst hk
         have hp:n0=(P.int .i64 (k:Int)).nat:=hp
         rw [en] at hp
         rw [en];exact over n0 c0 d0 rfl hcr hp
        ·cases hk
    ·cases hk
   ·cases hk
  ·cases hk
 ·cases hk
theorem Rel.YI (h:Rel E st gh val w) {d:Nat} (hd:st.used d=false) (a i:Bool) (sz:Nat) (ah:List (Nat×Nat)) (l:List (List P)) (c:Array Value) (t:TypeId) (cap:Nat) (hsm:sz<MB) (hcap:l.length≤cap∧cap≤9223372036854775807) (hc:cap*sz≤c.size) (hrow :∀x∈l,x.length=sz)
  (es:List (Nat×Nat)) (hnd:(es.map (·.2)).Nodup) (hes :∀p∈es,∃a1 i1 s l',st.o p.2=.arr false a1 i1 s l'∧(i1=true→i=true))
  (hcell :∀(n:Nat) x,l[n]?=some x→∀(j:Nat) y,x[j]?=some y→∃v,c[n*sz+j]?=some v∧match ah.lookup j with
   |none=>aU w (E.ok st gh w a i) y v
   |some s=>PartOf st gh a i es s (n*sz+j) y v) :
  ∃aQ,Rel E (st.au ((d,.ay a i sz ah l none)::kills (es.map (·.2))) [d]) aQ val { w with heap:=w.heap.push (.cells c t) }∧Lets E st (st.au ((d,.ay a i sz ah l none)::kills (es.map (·.2))) [d]) gh aQ w { w with heap:=w.heap.push (.cells c t) }∧
   (aQ d).ad=some ⟨w.heap.size,0,none⟩ ∧(aQ d).cap=cap:=by
 have heo :∀p∈es,(st.o p.2).aX=true:=fun p hp=>by obtain ⟨_,_,_,_,e,_⟩:=hes p hp;rw [e];rfl
 have hde:d∉es.map (·.2):=fun hm=>by
  obtain ⟨p,hp,e⟩:=List.mem_map.1 hm
  have:=h.ul p.2 (O.lV (heo p hp))
  rw [e,hd] at this;cases this
 let G:Gh:=⟨some ⟨w.heap.size,0,none⟩,cap,fun b=>(whose gh es b).map fun p=>(p.1/sz,p.1 % sz)⟩
 have hwb :∀b,(G.sub b).isSome=true→∃p∈es,∃ad,(gh p.2).ad=some ad∧ad.block=b:=fun b hb=>by
  cases hx:whose gh es b with
  |none=>simp [G,hx] at hb
  |some p=>exact ⟨p,uK hx⟩
 have hm:=h.gather (fun g=>g∈es.map (·.2)) hd a i sz ah l G (st.au ((d,.ay a i sz ah l none)::kills (es.map (·.2))) [d]) { w with heap:=w.heap.push (.cells c t) } rfl (by simp [St.au,lookup_cons])
  (fun g hg e=>by simp only [St.au,lookup_cons,if_neg e,gu,if_pos hg]) (fun g hg e=>by simp only [St.au,lookup_cons,if_neg e,gu,if_neg hg]) (fun g hg=>by simp [St.au,hg]) (by simp [St.au])
  (ad:=⟨w.heap.size,0,none⟩) (c:=c) (ty:=t) hsm rfl rfl (by simp) (by simpa [G] using hc) hcap hrow (by
   cases hx:G.sub w.heap.size with
   |none=>rfl
   |some p=>
    obtain ⟨p,hp,ad,q1,q2⟩:=hwb w.heap.size (by rw [hx];rfl)
    have:=(h.wr p.2 w.heap.size (heo p hp) (.inl ⟨ad,q1,q2⟩)).2
    omega) (fun b hb=>by
   obtain ⟨p,hp,ad,q1,q2⟩:=hwb b hb
   refine ⟨⟨p.2,List.mem_map.2 ⟨p,hp,rfl⟩,heo p hp,.inl ⟨ad,q1,q2⟩⟩,?_⟩
   obtain ⟨_,_,_,_,e,_⟩:=hes p hp
   have hA:=h.aJ p.2
   rw [e] at hA
   rcases hA with ⟨q3,_⟩ | ⟨Ak,c2,q3,_,q4,q5,_⟩
   ·rw [q1] at q3;cases q3
   ·rw [q1] at q3;cases q3;rw [←q2];exact ⟨_,q4,q5.blk⟩)
  (.inr ⟨Nat.le_refl _,by simp⟩) (fun b hb _=>uD w _ b hb) (by simp) rfl rfl rfl (fun g i1 hg e1 hi=>by
   obtain ⟨p,hp,rfl⟩:=List.mem_map.1 hg
   obtain ⟨_,i2,_,_,e,hi2⟩:=hes p hp
   rw [e] at e1;cases e1;exact hi2 hi) (fun g hg _=>by
   obtain ⟨p,hp,rfl⟩:=List.mem_map.1 hg
   obtain ⟨_,i2,_,_,e,hi2⟩:=hes p hp
   exact ⟨i2,by rw [e];rfl⟩) (fun n x hx j y hy=>by
   obtain ⟨v,hv,hr⟩:=hcell n x hx j y hy
   refine ⟨v,by simpa using hv,?_⟩
   cases hcj:ah.lookup j with
   |none=>rw [hcj] at hr;exact hr
   |some s=>
    rw [hcj] at hr
    have hjs:j<sz:=by have:=(List.getElem?_eq_some_iff.1 hy).1;have:=hrow x (List.mem_of_getElem? hx);omega
    refine PartOf.agb h hr fun p hp e ad had => ?_
    have:=J_ h hnd heo hp had
    simp only [G,this,Option.map_some,e]
    have e1:(n*sz+j)/sz=n:=by rw [Nat.mul_comm,Nat.mul_add_div (by omega),Nat.div_eq_of_lt hjs,Nat.add_zero]
    have e2:(n*sz+j) % sz=j:=by rw [Nat.mul_comm,Nat.mul_add_mod,Nat.mod_eq_of_lt hjs]
    rw [e1,e2])
 exact ⟨_,hm.1,hm.2,by simp [dH,G],by simp [dH,G]⟩
theorem CQ {dc:List (Nat×Nat)} (htt:fF Pg tt) (t:TypeId) (n c:Operand):pY Pg tt dc (.makeSlice t n c):=by
 intro E st gh val w ρ F o d r ho h hF hFn hk hp hd
 simp only [bQ] at hk
 split at hk
 ·rename_i e _ _ _ _ _ n' _ _ c' yR CS ht hn hc
  split at hk
  ·rename_i ie he
   split at hk
   ·rename_i ps hps
    split at hk
    ·rename_i hpos
     simp only [Option.some.injEq] at hk;subst hk
     obtain ⟨m,k,rfl,rfl,hmk,hby,hkm⟩:=hp
     have hu:=(htt _ _ ht).kind
     simp only [lT] at hu
     have rn:=hF n;rw [hn] at rn
     have rc:=hF c;rw [hc] at rc
     obtain ⟨x,z,g1,g2,g3,g4,g5,g6⟩:=(htt _ _ he).info
     obtain ⟨hone,hl,hr⟩:=nY (E:=E) (st:=st) (gh:=gh) (w:=w) (htt _ _ he)
     have hzl:=(htt _ _ he).len
     obtain ⟨q0,q1,_,q2⟩:=Az h hl hr hps
     have D5:st.used d=false:=hd d (by simp)
     have hpl:ps.length=ie.size:=by rw [q0,hl,hzl]
     have e1:(P.int .i64 (m:Int)).nat=m:=by simp [P.nat,P.num]
     obtain ⟨aQ,m1,m2,m3,m4⟩:=h.YI D5 false false ie.size (yR::CS) (List.replicate m ps) (dZ ie.zero k).toArray e k (htt _ _ he).small ⟨by simpa using hmk,by omega⟩ (by simp [bT,hzl]) (fun x hx=>by
       rw [List.mem_replicate] at hx;rw [hx.2,hpl]) [] List.nodup_nil (fun p hp=>by cases hp) (fun q x hx j y hy=>by
       rw [List.getElem?_replicate] at hx
       split at hx
       ·rename_i hq
        simp only [Option.some.injEq] at hx;subst hx
        have hj:j<ie.size:=by have:=(List.getElem?_eq_some_iff.1 hy).1;omega
        have hlt:q*ie.size+j<k*ie.zero.length:=by
         rw [hzl]
         have:(q+1)*ie.size≤k*ie.size:=Nat.mul_le_mul_right _ (by omega)
         rw [Nat.add_mul] at this;omega
        have hz':ie.zero[j]?=some ie.zero[j]:=List.getElem?_eq_getElem (by omega)
        refine ⟨ie.zero[j],?_,?_⟩
        ·simp only [List.getElem?_toArray]
         have hmod:(q*ie.size+j) % ie.zero.length=j:=by rw [hzl,Nat.mul_comm,Nat.mul_add_mod,Nat.mod_eq_of_lt hj]
         rw [gy _ _ _ hlt,hmod]
         exact hz'
        ·have:=q2 j y _ hy hz'
         rw [Nat.zero_add] at this
         cases hcj:(yR::CS).lookup j with
         |none=>rw [hcj] at this;exact this st (by simp) h ⟨fun a i b hb=>⟨hb,rfl⟩,fun g _=>.inr ⟨⟨rfl,rfl⟩,O.dM _⟩⟩
         |some s=>
          rw [hcj] at this
          obtain ⟨l',z1,z2⟩:=this
          rcases z2 with z2 | ⟨_,_,_,z3,_⟩
          ·exact ⟨l',z1,.inl z2⟩
          ·cases z3
       ·cases hx)
     refine ⟨.slice (some ⟨w.heap.size,0,none⟩) m k,_,aQ,.inl ?_,by simpa [e1,P.list,kills] using m1,by simpa [e1,P.list,kills] using m2,bD.E_ (.own d _ rfl fun sz' len' ho' => ?_),fun g hg => ?_⟩
     ·unfold execOp;rw [ho]
      refine eG ?_
      have hrun:=run_make (P:=Pg) w t e x z hu g1 g4 .i64 .i64 (m:Int) (k:Int) (by omega) (by omega) (by rw [g3];omega) (by omega)
      rw [rn.dF.cZ,rc.dF.cZ,hrun]
      have:=lX g5 k (by rw [hzl];exact hpos)
      rw [hzl] at this
      simp only [Int.toNat_natCast,g2,madeCells,this]
     ·rw [e1] at ho'
      have Me:(some (ie.size,m):Option (Nat×Nat))=some (sz',len'):=by
       rw [←ho'];simp [St.au,List.lookup,O.dim,P.list,fB (htt _ _ he).small]
      cases Me
      rw [m3,m4,fD (htt _ _ he).small]
     ·have hg:g∈(S.v (.one (.own d))).names:=hg
      rw [bU] at hg
      simp only [W.names,List.mem_singleton] at hg
      subst hg;simp [St.au]
    ·cases hk
   ·cases hk
  ·cases hk
 ·cases hk
theorem AA {dc:List (Nat×Nat)} (htt:fF Pg tt) (t:TypeId) (n:Nat) (parts:Array (Nat×Operand)):pY Pg tt dc (.buildSlice t n parts):=by
 intro E st gh val w ρ F o d r ho h hF hFn hk hp hd
 simp only [bQ] at hk
 split at hk
 ·rename_i e _ _ _ yR CS ht
  split at hk
  ·rename_i ie he
   split at hk
   ·rename_i ws J8
    split at hk
    ·rename_i ps a i gs es hps
     split at hk
     ·rename_i hcc
      obtain ⟨hcap0,hnd,hap⟩:=hcc
      have hnd:=qU hnd
      have hap:=D7 hap
      have hcap:n*ie.size≤16777216:=by omega
      simp only [Option.some.injEq] at hk;subst hk
      have hu:=(htt _ _ ht).kind
      simp only [lT] at hu
      obtain ⟨z,hz,hzc,_⟩:=iZ (Pg:=Pg) (w:=w) (htt _ _ he)
      obtain ⟨hone,hl,hr⟩:=nY (E:=E) (st:=st) (gh:=gh) (w:=w) (htt _ _ he)
      have hzl:=(htt _ _ he).len
      have hparts:(parts.map fun (p:Nat×Operand)=>(p.1,ρ p.2)).toList=parts.toList.map fun p=>(p.1,ρ p.2):=by simp
      obtain ⟨cs',h1,h2,h3,h4,h5⟩:=Aq (E:=E) (st:=st) (gh:=gh) (w:=w) (place':=fun i=>some (i*ie.size,ie.size)) (fun m p hpm=>by split at hpm;exact hpm;cases hpm) _ (parts.toList.map fun p=>(p.1,ρ p.2)) _ _
       (dZ ie.zero n) (by simp) (fun j x v hx hv=>CB hF _ j x v hx hv) (by rw [bT,bT,hl]) (fun c hc=>by
        obtain ⟨j,hj⟩:=List.mem_iff_getElem?.1 hc
        have hlt:j<n*ie.zero.length:=by have:=(List.getElem?_eq_some_iff.1 hj).1;rwa [bT] at this
        rw [gy _ _ _ hlt] at hj
        exact hone c (List.mem_of_getElem? hj)) (fun j x u hx hu=>by
        have hlt:j<n*ie.zero.length:=by have:=(List.getElem?_eq_some_iff.1 hu).1;rwa [bT] at this
        rw [gy _ _ _ hlt] at hu
        rw [gy _ _ _ (by rw [hl];exact hlt),hl] at hx
        exact hr _ _ _ hx hu) J8
      obtain ⟨q0,q1,qe,q2⟩:=Az h h2 h4 hps
      obtain ⟨f1,f2⟩:=Rel.freezes gs h q1
      have D5:st.used d=false:=hd d (by simp)
      have hws:ws.length=n*ie.size:=by rw [h5,bT,hl,hzl]
      have aeo:ps.length=n*ie.size:=by rw [q0,hws]
      have hfe :∀p∈es,(st.au (gs.map (Fw.aC st.o)) []).o p.2=st.o p.2:=fun p hp=>by rw [dS,if_neg (hap _ (List.mem_map.2 ⟨p,hp,rfl⟩))]
      obtain ⟨aQ,m1,m2,m3,m4⟩:=f1.YI (d:=d) (by simpa [St.au] using D5) a i ie.size (yR::CS) (chunks ie.size n ps) cs'.toArray e n (htt _ _ he).small ⟨by rw [gq];exact Nat.le_refl _,by omega⟩ (by simp;omega) (fun x hx=>by
        obtain ⟨m,hm⟩:=List.mem_iff_getElem?.1 hx
        have hlt:m<n:=by have:=(List.getElem?_eq_some_iff.1 hm).1;rwa [gq] at this
        rw [pW _ _ _ _ hlt] at hm
        simp only [Option.some.injEq] at hm;subst hm
        simp [aeo]
        have:(m+1)*ie.size≤n*ie.size:=Nat.mul_le_mul_right _ hlt
        rw [Nat.add_mul] at this;omega) es hnd (fun p hp=>by
        obtain ⟨a2,i2,s2,l2,z1,z2⟩:=qe p hp
        exact ⟨a2,i2,s2,l2,by rw [hfe p hp];exact z1,z2⟩) (fun m x hx j y hy=>by
        have hlt:m<n:=by have:=(List.getElem?_eq_some_iff.1 hx).1;rwa [gq] at this
        rw [pW _ _ _ _ hlt] at hx
        simp only [Option.some.injEq] at hx;subst hx
        rw [List.getElem?_take] at hy
        split at hy
        ·rename_i hj
         rw [List.getElem?_drop] at hy
         have hlt2:m*ie.size+j<cs'.length:=by
          have:=(List.getElem?_eq_some_iff.1 hy).1;omega
         refine ⟨cs'[m*ie.size+j],by simp,?_⟩
         have:=q2 _ y _ hy (List.getElem?_eq_getElem hlt2)
         have em:(0+(m*ie.size+j)) % ie.size=j:=by rw [Nat.zero_add,Nat.mul_comm,Nat.mul_add_mod,Nat.mod_eq_of_lt hj]
         rw [em,Nat.zero_add] at this
         cases hcj:(yR::CS).lookup j with
         |none=>rw [hcj] at this;exact this _ (fun g hg=>by rw [dS,if_pos hg]) f1 f2
         |some s=>
          rw [hcj] at this
          obtain ⟨l',z1,z2⟩:=this
          refine ⟨l',z1,z2.imp id ?_⟩
          rintro ⟨e,a2,i2,y1,y2,y3,y4,y5⟩
          exact ⟨e,a2,i2,y1,by rw [hfe _ y1];exact y2,y3,y4,y5⟩
        ·cases hy)
      have hst:(st.au (gs.map (Fw.aC st.o)) []).au ((d,.ay a i ie.size (yR::CS) (chunks ie.size n ps) none)::kills (es.map (·.2))) [d]=st.au ((d,.ay a i ie.size (yR::CS) (chunks ie.size n ps) none)::kills (es.map (·.2))++gs.map (Fw.aC st.o)) [d]:=by
       refine St.CP rfl (fun z => ?_) (fun z=>by simp [St.au])
       simp only [St.au,List.cons_append,lookup_cons,uM,gu]
       by_cases z1:z=d
       ·simp only [if_pos z1]
       ·simp only [if_neg z1]
        by_cases z2:z∈es.map (·.2)
        ·simp only [if_pos z2,Option.some_or]
        ·simp only [if_neg z2,Option.none_or]
      rw [hst] at m1 m2
      refine ⟨.slice (some ⟨w.heap.size,0,none⟩) n n,_,aQ,.inl ?_,m1,Lets.trans f2 m2 (fun g hg=>by simpa [St.au] using hg),bD.E_ (.own d _ rfl fun sz' len' ho' => ?_),fun g hg => ?_⟩
      ·unfold execOp;rw [ho]
       refine eG ?_
       have hle:¬ n*ie.size>2 ^ 24:=by omega
       have fin :∀Z:Array Value,(Array.range (n*ie.size)).map (fun i=>Z[i % Z.size]!)=(dZ ie.zero n).toArray→
         Instr.fill (fun i=>some (i*ie.size,ie.size)) ((Array.range (n*ie.size)).map fun i=>Z[i % Z.size]!) (parts.map fun (p:Nat×Operand)=>(p.1,ρ p.2)).toList=some cs'.toArray:=by
        intro Z hZ;rw [hZ,hparts,h1]
       by_cases h0:n*ie.size=0
       ·have e0:dZ ie.zero n=[]:=List.eq_nil_of_length_eq_zero (by rw [bT,hzl,h0])
        have e1:=fin #[] (by rw [h0,e0];simp)
        simp only [Instr.buildSlice,Sem.run_bind,bP hu,Result.andThen_ok,bM (htt _ _ he),if_neg hle,if_pos h0,Sem.run_pure]
        simp only [e1]
        simp [newRow]
       ·have hpos:0<ie.zero.length:=by rw [hzl];rcases Nat.eq_zero_or_pos ie.size with h | h;(rw [h] at h0;simp at h0);exact h
        have e1:=fin z.cells (by have:=lX hzc n hpos;rw [hzl] at this;exact this)
        simp only [Instr.buildSlice,Sem.run_bind,bP hu,Result.andThen_ok,bM (htt _ _ he),if_neg hle,if_neg h0,hz,Sem.run_pure]
        simp only [e1]
        simp [newRow]
      ·have Me:(some (ie.size,n):Option (Nat×Nat))=some (sz',len'):=by
        rw [←ho'];simp [St.au,List.lookup,O.dim,P.list,gq,fB (htt _ _ he).small]
       cases Me
       rw [m3,m4,fD (htt _ _ he).small]
      ·have hg:g∈(S.v (.one (.own d))).names:=hg
       rw [bU] at hg
       simp only [W.names,List.mem_singleton] at hg
       subst hg;simp [St.au]
     ·cases hk
    ·cases hk
   ·cases hk
  ·cases hk
 ·cases hk
def yh (gh:Nat→Gh):Option Nat→Nat→Option (Nat×Nat)
 |some g,b=>(gh g).sub b
 |none,_=>none
theorem O4 (h:Rel E st gh val w) {d g2:Nat} (hd:st.used d=false) {a i a2 i2:Bool} {sz:Nat} {ah:List (Nat×Nat)} {old new:List (List P)} {base:Option Nat} {bad:Option Addr} {uO m:Nat}
  (hb:(base=none∧bad=none∧uO=0∧m=0∧old=[])∨∃g l,base=some g∧st.o g=.ay a i sz ah l none∧bad=(gh g).ad∧(m≤uO∧uO≤(gh g).cap)∧m≤l.length∧old=l.take m∧g≠g2)
  (ho2:st.o g2=.ay a2 i2 sz ah new none)
  {ts:Array TypeId} {ty sT xT e e':TypeId} {ie:TI} (h0:ts[0]?=some sT) (h1:ts[1]?=some xT) (hs:Pg.underlying sT=some (.slice e)) (hxt:Pg.underlying xT=some (.slice e')) (he:lW Pg e ie) (hsz:sz=ie.size)
  (hbb:(m+new.length)*ie.bytes≤140737488355328) (hb0:ie.bytes≠0) :
  ∃v w' aQ,(Builtin.append_ ts ty #[.slice bad m uO,.slice (gh g2).ad new.length (gh g2).cap]).run Pg w=.ok v w'∧Rel E (st.au ((d,.ay (a||a2) (i||i2) sz ah (old++new) none)::kills (base.toList++[g2])) [d]) aQ val w'∧
   Lets E st (st.au ((d,.ay (a||a2) (i||i2) sz ah (old++new) none)::kills (base.toList++[g2])) [d]) gh aQ w w'∧v=.slice (aQ d).ad (old++new).length (aQ d).cap:=by
 subst hsz
 have ca:a=true→(a||a2)=true:=by simp;exact fun h=>.inl h
 have ci:i=true→(i||i2)=true:=by simp;exact fun h=>.inl h
 have ca2:a2=true→(a||a2)=true:=by simp;exact fun h=>.inr h
 have ci2:i2=true→(i||i2)=true:=by simp;exact fun h=>.inr h
 have hnd :∀g,st.o g≠.none→g≠d:=fun g hg e=>by rw [←e,h.ul g hg] at hd;cases hd
 have ai5:g2≠d:=hnd g2 (by rw [ho2];simp)
 have aby:(st.o g2).aX=true:=by rw [ho2];rfl
 have hol:old.length=m:=by
  rcases hb with ⟨_,_,_,rfl,rfl⟩ | ⟨g,l,_,_,_,_,hm,rfl,_⟩
  ·rfl
  ·simp;omega
 have hlen:(old++new).length=m+new.length:=by rw [List.length_append,hol]
 have hbS :∀g,g∈base.toList++[g2]→g≠d∧(st.o g).aX=true∧∃a0 i0 l0,st.o g=.ay a0 i0 ie.size ah l0 none∧(i0=true→(i||i2)=true):=by
  intro g hg
  rcases List.mem_append.1 hg with hg | hg
  ·rcases hb with ⟨rfl,_⟩ | ⟨g',l,rfl,hog,_⟩
   ·simp at hg
   ·simp at hg;subst hg
    exact ⟨hnd g (by rw [hog];simp),by rw [hog];rfl,a,i,l,hog,ci⟩
  ·rw [List.mem_singleton] at hg;subst hg
   exact ⟨ai5,aby,a2,i2,new,ho2,ci2⟩
 let sub:Nat→Option (Nat×Nat):=fun b=>match (gh g2).sub b with
  |some (n,j)=>some (n+m,j)
  |none=>yh gh base b
 have agh :∀b,(yh gh base b).isSome=true→(gh g2).has b→False:=fun b h1 h2=>by
  rcases hb with ⟨rfl,_⟩ | ⟨g,l,rfl,hog,_,_,_,_,hne⟩
  ·cases h1
  ·exact hne (h.inj g g2 b (by rw [hog];rfl) aby (.inr h1) h2)
 have hsub :∀b,(sub b).isSome=true→(∃g,g∈base.toList++[g2]∧(st.o g).aX=true∧((gh g).sub b).isSome=true):=fun b hbs=>by
  cases hx:(gh g2).sub b with
  |some p=>exact ⟨g2,by simp,aby,by rw [hx];rfl⟩
  |none=>
   simp only [sub,hx] at hbs
   rcases hb with ⟨rfl,_⟩ | ⟨g,l,rfl,hog,_⟩
   ·cases hbs
   ·exact ⟨g,by simp,by rw [hog];rfl,hbs⟩
 have YJ :∀g,g∈base.toList++[g2]→∀b,((gh g).sub b).isSome=true→∃ob,w.heap[b]?=some ob∧blk ob=true:=fun g hg b hbs=>by
  obtain ⟨_,_,a0,i0,l0,hog,_⟩:=hbS g hg
  have hD:=h.aJ g
  rw [hog] at hD
  rcases hD with ⟨_,_,_,q,_⟩ | ⟨_,_,_,_,_,_,_,⟨_,q⟩,_⟩
  ·rw [q b] at hbs;cases hbs
  ·exact q b hbs
 have agi :∀(G:Gh),G.sub=sub→∀n j y u,gB E st gh w a2 i2 (gh g2) ah none n j y u→match ah.lookup j with
   |none=>aU w (E.ok st gh w (a||a2) (i||i2)) y u
   |some s=>yN E st gh w (a||a2) (i||i2) G s (n+m) j y u:=by
  intro G hG n j y u hr
  unfold gB at hr
  cases hc:ah.lookup j with
  |none=>rw [hc] at hr;exact hr.cls ca2 ci2
  |some s=>
   rw [hc] at hr
   simp only [fM] at hr
   obtain ⟨l',ao,k,q1,q2,q3,q4⟩:=hr.cls ca2 ci2
   exact ⟨l',ao,k,q1,q2,q3,fun ad had=>by rw [hG];simp only [sub,q4 ad had]⟩
 have agj :∀(G:Gh),G.sub=sub→∀g,base=some g→∀n j y u,gB E st gh w a i (gh g) ah none n j y u→match ah.lookup j with
   |none=>aU w (E.ok st gh w (a||a2) (i||i2)) y u
   |some s=>yN E st gh w (a||a2) (i||i2) G s n j y u:=by
  intro G hG g hgb n j y u hr
  unfold gB at hr
  cases hc:ah.lookup j with
  |none=>rw [hc] at hr;exact hr.cls ca ci
  |some s=>
   rw [hc] at hr
   simp only [fM] at hr
   obtain ⟨l',ao,k,q1,q2,q3,q4⟩:=hr.cls ca ci
   refine ⟨l',ao,k,q1,q2,q3,fun ad had => ?_⟩
   have hq:=q4 ad had
   have hb1:(yh gh base ad.block).isSome=true:=by rw [hgb];simp only [yh,hq];rfl
   rw [hG]
   cases hx:(gh g2).sub ad.block with
   |some p=>exact (agh ad.block hb1 (.inr (by rw [hx];rfl))).elim
   |none=>simp only [sub,hx,hgb,yh];exact hq
 have hD2:dY E st gh w a2 i2 ie.size ah new none (gh g2):=by have:=h.aJ g2;rw [ho2] at this;exact this
 have agk :∀X:O,∀g,g∈base.toList++[g2]→g≠d→(st.au ((d,X)::kills (base.toList++[g2])) [d]).o g=.none:=fun X g hg e=>by simp only [St.au,lookup_cons,if_neg e,gu,if_pos hg]
 have agl :∀X:O,∀g,¬ g∈base.toList++[g2]→g≠d→(st.au ((d,X)::kills (base.toList++[g2])) [d]).o g=st.o g:=fun X g hg e=>by simp only [St.au,lookup_cons,if_neg e,gu,if_neg hg]
 by_cases qQ:m+new.length≤uO
 ·obtain ⟨c2,hc2,hl2,agm,hr2,hcell2⟩:=zq (Pg:=Pg) he.small hD2 new.length (Nat.le_refl _)
  rcases hb with ⟨rfl,rfl,rfl,rfl,rfl⟩ | ⟨g,l,rfl,hog,rfl,hbc,hm,rfl,agn⟩
  ·have hn0:new=[]:=List.eq_nil_of_length_eq_zero (by omega)
   subst hn0
   have hk:=h.kill g2
   have hmk:=Rel.LX hk.1 d (by simpa [St.au] using hd) (.ay (a||a2) (i||i2) ie.size ah [] none) (.inl ⟨rfl,rfl,rfl,fun _=>rfl,he.small⟩) (fun g hg=>by simp [O.names,bn] at hg)
   have hst:(st.au [(g2,.none)] []).au [(d,.ay (a||a2) (i||i2) ie.size ah [] none)] [d]=st.au ((d,.ay (a||a2) (i||i2) ie.size ah ([]++[]) none)::kills ((none:Option Nat).toList++[g2])) [d]:=by
    refine St.CP rfl (fun z => ?_) (fun z=>by simp [St.au])
    simp only [St.au,lookup_cons,gu,Option.toList,List.nil_append,List.mem_singleton,List.lookup_nil]
    by_cases z1:z=d
    ·simp only [if_pos z1]
    ·simp only [if_neg z1]
   rw [hst] at hmk
   refine ⟨.slice none (0+0) 0,w,_,jB h0 h1 hs hxt he hc2 (by simp) (fun a ha=>by cases ha) (fun _=>rfl),hmk.1,Lets.trans hk.2 hmk.2 (fun g hg=>by simpa [St.au] using hg),by simp [dH,Gh.nil]⟩
  ·have hD:dY E st gh w a i ie.size ah l none (gh g):=by have:=h.aJ g;rw [hog] at this;exact this
   have hgo:(st.o g).aX=true:=by rw [hog];rfl
   rcases dY.old he.small hD with ⟨z1,z2,z3,z4⟩ | ⟨ad,c,e0,z1,z2,z3,z4,z5,z6,⟨z7,z7'⟩,z8⟩
   ·subst z3
    have hm0:m=0:=by simpa using hm
    subst hm0
    have hn0:new=[]:=List.eq_nil_of_length_eq_zero (by omega)
    subst hn0
    have hk:=h.kill g
    have hk2:=hk.1.kill g2
    have hmk:=Rel.LX hk2.1 d (by simpa [St.au] using hd) (.ay (a||a2) (i||i2) ie.size ah [] none) (.inl ⟨rfl,rfl,rfl,fun _=>rfl,he.small⟩) (fun g hg=>by simp [O.names,bn] at hg)
    have hst:((st.au [(g,.none)] []).au [(g2,.none)] []).au [(d,.ay (a||a2) (i||i2) ie.size ah [] none)] [d]=st.au ((d,.ay (a||a2) (i||i2) ie.size ah (([]:List (List P)).take 0++[]) none)::kills ((some g:Option Nat).toList++[g2])) [d]:=by
     refine St.CP rfl (fun z => ?_) (fun z=>by simp [St.au])
     simp only [St.au,lookup_cons,gu,Option.toList,List.cons_append,List.nil_append,List.mem_cons,List.not_mem_nil,or_false,List.lookup_nil]
     by_cases z1:z=d
     ·simp only [if_pos z1];rfl
     ·simp only [if_neg z1]
      by_cases z2:z=g2
      ·simp [z2]
      ·simp only [if_neg z2]
       by_cases z3:z=g
       ·simp [z3]
       ·simp [z2,z3]
    rw [hst] at hmk
    have aes:uO=0:=by omega
    subst aes
    refine ⟨.slice none (0+0) 0,w,_,by rw [z1];exact jB h0 h1 hs hxt he hc2 (by simp) (fun a ha=>by cases ha) (fun _=>rfl),hmk.1,Lets.trans (Lets.trans hk.2 hk2.2 (fun g hg=>by simpa [St.au] using hg)) hmk.2 (fun g hg=>by simpa [St.au] using hg),by simp [dH,Gh.nil]⟩
   ·have aiZ:m*ie.size+new.length*ie.size≤(gh g).cap*ie.size:=by rw [←Nat.add_mul];exact Nat.mul_le_mul_right _ (Nat.le_trans qQ hbc.2)
    have hbz:uO*ie.size≤(gh g).cap*ie.size:=Nat.mul_le_mul_right _ hbc.2
    obtain ⟨b0,o0,sp0⟩:=ad
    simp only at z2 z3 z4 z7 z8;subst z2
    obtain ⟨w',c',s1,s2,s3,s4,s5,s6,s7,s8⟩:=iE (Pg:=Pg) b0 (o0+m*ie.size) e0 c2 0 w c z3 agm (by omega)
    have sW:c'.size=c.size:=by
     have:=congrArg List.length s3
     rw [bK (by simp;omega)] at this;simpa using this
    let G:Gh:=⟨some ⟨b0,o0,none⟩,uO,sub⟩
    have hn2:¬ (gh g2).has b0:=fun hb=>agn (h.inj g g2 b0 hgo aby (Gh.jk z1) hb)
    have hget :∀q:Nat,c'[q]?=(aA c.toList (o0+m*ie.size) c2)[q]?:=fun q=>by rw [←Array.getElem?_toList,s3,Nat.add_zero]
    have hga:=h.gather (fun g'=>g'∈(some g:Option Nat).toList++[g2]) hd (a||a2) (i||i2) ie.size ah (l.take m++new) G (st.au ((d,.ay (a||a2) (i||i2) ie.size ah (l.take m++new) none)::kills ((some g:Option Nat).toList++[g2])) [d]) w' rfl (by simp [St.au,lookup_cons])
     (agk _) (agl _) (fun g hg=>by simp [St.au,hg]) (by simp [St.au]) (ad:=⟨b0,o0,none⟩) (c:=c') (ty:=e0) he.small rfl rfl s2 (by rw [sW];simp only [G];omega) ⟨by rw [hlen];exact qQ,by simp only [G];have:=z5.2;omega⟩ (fun x hx=>by
      rcases List.mem_append.1 hx with hx | hx
      ·exact z6 x (List.mem_of_mem_take hx)
      ·exact hr2 x hx) (by
      show sub b0=none
      cases hx:(gh g2).sub b0 with
      |some p=>exact (hn2 (.inr (by rw [hx];rfl))).elim
      |none=>simp only [sub,hx,yh];exact z7) (fun b hb=>by
      obtain ⟨g',q1,q2,q3⟩:=hsub b hb
      exact ⟨⟨g',q1,q2,.inr q3⟩,YJ g' q1 b q3⟩) (.inl ⟨g,by simp,hgo,Gh.jk z1⟩) (fun b _ hne=>s4 b hne) (by omega) s6 s7 s8
     (fun g' i1 hg' e1 hi=>by obtain ⟨_,_,a0,i0,l0,hq,hi0⟩:=hbS g' hg';rw [hq] at e1;cases e1;exact hi0 hi) (fun g' hg' _=>by obtain ⟨_,_,a0,i0,l0,hq,_⟩:=hbS g' hg';exact ⟨i0,by rw [hq];rfl⟩)
     (fun n x hx j y hy=>by
      rw [List.getElem?_append] at hx
      split at hx
      ·rename_i hn
       have hnm:n<m:=by simp at hn;omega
       rw [List.getElem?_take,if_pos hnm] at hx
       obtain ⟨v,hv,WM⟩:=z8 n x hx j y hy
       have hj:j<ie.size:=by have:=(List.getElem?_eq_some_iff.1 hy).1;have:=z6 x (List.mem_of_getElem? hx);omega
       have:(n+1)*ie.size≤m*ie.size:=Nat.mul_le_mul_right _ hnm
       rw [Nat.add_mul,Nat.one_mul] at this
       exact ⟨v,by rw [hget,cu (by simp;omega),if_neg (by show ¬ (_∧_);simp only;omega)];simpa using hv,agj G rfl g rfl n j y v WM⟩
      ·rename_i hn
       have hlm:(l.take m).length=m:=by simp;omega
       rw [hlm] at hx hn
       obtain ⟨u,hu,hur⟩:=hcell2 _ x (by have:=(List.getElem?_eq_some_iff.1 hx).1;omega) hx j y hy
       have L9:=(List.getElem?_eq_some_iff.1 hu).1
       have hnm:n*ie.size=m*ie.size+(n-m)*ie.size:=by rw [←Nat.add_mul];congr 1;omega
       refine ⟨u,?_,?_⟩
       ·have e1:o0+n*ie.size+j-(o0+m*ie.size)=(n-m)*ie.size+j:=by omega
        rw [hget,cu (by simp;omega),if_pos (by simp only;omega),e1];exact hu
       ·have:=agi G rfl (n-m) j y u hur
        have e2:n-m+m=n:=by omega
        rw [e2] at this;exact this)
    refine ⟨_,w',_,jB h0 h1 hs hxt he hc2 qQ (fun a ha => ?_) (fun hn=>by rw [z1] at hn;cases hn),hga.1,hga.2,by rw [hlen];simp [dH,G,z1]⟩
    rw [z1] at ha;cases ha
    rw [Addr.fK]
    simpa using s1
 ·have hd1:=h.drew (w.drawn+1)
  have hl1:Lets E st st gh gh w { w with drawn:=w.drawn+1 }:=Rel.CJ _
  have ai6:dY E st gh { w with drawn:=w.drawn+1 } a2 i2 ie.size ah new none (gh g2):=by have:=hd1.aJ g2;rw [ho2] at this;exact this
  obtain ⟨c2,hc2,hl2,agm,hr2,hcell2⟩:=zq (Pg:=Pg) he.small ai6 new.length (Nat.le_refl _)
  have hbase :∃c1:List Value,(Builtin.firstCells ie.size m (.slice bad m uO)).run Pg { w with drawn:=w.drawn+1 }=.ok c1.toArray { w with drawn:=w.drawn+1 }∧c1.length=m*ie.size∧(∀x∈old,x.length=ie.size)∧
    ∀(n:Nat) x,old[n]?=some x→∀(j:Nat) y,x[j]?=some y→∃u,c1[n*ie.size+j]?=some u∧∃g,base=some g∧gB E st gh { w with drawn:=w.drawn+1 } a i (gh g) ah none n j y u:=by
   rcases hb with ⟨rfl,rfl,rfl,rfl,rfl⟩ | ⟨g,l,rfl,hog,rfl,hbc,hm,rfl,agn⟩
   ·exact ⟨[],by simp [Builtin.firstCells],by simp,by simp,by simp⟩
   ·have hD:dY E st gh { w with drawn:=w.drawn+1 } a i ie.size ah l none (gh g):=by have:=hd1.aJ g;rw [hog] at this;exact this
    obtain ⟨c1,k1,k2,k3,k4,k5⟩:=zq (Pg:=Pg) he.small hD m hm
    rw [wL _ _ _ _ _ uO] at k1
    refine ⟨c1,k1,k2,fun x hx=>k4 x (List.mem_of_mem_take hx),fun n x hx j y hy => ?_⟩
    rw [List.getElem?_take] at hx
    split at hx
    ·rename_i hn
     obtain ⟨u,q1,q2⟩:=k5 n x hn hx j y hy
     exact ⟨u,q1,g,rfl,q2⟩
    ·cases hx
  obtain ⟨c1,hc1,YE,hr1,hcell1⟩:=hbase
  have hback:Lets E st st gh gh { w with drawn:=w.drawn+1 } w:=⟨fun a i b hb=>⟨hb,rfl⟩,fun g _=>.inr ⟨⟨rfl,rfl⟩,O.dM _⟩⟩
  obtain ⟨rest,newCap,k1,k2,k3⟩:=pX (ty:=ty) h0 h1 hs hxt he hc2 hc1 qQ hbb hb0
  let G:Gh:=⟨some ⟨w.heap.size,0,none⟩,newCap,sub⟩
  have hga:=h.gather (fun g'=>g'∈base.toList++[g2]) hd (a||a2) (i||i2) ie.size ah (old++new) G (st.au ((d,.ay (a||a2) (i||i2) ie.size ah (old++new) none)::kills (base.toList++[g2])) [d])
   { w with drawn:=w.drawn+1,heap:=w.heap.push (.cells (c1.toArray++c2.toArray++rest) e) } rfl (by simp [St.au,lookup_cons])
   (agk _) (agl _) (fun g hg=>by simp [St.au,hg]) (by simp [St.au]) (ad:=⟨w.heap.size,0,none⟩) (c:=c1.toArray++c2.toArray++rest) (ty:=e) he.small rfl rfl (by simp) (by
    simp only [Array.size_append,List.size_toArray,YE,hl2,k2,G]
    rw [←Nat.add_mul,←Nat.add_mul,Nat.zero_add];exact Nat.mul_le_mul_right _ (by omega)) ⟨by rw [hlen];exact k1.1,k1.2⟩ (fun x hx=>by
    rcases List.mem_append.1 hx with hx | hx
    ·exact hr1 x hx
    ·exact hr2 x hx) (by
    show sub w.heap.size=none
    cases hx:sub w.heap.size with
    |none=>rfl
    |some p=>
     obtain ⟨g',q1,q2,q3⟩:=hsub w.heap.size (by rw [hx];rfl)
     have:=(h.wr g' _ q2 (.inr q3)).2
     omega) (fun b hb=>by
    obtain ⟨g',q1,q2,q3⟩:=hsub b hb
    exact ⟨⟨g',q1,q2,.inr q3⟩,YJ g' q1 b q3⟩) (.inr ⟨Nat.le_refl _,by simp⟩) (fun b hb _=>uD w _ b hb) (by simp) rfl rfl rfl
   (fun g' i1 hg' e1 hi=>by obtain ⟨_,_,a0,i0,l0,hq,hi0⟩:=hbS g' hg';rw [hq] at e1;cases e1;exact hi0 hi) (fun g' hg' _=>by obtain ⟨_,_,a0,i0,l0,hq,_⟩:=hbS g' hg';exact ⟨i0,by rw [hq];rfl⟩)
   (fun n x hx j y hy=>by
    rw [List.getElem?_append] at hx
    split at hx
    ·rename_i hn
     obtain ⟨u,q1,g,q2,q3⟩:=hcell1 n x hx j y hy
     have hlt:=(List.getElem?_eq_some_iff.1 q1).1
     refine ⟨u,?_,agj G rfl g q2 n j y u (hback.UA (fun _ _=>rfl) (fun g hg=>by cases hg) q3)⟩
     rw [Nat.zero_add,Array.getElem?_append_left (by simp;omega),Array.getElem?_append_left (by simpa using hlt)]
     simpa using q1
    ·rename_i hn
     rw [hol] at hx hn
     obtain ⟨u,hu,hur⟩:=hcell2 _ x (by have:=(List.getElem?_eq_some_iff.1 hx).1;omega) hx j y hy
     have L9:=(List.getElem?_eq_some_iff.1 hu).1
     have hnm:n*ie.size=m*ie.size+(n-m)*ie.size:=by rw [←Nat.add_mul];congr 1;omega
     refine ⟨u,?_,?_⟩
     ·rw [Nat.zero_add,Array.getElem?_append_left (by simp;omega),Array.getElem?_append_right (by simp;omega)]
      simp only [List.size_toArray,List.getElem?_toArray]
      have e1:n*ie.size+j-c1.length=(n-m)*ie.size+j:=by omega
      rw [e1];exact hu
     ·have:=agi G rfl (n-m) j y u (hback.UA (fun _ _=>rfl) (fun g hg=>by cases hg) hur)
      have e2:n-m+m=n:=by omega
      rw [e2] at this;exact this)
  exact ⟨_,_,_,k3,hga.1,hga.2,by rw [hlen];simp [dH,G]⟩
theorem lH {o o':Nat→O} {g:Nat} (h:Agree o o' g):gZ o g=gZ o' g:=by
 obtain ⟨h1,h2⟩:=h
 unfold gZ
 rw [←h1]
 cases ho:o g with
 |ay a i sz ah l hole=>
  rcases hole with _ | ⟨n,c,d⟩
  ·rfl
  ·simp only
   rw [h2 d (by rw [ho];simp [O.hn,bn])]
 |_=>rfl
theorem wM (htt:fF Pg tt) (h:Rel E st gh val w) {o:Oper} {ρ:Operand→Value} {s x:Operand} {ts:Array TypeId} (ho:o.op=.call { callee:=.builtin .append,args:=#[s,x],argTypes:=ts }) {d g2:Nat} (hd:st.used d=false)
  {sT xT e e':TypeId} {ie:TI} (h0:ts[0]?=some sT) (h1:ts[1]?=some xT) (hs:Pg.underlying sT=some (.slice e)) (hxt:Pg.underlying xT=some (.slice e')) (he:lW Pg e ie) (hb0:ie.bytes≠0)
  {a i a2 i2:Bool} {sz:Nat} {ah:List (Nat×Nat)} {old new:List (List P)} {base:Option Nat} {bad:Option Addr} {uO m:Nat} (hsz:sz=ie.size)
  {st1:St} {jT:Nat→Gh} (ks:List Nat) (h1':Rel E st1 jT val w) (l1:Lets E st st1 gh jT w w) (e1 :∀x,(jT x).ad=(gh x).ad∧(jT x).cap=(gh x).cap) (s1:st1.s=st.s) (u1 :∀x,st1.used x=st.used x)
  (hb:(base=none∧bad=none∧uO=0∧m=0∧old=[]∧ks=[])∨∃g l,base=some g∧st1.o g=.ay a i sz ah l none∧bad=(gh g).ad∧(m≤uO∧uO≤(gh g).cap)∧m≤l.length∧old=l.take m∧ks=g::(st.o g).hn)
  (ok1 :∀x∈ks,(∀g,base=some g→x≠g)→st1.o x=.none) (oo1 :∀x,x∉ks→st1.o x=st.o x) (hnd:(ks++g2::(st.o g2).hn).Nodup)
  (h2:gZ st.o g2=some (a2,i2,sz,ah,new)) (hvs:ρ s=.slice bad m uO) (YF:ρ x=.slice (gh g2).ad new.length (gh g2).cap) (hbb:(m+new.length)*ie.bytes≤140737488355328) :
  ∃v w' aQ,Does Pg (execOp ρ o) w v w'∧Rel E (st.au ((d,.ay (a||a2) (i||i2) sz ah (old++new) none)::kills (ks++g2::(st.o g2).hn)) [d]) aQ val w'∧
   Lets E st (st.au ((d,.ay (a||a2) (i||i2) sz ah (old++new) none)::kills (ks++g2::(st.o g2).hn)) [d]) gh aQ w w'∧
   bD E (st.au ((d,.ay (a||a2) (i||i2) sz ah (old++new) none)::kills (ks++g2::(st.o g2).hn)) [d]) aQ w' (.v (.one (.own d))) v∧
   ∀g∈(S.v (.one (.own d))).names,(st.au ((d,.ay (a||a2) (i||i2) sz ah (old++new) none)::kills (ks++g2::(st.o g2).hn)) [d]).used g=true:=by
 have hdis :∀x∈ks,x∉g2::(st.o g2).hn:=fun x hx hx'=>by
  have:=(List.nodup_append.1 hnd).2.2 x hx x hx'
  exact this rfl
 have hag:Agree st.o st1.o g2:=⟨(oo1 g2 fun hm=>hdis g2 hm (by simp)).symm,fun d' hd'=>(oo1 d' fun hm=>hdis d' hm (by simp [hd'])).symm⟩
 have h2':gZ st1.o g2=some (a2,i2,sz,ah,new):=by rw [←lH hag];exact h2
 obtain ⟨st2,wH,r2,l2,e2,s2,u2,o2,ok2,oo2⟩:=h1'.home h2'
 rw [←hag.1] at ok2 oo2
 have hb2:(base=none∧bad=none∧uO=0∧m=0∧old=[])∨∃g l,base=some g∧st2.o g=.ay a i sz ah l none∧bad=(wH g).ad∧(m≤uO∧uO≤(wH g).cap)∧m≤l.length∧old=l.take m∧g≠g2:=by
  rcases hb with ⟨q1,q2,q3,q4,q5,_⟩ | ⟨g,l,q1,q2,q3,q4,q5,q6,q7⟩
  ·exact .inl ⟨q1,q2,q3,q4,q5⟩
  ·have hgk:=hdis g (by rw [q7];simp)
   have hg2:g≠g2:=fun e=>hgk (by rw [e];simp)
   refine .inr ⟨g,l,q1,?_,by rw [(e2 g).1,(e1 g).1];exact q3,by rw [(e2 g).2,(e1 g).2];exact q4,q5,q6,hg2⟩
   rw [oo2 g hg2 fun hm=>hgk (by simp [hm])];exact q2
 obtain ⟨v,w',aQ,k1,k2,k3,k4⟩:=O4 (d:=d) (ty:=o.type) r2 (by rw [u2,u1];exact hd) hb2 o2 h0 h1 hs hxt he hsz hbb hb0
 have hst:st2.au ((d,.ay (a||a2) (i||i2) sz ah (old++new) none)::kills (base.toList++[g2])) [d]=st.au ((d,.ay (a||a2) (i||i2) sz ah (old++new) none)::kills (ks++g2::(st.o g2).hn)) [d]:=by
  refine St.CP (s2.trans s1) (fun z => ?_) (fun z=>by simp [St.au,u2,u1])
  simp only [St.au,lookup_cons,gu]
  by_cases z1:z=d
  ·simp only [if_pos z1]
  ·simp only [if_neg z1]
   by_cases z2:z∈base.toList++[g2]
   ·have:z∈ks++g2::(st.o g2).hn:=by
     rcases List.mem_append.1 z2 with z2 | z2
     ·rcases hb with ⟨q1,_⟩ | ⟨g,l,q1,_,_,_,_,_,q7⟩
      ·rw [q1] at z2;simp at z2
      ·rw [q1] at z2;simp at z2;subst z2;rw [q7];simp
     ·simp at z2;subst z2;simp
    simp only [if_pos z2,if_pos this]
   ·by_cases z3:z∈ks++g2::(st.o g2).hn
    ·simp only [if_neg z2,if_pos z3]
     have hzg:z≠g2:=fun e=>z2 (by simp [e])
     by_cases z4:z∈(st.o g2).hn
     ·exact (ok2 z z4).1
     ·rw [oo2 z hzg z4]
      rcases List.mem_append.1 z3 with z5 | z5
      ·exact ok1 z z5 fun g hg e=>z2 (by rw [hg,e];simp)
      ·rcases List.mem_cons.1 z5 with z5 | z5
       ·exact absurd z5 hzg
       ·exact absurd z5 z4
    ·simp only [if_neg z2,if_neg z3]
     simp only [List.mem_append,List.mem_cons,not_or] at z3
     rw [oo2 z z3.2.1 z3.2.2,oo1 z z3.1]
 rw [hst] at k2 k3
 have hod:(st.au ((d,.ay (a||a2) (i||i2) sz ah (old++new) none)::kills (ks++g2::(st.o g2).hn)) [d]).o d=.ay (a||a2) (i||i2) sz ah (old++new) none:=by simp [St.au,lookup_cons]
 refine ⟨v,w',aQ,.inl (gW ho ?_),k2,Lets.trans (Lets.trans l1 l2 (fun g hg=>by rw [u1];exact hg)) k3 (fun g hg=>by rw [u2,u1];exact hg),bD.E_ (.own d v (by rw [k4];rfl) fun sz1 len1 ho1 => ?_),fun g hg => ?_⟩
 ·rw [(e2 g2).1,(e1 g2).1,(e2 g2).2,(e1 g2).2] at k1
  simp [builtin,hvs,YF,k1]
 ·rw [hod] at ho1
  simp only [O.dim,Option.some.injEq,Prod.mk.injEq] at ho1
  obtain ⟨rfl,rfl⟩:=ho1;rw [k4,fB (by rw [hsz];exact he.small),fD (by rw [hsz];exact he.small)]
 ·rw [bU] at hg
  simp only [W.names,List.mem_singleton] at hg
  subst hg;simp [St.au]
theorem JG {dc:List (Nat×Nat)} (htt:fF Pg tt) (args:Array Operand) (ts:Array TypeId):pY Pg tt dc (.call { callee:=.builtin .append,args:=args,argTypes:=ts }):=by
 intro E st gh val w ρ F o d r ho h hF hFn hk hp hd
 simp only [bQ] at hk
 split at hk
 ·rename_i s x sT xT tl ha hts
  obtain rfl:=pU ha
  have h0:ts[0]?=some sT:=by rw [←Array.getElem?_toList,hts];rfl
  have h1:ts[1]?=some xT:=by rw [←Array.getElem?_toList,hts];rfl
  split at hk
  ·rename_i e _ _ _ e' _ _ _ s' g2 hsT hxT hs hx
   have rs:=hF s;rw [hs] at rs
   have rx:=hF x;rw [hx] at rx
   have huS:=(htt _ _ hsT).kind
   have huX:=(htt _ _ hxT).kind
   simp only [lT] at huS huX
   split at hk
   ·rename_i ie ask a i old ks src a2 i2 sz ah new he hbD hh2
    split at hk
    ·rename_i hc
     obtain ⟨hb0,hsz,hsrc,hnd⟩:=hc
     have hnd:=qU hnd
     simp only [Option.some.injEq] at hk;subst hk
     obtain ⟨hask,hbb⟩:=hp
     have D5:st.used d=false:=hd d (by simp)
     have hsm:sz<MB:=by rw [hsz];exact (htt _ _ he).small
     have YF:ρ x=.slice (gh g2).ad new.length (gh g2).cap:=by cases rx.bC with | own _ _ _ hb=>exact (hb _ _ (o9 hh2)).trans (by rw [fD hsm,fB hsm])
     have refl:Lets E st st gh gh w w:=⟨fun a i b hb=>⟨hb,rfl⟩,fun g _=>.inr ⟨⟨rfl,rfl⟩,O.dM _⟩⟩
     cases s' with
     |bg=>
      simp only [baseD,Option.some.injEq,Prod.mk.injEq] at hbD
      obtain ⟨rfl,rfl,rfl,rfl,rfl,rfl⟩:=hbD
      have hv:ρ s=.slice none 0 0:=by generalize hz:ρ s=z at rs;cases rs.bC;rfl
      exact wM htt h ho D5 h0 h1 huS huX (htt _ _ he) hb0 (base:=none) (bad:=none) (uO:=0) (m:=0) hsz [] h refl (fun _=>⟨rfl,rfl⟩) rfl (fun _=>rfl) (.inl ⟨rfl,rfl,rfl,rfl,rfl,rfl⟩) (fun x hx=>by cases hx) (fun _ _=>rfl) hnd hh2 hv YF (by simpa using hbb)
     |own g=>
      simp only [baseD] at hbD
      split at hbD
      ·rename_i a0 i0 yg jD l0 hh
       simp only [Option.some.injEq,Prod.mk.injEq] at hbD
       obtain ⟨rfl,rfl,rfl,rfl,rfl,rfl⟩:=hbD
       have hsc:yg=sz∧jD=ah:=by rcases hsrc with e | e;cases e;simpa using e
       obtain ⟨rfl,rfl⟩:=hsc
       obtain ⟨st1,jT,r1,l1,e1,s1,u1,o1,ok1,oo1⟩:=h.home hh
       have hv:ρ s=.slice (gh g).ad l0.length (gh g).cap:=by cases rs.bC with | own _ _ _ hb=>exact (hb _ _ (o9 hh)).trans (by rw [fD hsm,fB hsm])
       exact wM htt h ho D5 h0 h1 huS huX (htt _ _ he) hb0 (base:=some g) hsz (g::(st.o g).hn) r1 l1 e1 s1 u1 (.inr ⟨g,l0,rfl,o1,rfl,⟨by have:=(uF (h.aJ g) (o9 hh)).1;rwa [fB hsm] at this,Nat.le_refl _⟩,Nat.le_refl _,by rw [List.take_length],rfl⟩)
        (fun x hx hxg=>by
         rcases List.mem_cons.1 hx with e | e
         ·exact absurd e (hxg g rfl)
         ·exact (ok1 x e).1)
        (fun x hx=>by simp only [List.mem_cons,not_or] at hx;exact oo1 x hx.1 hx.2) hnd hh2 hv YF hbb
      ·cases hbD
     |vw g lo hi=>
      simp only [baseD] at hbD
      split at hbD
      ·rename_i a0 i0 yg jD l0 hh
       simp only [Option.some.injEq,Prod.mk.injEq] at hbD
       obtain ⟨rfl,rfl,rfl,rfl,rfl,rfl⟩:=hbD
       have hsc:yg=sz∧jD=ah:=by rcases hsrc with e | e;cases e;simpa using e
       obtain ⟨rfl,rfl⟩:=hsc
       obtain ⟨st1,jT,r1,l1,e1,s1,u1,o1,ok1,oo1⟩:=h.home hh
       obtain ⟨n,m,vc,h4,rfl,h5,h6,hvc,hv⟩:=(by cases rs.bC with | vw _ _ _ _ _ hb=>have:=hb _ _ (o9 hh);rwa [fB hsm] at this :∃n m c:Nat,lo=.int .i64 n∧hi=.int .i64 m∧n≤m∧m≤l0.length∧(m-n≤c∧n+c≤(gh g).cap)∧
        ρ s=.slice (if (gh g).cap=n then (gh g).ad else (gh g).ad.map (·.add (n*yg))) (m-n) c)
       have hn0:n=0:=by rw [hask] at h4;simp [jJ] at h4;omega
       subst hn0
       have hadd:(gh g).ad.map (·.add (0*yg))=(gh g).ad:=by
        cases (gh g).ad with
        |none=>rfl
        |some a=>simp [Addr.add]
       rw [hadd] at hv
       simp only [ite_self,Nat.sub_zero] at hv
       have em:(P.int .i64 (m:Int)).nat=m:=by simp [P.nat,P.num]
       rw [em] at hbb ⊢
       have ai7:(m+new.length)*ie.bytes≤140737488355328:=by rw [List.length_take,Nat.min_eq_left h6] at hbb;exact hbb
       exact wM htt h ho D5 h0 h1 huS huX (htt _ _ he) hb0 (base:=some g) hsz (g::(st.o g).hn) r1 l1 e1 s1 u1 (.inr ⟨g,l0,rfl,o1,rfl,by omega,h6,rfl,rfl⟩)
        (fun x hx hxg=>by
         rcases List.mem_cons.1 hx with e | e
         ·exact absurd e (hxg g rfl)
         ·exact (ok1 x e).1)
        (fun x hx=>by simp only [List.mem_cons,not_or] at hx;exact oo1 x hx.1 hx.2) hnd hh2 hv YF ai7
      ·cases hbD
     |_=>simp [baseD] at hbD
    ·cases hk
   ·cases hk
  ·cases hk
 ·cases hk
theorem MN {dc:List (Nat×Nat)} (htt:fF Pg tt) (t:TypeId) (x:Operand) (lo hi mx:Option Operand):pY Pg tt dc (.slice t x lo hi mx):=by
 intro E st gh val w ρ F o d r ho h hF hFn hk hp hd
 cases lo with
 |some _=>simp [bQ] at hk
 |none=>
 cases mx with
 |some _=>simp [bQ] at hk
 |none=>
 simp only [bQ] at hk
 split at hk
 ·rename_i e _ _ _ g ht hx
  have rx:=hF x;rw [hx] at rx
  have hu:=(htt _ _ ht).kind
  simp only [lT] at hu
  split at hk
  ·rename_i ie a i sz l he hog
   split at hk
   ·rename_i hsz
    split at hk
    ·rename_i hi' hhi
     simp only [Option.some.injEq] at hk;subst hk
     obtain ⟨k,hk,hkl⟩:=hp
     have hd:=hd d (by simp)
     have hsm:sz<MB:=by rw [hsz];exact (htt _ _ he).small
     have JD:(st.o g).dim=some (sz,ml sz l):=by rw [hog];rfl
     have hv:=(by cases rx.bC with | own _ _ _ hb=>exact (hb _ _ JD).trans (by rw [fD hsm,fB hsm]):ρ x=.slice (gh g).ad l.length (gh g).cap)
     have hob:=h.aJ g
     rw [hog] at hob
     have hcap:l.length≤(gh g).cap:=L6 hsm hob
     have hob:dw E st gh w a i sz l (gh g):=hob
     have uG:(hi.map ρ=none∧k=l.length)∨∃kd,hi.map ρ=some (.int kd k):=(f_ hF hhi hk).imp (fun ⟨a,b⟩=>⟨a,by simp [jJ] at b;omega⟩) id
     have hrun:(execOp ρ o).run Pg w=.ok (.value (.slice (gh g).ad k (gh g).cap)) w:=by
      have hs:=m_ (Pg:=Pg) (w:=w) (len:=l.length) (lo:=(none:Option Value)) (hi:=hi.map ρ) (m:=0) (k:=k) (cap:=(gh g).cap) (.inl ⟨rfl,rfl⟩) uG (Nat.zero_le _) (by omega)
      have key:(execOp ρ o).run Pg w=.ok (.value (.slice (if (gh g).cap=0 then (gh g).ad else (gh g).ad.map (·.add (0*ie.size))) (k-0) ((gh g).cap-0))) w:=by
       unfold execOp
       rw [ho]
       refine eG ?_
       simp only [Option.map_none]
       simp [Instr.sliceAt,bP hu,Instr.slice,hv,hs,bM (htt _ _ he)]
      rw [key]
      congr 3
      rcases hob with ⟨q1,q2,_⟩ | ⟨ad,ob,q1,q2,_⟩
      ·rw [q1,q2];rfl
      ·rw [q1]
       obtain ⟨b0,o0,sp0⟩:=ad
       simp only at q2;subst q2
       split
       ·rfl
       ·rw [Option.map_some,Addr.fK];simp
     have hgo:(st.o g).aX=true:=by rw [hog];rfl
     have hgu:st.used g=true:=h.ul g (O.lV hgo)
     have hgd:g≠d:=by intro e;subst e;rw [hd] at hgu;cases hgu
     have e0:(P.list (P.sl sz (l.take hi'.nat)))=l.take k:=by rw [hk];simp [P.list,P.nat,P.num]
     have O5 :∀st',st'=st.au [(d,.arr false a i sz (l.take k)),(g,.none)] [d]→
       ∃aQ,Rel E st' aQ val w∧Lets E st st' gh aQ w w∧bD E st' aQ w (.v (.one (.own d))) (.slice (gh g).ad k (gh g).cap):=by
      intro st' hst
      have hod:st'.o d=.arr false a i sz (l.take k):=by rw [hst];simp [St.au,List.lookup]
      have hm:=h.merge (fun g'=>g'=g) d (.arr false a i sz (l.take k)) (gh g) st' w (by rw [hst];rfl) hod (fun g' e1 e2=>by
        rw [hst,e1]
        have:(g==d)=false:=by simpa using hgd
        simp [St.au,List.lookup,this]) (fun g' e1 e2=>by
        rw [hst]
        have q1:(g'==d)=false:=by simpa using e2
        have q2:(g'==g)=false:=by simpa using e1
        simp [St.au,List.lookup,q1,q2]) (fun g' hg'=>by rw [hst];simp [St.au,hg']) (by rw [hst];simp [St.au]) (fun hu=>by rw [hd] at hu;cases hu)
       (fun b hb=>.inl ⟨g,.inl rfl,hgo,hb⟩) (fun b _ _=>rfl) (Nat.le_refl _) rfl rfl rfl
       (fun i1 b e1 hb hwr=>by cases e1;exact h.wi g i b (by rw [hog];rfl) hb hwr) (fun _ _=>h.ns g hgo (by rw [hog];rfl)) (fun hl => ?_) (fun g' hg'=>by simp [O.names] at hg')
      ·refine ⟨_,hm.1,hm.2,bD.E_ (.own d _ rfl fun sz' len' hd' => ?_)⟩
       rw [hod] at hd'
       obtain ⟨rfl,rfl⟩:=O.iG hd'
       have e1:dH gh d (gh g) d=gh g:=by simp [dH]
       rw [e1,fB hsm,fD hsm,List.length_take,Nat.min_eq_left hkl]
      ·show dw E st' _ w a i sz (l.take k) (gh g)
       have hold:dw E st gh w a i sz l (gh g):=hob
       rcases dw.old hsm hold with ⟨q1,q2,q3⟩ | ⟨ad,c,e',q1,q2,q3,q4,q5,q6,q7⟩
       ·exact .inl ⟨q1,q2,by rw [q3];simp,hsm⟩
       ·refine dw.of hsm <| .inr ⟨ad,c,e',q1,q2,q3,q4,⟨by rw [List.length_take];omega,q5.2⟩,fun x hx=>q6 x (List.mem_of_mem_take hx),fun n x hx j y hy => ?_⟩
        rw [List.getElem?_take] at hx
        split at hx
        ·obtain ⟨v,hv,hr⟩:=q7 n x hx j y hy
         exact ⟨v,hv,hl.iY hr⟩
        ·cases hx
     show∃v w' aQ,Does Pg (execOp ρ o) w v w'∧Rel E (st.au [(d,.arr false a i sz (P.list (P.sl sz (l.take hi'.nat)))),(g,.none)] [d]) aQ val w'∧_
     rw [e0]
     obtain ⟨aQ,m1,m2,m3⟩:=O5 _ rfl
     refine ⟨_,w,aQ,.inl hrun,m1,?_,?_,fun g' hg' => ?_⟩
     ·show Lets E st (st.au [(d,.arr false a i sz (P.list (P.sl sz (l.take hi'.nat)))),(g,.none)] [d]) gh aQ w w
      rw [e0];exact m2
     ·show bD E (st.au [(d,.arr false a i sz (P.list (P.sl sz (l.take hi'.nat)))),(g,.none)] [d]) aQ w _ _
      rw [e0];exact m3
     ·have hg':g'∈(S.v (.one (.own d))).names:=hg'
      have:g'=d:=by simpa [S.names,V.names,W.names] using hg'
      subst this
      simp [St.au]
    ·cases hk
   ·cases hk
  ·rename_i ie a i sz ah l he hog
   split at hk
   ·rename_i hsz
    split at hk
    ·rename_i hi' hhi
     simp only [Option.some.injEq] at hk;subst hk
     obtain ⟨k,hk,hkl⟩:=hp
     have hd:=hd d (by simp)
     have hsm:sz<MB:=by rw [hsz];exact (htt _ _ he).small
     have JD:(st.o g).dim=some (sz,ml sz l):=by rw [hog];rfl
     have hv:=(by cases rx.bC with | own _ _ _ hb=>exact (hb _ _ JD).trans (by rw [fD hsm,fB hsm]):ρ x=.slice (gh g).ad l.length (gh g).cap)
     have hob:=h.aJ g
     rw [hog] at hob
     have hob:dY E st gh w a i sz ah l none (gh g):=hob
     have hcap:l.length≤(gh g).cap:=by
      rcases dY.old hsm hob with ⟨_,_,q3,_⟩ | ⟨_,_,_,_,_,_,_,q5,_⟩
      ·rw [q3];exact Nat.zero_le _
      ·exact q5.1
     have uG:(hi.map ρ=none∧k=l.length)∨∃kd,hi.map ρ=some (.int kd k):=(f_ hF hhi hk).imp (fun ⟨a,b⟩=>⟨a,by simp [jJ] at b;omega⟩) id
     have hrun:(execOp ρ o).run Pg w=.ok (.value (.slice (gh g).ad k (gh g).cap)) w:=by
      have hs:=m_ (Pg:=Pg) (w:=w) (len:=l.length) (lo:=(none:Option Value)) (hi:=hi.map ρ) (m:=0) (k:=k) (cap:=(gh g).cap) (.inl ⟨rfl,rfl⟩) uG (Nat.zero_le _) (by omega)
      have key:(execOp ρ o).run Pg w=.ok (.value (.slice (if (gh g).cap=0 then (gh g).ad else (gh g).ad.map (·.add (0*ie.size))) (k-0) ((gh g).cap-0))) w:=by
       unfold execOp
       rw [ho]
       refine eG ?_
       simp only [Option.map_none]
       simp [Instr.sliceAt,bP hu,Instr.slice,hv,hs,bM (htt _ _ he)]
      rw [key]
      congr 3
      rcases hob with ⟨q1,q2,_⟩ | ⟨ad,ob,q1,q2,_⟩
      ·rw [q1,q2];rfl
      ·rw [q1]
       obtain ⟨b0,o0,sp0⟩:=ad
       simp only at q2;subst q2
       split
       ·rfl
       ·rw [Option.map_some,Addr.fK];simp
     have hgo:(st.o g).aX=true:=by rw [hog];rfl
     have hgu:st.used g=true:=h.ul g (O.lV hgo)
     have hgd:g≠d:=by intro e;subst e;rw [hd] at hgu;cases hgu
     have e0:(P.list (P.sl sz (l.take hi'.nat)))=l.take k:=by rw [hk];simp [P.list,P.nat,P.num]
     have O5 :∀st',st'=st.au [(d,.ay a i sz ah (l.take k) none),(g,.none)] [d]→
       ∃aQ,Rel E st' aQ val w∧Lets E st st' gh aQ w w∧bD E st' aQ w (.v (.one (.own d))) (.slice (gh g).ad k (gh g).cap):=by
      intro st' hst
      have hod:st'.o d=.ay a i sz ah (l.take k) none:=by rw [hst];simp [St.au,List.lookup]
      have hm:=h.merge (fun g'=>g'=g) d (.ay a i sz ah (l.take k) none) (gh g) st' w (by rw [hst];rfl) hod (fun g' e1 e2=>by
        rw [hst,e1]
        have:(g==d)=false:=by simpa using hgd
        simp [St.au,List.lookup,this]) (fun g' e1 e2=>by
        rw [hst]
        have q1:(g'==d)=false:=by simpa using e2
        have q2:(g'==g)=false:=by simpa using e1
        simp [St.au,List.lookup,q1,q2]) (fun g' hg'=>by rw [hst];simp [St.au,hg']) (by rw [hst];simp [St.au]) (fun hu=>by rw [hd] at hu;cases hu)
       (fun b hb=>.inl ⟨g,.inl rfl,hgo,hb⟩) (fun b _ _=>rfl) (Nat.le_refl _) rfl rfl rfl
       (fun i1 b e1 hb hwr=>by cases e1;exact h.wi g i b (by rw [hog];rfl) hb hwr) (fun _ hd=>by cases hd) (fun hl => ?_) (fun g' hg'=>by simp [O.names,bn] at hg')
      ·refine ⟨_,hm.1,hm.2,bD.E_ (.own d _ rfl fun sz' len' hd' => ?_)⟩
       rw [hod] at hd'
       have hd':some (sz,ml sz (l.take k))=some (sz',len'):=hd'
       simp only [Option.some.injEq,Prod.mk.injEq] at hd'
       obtain ⟨rfl,rfl⟩:=hd'
       have e1:dH gh d (gh g) d=gh g:=by simp [dH]
       rw [e1,fB hsm,fD hsm,List.length_take,Nat.min_eq_left hkl]
      ·show dY E st' _ w a i sz ah (l.take k) none (gh g)
       rcases dY.old hsm hob with ⟨q1,q2,q3,q4⟩ | ⟨ad,c,e',q1,q2,q3,q4,q5,q6,q7,q8⟩
       ·exact .inl ⟨q1,q2,by rw [q3];simp,q4,hsm⟩
       ·refine dY.of hsm <| .inr ⟨ad,c,e',q1,q2,q3,q4,⟨by rw [List.length_take];omega,q5.2⟩,fun x hx=>q6 x (List.mem_of_mem_take hx),q7,fun n x hx j y hy => ?_⟩
        rw [List.getElem?_take] at hx
        split at hx
        ·obtain ⟨v,hv,hr⟩:=q8 n x hx j y hy
         exact ⟨v,hv,hl.UA (fun b hb=>rfl) (fun g hg=>by simp [bn] at hg) hr⟩
        ·cases hx
     show∃v w' aQ,Does Pg (execOp ρ o) w v w'∧Rel E (st.au [(d,.ay a i sz ah (P.list (P.sl sz (l.take hi'.nat))) none),(g,.none)] [d]) aQ val w'∧_
     rw [e0]
     obtain ⟨aQ,m1,m2,m3⟩:=O5 _ rfl
     refine ⟨_,w,aQ,.inl hrun,m1,?_,?_,fun g' hg' => ?_⟩
     ·show Lets E st (st.au [(d,.ay a i sz ah (P.list (P.sl sz (l.take hi'.nat))) none),(g,.none)] [d]) gh aQ w w
      rw [e0];exact m2
     ·show bD E (st.au [(d,.ay a i sz ah (P.list (P.sl sz (l.take hi'.nat))) none),(g,.none)] [d]) aQ w _ _
      rw [e0];exact m3
     ·have hg':g'∈(S.v (.one (.own d))).names:=hg'
      have:g'=d:=by simpa [S.names,V.names,W.names] using hg'
      subst this
      simp [St.au]
    ·cases hk
   ·cases hk
  ·cases hk
 ·cases hk
theorem JH {dc:List (Nat×Nat)} (htt:fF Pg tt) (op:Op):pY Pg tt dc op:=by
 cases op with
 |load t x=>exact O1 htt t x
 |store t x y=>exact ML htt t x y
 |buildSlice t n ps=>exact AA htt t n ps
 |makeSlice t n c=>exact CQ htt t n c
 |slice t x lo hi mx=>exact MN htt t x lo hi mx
 |call c=>
  obtain ⟨callee,args,ts⟩:=c
  cases callee with
  |builtin b=>
   cases b with
   |append=>exact JG htt args ts
   |_=>intro E st gh val w ρ F o d r ho h hF hFn hk;simp [bQ] at hk
  |_=>intro E st gh val w ρ F o d r ho h hF hFn hk;simp [bQ] at hk
 |_=>intro E st gh val w ρ F o d r ho h hF hFn hk;simp [bQ] at hk
end
end Go.Fw

namespace Go.Fw
set_option linter.unusedSectionVars false
variable [dA]
set_option linter.unusedVariables false
def P.flat:P→Bool
 |.sl _ _=>false
 |.seq _=>false
 |.mp _ _=>false
 |_=>true
theorem aU.flat {w:World} {ok ok':Nat→Prop} {x:P} {v:Value} (hx:x.flat=true) (r:aU w ok x v):aU w ok' x v:=by
 cases r with
 |int k n=>exact .int k n
 |bool b=>exact .bool b
 |str s=>exact .str s
 |opq v h=>exact .opq v h
 |_=>cases hx
inductive Ww (C:Bool→Bool→Bool→Bool→Prop) (m:Nat→Option Nat) (nil:Nat→Prop):W→W→Prop where
 |no (x:W):Ww C m nil x .no
 |p {a i a' i':Bool} (x:P) (hc:C a i a' i'):Ww C m nil (.p a i x) (.p a' i' x)
 |flat {a i a' i':Bool} (x:P) (hx:x.flat=true):Ww C m nil (.p a i x) (.p a' i' x)
 |bg:Ww C m nil .bg .bg
 |aev (a i:Bool) (sz:Nat):Ww C m nil .bg (.p a i (.sl sz []))
 |agp {g':Nat} (h:m g'=none) (hn:nil g'):Ww C m nil .bg (.own g')
 |own {g g':Nat} (h:m g'=some g):Ww C m nil (.own g) (.own g')
 |vw {g g':Nat} (lo hi:P) (h:m g'=some g):Ww C m nil (.vw g lo hi) (.vw g' lo hi)
 |box {g g' off:Nat} (h:m g'=some g):Ww C m nil (.box g off) (.box g' off)
 |ep {g g':Nat} (n:P) (off:Nat) (h:m g'=some g):Ww C m nil (.ep g n off) (.ep g' n off)
 |lQ {g g':Nat} (h:m g'=some g):Ww C m nil (.lQ g) (.lQ g')
 |sp {a i a' i':Bool} (row:List P) (off:Nat) (hc:C a i a' i'):Ww C m nil (.sp a i row off) (.sp a' i' row off)
 |gd (b:Bool) {x y:W} (h:Ww C m nil x y):Ww C m nil (.gd b x) (.gd b y)
 |clo (f:FuncId) (xs ys:List W) (hl:xs.length=ys.length) (h :∀(j:Nat) x y,xs[j]?=some x→ys[j]?=some y→Ww C m nil x y):Ww C m nil (.clo f xs) (.clo f ys)
inductive Vw (C:Bool→Bool→Bool→Bool→Prop) (m:Nat→Option Nat) (nil:Nat→Prop):V→V→Prop where
 |one {x y:W} (h:Ww C m nil x y):Vw C m nil (.one x) (.one y)
 |agg (xs ys:List W) (hl:xs.length=ys.length) (h :∀(j:Nat) x y,xs[j]?=some x→ys[j]?=some y→Ww C m nil x y):Vw C m nil (.agg xs) (.agg ys)
inductive Sw (C:Bool→Bool→Bool→Bool→Prop) (m:Nat→Option Nat) (nil:Nat→Prop):S→S→Prop where
 |no (x:S):Sw C m nil x .no
 |v {x y:V} (h:Vw C m nil x y):Sw C m nil (.v x) (.v y)
 |jH (xs ys:List V) (hl:xs.length=ys.length) (h :∀(j:Nat) x y,xs[j]?=some x→ys[j]?=some y→Vw C m nil x y):Sw C m nil (.jH xs) (.jH ys)
inductive Ow (C:Bool→Bool→Bool→Bool→Prop) (m:Nat→Option Nat) (nil:Nat→Prop):O→O→Prop where
 |none (x:O):Ow C m nil x .none
 |box (xs ys:List W) (hl:xs.length=ys.length) (h :∀(j:Nat) x y,xs[j]?=some x→ys[j]?=some y→Ww C m nil x y):Ow C m nil (.box xs) (.box ys)
 |arr (fz:Bool) {a i a' i':Bool} (sz:Nat) (l:List (List P)) (hc:C a i a' i'):Ow C m nil (.arr fz a i sz l) (.arr fz a' i' sz l)
 |ay {a i a' i':Bool} (sz:Nat) (ah:List (Nat×Nat)) (l:List (List P)) (hc:C a i a' i'):Ow C m nil (.ay a i sz ah l Option.none) (.ay a' i' sz ah l Option.none)
 |it (s n:P):Ow C m nil (.it s n) (.it s n)
def O.nilA (o:O):Prop:=(∃a i sz,o=.arr false a i sz []∧sz<MB)∨∃a i sz ah,o=.ay a i sz ah [] Option.none∧sz<MB
theorem Ow.dim {C:Bool→Bool→Bool→Bool→Prop} {m:Nat→Option Nat} {nil:Nat→Prop} {x y:O} (h:Ow C m nil x y) {d:Nat×Nat} (hd:y.dim=some d):x.dim=some d:=by
 cases h with
 |none=>cases hd
 |box=>cases hd
 |arr=>exact hd
 |ay=>exact hd
 |it=>cases hd
theorem Ow.aX {C:Bool→Bool→Bool→Bool→Prop} {m:Nat→Option Nat} {nil:Nat→Prop} {x y:O} (h:Ow C m nil x y) (hy:y.aX=true):x.aX=true∧x.mY=y.mY:=by
 cases h with
 |none=>cases hy
 |box=>exact ⟨rfl,rfl⟩
 |arr=>exact ⟨hy,rfl⟩
 |ay=>exact ⟨rfl,rfl⟩
 |it=>exact ⟨rfl,rfl⟩
theorem Ow.inner {C:Bool→Bool→Bool→Bool→Prop} {m:Nat→Option Nat} {nil:Nat→Prop} {x y:O} (h:Ow C m nil x y) {i:Bool} (hy:y.inner=some i) :∃a' a i',C a' i' a i∧x.inner=some i':=by
 cases h with
 |none=>cases hy
 |box=>cases hy
 |arr fz sz l hc=>
  cases fz with
  |false=>cases hy;exact ⟨_,_,_,hc,rfl⟩
  |true=>cases hy
 |ay sz ah l hc=>cases hy;exact ⟨_,_,_,hc,rfl⟩
 |it=>cases hy
structure Cast (C:Bool→Bool→Bool→Bool→Prop) (m:Nat→Option Nat) (nil:Nat→Prop) (E E':Env) (st st':St) (gh aQ:Nat→Gh) (w:World):Prop where
 ok :∀a i a' i' b,C a i a' i'→E.ok st gh w a i b→E'.ok st' aQ w a' i' b
 arr :∀g g',m g'=some g→∀sz len,(st'.o g').dim=some (sz,len)→((aQ g').ad=(gh g).ad∧(aQ g').cap=(gh g).cap)∧(st.o g).dim=some (sz,len)
 box :∀g g',m g'=some g→∀ws,st'.o g'=.box ws→(aQ g').ad=(gh g).ad∧∃ws',st.o g=.box ws'
 it :∀g g',m g'=some g→∀s n,st'.o g'=.it s n→(aQ g').ad=(gh g).ad∧∃s' n',st.o g=.it s' n'
 nil :∀g',nil g'→m g'=none→∀sz len,(st'.o g').dim=some (sz,len)→(len=0∧sz<MB)∧(aQ g').ad=none∧(aQ g').cap=0
section
variable {C:Bool→Bool→Bool→Bool→Prop} {E E':Env} {st st':St} {gh aQ:Nat→Gh} {w:World} {val:Nat→Value} {m:Nat→Option Nat} {nil:Nat→Prop}
theorem Cast.iY (r:Cast C m nil E E' st st' gh aQ w) {a i a' i':Bool} (hc:C a i a' i') {x:P} {v:Value} (h:aU w (E.ok st gh w a i) x v):aU w (E'.ok st' aQ w a' i') x v:=
 h.mono fun b hb=>⟨r.ok _ _ _ _ b hc hb,rfl⟩
theorem Cast.y9 (r:Cast C m nil E E' st st' gh aQ w) {x y:W} (hxy:Ww C m nil x y) {v:Value} (h:dP E st gh w x v):dP E' st' aQ w y v:=by
 induction hxy generalizing v with
 |no x=>exact .no v
 |p x hc=>cases h with | p _ _ _ _ h=>exact .p _ _ _ _ (r.iY hc h)
 |flat x hx=>cases h with | p _ _ _ _ h=>exact .p _ _ _ _ (h.flat hx)
 |bg=>cases h;exact .bg
 |aev a i sz=>cases h;exact .p _ _ _ _ (.nil _ _ _)
 |agp hm hn=>
  cases h
  refine .own _ _ rfl fun sz len ho => ?_
  obtain ⟨⟨h1,h4⟩,h2,h3⟩:=r.nil _ hn hm _ _ ho
  rw [h1,h2,h3,fD h4]
 |own hm=>
  cases h with | own _ _ hv hx=>
  refine .own _ _ hv fun sz len ho => ?_
  obtain ⟨hg,e⟩:=r.arr _ _ hm _ _ ho
  rw [hg.1,hg.2];exact hx _ _ e
 |vw lo hi hm=>
  cases h with | vw _ _ _ _ hv hx=>
  refine .vw _ _ _ _ hv fun sz len ho => ?_
  obtain ⟨hg,e⟩:=r.arr _ _ hm _ _ ho
  rw [hg.1,hg.2];exact hx _ _ e
 |box hm=>
  cases h with | box _ _ _ hv hx=>
  refine .box _ _ _ hv fun ws ho => ?_
  obtain ⟨hg,ws',e⟩:=r.box _ _ hm _ ho
  rw [hg];exact hx _ e
 |ep n off hm=>
  cases h with | ep _ _ _ _ hv hx=>
  refine .ep _ _ _ _ hv fun sz len ho => ?_
  obtain ⟨hg,e⟩:=r.arr _ _ hm _ _ ho
  rw [hg.1];exact hx _ _ e
 |lQ hm=>
  cases h with | lQ _ _ hv hx=>
  refine .lQ _ _ hv fun s n ho => ?_
  obtain ⟨hg,s',n',e⟩:=r.it _ _ hm _ _ ho
  rw [hg];exact hx _ _ e
 |sp row off hc=>
  cases h with | sp _ _ _ _ b o hb hr=>exact .sp _ _ _ _ b o (fun h0=>r.ok _ _ _ _ b hc (hb h0)) fun j y hj=>let ⟨u,hu,GN⟩:=hr j y hj;⟨u,hu,r.iY hc GN⟩
 |gd b hxy ih=>cases h with | gd _ _ _ h=>exact .gd _ _ _ fun hb=>ih (h hb)
 |clo f xs ys hl hxy ih=>
  cases h with | clo _ _ vs hl' h=>
  exact .clo f ys vs (by omega) fun j y v hy hv=>by
   have hlt:j<xs.length:=by have:=(List.getElem?_eq_some_iff.1 hy).1;omega
   exact ih j _ y (List.getElem?_eq_getElem hlt) hy (h j _ v (List.getElem?_eq_getElem hlt) hv)
theorem Cast.WA (r:Cast C m nil E E' st st' gh aQ w) {x y:V} (hxy:Vw C m nil x y) {v:Value} (h:qK E st gh w x v):qK E' st' aQ w y v:=by
 cases hxy with
 |one hxy=>cases h with | one _ _ h=>exact .one _ _ (r.y9 hxy h)
 |agg xs ys hl hxy=>
  cases h with | agg _ cs hl' hv h=>
  exact .agg ys cs (by omega) hv fun j y v hy hv=>by
   have hlt:j<xs.length:=by have:=(List.getElem?_eq_some_iff.1 hy).1;omega
   exact r.y9 (hxy j _ y (List.getElem?_eq_getElem hlt) hy) (h j _ v (List.getElem?_eq_getElem hlt) hv)
theorem Cast.abr (r:Cast C m nil E E' st st' gh aQ w) {x y:S} (hxy:Sw C m nil x y) {v:Value} (h:bD E st gh w x v):bD E' st' aQ w y v:=by
 cases hxy with
 |no x=>exact .no v
 |v hxy=>cases h with | v _ _ h=>exact .v _ _ (r.WA hxy h)
 |jH xs ys hl hxy=>
  cases h with | jH _ vs hl' h=>
  exact .jH ys vs (by omega) fun j y v hy hv=>by
   have hlt:j<xs.length:=by have:=(List.getElem?_eq_some_iff.1 hy).1;omega
   exact r.WA (hxy j _ y (List.getElem?_eq_getElem hlt) hy) (h j _ v (List.getElem?_eq_getElem hlt) hv)
theorem Cast.Ah (r:Cast C m nil E E' st st' gh aQ w) {x y:O} (hxy:Ow C m nil x y) {G:Gh} (h:kF E st gh w x G):kF E' st' aQ w y G:=by
 cases hxy with
 |none x=>trivial
 |box xs ys hl hxy=>
  obtain ⟨ad,c,e,h1,h2,h3,h4,h5⟩:=h
  refine ⟨ad,c,e,h1,h2,h3,by omega,fun j y hy => ?_⟩
  have hlt:j<xs.length:=by have:=(List.getElem?_eq_some_iff.1 hy).1;omega
  obtain ⟨v,hv,ho,hr⟩:=h5 j _ (List.getElem?_eq_getElem hlt)
  exact ⟨v,hv,ho,r.y9 (hxy j _ y (List.getElem?_eq_getElem hlt) hy) hr⟩
 |arr fz sz l hc=>
  cases fz with
  |false=>
   rcases h with hO | ⟨ad,ob,h1,h2,h3,h4,h6,h7⟩
   ·exact .inl hO
   ·exact .inr ⟨ad,ob,h1,h2,h3,h4,h6,fun n x hx j y hy=>let ⟨v,hv,hr⟩:=h7 n x hx j y hy;⟨v,hv,r.iY hc hr⟩⟩
  |true=>exact r.iY hc h
 |ay sz ah l hc=>
  rcases h with hO | ⟨ad,ob,h1,h2,h3,h4,h6,h7,h8⟩
  ·exact .inl hO
  ·refine .inr ⟨ad,ob,h1,h2,h3,h4,h6,h7,fun n x hx j y hy => ?_⟩
   obtain ⟨v,hv,hr⟩:=h8 n x hx j y hy
   refine ⟨v,hv,?_⟩
   unfold gB at *
   cases hcl:ah.lookup j with
   |none=>rw [hcl] at hr;exact r.iY hc hr
   |some sz'=>
    rw [hcl] at hr
    simp only [fM] at *
    obtain ⟨l',ao,k,k1,k2,k3,k4⟩:=hr
    refine ⟨l',ao,k,k1,k2,?_,k4⟩
    rcases k3 with k3 | ⟨ad,ob,h1,h2,h3,h4,h6,h7⟩
    ·exact .inl k3
    ·exact .inr ⟨ad,ob,h1,h2,h3,h4,h6,fun n x hx j y hy=>let ⟨v,hv,hr⟩:=h7 n x hx j y hy;⟨v,hv,r.iY hc hr⟩⟩
 |it s n=>exact h
end
def Yj (a i a' i':Bool):Prop:=(a=true→a'=true)∧(i=true→i'=true)
structure sF (C:Bool→Bool→Bool→Bool→Prop) (m:Nat→Option Nat) (st st':St):Prop where
 slots :∀t,Sw C m (fun g=>(st'.o g).nilA) (st.s t) (st'.s t)
 aJ :∀g' g,m g'=some g→Ow C m (fun g=>(st'.o g).nilA) (st.o g) (st'.o g')
 aK :∀g',m g'=none→st'.o g'=.none∨(st'.o g').nilA
 inj :∀g1 g2 g,(st'.o g1).aX=true→(st'.o g2).aX=true→m g1=some g→m g2=some g→g1=g2
 us :∀t,∀g∈(st'.s t).names,st'.used g=true
 uo :∀g,∀g'∈(st'.o g).names,st'.used g'=true
 ul :∀g,st'.o g≠.none→st'.used g=true
section
variable {C:Bool→Bool→Bool→Bool→Prop} {E E':Env} {st st':St} {gh:Nat→Gh} {w:World} {val:Nat→Value} {m:Nat→Option Nat}
def iP (gh:Nat→Gh) (m:Nat→Option Nat):Nat→Gh:=fun g'=>match m g' with
 |some g=>gh g
 |none=>Gh.nil
theorem sF.aX (r:sF C m st st') {g':Nat} (h:(st'.o g').aX=true) {b:Nat} (had:(iP gh m g').has b) :∃g,m g'=some g∧(st.o g).aX=true∧(gh g).has b:=by
 unfold iP at had
 cases hm:m g' with
 |none=>rw [hm] at had;exact (Gh.not_nil had).elim
 |some g=>
  rw [hm] at had
  exact ⟨g,rfl,((r.aJ g' g hm).aX h).1,had⟩
theorem sF.cast (r:sF C m st st') (hok :∀a i a' i' b,C a i a' i'→E.ok st gh w a i b→E'.ok st' (iP gh m) w a' i' b) :
  Cast C m (fun g=>(st'.o g).nilA) E E' st st' gh (iP gh m) w:=by
 refine ⟨hok,fun g g' hm sz len ho=>⟨by simp [iP,hm],(r.aJ g' g hm).dim ho⟩,fun g g' hm ws ho=>⟨by simp [iP,hm],?_⟩,fun g g' hm s n ho=>⟨by simp [iP,hm],?_⟩,fun g' hn hm sz len ho=>⟨?_,by simp [iP,hm,Gh.nil],by simp [iP,hm,Gh.nil]⟩⟩
 ·have:=r.aJ g' g hm
  rw [ho] at this
  generalize st.o g=x at this
  cases this;exact ⟨_,rfl⟩
 ·have:=r.aJ g' g hm
  rw [ho] at this
  generalize st.o g=x at this
  cases this;exact ⟨_,_,rfl⟩
 ·rcases hn with ⟨a',i',sz',hn,hlt⟩ | ⟨a',i',sz',ah,hn,hlt⟩
  ·rw [hn] at ho;cases ho;exact ⟨by simp [ml],hlt⟩
  ·rw [hn] at ho;cases ho;exact ⟨by simp [ml],hlt⟩
theorem sF.ok (r:sF Yj m st st') :∀a i a' i' b,Yj a i a' i'→E.ok st gh w a i b→E.ok st' (iP gh m) w a' i' b:=by
 intro a i a' i' b hc h
 have:=Env.kC hc.1 hc.2 h
 refine ⟨this.1,this.2.1,fun g' ho had => ?_⟩
 obtain ⟨g,_,h1,h2⟩:=r.aX ho had
 exact h.2.2 g h1 h2
theorem sF.Ah (r:sF C m st st') (c:Cast C m (fun g=>(st'.o g).nilA) E E' st st' gh (iP gh m) w) (h :∀g,kF E st gh w (st.o g) (gh g)) (g':Nat):kF E' st' (iP gh m) w (st'.o g') (iP gh m g'):=by
 cases hm:m g' with
 |none=>
  rcases r.aK g' hm with e | ⟨a,i,sz,e,hlt⟩ | ⟨a,i,sz,ah,e,hlt⟩
  ·rw [e];trivial
  ·rw [e];exact .inl ⟨by simp [iP,hm,Gh.nil],by simp [iP,hm,Gh.nil],rfl,hlt⟩
  ·rw [e];exact .inl ⟨by simp [iP,hm,Gh.nil],by simp [iP,hm,Gh.nil],rfl,fun b=>by simp [iP,hm,Gh.nil],hlt⟩
 |some g=>
  have hg:iP gh m g'=gh g:=by simp [iP,hm]
  rw [hg]
  exact c.Ah (r.aJ g' g hm) (h g)
theorem Rel.RJ (h:Rel E st gh val w) (r:sF Yj m st st'):Rel E st' (iP gh m) val w:=by
 have c:=r.cast (E:=E) (E':=E) (gh:=gh) (w:=w) r.ok
 refine ⟨fun t=>c.abr (r.slots t) (h.slots t),r.Ah c h.aJ,fun g1 g2 b h1 h2 k1 k2 => ?_,fun g' b ho had => ?_,fun g' i b ho had hw => ?_,fun g' ho hd b => ?_,h.wb,h.frame,h.size,h.os,h.tape,h.output,r.us,r.uo,r.ul⟩
 ·obtain ⟨q1,m1,o1,d1⟩:=r.aX h1 k1
  obtain ⟨q2,m2,o2,d2⟩:=r.aX h2 k2
  have:=h.inj q1 q2 b o1 o2 d1 d2
  subst this
  exact r.inj g1 g2 q1 h1 h2 m1 m2
 ·obtain ⟨g,_,h1,h2⟩:=r.aX ho had
  exact h.wr g b h1 h2
 ·obtain ⟨g,hm,h1,h2⟩:=r.aX (gh:=gh) (g':=g') (O.jK ho) had
  obtain ⟨a',a,i',hc,q⟩:=(r.aJ g' g hm).inner ho
  exact hc.2 (h.wi g i' b q h2 hw)
 ·cases hm:m g' with
  |none=>simp [iP,hm,Gh.nil]
  |some g=>
   have hg:iP gh m g'=gh g:=by simp [iP,hm]
   rw [hg]
   obtain ⟨q1,q2⟩:=(r.aJ g' g hm).aX ho
   exact h.ns g q1 (by rw [q2];exact hd) b
end
end Go.Fw

namespace Go.Fw
set_option linter.unusedSectionVars false
variable [dA]
set_option linter.unusedVariables false
inductive WS where
 |p (a i:Bool)
 |bg
 |own (g:Nat)
 |box (g off:Nat)
 |fn (f:FuncId) (gs:List Nat)
 |lQ (g:Nat)
 |no
 |vw (g:Nat)
 |ep (g off:Nat)
inductive SS where
 |one (x:WS)
 |agg (xs:List WS)
inductive OS where
 |box (ws:List WS)
 |arr (fz a i:Bool) (sz:Nat)
 |it
 |ay (a i:Bool) (sz:Nat) (ah:List (Nat×Nat))
structure Shape where
 slots:List (Nat×SS)
 aJ:List (Nat×OS)
abbrev Ren:=List (Nat×Option Nat)
def imp (a b:Bool):Bool:=!a||b
def nodupB:List Nat→Bool
 | []=>true
 |x::xs=>!xs.contains x&&nodupB xs
def sG (m:Ren):List Nat→List W→Bool
 | [],[]=>true
 |g'::gs,.box g off::cs=>decide (m.lookup g'=some (some g))&&(Nat.beq off 0&&sG m gs cs)
 |_,_=>false
def eY:List Nat→List W
 | []=>[]
 |g::gs=>.box g 0::eY gs
def GZ (m:Ren):WS→W→Option (List P)
 |.p a i,.p a' i' x=>if ((imp a' a&&imp i' i)||x.flat)=true then some [x] else none
 |.p _ _,.bg=>some [.sl 0 []]
 |.bg,.bg=>some []
 |.own g',.own g=>if m.lookup g'=some (some g) then some [] else none
 |.own g',.bg=>if m.lookup g'=some none then some [] else none
 |.box g' off,.box g off'=>if m.lookup g'=some (some g)∧off=off' then some [] else none
 |.fn f gs,.clo f' caps=>if f=f'∧sG m gs caps=true then some [] else none
 |.lQ g',.lQ g=>if m.lookup g'=some (some g) then some [] else none
 |.no,_=>some []
 |.vw g',.vw g lo hi=>if m.lookup g'=some (some g) then some [lo,hi] else none
 |.ep g' off,.ep g n off'=>if m.lookup g'=some (some g)∧off=off' then some [n] else none
 |_,_=>none
def JI (m:Ren):List WS→List W→Option (List P)
 | [],[]=>some []
 |k::ks,x::xs=>match GZ m k x,JI m ks xs with
  |some u,some v=>some (u++v)
  |_,_=>none
 |_,_=>none
def coS (m:Ren):SS→S→Option (List P)
 |.one k,.v (.one x)=>GZ m k x
 |.agg ks,.v (.agg xs)=>JI m ks xs
 |_,_=>none
def Yk (m:Ren):OS→O→Option (List P)
 |.box ks,.box xs=>JI m ks xs
 |.arr fz a i sz,.arr fz' a' i' sz' l=>if fz=fz'∧sz=sz'∧(imp a' a&&imp i' i)=true then some [P.dX sz l] else none
 |.it,.it s n=>some [s,n]
 |.ay a i sz ah,.ay a' i' sz' fU l Option.none=>if sz=sz'∧ah=fU∧(imp a' a&&imp i' i)=true then some [P.dX sz l] else none
 |_,_=>none
def qV (m:Ren) (s:Nat→S):List (Nat×SS)→Option (List P)
 | []=>some []
 |(t,k)::rest=>match coS m k (s t),qV m s rest with
  |some u,some v=>some (u++v)
  |_,_=>none
def uP (m:Ren) (o:Nat→O):List (Nat×OS)→Option (List P)
 | []=>some []
 |(g',k)::rest=>match (match m.lookup g' with
   |some (some g)=>Yk m k (o g)
   |some none=>(match k with
    |.arr false _ _ sz=>bif Nat.blt sz MB then some [.sl 0 []] else none
    |.ay _ _ sz _=>bif Nat.blt sz MB then some [.sl 0 []] else none
    |_=>none)
   |none=>none),uP m o rest with
  |some u,some v=>some (u++v)
  |_,_=>none
def WS.names:WS→List Nat
 |.own g | .box g _ | .lQ g | .vw g | .ep g _=>[g]
 |.fn _ gs=>gs
 |_=>[]
def SS.names:SS→List Nat
 |.one x=>x.names
 |.agg xs=>xs.flatMap WS.names
def OS.names:OS→List Nat
 |.box ws=>ws.flatMap WS.names
 |_=>[]
def Shape.nms (j:Shape):List Nat:=j.aJ.map (·.1)
def Shape.ok (j:Shape):Bool:=nodupB j.nms&&j.slots.all (fun p=>p.2.names.all fun g=>j.nms.contains g)&&j.aJ.all (fun p=>p.2.names.all fun g=>j.nms.contains g)
def ady (j:Shape) (m:Ren):Bool:=nodupB (j.nms.filterMap fun g=>(m.lookup g).join)
def coerce (j:Shape) (m:Ren) (st:St):Option (List P):=
 if (j.ok&&ady j m)=true then match qV m st.s j.slots,uP m st.o j.aJ with
  |some u,some v=>some (u++v)
  |_,_=>none
 else none
def o_ (vs:List P) (n:Nat):WS→W×Nat
 |.p a i=>(.p a i (vs.getD n default),n+1)
 |.bg=>(.bg,n)
 |.own g=>(.own g,n)
 |.box g off=>(.box g off,n)
 |.fn f gs=>(.clo f (eY gs),n)
 |.lQ g=>(.lQ g,n)
 |.no=>(.no,n)
 |.vw g=>(.vw g (vs.getD n default) (vs.getD (n+1) default),n+2)
 |.ep g off=>(.ep g (vs.getD n default) off,n+1)
def jL (vs:List P):Nat→List WS→List W×Nat
 |n,[]=>([],n)
 |n,k::ks=>((o_ vs n k).1::(jL vs (o_ vs n k).2 ks).1,(jL vs (o_ vs n k).2 ks).2)
def mkS (vs:List P) (n:Nat):SS→S×Nat
 |.one k=>(.v (.one (o_ vs n k).1),(o_ vs n k).2)
 |.agg ks=>(.v (.agg (jL vs n ks).1),(jL vs n ks).2)
def sZ (vs:List P) (n:Nat):OS→O×Nat
 |.box ks=>(.box (jL vs n ks).1,(jL vs n ks).2)
 |.arr fz a i sz=>(.arr fz a i sz (vs.getD n default).list,n+1)
 |.it=>(.it (vs.getD n default) (vs.getD (n+1) default),n+2)
 |.ay a i sz ah=>(.ay a i sz ah (vs.getD n default).list Option.none,n+1)
def bG (vs:List P):Nat→List (Nat×SS)→List (Nat×S)×Nat
 |n,[]=>([],n)
 |n,(t,k)::rest=>((t,(mkS vs n k).1)::(bG vs (mkS vs n k).2 rest).1,(bG vs (mkS vs n k).2 rest).2)
def fA (vs:List P):Nat→List (Nat×OS)→List (Nat×O)×Nat
 |n,[]=>([],n)
 |n,(g,k)::rest=>((g,(sZ vs n k).1)::(fA vs (sZ vs n k).2 rest).1,(fA vs (sZ vs n k).2 rest).2)
def mk (j:Shape) (vs:List P):St:=
 { s:=fun t=>match (bG vs 0 j.slots).1.lookup t with | some x=>x | none=>.no,o:=fun g=>match (fA vs (bG vs 0 j.slots).2 j.aJ).1.lookup g with | some x=>x | none=>.none,used:=fun g=>j.nms.contains g }
def AB (j:Shape) (m:Ren) (g':Nat):Option Nat:=if j.nms.contains g' then (m.lookup g').join else none
def At (vs:List P) (n:Nat) (us:List P):Prop :=∀k y,us[k]?=some y→vs[n+k]?=some y
theorem At.left {vs YK us2:List P} {n:Nat} (h:At vs n (YK++us2)):At vs n YK:=fun k y hk=>h k y (by rw [List.getElem?_append_left (List.getElem?_eq_some_iff.1 hk).1];exact hk)
theorem At.right {vs YK us2:List P} {n:Nat} (h:At vs n (YK++us2)):At vs (n+YK.length) us2:=fun k y hk=>by
 have:=h (YK.length+k) y (by rw [List.getElem?_append_right (by omega),Nat.add_sub_cancel_left];exact hk)
 rw [←this];congr 1;omega
theorem At.head {vs:List P} {n:Nat} {x:P} (h:At vs n [x]):vs.getD n default=x:=by
 have:=h 0 x rfl
 rw [List.getD_eq_getElem?_getD]
 rw [Nat.add_zero] at this
 rw [this];rfl
theorem tq {a b:Bool} (h:imp a b=true):a=true→b=true:=by
 cases a<;>cases b<;>simp_all [imp]
section
variable {vs:List P} {m:Ren} {F:Nat→Option Nat} {nil:Nat→Prop}
theorem uQ :∀(gs:List Nat),(eY gs).flatMap W.names=gs
 | []=>rfl
 |g::gs=>by simp [eY,W.names,uQ gs]
theorem tu (f:FuncId) (caps:List W):(W.clo f caps).names=caps.flatMap W.names:=by
 have :∀(l:List W) (q :∀x∈l,x∈caps),(l.attach.flatMap fun (x:{x // x∈l})=>x.1.names)=l.flatMap W.names:=fun l _=>by
  rw [List.flatMap_def,List.flatMap_def,List.map_attach_eq_pmap,List.pmap_eq_map]
 rw [W.names]
 exact this caps fun x hx=>hx
theorem Ko :∀{gs:List Nat} {caps:List W},(∀g∈gs,F g=(m.lookup g).join)→sG m gs caps=true→caps.length=(eY gs).length∧∀(j:Nat) x y,caps[j]?=some x→(eY gs)[j]?=some y→Ww Yj F nil x y
 | [],[],_,_=>⟨rfl,fun j x y hx=>by simp at hx⟩
 | [],_::_,_,h=>by simp [sG] at h
 |_::_,[],_,h=>by simp [sG] at h
 |g'::gs,c::cs,hF,h=>by
  cases c with
  |box g off=>
   simp only [sG,Bool.and_eq_true,decide_eq_true_eq] at h
   obtain ⟨h1,h2,h3⟩:=h
   have h2:=Nat.eq_of_beq_eq_true h2
   subst h2
   obtain ⟨e1,e2⟩:=Ko (fun g hg=>hF g (by simp [hg])) h3
   refine ⟨by simp [eY,e1],fun j x y hx hy => ?_⟩
   cases j with
   |zero=>
    simp [eY] at hx hy;subst hx hy
    exact .box (by rw [hF g' (by simp),h1];rfl)
   |succ j=>simp [eY] at hx hy;exact e2 j x y hx hy
  |_=>simp [sG] at h
theorem YL {k:WS} {x:W} {us:List P} {n:Nat} (hF :∀g∈k.names,F g=(m.lookup g).join) (hnil :∀g∈k.names,m.lookup g=some none→nil g) (h:GZ m k x=some us) (ha:At vs n us) :
  Ww Yj F nil x (o_ vs n k).1∧(o_ vs n k).2=n+us.length∧(o_ vs n k).1.names=k.names:=by
 cases k with
 |p a i=>
  cases x with
  |p a' i' y=>
   simp only [GZ] at h
   split at h
   ·rename_i hc
    simp only [Option.some.injEq] at h;subst h
    simp only [Bool.or_eq_true,Bool.and_eq_true] at hc
    refine ⟨?_,rfl,by simp [o_,W.names,WS.names]⟩
    simp only [o_,ha.head]
    rcases hc with hc | hc
    ·exact .p y ⟨tq hc.1,tq hc.2⟩
    ·exact .flat y hc
   ·cases h
  |bg=>
   simp only [GZ,Option.some.injEq] at h;subst h
   refine ⟨?_,rfl,by simp [o_,W.names,WS.names]⟩
   simp only [o_,ha.head]
   exact .aev _ _ _
  |_=>simp [GZ] at h
 |bg=>cases x<;>simp [GZ] at h;subst h;exact ⟨.bg,rfl,by simp [o_,W.names,WS.names]⟩
 |own g'=>
  cases x with
  |own g=>
   simp only [GZ] at h
   split at h
   ·rename_i hc
    simp only [Option.some.injEq] at h;subst h
    exact ⟨.own (by rw [hF g' (by simp [WS.names]),hc];rfl),rfl,by simp [o_,W.names,WS.names]⟩
   ·cases h
  |bg=>
   simp only [GZ] at h
   split at h
   ·rename_i hc
    simp only [Option.some.injEq] at h;subst h
    exact ⟨.agp (by rw [hF g' (by simp [WS.names]),hc];rfl) (hnil g' (by simp [WS.names]) hc),rfl,by simp [o_,W.names,WS.names]⟩
   ·cases h
  |_=>simp [GZ] at h
 |box g' off=>
  cases x with
  |box g off'=>
   simp only [GZ] at h
   split at h
   ·rename_i hc
    simp only [Option.some.injEq] at h;subst h
    obtain ⟨hc,rfl⟩:=hc
    exact ⟨.box (by rw [hF g' (by simp [WS.names]),hc];rfl),rfl,by simp [o_,W.names,WS.names]⟩
   ·cases h
  |_=>simp [GZ] at h
 |fn f gs=>
  cases x with
  |clo f' caps=>
   simp only [GZ] at h
   split at h
   ·rename_i hc
    simp only [Option.some.injEq] at h;subst h
    obtain ⟨rfl,hc⟩:=hc
    obtain ⟨e1,e2⟩:=Ko (nil:=nil) hF hc
    exact ⟨.clo f caps (eY gs) e1 e2,rfl,by simp only [o_,tu,uQ,WS.names]⟩
   ·cases h
  |_=>simp [GZ] at h
 |lQ g'=>
  cases x with
  |lQ g=>
   simp only [GZ] at h
   split at h
   ·rename_i hc
    simp only [Option.some.injEq] at h;subst h
    exact ⟨.lQ (by rw [hF g' (by simp [WS.names]),hc];rfl),rfl,by simp [o_,W.names,WS.names]⟩
   ·cases h
  |_=>simp [GZ] at h
 |no=>simp [GZ] at h;subst h;exact ⟨.no _,rfl,by simp [o_,W.names,WS.names]⟩
 |vw g'=>
  cases x with
  |vw g lo hi=>
   simp only [GZ] at h
   split at h
   ·rename_i hc
    simp only [Option.some.injEq] at h;subst h
    have h0:vs.getD n default=lo:=At.head (At.left (YK:=[lo]) (us2:=[hi]) ha)
    have h1:vs.getD (n+1) default=hi:=At.head (At.right (YK:=[lo]) (us2:=[hi]) ha)
    refine ⟨?_,rfl,by simp [o_,W.names,WS.names]⟩
    simp only [o_,h0,h1]
    exact .vw lo hi (by rw [hF g' (by simp [WS.names]),hc];rfl)
   ·cases h
  |_=>simp [GZ] at h
 |ep g' off=>
  cases x with
  |ep g q off'=>
   simp only [GZ] at h
   split at h
   ·rename_i hc
    simp only [Option.some.injEq] at h;subst h
    obtain ⟨hc,rfl⟩:=hc
    refine ⟨?_,rfl,by simp [o_,W.names,WS.names]⟩
    simp only [o_,ha.head]
    exact .ep q off (by rw [hF g' (by simp [WS.names]),hc];rfl)
   ·cases h
  |_=>simp [GZ] at h
theorem MO :∀{ks:List WS} {xs:List W} {us:List P} {n:Nat},(∀k∈ks,∀g∈k.names,F g=(m.lookup g).join)→(∀k∈ks,∀g∈k.names,m.lookup g=some none→nil g)→JI m ks xs=some us→At vs n us→
  xs.length=(jL vs n ks).1.length∧(∀(j:Nat) x y,xs[j]?=some x→(jL vs n ks).1[j]?=some y→Ww Yj F nil x y)∧(jL vs n ks).2=n+us.length∧(jL vs n ks).1.flatMap W.names=ks.flatMap WS.names
 | [],xs,us,n,hF,hn,h,ha=>by
  cases xs with
  |nil=>simp [JI] at h;subst h;exact ⟨rfl,fun j x y hx=>by simp at hx,rfl,rfl⟩
  |cons x xs=>simp [JI] at h
 |k::ks,xs,us,n,hF,hn,h,ha=>by
  cases xs with
  |nil=>simp [JI] at h
  |cons x xs=>
   simp only [JI] at h
   split at h
   ·rename_i u v hu hv
    simp only [Option.some.injEq] at h;subst h
    obtain ⟨a1,a2,a3⟩:=YL (hF k (by simp)) (hn k (by simp)) hu ha.left
    have ih:=MO (n:=n+u.length) (fun k hk=>hF k (by simp [hk])) (fun k hk=>hn k (by simp [hk])) hv ha.right
    simp only [jL,a2]
    refine ⟨by simp [ih.1],fun j x' y' hx hy => ?_,by rw [ih.2.2.1];simp;omega,by simp [a3,ih.2.2.2]⟩
    cases j with
    |zero=>simp at hx hy;subst hx hy;exact a1
    |succ j=>simp at hx hy;exact ih.2.1 j x' y' hx hy
   ·cases h
theorem aew {k:SS} {x:S} {us:List P} {n:Nat} (hF :∀g∈k.names,F g=(m.lookup g).join) (hnil :∀g∈k.names,m.lookup g=some none→nil g) (h:coS m k x=some us) (ha:At vs n us) :
  Sw Yj F nil x (mkS vs n k).1∧(mkS vs n k).2=n+us.length∧(mkS vs n k).1.names=k.names:=by
 cases k with
 |one k=>
  cases x with
  |v x=>
   cases x with
   |one x=>
    obtain ⟨a1,a2,a3⟩:=YL hF hnil h ha
    exact ⟨.v (.one a1),a2,by simpa [mkS,S.names,V.names,SS.names] using a3⟩
   |agg xs=>simp [coS] at h
  |_=>simp [coS] at h
 |agg ks=>
  cases x with
  |v x=>
   cases x with
   |one x=>simp [coS] at h
   |agg xs=>
    obtain ⟨a0,a1,a2,a3⟩:=MO (fun k hk g hg=>hF g (by simp only [SS.names,List.mem_flatMap];exact ⟨k,hk,hg⟩)) (fun k hk g hg=>hnil g (by simp only [SS.names,List.mem_flatMap];exact ⟨k,hk,hg⟩)) h ha
    exact ⟨.v (.agg _ _ a0 a1),a2,by simpa [mkS,S.names,V.names,SS.names] using a3⟩
  |_=>simp [coS] at h
theorem G5 {s:Nat→S} :∀{L:List (Nat×SS)} {us:List P} {n:Nat},(∀p∈L,∀g∈p.2.names,F g=(m.lookup g).join)→(∀p∈L,∀g∈p.2.names,m.lookup g=some none→nil g)→qV m s L=some us→At vs n us→
  (∀t x,(bG vs n L).1.lookup t=some x→Sw Yj F nil (s t) x∧∀g∈x.names,∃p∈L,g∈p.2.names)∧(bG vs n L).2=n+us.length
 | [],us,n,hF,hn,h,ha=>by simp [qV] at h;subst h;exact ⟨fun t x hx=>by simp [bG] at hx,rfl⟩
 |(t0,k)::L,us,n,hF,hn,h,ha=>by
  simp only [qV] at h
  split at h
  ·rename_i u v hu hv
   simp only [Option.some.injEq] at h;subst h
   obtain ⟨a1,a2,a3⟩:=aew (hF (t0,k) (by simp)) (hn (t0,k) (by simp)) hu ha.left
   have ih:=G5 (n:=n+u.length) (fun p hp=>hF p (by simp [hp])) (fun p hp=>hn p (by simp [hp])) hv ha.right
   simp only [bG,a2]
   refine ⟨fun t x hx => ?_,by rw [ih.2];simp;omega⟩
   simp only [List.lookup] at hx
   split at hx
   ·rename_i he
    have he:t=t0:=by simpa using he
    subst he
    simp only [Option.some.injEq] at hx;subst hx
    exact ⟨a1,fun g hg=>⟨(t,k),by simp,by rw [a3] at hg;exact hg⟩⟩
   ·obtain ⟨b1,b2⟩:=ih.1 t x hx
    exact ⟨b1,fun g hg=>let ⟨p,hp,hg⟩:=b2 g hg;⟨p,by simp [hp],hg⟩⟩
  ·cases h
theorem aex {k:OS} {x:O} {us:List P} {n:Nat} (hF :∀g∈k.names,F g=(m.lookup g).join) (hnil :∀g∈k.names,m.lookup g=some none→nil g) (h:Yk m k x=some us) (ha:At vs n us) :
  Ow Yj F nil x (sZ vs n k).1∧(sZ vs n k).2=n+us.length∧(sZ vs n k).1.names=k.names:=by
 cases k with
 |box ks=>
  cases x with
  |box xs=>
   obtain ⟨a0,a1,a2,a3⟩:=MO (fun k hk g hg=>hF g (by simp only [OS.names,List.mem_flatMap];exact ⟨k,hk,hg⟩)) (fun k hk g hg=>hnil g (by simp only [OS.names,List.mem_flatMap];exact ⟨k,hk,hg⟩)) h ha
   exact ⟨.box _ _ a0 a1,a2,by simpa [sZ,O.names,OS.names] using a3⟩
  |_=>simp [Yk] at h
 |arr fz a i sz=>
  cases x with
  |arr fz' a' i' sz' l=>
   simp only [Yk] at h
   split at h
   ·rename_i hc
    simp only [Option.some.injEq] at h;subst h
    obtain ⟨rfl,rfl,hc⟩:=hc
    simp only [Bool.and_eq_true] at hc
    refine ⟨?_,rfl,rfl⟩
    simp only [sZ,ha.head,P.mZ]
    exact .arr fz sz l ⟨tq hc.1,tq hc.2⟩
   ·cases h
  |_=>simp [Yk] at h
 |it=>
  cases x with
  |it s p=>
   simp only [Yk,Option.some.injEq] at h
   subst h
   refine ⟨?_,rfl,rfl⟩
   have h0:vs.getD n default=s:=At.head (At.left (YK:=[s]) (us2:=[p]) ha)
   have h1:vs.getD (n+1) default=p:=At.head (At.right (YK:=[s]) (us2:=[p]) ha)
   simp only [sZ,h0,h1]
   exact .it s p
  |_=>simp [Yk] at h
 |ay a i sz ah=>
  cases x with
  |ay a' i' sz' fU l hole=>
   cases hole with
   |some q=>simp [Yk] at h
   |none=>
    simp only [Yk] at h
    split at h
    ·rename_i hc
     simp only [Option.some.injEq] at h;subst h
     obtain ⟨rfl,rfl,hc⟩:=hc
     simp only [Bool.and_eq_true] at hc
     refine ⟨?_,rfl,rfl⟩
     simp only [sZ,ha.head,P.mZ]
     exact .ay sz ah l ⟨tq hc.1,tq hc.2⟩
    ·cases h
  |_=>simp [Yk] at h
end
theorem iK :∀{l:List Nat},nodupB l=true→l.Nodup
 | [],_=>List.nodup_nil
 |x::l,h=>by
  simp only [nodupB,Bool.and_eq_true,Bool.not_eq_true',List.contains_eq_mem,decide_eq_false_iff_not] at h
  exact List.nodup_cons.2 ⟨h.1,iK h.2⟩
theorem O6 {α:Type} {a b:Nat} {x:Option α} {u:α} (h:(bif Nat.blt a b then x else none)=some u):a<b∧x=some u:=by
 cases e:Nat.blt a b with
 |true=>rw [e] at h;exact ⟨by simpa [Nat.blt_eq] using e,h⟩
 |false=>rw [e] at h;cases h
theorem Kr {vs:List P} {m:Ren} {F:Nat→Option Nat} {nil:Nat→Prop} {o:Nat→O} :∀{L:List (Nat×OS)} {us:List P} {n:Nat},(∀p∈L,∀g∈p.2.names,F g=(m.lookup g).join)→(∀p∈L,∀g∈p.2.names,m.lookup g=some none→nil g)→
  (L.map (·.1)).Nodup→uP m o L=some us→At vs n us→
  (∀g' x,(fA vs n L).1.lookup g'=some x→(g'∈L.map (·.1))∧(∀g∈x.names,∃p∈L,g∈p.2.names)∧((∃g,m.lookup g'=some (some g)∧Ow Yj F nil (o g) x)∨(m.lookup g'=some none∧x.nilA)))∧
  (∀g'∈L.map (·.1),∃x,(fA vs n L).1.lookup g'=some x)
 | [],us,n,hF,hn,hd,h,ha=>⟨fun g x hx=>by simp [fA] at hx,fun g hg=>by simp at hg⟩
 |(g0,k)::L,us,n,hF,hn,hd,h,ha=>by
  simp only [uP] at h
  split at h
  ·rename_i u v hu hv
   simp only [Option.some.injEq] at h;subst h
   simp only [List.map_cons,List.nodup_cons] at hd
   have key:(sZ vs n k).2=n+u.length∧(sZ vs n k).1.names=k.names∧((∃g,m.lookup g0=some (some g)∧Ow Yj F nil (o g) (sZ vs n k).1)∨(m.lookup g0=some none∧(sZ vs n k).1.nilA)):=by
    split at hu
    ·rename_i g hg
     obtain ⟨a1,a2,a3⟩:=aex (hF (g0,k) (by simp)) (hn (g0,k) (by simp)) hu ha.left
     exact ⟨a2,a3,.inl ⟨g,hg,a1⟩⟩
    ·rename_i hg
     split at hu
     ·rename_i a i sz
      obtain ⟨hlt,hu⟩:=O6 hu
      simp only [Option.some.injEq] at hu;subst hu
      refine ⟨rfl,rfl,.inr ⟨hg,.inl ⟨a,i,sz,?_,hlt⟩⟩⟩
      simp only [sZ,ha.left.head];rfl
     ·rename_i a i sz ah
      obtain ⟨hlt,hu⟩:=O6 hu
      simp only [Option.some.injEq] at hu;subst hu
      refine ⟨rfl,rfl,.inr ⟨hg,.inr ⟨a,i,sz,ah,?_,hlt⟩⟩⟩
      simp only [sZ,ha.left.head];rfl
     ·cases hu
    ·cases hu
   obtain ⟨a2,a3,a1⟩:=key
   have ih:=Kr (n:=n+u.length) (fun p hp=>hF p (by simp [hp])) (fun p hp=>hn p (by simp [hp])) hd.2 hv ha.right
   simp only [fA,a2]
   refine ⟨fun g' x hx => ?_,fun g' hg' => ?_⟩
   ·simp only [List.lookup] at hx
    split at hx
    ·rename_i he
     have he:g'=g0:=by simpa using he
     subst he
     simp only [Option.some.injEq] at hx;subst hx
     exact ⟨by simp,fun g hg=>⟨(g',k),by simp,by rw [a3] at hg;exact hg⟩,a1⟩
    ·obtain ⟨b0,b1,b2⟩:=ih.1 g' x hx
     exact ⟨by simp [b0],fun g hg=>let ⟨p,hp,hg⟩:=b1 g hg;⟨p,by simp [hp],hg⟩,b2⟩
   ·simp only [List.lookup]
    by_cases he:g'=g0
    ·subst he;simp
    ·have:(g'==g0)=false:=by simpa using he
     rw [this]
     exact ih.2 g' (by simpa [he] using hg')
  ·cases h
theorem yS {f:Nat→Option Nat} {g1 g2 g:Nat} :∀{L:List Nat},L.Nodup→(L.filterMap f).Nodup→g1∈L→g2∈L→f g1=some g→f g2=some g→g1=g2
 | [],_,_,n1,_,_,_=>by cases n1
 |y::L,hnd,gJ,n1,n2,m1,m2=>by
  simp only [List.nodup_cons] at hnd
  simp only [List.filterMap_cons] at gJ
  have hsub :∀{z},z∈L→f z=some g→g∈L.filterMap f:=fun hz he=>List.mem_filterMap.2 ⟨_,hz,he⟩
  rcases List.mem_cons.1 n1 with e1 | e1<;>rcases List.mem_cons.1 n2 with e2 | e2
  ·rw [e1,e2]
  ·subst e1;rw [m1] at gJ;simp only [List.nodup_cons] at gJ;exact absurd (hsub e2 m2) gJ.1
  ·subst e2;rw [m2] at gJ;simp only [List.nodup_cons] at gJ;exact absurd (hsub e1 m1) gJ.1
  ·refine yS hnd.2 ?_ e1 e2 m1 m2
   split at gJ
   ·exact gJ
   ·exact (List.nodup_cons.1 gJ).2
theorem sH {j:Shape} {m:Ren} {st:St} {vs:List P} (h:coerce j m st=some vs):sF Yj (AB j m) st (mk j vs):=by
 unfold coerce at h
 split at h
 ·rename_i hok
  split at h
  ·rename_i u v hu hv
   simp only [Option.some.injEq] at h;subst h
   simp only [Bool.and_eq_true,Shape.ok,List.all_eq_true,List.contains_eq_mem,decide_eq_true_eq] at hok
   obtain ⟨⟨⟨hnd,hsl⟩,hob⟩,gJ⟩:=hok
   have hnd':=iK hnd
   have hAt:At (u++v) 0 (u++v):=fun k y hk=>by rw [Nat.zero_add];exact hk
   have hF :∀g∈j.nms,AB j m g=(m.lookup g).join:=fun g hg=>by simp [AB,hg]
   have Ci:=fun nil (hnil :∀p∈j.aJ,∀g∈p.2.names,m.lookup g=some none→nil g)=>Kr (vs:=u++v) (F:=AB j m) (nil:=nil) (n:=u.length) (fun p hp g hg=>hF g (hob p hp g hg)) hnil hnd' hv (by
    have:=hAt.right;rwa [Nat.zero_add] at this)
   have qg:=fun nil (hnil :∀p∈j.slots,∀g∈p.2.names,m.lookup g=some none→nil g)=>G5 (vs:=u++v) (F:=AB j m) (nil:=nil) (n:=0) (fun p hp g hg=>hF g (hsl p hp g hg)) hnil hu hAt.left
   have hlen:(bG (u++v) 0 j.slots).2=u.length:=by have:=(qg (fun _=>True) (fun _ _ _ _ _=>trivial)).2;omega
   have hnil :∀g∈j.nms,m.lookup g=some none→((mk j (u++v)).o g).nilA:=by
    intro g hg hm
    have hO:=Ci (fun _=>True) (fun _ _ _ _ _=>trivial)
    obtain ⟨x,hx⟩:=hO.2 g hg
    rcases (hO.1 g x hx).2.2 with ⟨g2,h2,_⟩ | ⟨_,e⟩
    ·rw [hm] at h2;cases h2
    ·show O.nilA (match (fA (u++v) (bG (u++v) 0 j.slots).2 j.aJ).1.lookup g with | some x=>x | none=>.none)
     rw [hlen,hx];exact e
   have hO:=Ci (fun g=>((mk j (u++v)).o g).nilA) (fun p hp g hg hm=>hnil g (hob p hp g hg) hm)
   have hS:=qg (fun g=>((mk j (u++v)).o g).nilA) (fun p hp g hg hm=>hnil g (hsl p hp g hg) hm)
   have zf :∀g x,(mk j (u++v)).o g=x→x≠.none→(fA (u++v) u.length j.aJ).1.lookup g=some x:=by
    intro g x hx hne
    have hx:(match (fA (u++v) (bG (u++v) 0 j.slots).2 j.aJ).1.lookup g with | some x=>x | none=>.none)=x:=hx
    rw [hlen] at hx
    cases hz:(fA (u++v) u.length j.aJ).1.lookup g with
    |none=>rw [hz] at hx;exact absurd hx.symm hne
    |some y=>rw [hz] at hx;rw [←hx]
   refine ⟨fun t => ?_,fun g' g hm => ?_,fun g' hm => ?_,fun g1 g2 g h1 h2 m1 m2 => ?_,fun t g hg => ?_,fun g0 g hg => ?_,fun g hg => ?_⟩
   ·show Sw _ _ _ (st.s t) (match (bG (u++v) 0 j.slots).1.lookup t with | some x=>x | none=>.no)
    cases hx:(bG (u++v) 0 j.slots).1.lookup t with
    |none=>exact .no _
    |some x=>exact (hS.1 t x hx).1
   ·by_cases hne:(mk j (u++v)).o g'=.none
    ·rw [hne];exact .none _
    ·have hx:=zf g' _ rfl hne
     obtain ⟨b0,b1,b2⟩:=hO.1 g' _ hx
     rw [hF g' b0] at hm
     rcases b2 with ⟨g3,h3,h4⟩ | ⟨h3,_⟩
     ·rw [h3] at hm;cases hm;exact h4
     ·rw [h3] at hm;cases hm
   ·by_cases hne:(mk j (u++v)).o g'=.none
    ·exact .inl hne
    ·have hx:=zf g' _ rfl hne
     obtain ⟨b0,b1,b2⟩:=hO.1 g' _ hx
     rw [hF g' b0] at hm
     rcases b2 with ⟨g3,h3,h4⟩ | ⟨h3,e⟩
     ·rw [h3] at hm;cases hm
     ·exact .inr e
   ·have n1:g1∈j.nms:=by have:=hO.1 g1 _ (zf g1 _ rfl (by intro e;rw [e] at h1;cases h1));exact this.1
    have n2:g2∈j.nms:=by have:=hO.1 g2 _ (zf g2 _ rfl (by intro e;rw [e] at h2;cases h2));exact this.1
    rw [hF g1 n1] at m1;rw [hF g2 n2] at m2
    exact yS hnd' (iK gJ) n1 n2 m1 m2
   ·have hg:g∈(match (bG (u++v) 0 j.slots).1.lookup t with | some x=>x | none=>S.no).names:=hg
    cases hx:(bG (u++v) 0 j.slots).1.lookup t with
    |none=>rw [hx] at hg;simp [S.names] at hg
    |some x=>
     rw [hx] at hg
     obtain ⟨p,hp,hg⟩:=(hS.1 t x hx).2 g hg
     simpa [mk] using hsl p hp g hg
   ·by_cases hne:(mk j (u++v)).o g0=.none
    ·rw [hne] at hg;simp [O.names] at hg
    ·obtain ⟨b0,b1,b2⟩:=hO.1 g0 _ (zf g0 _ rfl hne)
     obtain ⟨p,hp,hg⟩:=b1 g hg
     simpa [mk] using hob p hp g hg
   ·have:=(hO.1 g _ (zf g _ rfl hg)).1
    simpa [mk,Shape.nms] using this
  ·cases h
 ·cases h
end Go.Fw

namespace Go.Fw
set_option linter.unusedSectionVars false
variable [dA]
set_option linter.unusedVariables false
structure yj where
 aZ:Nat
 pin:Shape
 aF:Shape
 bY:Nat
 aN:List Nat
 aK:List Nat
structure Spec where
 sig:yj
 R:List P→List P→Prop
abbrev Tab:=FuncId→Option Spec
def vW (x y:Bool×Bool):Bool×Bool:=(x.1||y.1,x.2||y.2)
def MP (xs ys:List Nat):Bool:=xs.all fun x=>!ys.contains x
def WS.flags (a i:Bool):WS→Bool
 |.p a' i'=>(a==a')&&(i==i')
 |.own _=>true
 |.box _ off=>off==0
 |.bg=>false
 |.fn _ _=>true
 |.lQ _=>false
 |.no=>false
 |.vw _=>false
 |.ep _ _=>false
def SS.flags (a i:Bool):SS→Bool
 |.one x=>x.flags a i
 |.agg xs=>xs.all (WS.flags a i)
def WS.aY (aK:List Nat):WS→Bool
 |.p _ _=>true
 |.own g=>aK.contains g
 |.box g _=>aK.contains g
 |.bg=>true
 |.fn _ gs=>gs.all fun g=>aK.contains g
 |_=>false
def SS.aY (aK:List Nat):SS→Bool
 |.one x=>x.aY aK
 |.agg xs=>xs.all (WS.aY aK)
def WS.isA:WS→Bool
 |.p a _=>a
 |_=>false
def SS.isA:SS→Bool
 |.one x=>x.isA
 |.agg xs=>xs.any WS.isA
def OS.isA:OS→Bool
 |.box ws=>ws.any WS.isA
 |.arr _ a _ _=>a
 |.it=>false
 |.ay a _ _ _=>a
def yj.kN (s:yj):Bool:=s.aF.slots.any (·.2.isA)||s.aF.aJ.any (·.2.isA)
def OS.kin:Option OS→Option OS→Bool
 |some (.box _),some (.box _)=>true
 |some (.arr _ _ _ sz),some (.arr _ _ _ sz')=>Nat.beq sz sz'
 |some (.ay _ _ sz _),some (.ay _ _ sz' _)=>Nat.beq sz sz'
 |_,_=>false
def OS.YM:Option OS→Bool
 |some (.box _)=>true
 |_=>false
def yj.ok (s:yj):Bool:=
 s.pin.ok&&s.aF.ok&&s.pin.slots.all (fun p=>p.2.flags true false&&decide (p.1<s.aZ)) &&
 s.pin.aJ.all (fun p=>match p.2 with
  |.box ws=>ws.all (fun k=>k.flags false true)&&s.aN.contains p.1
  |.arr fz a i _=>!fz&&!a&&i
  |.ay a i _ _=>!a&&i
  |.it=>false) &&
 s.aF.slots.all (fun p=>p.2.aY (s.aK++s.aN)) &&
 s.aF.aJ.all (fun p=>match p.2 with
  |.box ws=>ws.all (WS.aY (s.aK++s.aN))&&((s.aN.contains p.1&&s.pin.nms.contains p.1)||s.aK.contains p.1)
  |.arr fz _ _ _=>!fz&&(s.aK.contains p.1||s.aN.contains p.1)
  |.ay _ _ _ _=>s.aK.contains p.1||s.aN.contains p.1
  |.it=>false) &&
 MP s.aN s.aK&&nodupB s.aK&&s.aN.all (fun g=>OS.kin (s.pin.aJ.lookup g) (s.aF.aJ.lookup g))
def yj.YN (s:yj):Bool:=s.aN.all fun g=>OS.YM (s.pin.aJ.lookup g)&&OS.YM (s.aF.aJ.lookup g)
structure JJ where
 ins:List P
 A:Bool×Bool
 I:Bool×Bool
 uq:List Nat
 ren:List (Nat×Nat)
def lY:List Nat→List W→Option (List (Nat×Nat))
 | [],[]=>some []
 |g'::gs,.box g 0::cs=>match lY gs cs with
  |some r=>some ((g',g)::r)
  |none=>none
 |_,_=>none
def dU (o:Nat→O):WS→W→Option (List P×(Bool×Bool)×List Nat×List (Nat×Nat))
 |.p _ _,x=>match x.toP o with
  |some (y,a,i,gs)=>some ([y],(a,i),gs,[])
  |none=>none
 |.own g',.own g=>some ([],(false,false),[],[(g',g)])
 |.box g' 0,.box g 0=>some ([],(false,false),[],[(g',g)])
 |.fn f gs,.clo f' caps=>if f=f' then match lY gs caps with
  |some r=>some ([],(false,false),[],r)
  |none=>none
  else none
 |_,_=>none
def iT (o:Nat→O):List WS→List W→Option (List P×(Bool×Bool)×List Nat×List (Nat×Nat))
 | [],[]=>some ([],(false,false),[],[])
 |k::ks,x::xs=>match dU o k x,iT o ks xs with
  |some (u,c,g,r),some (u',c',g',r')=>some (u++u',vW c c',g++g',r++r')
  |_,_=>none
 |_,_=>none
def ni (o:Nat→O):SS→S→Option (List P×(Bool×Bool)×List Nat×List (Nat×Nat))
 |.one k,.v (.one x)=>dU o k x
 |.agg ks,.v (.agg xs)=>iT o ks xs
 |_,_=>none
def dI (o:Nat→O) (args:List S):List (Nat×SS)→Option (List P×(Bool×Bool)×List Nat×List (Nat×Nat))
 | []=>some ([],(false,false),[],[])
 |(t,k)::rest=>match ni o k (args.getD t .no),dI o args rest with
  |some (u,c,g,r),some (u',c',g',r')=>some (u++u',vW c c',g++g',r++r')
  |_,_=>none
def O7:WS→W→Option (List P×(Bool×Bool)×List (Nat×Nat))
 |.p _ _,.p a i x=>some ([x],(a,i),[])
 |.p _ _,.bg=>some ([.sl 0 []],(false,false),[])
 |.own g',.own g=>some ([],(false,false),[(g',g)])
 |.box g' 0,.box g 0=>some ([],(false,false),[(g',g)])
 |.fn f gs,.clo f' caps=>if f=f' then match lY gs caps with
  |some r=>some ([],(false,false),r)
  |none=>none
  else none
 |_,_=>none
def MQ:List WS→List W→Option (List P×(Bool×Bool)×List (Nat×Nat))
 | [],[]=>some ([],(false,false),[])
 |k::ks,x::xs=>match O7 k x,MQ ks xs with
  |some (u,c,r),some (u',c',r')=>some (u++u',vW c c',r++r')
  |_,_=>none
 |_,_=>none
def iQ (o:Nat→O):List (Nat×Nat)→List (Nat×OS)→Option (List P×(Bool×Bool)×List (Nat×Nat))
 |ren,[]=>some ([],(false,false),ren)
 |ren,(g',k)::rest=>match ren.lookup g' with
  |some g=>match k,o g with
   |.box ks,.box ws=>match MQ ks ws with
    |some (u,c,r)=>match iQ o (ren++r) rest with
     |some (u',c',r')=>some (u++u',vW c c',r')
     |none=>none
    |none=>none
   |.arr _ _ _ sz,.arr false a i sz' l=>if sz=sz' then match iQ o ren rest with
    |some (u',c',r')=>some (P.dX sz l::u',vW (a,i) c',r')
    |none=>none
    else none
   |.ay _ _ sz ah,.ay a i sz' fU l Option.none=>if sz=sz'∧ah=fU then match iQ o ren rest with
    |some (u',c',r')=>some (P.dX sz l::u',vW (a,i) c',r')
    |none=>none
    else none
   |_,_=>none
  |none=>none
def je:List (Nat×Nat)→List (Nat×Nat)
 | []=>[]
 |p::r=>match r.any fun q=>Nat.beq q.1 p.1&&Nat.beq q.2 p.2 with
  |true=>je r
  |false=>p::je r
def fO (s:yj) (o:Nat→O) (args:List S):Option JJ:=
 match dI o args s.pin.slots with
 |some (u,A,gs,r)=>match iQ o r s.pin.aJ with
  |some (u',I,r')=>some { ins:=u++u',A,I,uq:=gs,ren:=je r' }
  |none=>none
 |none=>none
def JJ.fine (c:JJ) (s:yj):Bool:=nodupB (c.ren.map (·.2))&&nodupB (c.ren.map (·.1))&&MP (c.ren.map (·.2)) c.uq&&(c.ren.map (·.1)).all (fun g=>s.pin.nms.contains g)
def qh (A I:Bool×Bool) (a i:Bool):Bool×Bool:=((a&&A.1)||(i&&I.1),(a&&A.2)||(i&&I.2))
def jE (f:Nat→Nat):List W→List W
 | []=>[]
 |.box g off::r=>.box (f g) off::jE f r
 |_::r=>.no::jE f r
def Rj (A I:Bool×Bool) (f:Nat→Nat):W→W
 |.p a i x=>.p (qh A I a i).1 (qh A I a i).2 x
 |.bg=>.bg
 |.own g=>.own (f g)
 |.box g off=>.box (f g) off
 |.clo fn caps=>.clo fn (jE f caps)
 |_=>.no
def reV (A I:Bool×Bool) (f:Nat→Nat):V→V
 |.one x=>.one (Rj A I f x)
 |.agg xs=>.agg (xs.map (Rj A I f))
def UL (A I:Bool×Bool) (f:Nat→Nat):S→V
 |.v x=>reV A I f x
 |_=>.one .no
def vX (A I:Bool×Bool) (f:Nat→Nat):O→O
 |.none=>.none
 |.box ws=>.box (ws.map (Rj A I f))
 |.arr fz a i sz l=>.arr fz (qh A I a i).1 (qh A I a i).2 sz l
 |.it s n=>.it s n
 |.ay a i sz ah l _=>.ay (qh A I a i).1 (qh A I a i).2 sz ah l Option.none
def newName (d:Nat) (aK:List Nat) (g:Nat):Nat:=d+1000*aK.idxOf g
def callName (d:Nat) (s:yj) (ren:List (Nat×Nat)) (g:Nat):Nat:=match s.aN.contains g with
 |true=>match ren.lookup g with
  |some g'=>g'
  |none=>g
 |false=>newName d s.aK g
structure Eff where
 x:S
 au:List (Nat×O)
 new:List Nat
def WT (vs:List V):S:=match vs with
 | [x]=>.v x
 |xs=>.jH xs
def gG (s:yj) (d:Nat) (o:Nat→O) (c:JJ) (aY:List P):Eff:=
 let x:=mk s.aF aY
 let f:=callName d s c.ren
 { x:=WT ((List.range s.bY).map fun k=>UL c.A c.I f (x.s k)),au:=(if s.kN then c.uq.map (aC o) else [])++c.ren.map (fun p=>(p.2,if s.aN.contains p.1 then vX c.A c.I f (x.o p.1) else .none))++s.aK.map (fun g=>(f g,vX c.A c.I f (x.o g))),new:=s.aK.map f }
def AL (same:List Nat) (e:Eff):Eff:={ e with au:=e.au.filter fun p=>!same.contains p.1 }
theorem sJ {α:Type} {same:List Nat} {g:Nat} (hg:g∉same) :∀(l:List (Nat×α)),(l.filter fun p=>!same.contains p.1).lookup g=l.lookup g
 | []=>rfl
 |(k,x)::l=>by
  simp only [List.filter_cons]
  cases hk:same.contains k with
  |true=>
   have:(g==k)=false:=by
    cases hb:g==k with
    |false=>rfl
    |true=>
     have:g=k:=by simpa using hb
     subst this
     simp only [List.contains_eq_mem,decide_eq_true_eq] at hk
     exact absurd hk hg
   simp only [Bool.not_true,Bool.false_eq_true,if_false,List.lookup,this]
   exact sJ hg l
  |false=>
   simp only [Bool.not_false,if_true,List.lookup]
   rw [sJ hg l]
theorem kZ {α:Type} {same:List Nat} {g:Nat} (hg:g∈same) :∀(l:List (Nat×α)),(l.filter fun p=>!same.contains p.1).lookup g=none
 | []=>rfl
 |(k,x)::l=>by
  simp only [List.filter_cons]
  cases hk:same.contains k with
  |true=>
   simp only [Bool.not_true,Bool.false_eq_true,if_false]
   exact kZ hg l
  |false=>
   have:(g==k)=false:=by
    cases hb:g==k with
    |false=>rfl
    |true=>
     have:g=k:=by simpa using hb
     subst this
     simp only [List.contains_eq_mem,decide_eq_false_iff_not] at hk
     exact absurd hg hk
   simp only [Bool.not_false,if_true,List.lookup,this]
   exact kZ hg l
theorem WU {st:St} {same:List Nat} {e:Eff} (h :∀g∈same,e.au.lookup g=some (st.o g)):st.au (AL same e).au (AL same e).new=st.au e.au e.new:=by
 unfold St.au AL
 congr 1
 funext g
 by_cases hg:g∈same
 ·simp only [kZ hg,h g hg]
 ·simp only [sJ hg]
inductive JK (x:P) (K:P→Prop):Prop where
 |mk (h :∀z,z=x→K z)
theorem JK.iff {x:P} {K:P→Prop}:JK x K↔K x:=⟨fun ⟨h⟩=>h x rfl,fun h=>⟨fun z e=>e▸h⟩⟩
def D9:Op→Bool
 |.pick .. | .binOp .. | .unOp .. | .convert .. | .index .. | .call .. | .makeSlice .. | .store .. | .buildSlice .. | .slice .. => true
 |_=>false
def guardOf (ops:Array Oper) (st:St) (j:Nat) (want:Bool):Option Bool:=
 match (ops[j]?).bind (·.dst) with
 |some t=>match st.s t with
  |.v (.one (.p _ _ (.bool b)))=>some (bif want then b else !b)
  |.jH []=>some false
  |_=>none
 |none=>none
def Eff.skip:Eff:={ x:=.jH [],au:=[],new:=[] }
def agr:S→Option Nat
 |.v (.one (.clo g _))=>some g
 |_=>none
def UM:List S→Option Nat
 | []=>none
 |x::l=>match agr x with
  |some g=>some g
  |none=>UM l
def O8 (fn:Nat) (l:List S):Nat:=match UM l with
 |some g=>fn+1000000*(g+1)
 |none=>fn
def pick (T:Tab) (fn:Nat) (l:List S):Option Spec:=match Nat.blt fn 1000000 with
 |true=>match T (O8 fn l) with
  |some sp=>some sp
  |none=>T fn
 |false=>none
theorem abz {T:Tab} {fn:Nat} {l:List S} {sp:Spec} {p:Nat→Spec→Prop} (hT :∀f sp,T f=some sp→p (f % 1000000) sp) (h:pick T fn l=some sp):p fn sp:=by
 unfold pick at h
 split at h
 ·rename_i hb
  have hlt:fn<1000000:=Nat.le_of_ble_eq_true hb
  split at h
  ·rename_i sp' h'
   cases h
   have:=hT _ _ h'
   have e:O8 fn l % 1000000=fn:=by unfold O8;split<;>omega
   rwa [e] at this
  ·have:=hT _ _ h
   rwa [Nat.mod_eq_of_lt hlt] at this
 ·cases h
def jm (T:Tab) (tt:TT) (d:Nat) (st:St) (o:Oper) (K:Eff→Prop):Prop:=
 match o.op with
 |.call { callee:=.value f,args,.. }=>match st.bf f with
  |.v (.one (.clo fn caps))=>match pick T fn (args.toList.map st.bf) with
   |some sp=>match fO sp.sig st.o ((args.toList.map st.bf)++caps.map fun x=>S.v (.one x)) with
    |some c=>(c.fine sp.sig&&decide (args.size+caps.length=sp.sig.aZ))=true∧∃(aY:List P) (same:List Nat),sp.R c.ins aY∧(∀g∈same,g∈c.ren.map (·.2)∧(gG sp.sig d st.o c aY).au.lookup g=some (st.o g))∧K (AL same (gG sp.sig d st.o c aY))
    |none=>False
   |none=>False
  |_=>False
 |op=>(∃dc r,bQ tt dc d st.o st.bf op o.type=some r∧r.pre∧JK r.val fun z=>K { x:=r.dst z,au:=r.au z,new:=r.new })∨match kernel tt d st.o st.bf op o.type with
  |some r=>r.pre∧bif D9 op then JK r.val fun z=>K { x:=r.dst z,au:=r.au z,new:=r.new } else K { x:=r.dst r.val,au:=r.au r.val,new:=r.new }
  |none=>False
def wO:O→List Nat
 |.box ws=>ws.flatMap W.names
 |_=>[]
def nZ (o:Nat→O):Nat→List Nat→List Nat
 |0,gs=>gs
 |n+1,gs=>gs++nZ o n (gs.flatMap fun g=>wO (o g))
def argNames (st:St) (o:Oper):List Nat:=match o.op with
 |.call { callee:=.value _,args,.. }=>args.toList.flatMap fun x=>(st.bf x).names
 |.slice _ x _ _ _=>(st.bf x).names
 |_=>[]
def sK (st:St) (o:Oper):List Nat:=nZ st.o 2 (argNames st o)
def g_ (st:St) (o:Oper):List Nat:=(sK st o).filter fun g=>match (st.o g).hn with
 | []=>false
 |d::_=>!(argNames st o).contains d
def yT (hs:List Nat) (st:St):List (Nat×O):=hs.flatMap fun g=>(g,(Fw.shuts hs st).o g)::(st.o g).hn.map fun d=>(d,(Fw.shuts hs st).o d)
def AO (hs:List Nat) (st:St) (e:Eff):Eff:=match hs with
 | []=>e
 |g::gs=>{ e with au:=e.au++yT (g::gs) st }
def h_ (T:Tab) (tt:TT) (d:Nat) (st:St) (o:Oper) (K:Eff→Prop):Prop:=jm T tt d (Fw.shuts (g_ st o) st) o fun e=>K (AO (g_ st o) st e)
theorem qW {T:Tab} {tt:TT} {d:Nat} {st:St} {o:Oper} {K:Eff→Prop} (h:g_ st o=[]):h_ T tt d st o K↔jm T tt d st o K:=by
 unfold h_
 rw [h];rfl
theorem RN {st:St} {o:Oper} (h:argNames st o=[]):g_ st o=[]:=by
 unfold g_ sK
 rw [h];rfl
def St.eff (st:St) (dst:Option Tmp) (e:Eff):St:=(st.au e.au e.new).put dst e.x
def stepW (T:Tab) (tt:TT) (N:Nat) (ops:Array Oper) (o:Oper) (st:St) (K:Eff→Prop):Prop:=
 (match o.dst with
  |some d=>decide (d<N)
  |none=>true)=true∧
 match o.guard with
 |none=>h_ T tt (o.dst.getD 0) st o fun e=>e.new.all (fun g=>!st.used g)=true∧K e
 |some (j,want)=>match guardOf ops st j want with
  |some b=>bif b then h_ T tt (o.dst.getD 0) st o fun e=>e.new.all (fun g=>!st.used g)=true∧K e else K Eff.skip
  |none=>False
end Go.Fw

namespace Go.Fw
set_option linter.unusedSectionVars false
variable [dA]
set_option linter.unusedVariables false
theorem kP {α:Type} :∀{l:List (Nat×α)},(l.map (·.1)).Nodup→∀{k:Nat} {v:α},(k,v)∈l→l.lookup k=some v
 | [],_,k,v,h=>by cases h
 |(k0,v0)::l,hn,k,v,h=>by
  simp only [List.map_cons,List.nodup_cons] at hn
  simp only [List.lookup]
  rcases List.mem_cons.1 h with e | e
  ·cases e;simp
  ·have hne:(k==k0)=false:=by
    have:k∈l.map (·.1):=List.mem_map.2 ⟨(k,v),e,rfl⟩
    have:k≠k0:=fun e=>hn.1 (by rw [←e];exact this)
    simpa using this
   rw [hne]
   exact kP hn.2 e
theorem iR {α:Type} :∀{l:List (Nat×α)} {k:Nat} {v:α},l.lookup k=some v→(k,v)∈l
 | [],k,v,h=>by simp at h
 |(k0,v0)::l,k,v,h=>by
  simp only [List.lookup] at h
  split at h
  ·rename_i he
   have he:k=k0:=by simpa using he
   simp only [Option.some.injEq] at h
   subst he h;simp
  ·exact List.mem_cons_of_mem _ (iR h)
def cin (c d:Bool×Bool):Prop:=(c.1=true→d.1=true)∧(c.2=true→d.2=true)
theorem G6 (c:Bool×Bool):cin c c:=⟨id,id⟩
theorem tC {c c' d:Bool×Bool} (h:cin (vW c c') d):cin c d:=⟨fun e=>h.1 (by simp [vW,e]),fun e=>h.2 (by simp [vW,e])⟩
theorem pq {c c' d:Bool×Bool} (h:cin (vW c c') d):cin c' d:=⟨fun e=>h.1 (by simp [vW,e]),fun e=>h.2 (by simp [vW,e])⟩
def Cio (I:Bool×Bool) (a i a' i':Bool):Prop:=a'=false∧i'=true∧cin (a,i) I
section
variable {o:Nat→O} {ins:List P} {m:Nat→Option Nat} {nil:Nat→Prop} {I:Bool×Bool}
theorem UN {a i:Bool} {a' i':Bool} (h:(WS.p a' i').flags a i=true):a'=a∧i'=i:=by
 simp only [WS.flags,Bool.and_eq_true,beq_iff_eq] at h
 exact ⟨h.1.symm,h.2.symm⟩
theorem zx {C:Bool→Bool→Bool→Bool→Prop} :∀{gs:List Nat} {caps:List W} {r:List (Nat×Nat)},lY gs caps=some r→(∀p∈r,m p.1=some p.2)→caps.length=(eY gs).length∧∀(j:Nat) x y,caps[j]?=some x→(eY gs)[j]?=some y→Ww C m nil x y
 | [],[],r,_,_=>⟨rfl,fun j x y hx=>by simp at hx⟩
 | [],_::_,r,h,_=>by simp [lY] at h
 |_::_,[],r,h,_=>by simp [lY] at h
 |g'::gs,c::cs,r,h,hm=>by
  cases c with
  |box g off=>
   cases off with
   |succ off=>simp [lY] at h
   |zero=>
    simp only [lY] at h
    split at h
    ·rename_i r' hr'
     simp only [Option.some.injEq] at h;subst h
     obtain ⟨e1,e2⟩:=zx (C:=C) hr' (fun p hp=>hm p (by simp [hp]))
     refine ⟨by simp [eY,e1],fun j x y hx hy => ?_⟩
     cases j with
     |zero=>
      simp [eY] at hx hy;subst hx hy
      exact .box (hm (g',g) (by simp))
     |succ j=>simp [eY] at hx hy;exact e2 j x y hx hy
    ·cases h
  |_=>simp [lY] at h
theorem aez {k:WS} {x:W} {us:List P} {c:Bool×Bool} {r:List (Nat×Nat)} {n:Nat} (h:O7 k x=some (us,c,r)) (hk:k.flags false true=true) (hc:cin c I) (hm :∀p∈r,m p.1=some p.2) (ha:At ins n us) :
  Ww (Cio I) m nil x (o_ ins n k).1∧(o_ ins n k).2=n+us.length:=by
 cases k with
 |p a' i'=>
  obtain ⟨rfl,rfl⟩:=UN hk
  cases x with
  |p a i y=>
   simp only [O7,Option.some.injEq,Prod.mk.injEq] at h
   obtain ⟨rfl,rfl,rfl⟩:=h
   exact ⟨by simp only [o_,ha.head];exact .p y ⟨rfl,rfl,hc⟩,rfl⟩
  |bg=>
   simp only [O7,Option.some.injEq,Prod.mk.injEq] at h
   obtain ⟨rfl,rfl,rfl⟩:=h
   exact ⟨by simp only [o_,ha.head];exact .aev _ _ _,rfl⟩
  |_=>simp [O7] at h
 |own g'=>
  cases x with
  |own g=>
   simp only [O7,Option.some.injEq,Prod.mk.injEq] at h
   obtain ⟨rfl,rfl,rfl⟩:=h
   exact ⟨.own (hm (g',g) (by simp)),rfl⟩
  |_=>simp [O7] at h
 |box g' off'=>
  cases x with
  |box g off=>
   cases off' with
   |succ n=>simp [O7] at h
   |zero=>
    cases off with
    |succ n=>simp [O7] at h
    |zero=>
     simp only [O7,Option.some.injEq,Prod.mk.injEq] at h
     obtain ⟨rfl,rfl,rfl⟩:=h
     exact ⟨.box (hm (g',g) (by simp)),rfl⟩
  |_=>simp [O7] at h
 |fn f gs=>
  cases x with
  |clo f' caps=>
   simp only [O7] at h
   split at h
   ·rename_i hf
    subst hf
    split at h
    ·rename_i r' hr'
     simp only [Option.some.injEq,Prod.mk.injEq] at h
     obtain ⟨rfl,rfl,rfl⟩:=h
     obtain ⟨e1,e2⟩:=zx (C:=Cio I) (nil:=nil) hr' hm
     exact ⟨.clo f caps (eY gs) e1 e2,rfl⟩
    ·cases h
   ·cases h
  |_=>simp [O7] at h
 |_=>simp [O7] at h
theorem UO :∀{ks:List WS} {xs:List W} {us:List P} {c:Bool×Bool} {r:List (Nat×Nat)} {n:Nat},MQ ks xs=some (us,c,r)→(∀k∈ks,k.flags false true=true)→cin c I→(∀p∈r,m p.1=some p.2)→At ins n us→
  xs.length=(jL ins n ks).1.length∧(∀(j:Nat) x y,xs[j]?=some x→(jL ins n ks).1[j]?=some y→Ww (Cio I) m nil x y)∧(jL ins n ks).2=n+us.length
 | [],xs,us,c,r,n,h,hk,hc,hm,ha=>by
  cases xs with
  |nil=>simp [MQ] at h;obtain ⟨rfl,_⟩:=h;exact ⟨rfl,fun j x y hx=>by simp at hx,rfl⟩
  |cons x xs=>simp [MQ] at h
 |k::ks,xs,us,c,r,n,h,hk,hc,hm,ha=>by
  cases xs with
  |nil=>simp [MQ] at h
  |cons x xs=>
   simp only [MQ] at h
   split at h
   ·rename_i u c1 r1 u' c2 r2 h1 h2
    simp only [Option.some.injEq,Prod.mk.injEq] at h
    obtain ⟨rfl,rfl,rfl⟩:=h
    obtain ⟨a1,a2⟩:=aez (nil:=nil) h1 (hk k (by simp)) (tC hc) (fun p hp=>hm p (by simp [hp])) ha.left
    have ih:=UO (n:=n+u.length) h2 (fun k hk'=>hk k (by simp [hk'])) (pq hc) (fun p hp=>hm p (by simp [hp])) ha.right
    simp only [jL,a2]
    refine ⟨by simp [ih.1],fun j x' y' hx hy => ?_,by rw [ih.2.2];simp;omega⟩
    cases j with
    |zero=>simp at hx hy;subst hx hy;exact a1
    |succ j=>simp at hx hy;exact ih.2.1 j x' y' hx hy
   ·cases h
theorem tH :∀{L:List (Nat×OS)} {ren ren':List (Nat×Nat)} {us:List P} {c:Bool×Bool} {n:Nat},iQ o ren L=some (us,c,ren')→
  (∀p∈L,match p.2 with | .box ws =>∀k∈ws,k.flags false true=true | .arr fz a i _=>fz=false∧a=false∧i=true | .ay a i _ _=>a=false∧i=true | .it=>False)→cin c I→(∀p∈ren',m p.1=some p.2)→At ins n us→
  (∃r,ren'=ren++r)∧∀g' x,(fA ins n L).1.lookup g'=some x→∃g,m g'=some g∧Ow (Cio I) m nil (o g) x∧(g',g)∈ren'∧(o g).aX=true∧((∃ws,x=.box ws)∨(∃l sz,x=.arr false false true sz l)∨∃l sz ah,x=.ay false true sz ah l Option.none)
 | [],ren,ren',us,c,n,h,hk,hc,hm,ha=>by
  simp only [iQ,Option.some.injEq,Prod.mk.injEq] at h
  obtain ⟨rfl,rfl,rfl⟩:=h
  exact ⟨⟨[],by simp⟩,fun g' x hx=>by simp [fA] at hx⟩
 |(g0,k)::L,ren,ren',us,c,n,h,hk,hc,hm,ha=>by
  simp only [iQ] at h
  split at h
  ·rename_i g hg
   split at h
   ·rename_i ks ws hog
    split at h
    ·rename_i u c1 r1 h1
     split at h
     ·rename_i u' c2 r2 h2
      simp only [Option.some.injEq,Prod.mk.injEq] at h
      obtain ⟨rfl,rfl,rfl⟩:=h
      have hk0:=hk (g0,.box ks) (by simp)
      have ih:=fun hm'=>tH (n:=n+u.length) h2 (fun p hp=>hk p (by simp [hp])) (pq hc) hm' ha.right
      obtain ⟨⟨r,hr⟩,ih⟩:=ih hm
      obtain ⟨b0,b1,b2⟩:=UO (nil:=nil) h1 hk0 (tC hc) (fun p hp=>hm p (by rw [hr];simp [hp])) ha.left
      simp only [fA,sZ,b2]
      refine ⟨⟨r1++r,by rw [hr,List.append_assoc]⟩,fun g' x hx => ?_⟩
      simp only [List.lookup] at hx
      split at hx
      ·rename_i he
       have he:g'=g0:=by simpa using he
       subst he
       simp only [Option.some.injEq] at hx;subst hx
       have hmem:(g',g)∈r2:=by rw [hr,List.append_assoc];exact List.mem_append_left _ (iR hg)
       exact ⟨g,hm _ hmem,by rw [hog];exact .box _ _ b0 b1,hmem,by rw [hog];rfl,.inl ⟨_,rfl⟩⟩
      ·exact ih g' x hx
     ·cases h
    ·cases h
   ·rename_i fz0 a0 i0 sz a i sz' l hog
    split at h
    ·rename_i hsz
     split at h
     ·rename_i u' c2 r2 h2
      simp only [Option.some.injEq,Prod.mk.injEq] at h
      obtain ⟨rfl,rfl,rfl⟩:=h
      subst hsz
      have hk0:=hk (g0,.arr fz0 a0 i0 sz) (by simp)
      obtain ⟨rfl,rfl,rfl⟩:=hk0
      have hhead:At ins n [P.dX sz l]:=fun k y hk=>ha k y (by cases k with | zero=>simpa using hk | succ k=>simp at hk)
      have htail:At ins (n+1) u':=fun k y hk=>by
       have:=ha (k+1) y (by simpa using hk)
       rw [←this];congr 1;omega
      obtain ⟨⟨r,hr⟩,ih⟩:=tH (n:=n+1) h2 (fun p hp=>hk p (by simp [hp])) (pq hc) hm htail
      simp only [fA,sZ,hhead.head,P.mZ]
      refine ⟨⟨r,hr⟩,fun g' x hx => ?_⟩
      simp only [List.lookup] at hx
      split at hx
      ·rename_i he
       have he:g'=g0:=by simpa using he
       subst he
       simp only [Option.some.injEq] at hx;subst hx
       have hmem:(g',g)∈r2:=by rw [hr];exact List.mem_append_left _ (iR hg)
       exact ⟨g,hm _ hmem,by rw [hog];exact .arr false sz l ⟨rfl,rfl,tC hc⟩,hmem,by rw [hog];rfl,.inr (.inl ⟨_,_,rfl⟩)⟩
      ·exact ih g' x hx
     ·cases h
    ·cases h
   ·rename_i a0 i0 sz ah a i sz' fU l hog
    split at h
    ·rename_i hsz
     obtain ⟨rfl,rfl⟩:=hsz
     split at h
     ·rename_i u' c2 r2 h2
      simp only [Option.some.injEq,Prod.mk.injEq] at h
      obtain ⟨rfl,rfl,rfl⟩:=h
      have hk0:=hk (g0,.ay a0 i0 sz ah) (by simp)
      obtain ⟨rfl,rfl⟩:=hk0
      have hhead:At ins n [P.dX sz l]:=fun k y hk=>ha k y (by cases k with | zero=>simpa using hk | succ k=>simp at hk)
      have htail:At ins (n+1) u':=fun k y hk=>by
       have:=ha (k+1) y (by simpa using hk)
       rw [←this];congr 1;omega
      obtain ⟨⟨r,hr⟩,ih⟩:=tH (n:=n+1) h2 (fun p hp=>hk p (by simp [hp])) (pq hc) hm htail
      simp only [fA,sZ,hhead.head,P.mZ]
      refine ⟨⟨r,hr⟩,fun g' x hx => ?_⟩
      simp only [List.lookup] at hx
      split at hx
      ·rename_i he
       have he:g'=g0:=by simpa using he
       subst he
       simp only [Option.some.injEq] at hx;subst hx
       have hmem:(g',g)∈r2:=by rw [hr];exact List.mem_append_left _ (iR hg)
       exact ⟨g,hm _ hmem,by rw [hog];exact .ay sz ah l ⟨rfl,rfl,tC hc⟩,hmem,by rw [hog];rfl,.inr (.inr ⟨_,_,_,rfl⟩)⟩
      ·exact ih g' x hx
     ·cases h
    ·cases h
   ·cases h
  ·cases h
end
section
variable {E E':Env} {st est:St} {gh jT:Nat→Gh} {w:World} {ins:List P} {A:Bool×Bool} {uq:List Nat} {m:Nat→Option Nat} {nil:Nat→Prop} {C:Bool→Bool→Bool→Bool→Prop}
theorem O9 (hP :∀x v y a i gs,dP E st gh w x v→x.toP st.o=some (y,a,i,gs)→cin (a,i) A→(∀g∈gs,g∈uq)→aU w (E'.ok est jT w true false) y v) (hC:Cast C m nil E E' st est gh jT w)
  {k:WS} {x:W} {v:Value} {us:List P} {c:Bool×Bool} {gs:List Nat} {r:List (Nat×Nat)} {n:Nat} (h:dU st.o k x=some (us,c,gs,r)) (hk:k.flags true false=true) (hc:cin c A) (hgs :∀g∈gs,g∈uq)
  (hm :∀p∈r,m p.1=some p.2) (ha:At ins n us) (hr:dP E st gh w x v):dP E' est jT w (o_ ins n k).1 v∧(o_ ins n k).2=n+us.length:=by
 cases k with
 |p a' i'=>
  obtain ⟨rfl,rfl⟩:=UN hk
  simp only [dU] at h
  split at h
  ·rename_i y a i gs' ht
   simp only [Option.some.injEq,Prod.mk.injEq] at h
   obtain ⟨rfl,rfl,rfl,rfl⟩:=h
   exact ⟨by simp only [o_,ha.head];exact .p _ _ _ _ (hP _ _ _ _ _ _ hr ht hc hgs),rfl⟩
  ·cases h
 |own g'=>
  cases x with
  |own g=>
   simp only [dU,Option.some.injEq,Prod.mk.injEq] at h
   obtain ⟨rfl,rfl,rfl,rfl⟩:=h
   exact ⟨hC.y9 (.own (hm (g',g) (by simp))) hr,rfl⟩
  |_=>simp [dU] at h
 |box g' off=>
  cases x with
  |box g off'=>
   cases off with
   |succ off=>simp [dU] at h
   |zero=>
    cases off' with
    |succ off'=>simp [dU] at h
    |zero=>
     simp only [dU,Option.some.injEq,Prod.mk.injEq] at h
     obtain ⟨rfl,rfl,rfl,rfl⟩:=h
     exact ⟨hC.y9 (.box (hm (g',g) (by simp))) hr,rfl⟩
  |_=>cases off<;>simp [dU] at h
 |fn f gs0=>
  cases x with
  |clo f' caps=>
   simp only [dU] at h
   split at h
   ·rename_i hf
    subst hf
    split at h
    ·rename_i r' hr'
     simp only [Option.some.injEq,Prod.mk.injEq] at h
     obtain ⟨rfl,rfl,rfl,rfl⟩:=h
     obtain ⟨e1,e2⟩:=zx (C:=C) (nil:=nil) hr' hm
     exact ⟨hC.y9 (.clo f caps (eY gs0) e1 e2) hr,rfl⟩
    ·cases h
   ·cases h
  |_=>simp [dU] at h
 |_=>simp [dU] at h
theorem Kt (hP :∀x v y a i gs,dP E st gh w x v→x.toP st.o=some (y,a,i,gs)→cin (a,i) A→(∀g∈gs,g∈uq)→aU w (E'.ok est jT w true false) y v) (hC:Cast C m nil E E' st est gh jT w) :
  ∀{ks:List WS} {xs:List W} {cs:List Value} {us:List P} {c:Bool×Bool} {gs:List Nat} {r:List (Nat×Nat)} {n:Nat},iT st.o ks xs=some (us,c,gs,r)→(∀k∈ks,k.flags true false=true)→cin c A→(∀g∈gs,g∈uq)→
   (∀p∈r,m p.1=some p.2)→At ins n us→xs.length=cs.length→(∀(j:Nat) x v,xs[j]?=some x→cs[j]?=some v→dP E st gh w x v)→
   (jL ins n ks).1.length=cs.length∧(∀(j:Nat) x v,(jL ins n ks).1[j]?=some x→cs[j]?=some v→dP E' est jT w x v)∧(jL ins n ks).2=n+us.length
 | [],xs,cs,us,c,gs,r,n,h,hk,hc,hgs,hm,ha,hl,hr=>by
  cases xs with
  |nil=>simp [iT] at h;obtain ⟨rfl,_⟩:=h;exact ⟨hl,fun j x v hx=>by simp [jL] at hx,rfl⟩
  |cons x xs=>simp [iT] at h
 |k::ks,xs,cs,us,c,gs,r,n,h,hk,hc,hgs,hm,ha,hl,hr=>by
  cases xs with
  |nil=>simp [iT] at h
  |cons x xs=>
   cases cs with
   |nil=>simp at hl
   |cons v cs=>
    simp only [iT] at h
    split at h
    ·rename_i u c1 g1 r1 u' c2 g2 r2 h1 h2
     simp only [Option.some.injEq,Prod.mk.injEq] at h
     obtain ⟨rfl,rfl,rfl,rfl⟩:=h
     obtain ⟨a1,a2⟩:=O9 hP hC h1 (hk k (by simp)) (tC hc) (fun g hg=>hgs g (by simp [hg])) (fun p hp=>hm p (by simp [hp])) ha.left (hr 0 x v rfl rfl)
     have ih:=Kt hP hC (n:=n+u.length) h2 (fun k hk'=>hk k (by simp [hk'])) (pq hc) (fun g hg=>hgs g (by simp [hg])) (fun p hp=>hm p (by simp [hp])) ha.right (by simpa using hl)
      (fun j a b ha hb=>hr (j+1) a b (by simpa using ha) (by simpa using hb))
     simp only [jL,a2]
     refine ⟨by simp [ih.1],fun j x' v' hx hv => ?_,by rw [ih.2.2];simp;omega⟩
     cases j with
     |zero=>simp at hx hv;subst hx hv;exact a1
     |succ j=>simp at hx hv;exact ih.2.1 j x' v' hx hv
    ·cases h
theorem YO (hP :∀x v y a i gs,dP E st gh w x v→x.toP st.o=some (y,a,i,gs)→cin (a,i) A→(∀g∈gs,g∈uq)→aU w (E'.ok est jT w true false) y v) (hC:Cast C m nil E E' st est gh jT w)
  {k:SS} {x:S} {v:Value} {us:List P} {c:Bool×Bool} {gs:List Nat} {r:List (Nat×Nat)} {n:Nat} (h:ni st.o k x=some (us,c,gs,r)) (hk:k.flags true false=true) (hc:cin c A) (hgs :∀g∈gs,g∈uq)
  (hm :∀p∈r,m p.1=some p.2) (ha:At ins n us) (hr:bD E st gh w x v):bD E' est jT w (mkS ins n k).1 v∧(mkS ins n k).2=n+us.length:=by
 cases k with
 |one k=>
  cases x with
  |v x=>
   cases x with
   |one x=>
    obtain ⟨a1,a2⟩:=O9 hP hC h hk hc hgs hm ha hr.bC
    exact ⟨bD.E_ a1,a2⟩
   |agg xs=>simp [ni] at h
  |_=>simp [ni] at h
 |agg ks=>
  cases x with
  |v x=>
   cases x with
   |one x=>simp [ni] at h
   |agg xs=>
    obtain ⟨cs,hv,hl,hone,hrr⟩:=hr.FT
    simp only [SS.flags,List.all_eq_true] at hk
    obtain ⟨a0,a1,a2⟩:=Kt hP hC h hk hc hgs hm ha hl hrr
    subst hv
    exact ⟨.v _ _ (.agg _ cs a0 hone a1),a2⟩
  |_=>simp [ni] at h
theorem AP (hP :∀x v y a i gs,dP E st gh w x v→x.toP st.o=some (y,a,i,gs)→cin (a,i) A→(∀g∈gs,g∈uq)→aU w (E'.ok est jT w true false) y v) (hC:Cast C m nil E E' st est gh jT w) {args:List S} {vals:Nat→Value}
  (hr :∀t,bD E st gh w (args.getD t .no) (vals t)) :
  ∀{L:List (Nat×SS)} {us:List P} {c:Bool×Bool} {gs:List Nat} {r:List (Nat×Nat)} {n:Nat},dI st.o args L=some (us,c,gs,r)→(∀p∈L,p.2.flags true false=true)→cin c A→(∀g∈gs,g∈uq)→
   (∀p∈r,m p.1=some p.2)→At ins n us→(∀t x,(bG ins n L).1.lookup t=some x→bD E' est jT w x (vals t))∧(bG ins n L).2=n+us.length
 | [],us,c,gs,r,n,h,hk,hc,hgs,hm,ha=>by
  simp [dI] at h;obtain ⟨rfl,_⟩:=h;exact ⟨fun t x hx=>by simp [bG] at hx,rfl⟩
 |(t0,k)::L,us,c,gs,r,n,h,hk,hc,hgs,hm,ha=>by
  simp only [dI] at h
  split at h
  ·rename_i u c1 g1 r1 u' c2 g2 r2 h1 h2
   simp only [Option.some.injEq,Prod.mk.injEq] at h
   obtain ⟨rfl,rfl,rfl,rfl⟩:=h
   obtain ⟨a1,a2⟩:=YO hP hC h1 (hk (t0,k) (by simp)) (tC hc) (fun g hg=>hgs g (by simp [hg])) (fun p hp=>hm p (by simp [hp])) ha.left (hr t0)
   have ih:=AP hP hC hr (n:=n+u.length) h2 (fun p hp=>hk p (by simp [hp])) (pq hc) (fun g hg=>hgs g (by simp [hg])) (fun p hp=>hm p (by simp [hp])) ha.right
   simp only [bG,a2]
   refine ⟨fun t x hx => ?_,by rw [ih.2];simp;omega⟩
   simp only [List.lookup] at hx
   split at hx
   ·rename_i he
    have he:t=t0:=by simpa using he
    subst he
    simp only [Option.some.injEq] at hx;subst hx
    exact a1
   ·exact ih.1 t x hx
  ·cases h
end
end Go.Fw

namespace Go.Fw
set_option linter.unusedSectionVars false
variable [dA]
set_option linter.unusedVariables false
def Enters (Pg:Program) (f:FuncId):Prop :=∀(args:Array Value) (w:World),(callFunc f args).run Pg w=.ok (.enter f args) w
def WV (rs:List Value):Value:=match rs with
 | [v]=>v
 |vs=>.tuple vs.toArray
def Sound (Pg:Program) (f:FuncId) (sp:Spec):Prop:=sp.sig.ok=true∧Enters Pg f∧
 ∀(E:Env) (w:World) (vals:List Value) (gh:Nat→Gh) (ins aY:List P),sp.R ins aY→E.B0=w.heap.size→E.w0=w→Rel E (mk sp.sig.pin ins) gh (fun k=>vals.getD k undef) w→vals.length=sp.sig.aZ→
  Calls Pg f vals.toArray w fun e w' =>∃(rs:List Value) (aQ:Nat→Gh),rs.length=sp.sig.bY∧e=.returned (WV rs)∧Rel E (mk sp.sig.aF aY) aQ (fun k=>rs.getD k undef) w'∧∀g∈sp.sig.aN,((aQ g).ad=(gh g).ad∧(aQ g).cap=(gh g).cap)∧((mk sp.sig.pin ins).o g).like ((mk sp.sig.aF aY).o g)
theorem abA {o:Nat→O} {x:W} {y:P} {a i:Bool} {gs:List Nat} (h:x.toP o=some (y,a,i,gs)):wB o gs:=by
 cases x<;>simp only [W.toP] at h
 case p=>simp only [Option.some.injEq,Prod.mk.injEq] at h;obtain ⟨_,_,_,rfl⟩:=h;exact wB.nil
 case bg=>simp only [Option.some.injEq,Prod.mk.injEq] at h;obtain ⟨_,_,_,rfl⟩:=h;exact wB.nil
 case own g=>
  split at h
  ·rename_i ho
   simp only [Option.some.injEq,Prod.mk.injEq] at h;obtain ⟨_,_,_,rfl⟩:=h
   exact uI ho
  ·cases h
 case vw g lo hi=>
  split at h
  ·rename_i ho
   split at h
   rotate_left
   ·cases h
   simp only [Option.some.injEq,Prod.mk.injEq] at h;obtain ⟨_,_,_,rfl⟩:=h
   exact uI ho
  ·cases h
 all_goals cases h
theorem O_ {o:Nat→O} {k:WS} {x:W} {us:List P} {c:Bool×Bool} {gs:List Nat} {r:List (Nat×Nat)} (h:dU o k x=some (us,c,gs,r)):wB o gs:=by
 cases k with
 |p a i=>
  simp only [dU] at h
  split at h
  ·rename_i ht
   simp only [Option.some.injEq,Prod.mk.injEq] at h
   obtain ⟨_,_,rfl,_⟩:=h
   exact abA ht
  ·cases h
 |own g'=>cases x<;>simp [dU] at h;obtain ⟨_,_,rfl,_⟩:=h;exact wB.nil
 |box g' off=>
  cases off with
  |succ off=>cases x<;>simp [dU] at h
  |zero=>
   cases x with
   |box g off=>cases off<;>simp [dU] at h;obtain ⟨_,_,rfl,_⟩:=h;exact wB.nil
   |_=>simp [dU] at h
 |bg=>simp [dU] at h
 |fn f gs0=>
  cases x with
  |clo f' caps=>
   simp only [dU] at h
   split at h
   ·split at h
    ·simp only [Option.some.injEq,Prod.mk.injEq] at h;obtain ⟨_,_,rfl,_⟩:=h;exact wB.nil
    ·cases h
   ·cases h
  |_=>simp [dU] at h
 |lQ g'=>simp [dU] at h
 |no=>simp [dU] at h
 |vw g'=>simp [dU] at h
 |ep g' off=>simp [dU] at h
theorem Ku {o:Nat→O} :∀{ks:List WS} {xs:List W} {us:List P} {c:Bool×Bool} {gs:List Nat} {r:List (Nat×Nat)},iT o ks xs=some (us,c,gs,r)→wB o gs
 | [],xs,us,c,gs,r,h=>by
  cases xs<;>simp [iT] at h
  obtain ⟨_,_,rfl,_⟩:=h;exact wB.nil
 |k::ks,xs,us,c,gs,r,h=>by
  cases xs with
  |nil=>simp [iT] at h
  |cons x xs=>
   simp only [iT] at h
   split at h
   ·rename_i h1 h2
    simp only [Option.some.injEq,Prod.mk.injEq] at h
    obtain ⟨_,_,rfl,_⟩:=h
    exact (O_ h1).append (Ku h2)
   ·cases h
theorem uS {o:Nat→O} {args:List S} :∀{L:List (Nat×SS)} {us:List P} {c:Bool×Bool} {gs:List Nat} {r:List (Nat×Nat)},dI o args L=some (us,c,gs,r)→wB o gs
 | [],us,c,gs,r,h=>by simp [dI] at h;obtain ⟨_,_,rfl,_⟩:=h;exact wB.nil
 |(t,k)::L,us,c,gs,r,h=>by
  simp only [dI] at h
  split at h
  ·rename_i h1 h2
   simp only [Option.some.injEq,Prod.mk.injEq] at h
   obtain ⟨_,_,rfl,_⟩:=h
   refine wB.append ?_ (uS h2)
   ·cases k with
    |one k=>
     generalize args.getD t S.no=z at h1
     cases z with
     |v z=>
      cases z with
      |one z=>exact O_ h1
      |agg z=>simp [ni] at h1
     |_=>simp [ni] at h1
    |agg ks=>
     generalize args.getD t S.no=z at h1
     cases z with
     |v z=>
      cases z with
      |one z=>simp [ni] at h1
      |agg z=>exact Ku h1
     |_=>simp [ni] at h1
  ·cases h
theorem uT {vs:List P} :∀{L:List (Nat×OS)} {n g:Nat},g∈L.map (·.1)→∃x,(fA vs n L).1.lookup g=some x
 | [],n,g,h=>by simp at h
 |(g0,k)::L,n,g,h=>by
  simp only [fA,List.lookup]
  by_cases e:g=g0
  ·subst e;simp
  ·have:(g==g0)=false:=by simpa using e
   rw [this]
   exact uT (by simpa [e] using h)
theorem jM {vs:List P} :∀{L:List (Nat×OS)} {n g:Nat} {x:O},(fA vs n L).1.lookup g=some x→∃k n',(g,k)∈L∧x=(sZ vs n' k).1
 | [],n,g,x,h=>by simp [fA] at h
 |(g0,k)::L,n,g,x,h=>by
  simp only [fA,List.lookup] at h
  split at h
  ·rename_i e
   have e:g=g0:=by simpa using e
   subst e
   simp only [Option.some.injEq] at h
   exact ⟨k,n,by simp,h.symm⟩
  ·obtain ⟨k',n',h1,h2⟩:=jM h
   exact ⟨k',n',by simp [h1],h2⟩
theorem wP {vs:List P} :∀{L:List (Nat×SS)} {n t:Nat} {x:S},(bG vs n L).1.lookup t=some x→∃k n',(t,k)∈L∧x=(mkS vs n' k).1
 | [],n,t,x,h=>by simp [bG] at h
 |(t0,k)::L,n,t,x,h=>by
  simp only [bG,List.lookup] at h
  split at h
  ·rename_i e
   have e:t=t0:=by simpa using e
   subst e
   simp only [Option.some.injEq] at h
   exact ⟨k,n,by simp,h.symm⟩
  ·obtain ⟨k',n',h1,h2⟩:=wP h
   exact ⟨k',n',by simp [h1],h2⟩
theorem Kv (vs:List P) (n:Nat) (k:WS):(o_ vs n k).1.names=k.names:=by
 cases k with
 |fn f gs=>simp only [o_,tu,uQ,WS.names]
 |_=>simp [o_,W.names,WS.names]
theorem zy (vs:List P) :∀(n:Nat) (ks:List WS),(jL vs n ks).1.flatMap W.names=ks.flatMap WS.names
 |n,[]=>rfl
 |n,k::ks=>by simp [jL,Kv,zy vs _ ks]
theorem WW (vs:List P) (n:Nat) (k:SS):(mkS vs n k).1.names=k.names:=by
 cases k with
 |one k=>simpa [mkS,S.names,V.names,SS.names] using Kv vs n k
 |agg ks=>simpa [mkS,S.names,V.names,SS.names] using zy vs n ks
theorem WX (vs:List P) (n:Nat) (k:OS):(sZ vs n k).1.names=k.names:=by
 cases k with
 |box ks=>simpa [sZ,O.names,OS.names] using zy vs n ks
 |arr=>simp [sZ,O.names,OS.names]
 |it=>simp [sZ,O.names,OS.names]
 |ay=>simp [sZ,O.names,OS.names,bn]
theorem RP {j:Shape} {vs:List P} {g:Nat} (h:(mk j vs).o g≠.none):(fA vs (bG vs 0 j.slots).2 j.aJ).1.lookup g=some ((mk j vs).o g):=by
 unfold mk at h ⊢
 simp only at h ⊢
 split at h
 ·rename_i x hx;rw [hx]
 ·exact absurd rfl h
theorem Kw {j:Shape} {vs:List P} {g:Nat} (h:g∉j.nms):(mk j vs).o g=.none:=by
 by_cases hn:(mk j vs).o g=.none
 ·exact hn
 ·obtain ⟨k,n',h1,h2⟩:=jM (RP hn)
  exact absurd (List.mem_map.2 ⟨_,h1,rfl⟩) h
theorem adA {j:Shape} (hj:j.ok=true) (vs:List P):(∀t,∀g∈((mk j vs).s t).names,(mk j vs).used g=true)∧(∀g,∀g'∈((mk j vs).o g).names,(mk j vs).used g'=true)∧∀g,(mk j vs).o g≠.none→(mk j vs).used g=true:=by
 simp only [Bool.and_eq_true,Shape.ok,List.all_eq_true,List.contains_eq_mem,decide_eq_true_eq] at hj
 refine ⟨fun t g hg => ?_,fun g g' hg' => ?_,fun g hg => ?_⟩
 ·have hg:g∈(match (bG vs 0 j.slots).1.lookup t with | some x=>x | none=>S.no).names:=hg
  cases hx:(bG vs 0 j.slots).1.lookup t with
  |none=>rw [hx] at hg;simp [S.names] at hg
  |some x=>
   rw [hx] at hg
   obtain ⟨k,n',h1,h2⟩:=wP hx
   subst h2
   simp only at hg
   rw [WW] at hg
   simpa [mk] using hj.1.2 _ h1 g hg
 ·by_cases hn:(mk j vs).o g=.none
  ·rw [hn] at hg';simp [O.names] at hg'
  ·obtain ⟨k,n',h1,h2⟩:=jM (RP hn)
   rw [h2,WX] at hg'
   simpa [mk] using hj.2 _ h1 g' hg'
 ·obtain ⟨k,n',h1,h2⟩:=jM (RP hg)
  simp only [mk,List.contains_eq_mem,decide_eq_true_eq,Shape.nms]
  exact List.mem_map.2 ⟨_,h1,rfl⟩
section
variable {E:Env} {st:St} {gh:Nat→Gh} {w:World} {val:Nat→Value}
def UQ (h:Rel E st gh val w) (st1:St) (c:JJ):Env where
 FA:=fun b=>E.ok st1 gh w c.A.1 c.A.2 b
 FI:=fun b=>E.ok st gh w c.I.1 c.I.2 b
 B0:=w.heap.size
 w0:=w
 Wr:=fun b =>∃p∈c.ren,(st.o p.2).aX=true∧(gh p.2).has b
 hg:=fun g sz rows hg=>by
  obtain ⟨g1,g2,g3⟩:=E.hg g sz rows hg
  refine ⟨Nat.lt_of_lt_of_le g1 h.size,?_,fun n x hx=>⟨(g3 n x hx).1,fun j y hy => ?_⟩⟩
  ·rintro ⟨p,hp,ho,h1⟩
   rcases (h.wr p.2 g ho h1).1 with q | q
   ·omega
   ·exact g2 q
  ·obtain ⟨u,hu1,hu2⟩:=(g3 n x hx).2 j y hy
   exact ⟨u,(World.cell?_of_block (w:=E.w0) (h.frame g g1 g2)).trans hu1,hu2.mono fun _ f=>f.elim⟩
theorem D_ {vs:List P} :∀{L:List (Nat×OS)} {n:Nat} {g:Nat} {k:OS},L.lookup g=some k→∃n',(fA vs n L).1.lookup g=some (sZ vs n' k).1
 | [],n,g,k,h=>by cases h
 |(g0,k0)::L,n,g,k,h=>by
  simp only [fA,List.lookup] at h ⊢
  split at h
  ·cases h;exact ⟨_,rfl⟩
  ·exact D_ h
theorem MR {j:Shape} {vs:List P} {g:Nat} {k:OS} (h:j.aJ.lookup g=some k) :∃n',(mk j vs).o g=(sZ vs n' k).1:=by
 obtain ⟨n',h1⟩:=D_ (vs:=vs) (n:=(bG vs 0 j.slots).2) h
 refine ⟨n',?_⟩
 show (match (fA vs (bG vs 0 j.slots).2 j.aJ).1.lookup g with | some x=>x | none=>O.none)=_
 rw [h1]
theorem Ph {j:Shape} {vs:List P} {g:Nat} (h:OS.YM (j.aJ.lookup g)=true) :∃ws,(mk j vs).o g=.box ws:=by
 cases hl:j.aJ.lookup g with
 |none=>rw [hl] at h;cases h
 |some k=>
  rw [hl] at h
  cases k with
  |box ks=>obtain ⟨n',h1⟩:=MR (vs:=vs) hl;exact ⟨_,h1⟩
  |arr=>cases h
  |it=>cases h
  |ay=>cases h
theorem yj.Ky {s:yj} (h:s.YN=true) {ins aY:List P} :∀g∈s.aN,((Fw.mk s.pin ins).o g).like ((Fw.mk s.aF aY).o g):=fun g hg=>by
 have:=(List.all_eq_true.1 h) g hg
 simp only [Bool.and_eq_true] at this
 obtain ⟨ws,e1⟩:=Ph (vs:=ins) this.1
 obtain ⟨ws',e2⟩:=Ph (vs:=aY) this.2
 rw [e1,e2];trivial
theorem lI {p:Nat×Nat} :∀{r:List (Nat×Nat)},p∈je r↔p∈r
 | []=>Iff.rfl
 |q::r=>by
  simp only [je]
  cases h:(r.any fun x=>Nat.beq x.1 q.1&&Nat.beq x.2 q.2) with
  |true=>
   simp only [lI (r:=r),List.mem_cons]
   refine ⟨.inr,fun hp => ?_⟩
   rcases hp with rfl | hp
   ·obtain ⟨x,hx,e⟩:=List.any_eq_true.1 h
    simp only [Bool.and_eq_true] at e
    have e1:=Nat.eq_of_beq_eq_true e.1
    have e2:=Nat.eq_of_beq_eq_true e.2
    have:x=p:=Prod.ext e1 e2
    rw [←this];exact hx
   ·exact hp
  |false=>simp only [List.mem_cons,lI (r:=r)]
def qX:O→O
 |.arr fz _ _ sz l=>.arr fz false false sz l
 |.ay _ _ sz ah l hole=>.ay false false sz ah l hole
 |x=>x
def sN:O→Bool×Bool
 |.arr _ a i _ _=>(a,i)
 |.ay a i _ _ _ _=>(a,i)
 |_=>(false,false)
def RQ:O→Bool
 |.arr _ _ _ _ _=>true
 |.ay _ _ _ _ _ _=>true
 |_=>false
theorem RS {x y:O} (h:qX x=qX y) (hf:sN x=sN y) (ha:RQ x=true):x=y:=by
 cases x<;>simp only [RQ,Bool.false_eq_true] at ha<;>cases y<;>simp only [qX,sN,O.arr.injEq,O.ay.injEq,Prod.mk.injEq,reduceCtorEq] at h hf
 ·obtain ⟨rfl,_,_,rfl,rfl⟩:=h;obtain ⟨rfl,rfl⟩:=hf;rfl
 ·obtain ⟨_,_,rfl,rfl,rfl,rfl⟩:=h;obtain ⟨rfl,rfl⟩:=hf;rfl
theorem WY {s:yj} (hok:s.ok=true) {o:Nat→O} {args:List S} {c:JJ} (hc:fO s o args=some c) (hf:c.fine s=true) :∀p∈c.ren,RQ (o p.2)=true→qX ((mk s.pin c.ins).o p.1)=qX (o p.2):=by
 unfold fO at hc
 split at hc
 ·rename_i u A gs r hsl
  split at hc
  ·rename_i u' I r' hob
   simp only [Option.some.injEq] at hc;subst hc
   simp only [JJ.fine,Bool.and_eq_true,List.all_eq_true,MP,List.contains_eq_mem,decide_eq_true_eq,Bool.not_eq_true',decide_eq_false_iff_not,List.mem_map,forall_exists_index,and_imp,forall_apply_eq_imp_iff₂] at hf
   obtain ⟨⟨⟨hn2,hn1⟩,hdisj⟩,hkeys⟩:=hf
   have hn1:=iK hn1
   have hok':=hok
   simp only [yj.ok,Bool.and_eq_true] at hok'
   obtain ⟨⟨⟨⟨⟨⟨⟨⟨YP,UR⟩,hps⟩,hpo⟩,_⟩,_⟩,_⟩,_⟩,_⟩:=hok'
   have hm :∀p∈r',(fun g'=>(je r').lookup g') p.1=some p.2:=fun p hp=>kP hn1 (lI.2 hp)
   have hAt:At (u++u') 0 (u++u'):=fun k y hk=>by rw [Nat.zero_add];exact hk
   have aeA :∀p∈s.pin.aJ,match p.2 with | .box ws =>∀k∈ws,k.flags false true=true | .arr fz a i _=>fz=false∧a=false∧i=true | .ay a i _ _=>a=false∧i=true | .it=>False:=by
    intro p hp
    have:=(List.all_eq_true.1 hpo) p hp
    obtain ⟨g,k⟩:=p
    cases k with
    |box ws=>
     simp only [Bool.and_eq_true,List.all_eq_true] at this
     exact fun k hk=>this.1 k hk
    |arr fz a i sz=>
     simp only [Bool.and_eq_true,Bool.not_eq_true'] at this
     exact ⟨this.1.1,this.1.2,this.2⟩
    |ay a i sz ah=>
     simp only [Bool.and_eq_true,Bool.not_eq_true'] at this
     exact this
    |it=>simp at this
   have Pj:(bG (u++u') 0 s.pin.slots).2=u.length:=by
    have :∀{L:List (Nat×SS)} {us:List P} {c:Bool×Bool} {gs:List Nat} {r:List (Nat×Nat)} {n:Nat} (vs:List P),dI o args L=some (us,c,gs,r)→(∀p∈L,p.2.flags true false=true)→(bG vs n L).2=n+us.length:=by
     intro L
     induction L with
     |nil=>intro us c gs r n vs h _;simp [dI] at h;obtain ⟨rfl,_⟩:=h;rfl
     |cons p L ih=>
      intro us c gs r n vs h hk
      obtain ⟨t0,k⟩:=p
      simp only [dI] at h
      split at h
      ·rename_i u c1 g1 r1 u' c2 g2 r2 h1 h2
       simp only [Option.some.injEq,Prod.mk.injEq] at h
       obtain ⟨rfl,rfl,rfl,rfl⟩:=h
       have e1:(mkS vs n k).2=n+u.length:=by
        have hkk:=hk (t0,k) (by simp)
        have one :∀(k:WS) (x:W) (us:List P) (c:Bool×Bool) (gs:List Nat) (r:List (Nat×Nat)) (n:Nat),dU o k x=some (us,c,gs,r)→(o_ vs n k).2=n+us.length:=by
         intro k x us c gs r n h
         cases k with
         |p a i=>
          simp only [dU] at h
          split at h
          ·simp only [Option.some.injEq,Prod.mk.injEq] at h;obtain ⟨rfl,_⟩:=h;rfl
          ·cases h
         |own g'=>cases x<;>simp [dU] at h;obtain ⟨rfl,_⟩:=h;rfl
         |box g' off=>
          cases off with
          |succ off=>cases x<;>simp [dU] at h
          |zero=>
           cases x with
           |box g off=>cases off<;>simp [dU] at h;obtain ⟨rfl,_⟩:=h;rfl
           |_=>simp [dU] at h
         |bg=>simp [dU] at h
         |fn f gs0=>
          cases x with
          |clo f' caps=>
           simp only [dU] at h
           split at h
           ·split at h
            ·simp only [Option.some.injEq,Prod.mk.injEq] at h;obtain ⟨rfl,_⟩:=h;rfl
            ·cases h
           ·cases h
          |_=>simp [dU] at h
         |lQ g'=>simp [dU] at h
         |no=>simp [dU] at h
         |vw g'=>simp [dU] at h
         |ep g' off=>simp [dU] at h
        cases k with
        |one k=>
         generalize args.getD t0 S.no=z at h1
         cases z with
         |v z=>
          cases z with
          |one z=>exact one k z _ _ _ _ n h1
          |agg z=>simp [ni] at h1
         |_=>simp [ni] at h1
        |agg ks=>
         generalize args.getD t0 S.no=z at h1
         cases z with
         |v z=>
          cases z with
          |one z=>simp [ni] at h1
          |agg z=>
           have :∀(ks:List WS) (z:List W) (us:List P) (c:Bool×Bool) (gs:List Nat) (r:List (Nat×Nat)) (n:Nat),iT o ks z=some (us,c,gs,r)→(jL vs n ks).2=n+us.length:=by
            intro ks
            induction ks with
            |nil=>intro z us c gs r n h;cases z<;>simp [iT] at h;obtain ⟨rfl,_⟩:=h;rfl
            |cons k ks ih=>
             intro z us c gs r n h
             cases z with
             |nil=>simp [iT] at h
             |cons x xs=>
              simp only [iT] at h
              split at h
              ·rename_i u c1 g1 r1 u' c2 g2 r2 h1 h2
               simp only [Option.some.injEq,Prod.mk.injEq] at h
               obtain ⟨rfl,rfl,rfl,rfl⟩:=h
               simp only [jL]
               rw [one k x _ _ _ _ n h1,ih _ _ _ _ _ _ h2];simp;omega
              ·cases h
           exact this ks z _ _ _ _ n h1
         |_=>simp [ni] at h1
       simp only [bG]
       rw [e1,ih vs h2 (fun p hp=>hk p (by simp [hp]))];simp;omega
      ·cases h
    have:=this (n:=0) (u++u') hsl (fun p hp=>by have:=(List.all_eq_true.1 hps) p hp;simp only [Bool.and_eq_true] at this;exact this.1)
    omega
   obtain ⟨⟨r0,hr0⟩,Pm⟩:=tH (m:=fun g'=>(je r').lookup g') (nil:=fun _=>False) (I:=I) (ins:=u++u') (n:=u.length) hob aeA (G6 I) hm (by have:=hAt.right;rwa [Nat.zero_add] at this)
   have Ci :∀g' x,(mk s.pin (u++u')).o g'=x→x≠.none→∃g,(je r').lookup g'=some g∧Ow (Cio I) (fun g'=>(je r').lookup g') (fun _=>False) (o g) x∧(g',g)∈je r'∧(o g).aX=true∧((∃ws,x=.box ws)∨(∃l sz,x=.arr false false true sz l)∨∃l sz ah,x=.ay false true sz ah l none):=by
    intro g' x hx hne
    have:=RP (j:=s.pin) (vs:=u++u') (g:=g') (by rw [hx];exact hne)
    rw [Pj,hx] at this
    obtain ⟨g,k1,k2,k3,k4⟩:=Pm g' x this
    exact ⟨g,k1,k2,lI.2 k3,k4⟩
   intro p hp ha
   have hkey:p.1∈s.pin.aJ.map (·.1):=hkeys p hp
   obtain ⟨x,hx⟩:=uT (vs:=u++u') (n:=u.length) hkey
   obtain ⟨g,hg,how,hmem,hown,hsh⟩:=Pm p.1 x hx
   have hl:=kP hn1 hp
   have:g=p.2:=by have hg':(je r').lookup p.1=some g:=hg;rw [hl] at hg';exact (Option.some.inj hg').symm
   subst this
   have hmk:(mk s.pin (u++u')).o p.1=x:=by
    show (match (fA (u++u') (bG (u++u') 0 s.pin.slots).2 s.pin.aJ).1.lookup p.1 with | some x=>x | none=>O.none)=x
    rw [Pj,hx]
   rw [hmk]
   generalize hz:o p.2=z at how ha
   rcases hsh with ⟨ws,rfl⟩ | ⟨l,sz,rfl⟩ | ⟨l,sz,ah,rfl⟩
   ·cases how;cases ha
   ·cases how;rfl
   ·cases how;rfl
  ·cases hc
 ·cases hc
theorem RU (h:Rel E st gh val w) {s:yj} (hok:s.ok=true) {args:List S} {vals:Nat→Value} (hr :∀t,bD E st gh w (args.getD t .no) (vals t)) {c:JJ} (hc:fO s st.o args=some c) (hf:c.fine s=true)
  (st1:St) (hst1:st1=st.au (c.uq.map (Fw.aC st.o)) []) (E':Env) (hE':E'=UQ h st1 c) :
  Rel E st1 gh val w∧Lets E st st1 gh gh w w∧Rel E' (mk s.pin c.ins) (iP gh fun g'=>c.ren.lookup g') vals w∧
  (∀p∈c.ren,(st.o p.2).aX=true∧p.2∉c.uq∧c.ren.lookup p.1=some p.2∧((s.aN.contains p.1=true∧∃ws ws',st.o p.2=.box ws∧(mk s.pin c.ins).o p.1=.box ws')∨(∃a i sz l,st.o p.2=.arr false a i sz l∧cin (a,i) c.I∧(mk s.pin c.ins).o p.1=.arr false false true sz l)∨(∃a i sz ah l,st.o p.2=.ay a i sz ah l none∧cin (a,i) c.I∧(mk s.pin c.ins).o p.1=.ay false true sz ah l none))):=by
 unfold fO at hc
 split at hc
 ·rename_i u A gs r hsl
  split at hc
  ·rename_i u' I r' hob
   simp only [Option.some.injEq] at hc;subst hc
   simp only [JJ.fine,Bool.and_eq_true,List.all_eq_true,MP,List.contains_eq_mem,decide_eq_true_eq,Bool.not_eq_true',decide_eq_false_iff_not,List.mem_map,forall_exists_index,and_imp,forall_apply_eq_imp_iff₂] at hf
   obtain ⟨⟨⟨hn2,hn1⟩,hdisj⟩,hkeys⟩:=hf
   have hn1:=iK hn1
   have hok':=hok
   simp only [yj.ok,Bool.and_eq_true] at hok'
   obtain ⟨⟨⟨⟨⟨⟨⟨⟨YP,UR⟩,hps⟩,hpo⟩,_⟩,_⟩,_⟩,_⟩,_⟩:=hok'
   have aeB:=uS hsl
   obtain ⟨f1,f2⟩:=Rel.freezes gs h aeB
   subst hst1
   have hm :∀p∈r',(fun g'=>(je r').lookup g') p.1=some p.2:=fun p hp=>kP hn1 (lI.2 hp)
   have hAt:At (u++u') 0 (u++u'):=fun k y hk=>by rw [Nat.zero_add];exact hk
   have aeA :∀p∈s.pin.aJ,match p.2 with | .box ws =>∀k∈ws,k.flags false true=true | .arr fz a i _=>fz=false∧a=false∧i=true | .ay a i _ _=>a=false∧i=true | .it=>False:=by
    intro p hp
    have:=(List.all_eq_true.1 hpo) p hp
    obtain ⟨g,k⟩:=p
    cases k with
    |box ws=>
     simp only [Bool.and_eq_true,List.all_eq_true] at this
     exact fun k hk=>this.1 k hk
    |arr fz a i sz=>
     simp only [Bool.and_eq_true,Bool.not_eq_true'] at this
     exact ⟨this.1.1,this.1.2,this.2⟩
    |ay a i sz ah=>
     simp only [Bool.and_eq_true,Bool.not_eq_true'] at this
     exact this
    |it=>simp at this
   have Pj:(bG (u++u') 0 s.pin.slots).2=u.length:=by
    have :∀{L:List (Nat×SS)} {us:List P} {c:Bool×Bool} {gs:List Nat} {r:List (Nat×Nat)} {n:Nat} (vs:List P),dI st.o args L=some (us,c,gs,r)→(∀p∈L,p.2.flags true false=true)→(bG vs n L).2=n+us.length:=by
     intro L
     induction L with
     |nil=>intro us c gs r n vs h _;simp [dI] at h;obtain ⟨rfl,_⟩:=h;rfl
     |cons p L ih=>
      intro us c gs r n vs h hk
      obtain ⟨t0,k⟩:=p
      simp only [dI] at h
      split at h
      ·rename_i u c1 g1 r1 u' c2 g2 r2 h1 h2
       simp only [Option.some.injEq,Prod.mk.injEq] at h
       obtain ⟨rfl,rfl,rfl,rfl⟩:=h
       have e1:(mkS vs n k).2=n+u.length:=by
        have hkk:=hk (t0,k) (by simp)
        have one :∀(k:WS) (x:W) (us:List P) (c:Bool×Bool) (gs:List Nat) (r:List (Nat×Nat)) (n:Nat),dU st.o k x=some (us,c,gs,r)→(o_ vs n k).2=n+us.length:=by
         intro k x us c gs r n h
         cases k with
         |p a i=>
          simp only [dU] at h
          split at h
          ·simp only [Option.some.injEq,Prod.mk.injEq] at h;obtain ⟨rfl,_⟩:=h;rfl
          ·cases h
         |own g'=>cases x<;>simp [dU] at h;obtain ⟨rfl,_⟩:=h;rfl
         |box g' off=>
          cases off with
          |succ off=>cases x<;>simp [dU] at h
          |zero=>
           cases x with
           |box g off=>cases off<;>simp [dU] at h;obtain ⟨rfl,_⟩:=h;rfl
           |_=>simp [dU] at h
         |bg=>simp [dU] at h
         |fn f gs0=>
          cases x with
          |clo f' caps=>
           simp only [dU] at h
           split at h
           ·split at h
            ·simp only [Option.some.injEq,Prod.mk.injEq] at h;obtain ⟨rfl,_⟩:=h;rfl
            ·cases h
           ·cases h
          |_=>simp [dU] at h
         |lQ g'=>simp [dU] at h
         |no=>simp [dU] at h
         |vw g'=>simp [dU] at h
         |ep g' off=>simp [dU] at h
        cases k with
        |one k=>
         generalize args.getD t0 S.no=z at h1
         cases z with
         |v z=>
          cases z with
          |one z=>exact one k z _ _ _ _ n h1
          |agg z=>simp [ni] at h1
         |_=>simp [ni] at h1
        |agg ks=>
         generalize args.getD t0 S.no=z at h1
         cases z with
         |v z=>
          cases z with
          |one z=>simp [ni] at h1
          |agg z=>
           have :∀(ks:List WS) (z:List W) (us:List P) (c:Bool×Bool) (gs:List Nat) (r:List (Nat×Nat)) (n:Nat),iT st.o ks z=some (us,c,gs,r)→(jL vs n ks).2=n+us.length:=by
            intro ks
            induction ks with
            |nil=>intro z us c gs r n h;cases z<;>simp [iT] at h;obtain ⟨rfl,_⟩:=h;rfl
            |cons k ks ih=>
             intro z us c gs r n h
             cases z with
             |nil=>simp [iT] at h
             |cons x xs=>
              simp only [iT] at h
              split at h
              ·rename_i u c1 g1 r1 u' c2 g2 r2 h1 h2
               simp only [Option.some.injEq,Prod.mk.injEq] at h
               obtain ⟨rfl,rfl,rfl,rfl⟩:=h
               simp only [jL]
               rw [one k x _ _ _ _ n h1,ih _ _ _ _ _ _ h2];simp;omega
              ·cases h
           exact this ks z _ _ _ _ n h1
         |_=>simp [ni] at h1
       simp only [bG]
       rw [e1,ih vs h2 (fun p hp=>hk p (by simp [hp]))];simp;omega
      ·cases h
    have:=this (n:=0) (u++u') hsl (fun p hp=>by have:=(List.all_eq_true.1 hps) p hp;simp only [Bool.and_eq_true] at this;exact this.1)
    omega
   obtain ⟨⟨r0,hr0⟩,Pm⟩:=tH (m:=fun g'=>(je r').lookup g') (nil:=fun _=>False) (I:=I) (ins:=u++u') (n:=u.length) hob aeA (G6 I) hm (by have:=hAt.right;rwa [Nat.zero_add] at this)
   have Ci :∀g' x,(mk s.pin (u++u')).o g'=x→x≠.none→∃g,(je r').lookup g'=some g∧Ow (Cio I) (fun g'=>(je r').lookup g') (fun _=>False) (st.o g) x∧(g',g)∈je r'∧(st.o g).aX=true∧((∃ws,x=.box ws)∨(∃l sz,x=.arr false false true sz l)∨∃l sz ah,x=.ay false true sz ah l none):=by
    intro g' x hx hne
    have:=RP (j:=s.pin) (vs:=u++u') (g:=g') (by rw [hx];exact hne)
    rw [Pj,hx] at this
    obtain ⟨g,k1,k2,k3,k4⟩:=Pm g' x this
    exact ⟨g,k1,k2,lI.2 k3,k4⟩
   have gJ :∀p∈je r',(st.o p.2).aX=true∧p.2∉gs∧(je r').lookup p.1=some p.2∧((s.aN.contains p.1=true∧∃ws ws',st.o p.2=.box ws∧(mk s.pin (u++u')).o p.1=.box ws')∨(∃a i sz l,st.o p.2=.arr false a i sz l∧cin (a,i) I∧(mk s.pin (u++u')).o p.1=.arr false false true sz l)∨(∃a i sz ah l,st.o p.2=.ay a i sz ah l none∧cin (a,i) I∧(mk s.pin (u++u')).o p.1=.ay false true sz ah l none)):=by
    intro p hp
    have hkey:p.1∈s.pin.aJ.map (·.1):=hkeys p hp
    obtain ⟨x,hx⟩:=uT (vs:=u++u') (n:=u.length) hkey
    obtain ⟨g,hg,how,hmem,hown,_⟩:=Pm p.1 x hx
    have hl:=kP hn1 hp
    have:g=p.2:=by have hg':(je r').lookup p.1=some g:=hg;rw [hl] at hg';exact (Option.some.inj hg').symm
    subst this
    refine ⟨hown,hdisj p hp,hl,?_⟩
    have hmk:(mk s.pin (u++u')).o p.1=x:=by
     show (match (fA (u++u') (bG (u++u') 0 s.pin.slots).2 s.pin.aJ).1.lookup p.1 with | some x=>x | none=>O.none)=x
     rw [Pj,hx]
    obtain ⟨k,n',h1,h2⟩:=jM hx
    have hk:=(List.all_eq_true.1 hpo) _ h1
    rw [hmk]
    subst h2
    cases k with
    |box ws=>
     simp only [Bool.and_eq_true] at hk
     generalize hz:st.o p.2=z at how
     cases how
     exact .inl ⟨hk.2,_,_,rfl,rfl⟩
    |arr fz a i sz=>
     simp only [Bool.and_eq_true,Bool.not_eq_true'] at hk
     obtain ⟨⟨rfl,rfl⟩,rfl⟩:=hk
     generalize hz:st.o p.2=z at how
     refine .inr (.inl ?_)
     cases how with | arr _ _ _ hc=>exact ⟨_,_,_,_,rfl,hc.2.2,rfl⟩
    |ay a i sz ah=>
     simp only [Bool.and_eq_true,Bool.not_eq_true'] at hk
     obtain ⟨rfl,rfl⟩:=hk
     generalize hz:st.o p.2=z at how
     refine .inr (.inr ?_)
     cases how with | ay _ _ _ hc=>exact ⟨_,_,_,_,_,rfl,hc.2.2,rfl⟩
    |it=>simp at hk
   have oG :∀g' b,((mk s.pin (u++u')).o g').aX=true→(iP gh (fun g'=>(je r').lookup g') g').has b→∃g,(g',g)∈je r'∧(st.o g).aX=true∧(gh g).has b∧g∉gs:=by
    intro g' b ho had
    obtain ⟨g,hg,_,hmem,hown,_⟩:=Ci g' _ rfl (by intro e;rw [e] at ho;cases ho)
    refine ⟨g,hmem,hown,?_,(gJ _ hmem).2.1⟩
    simpa [iP,hg] using had
   have ags :∀g,g∉gs→(st.au (gs.map (Fw.aC st.o)) []).o g=st.o g:=by
    intro g hg
    rw [dS,if_neg hg]
   have hcast:Cast (Cio I) (fun g'=>(je r').lookup g') (fun _=>False) E E' st (mk s.pin (u++u')) gh (iP gh fun g'=>(je r').lookup g') w:=by
    refine ⟨fun a i a' i' b hC hb => ?_,fun g g' hg sz len ho=>⟨by simp only [iP,hg];exact ⟨trivial,trivial⟩,?_⟩,fun g g' hg ws ho=>⟨by simp only [iP,hg],?_⟩,fun g g' hg s n ho=>⟨by simp only [iP,hg],?_⟩,fun g' hf=>hf.elim⟩
    ·obtain ⟨rfl,rfl,hci⟩:=hC
     subst hE'
     refine ⟨.inr (.inl ⟨rfl,.inl (Env.kC hci.1 hci.2 hb)⟩),hb.2.1,fun g' ho had => ?_⟩
     obtain ⟨g,_,h1,h2,_⟩:=oG g' b ho had
     exact hb.2.2 g h1 h2
    ·obtain ⟨g2,hg2,how,_⟩:=Ci g' _ rfl (by intro e;rw [e] at ho;cases ho)
     rw [hg] at hg2;cases hg2
     exact how.dim ho
    ·obtain ⟨g2,hg2,how,_⟩:=Ci g' _ ho (by simp)
     rw [hg] at hg2;cases hg2
     generalize st.o g=z at how
     cases how;exact ⟨_,rfl⟩
    ·obtain ⟨g2,hg2,how,_⟩:=Ci g' _ ho (by simp)
     rw [hg] at hg2;cases hg2
     generalize st.o g=z at how
     cases how;exact ⟨_,_,rfl⟩
   have hP :∀x v y a i gs',dP E st gh w x v→x.toP st.o=some (y,a,i,gs')→cin (a,i) A→(∀g∈gs',g∈gs)→aU w (E'.ok (mk s.pin (u++u')) (iP gh fun g'=>(je r').lookup g') w true false) y v:=by
    intro x v y a i gs' hrx ht hci hsub
    have:=(Mc h hrx ht).2 _ (fun g hg=>by rw [dS,if_pos (hsub g hg)]) f1 f2
    refine this.mono fun b hb=>⟨?_,rfl⟩
    subst hE'
    refine ⟨.inl ⟨rfl,Env.kC hci.1 hci.2 hb⟩,hb.2.1,fun g' ho had => ?_⟩
    obtain ⟨g,_,h1,h2,h3⟩:=oG g' b ho had
    exact hb.2.2 g (by rw [ags g h3];exact h1) h2
   have ai8 :∀p∈s.pin.slots,p.2.flags true false=true:=fun p hp=>by have:=(List.all_eq_true.1 hps) p hp;simp only [Bool.and_eq_true] at this;exact this.1
   have qg:=(AP hP hcast hr (n:=0) hsl ai8 (G6 A) (fun g hg=>hg) (fun p hp=>hm p (by rw [hr0];exact List.mem_append_left _ hp)) hAt.left).1
   have hus:=adA YP (u++u')
   refine ⟨f1,f2,⟨fun t => ?_,fun g' => ?_,fun g1 g2 b h1 h2 k1 k2 => ?_,fun g' b ho had => ?_,fun g' i b ho had hw => ?_,fun g' ho hd b => ?_,fun b hb => ?_,fun b _ _ => ?_,?_,?_,?_,?_,hus.1,hus.2.1,hus.2.2⟩,gJ⟩
   ·show bD _ _ _ _ (match (bG (u++u') 0 s.pin.slots).1.lookup t with | some x=>x | none=>.no) _
    cases hx:(bG (u++u') 0 s.pin.slots).1.lookup t with
    |none=>exact .no _
    |some x=>exact qg t x hx
   ·by_cases hne:(mk s.pin (u++u')).o g'=.none
    ·rw [hne];trivial
    ·obtain ⟨g,hg,how,_⟩:=Ci g' _ rfl hne
     have:iP gh (fun g'=>(je r').lookup g') g'=gh g:=by simp only [iP,hg]
     rw [this]
     exact hcast.Ah how (h.aJ g)
   ·obtain ⟨q1,m1,o1,d1,_⟩:=oG g1 b h1 k1
    obtain ⟨q2,m2,o2,d2,_⟩:=oG g2 b h2 k2
    have:=h.inj q1 q2 b o1 o2 d1 d2
    subst this
    have hn2:=iK hn2
    have key :∀{l:List (Nat×Nat)},(l.map (·.2)).Nodup→(g1,q1)∈l→(g2,q1)∈l→g1=g2:=by
     intro l
     induction l with
     |nil=>intro _ h;cases h
     |cons p l ih=>
      intro hn e1 e2
      simp only [List.map_cons,List.nodup_cons] at hn
      rcases List.mem_cons.1 e1 with f1 | f1<;>rcases List.mem_cons.1 e2 with f2 | f2
      ·rw [←f1] at f2;cases f2;rfl
      ·have:q1∈l.map (·.2):=List.mem_map.2 ⟨(g2,q1),f2,rfl⟩
       rw [←f1] at hn;exact absurd this hn.1
      ·have:q1∈l.map (·.2):=List.mem_map.2 ⟨(g1,q1),f1,rfl⟩
       rw [←f2] at hn;exact absurd this hn.1
      ·exact ih hn.2 f1 f2
    exact key hn2 m1 m2
   ·obtain ⟨g,hmem,h1,h2,_⟩:=oG g' b ho had
    subst hE'
    exact ⟨.inr ⟨(g',g),hmem,h1,h2⟩,(h.wr g b h1 h2).2⟩
   ·obtain ⟨g,hg,how,hmem,hown,hsh⟩:=Ci g' _ rfl (by intro e;rw [e] at ho;cases ho)
    rcases hsh with ⟨ws,e⟩ | ⟨l',sz',e⟩ | ⟨l',sz',ah,e⟩
    ·rw [e] at ho;cases ho
    ·rw [e] at ho;cases ho;rfl
    ·rw [e] at ho;cases ho;rfl
   ·obtain ⟨g,hg,how,hmem,hown,hsh⟩:=Ci g' _ rfl (by intro e;rw [e] at ho;cases ho)
    have e:iP gh (fun g'=>(je r').lookup g') g'=gh g:=by simp only [iP,hg]
    rw [e]
    exact h.ns g hown (by rw [(how.aX ho).2];exact hd) b
   ·subst hE'
    obtain ⟨p,hp,_,h1⟩:=hb
    exact (h.wr p.2 b (gJ p hp).1 h1).2
   ·subst hE';rfl
   ·subst hE';exact Nat.le_refl _
   ·subst hE';rfl
   ·subst hE';rfl
   ·subst hE';rfl
  ·cases hc
 ·cases hc
end
end Go.Fw

namespace Go.Fw
set_option linter.unusedSectionVars false
variable [dA]
set_option linter.unusedVariables false
def Ea (A I:Bool×Bool) (lk:Bool) (a i a' i':Bool):Prop:=(a',i')=qh A I a i∧(a=true→lk=true)
section
variable {A I:Bool×Bool} {lk:Bool} {m:Nat→Option Nat} {f:Nat→Nat} {aK:List Nat} {vs:List P}
theorem adB (hm :∀g∈aK,m (f g)=some g) {k:WS} (hk:k.aY aK=true) (hl:k.isA=true→lk=true) (n:Nat) :
  Ww (Ea A I lk) m (fun _=>False) (o_ vs n k).1 (Rj A I f (o_ vs n k).1)∧∀g∈(Rj A I f (o_ vs n k).1).names,∃g0∈aK,g=f g0:=by
 cases k with
 |p a i=>exact ⟨.p _ ⟨rfl,hl⟩,by simp [o_,Rj,W.names]⟩
 |own g=>
  simp only [WS.aY,List.contains_eq_mem,decide_eq_true_eq] at hk
  exact ⟨.own (hm g hk),fun g' hg'=>⟨g,hk,by simpa [o_,Rj,W.names] using hg'⟩⟩
 |bg=>exact ⟨.bg,by simp [o_,Rj,W.names]⟩
 |box g off=>
  simp only [WS.aY,List.contains_eq_mem,decide_eq_true_eq] at hk
  exact ⟨.box (hm g hk),fun g' hg'=>⟨g,hk,by simpa [o_,Rj,W.names] using hg'⟩⟩
 |fn fn gs=>
  have hk :∀g∈gs,g∈aK:=by simpa [WS.aY,List.all_eq_true] using hk
  have key :∀(gs:List Nat),(∀g∈gs,g∈aK)→(eY gs).length=(jE f (eY gs)).length∧(∀(j:Nat) x y,(eY gs)[j]?=some x→(jE f (eY gs))[j]?=some y→Ww (Ea A I lk) m (fun _=>False) x y)∧∀g∈(jE f (eY gs)).flatMap W.names,∃g0∈aK,g=f g0:=by
   intro gs
   induction gs with
   |nil=>intro _;exact ⟨rfl,fun j x y hx=>(by simp [eY] at hx),by simp [eY,jE]⟩
   |cons g gs ih=>
    intro h
    obtain ⟨e1,e2,e3⟩:=ih fun g hg=>h g (by simp [hg])
    refine ⟨by simp [eY,jE,e1],fun j x y hx hy => ?_,fun g' hg' => ?_⟩
    ·cases j with
     |zero=>
      simp [eY,jE] at hx hy;subst hx hy
      exact .box (hm g (h g (by simp)))
     |succ j=>simp [eY,jE] at hx hy;exact e2 j x y hx hy
    ·simp only [eY,jE,List.flatMap_cons,List.mem_append] at hg'
     rcases hg' with hg' | hg'
     ·exact ⟨g,h g (by simp),by simpa [W.names] using hg'⟩
     ·exact e3 g' hg'
  obtain ⟨e1,e2,e3⟩:=key gs hk
  exact ⟨.clo fn _ _ e1 e2,fun g hg=>by
   have hg:g∈(W.clo fn (jE f (eY gs))).names:=hg
   rw [tu] at hg
   exact e3 g hg⟩
 |lQ g=>cases hk
 |no=>cases hk
 |vw g=>cases hk
 |ep g off=>cases hk
theorem Pn :∀{ks:List WS} {n:Nat} {x:W},x∈(jL vs n ks).1→∃k∈ks,∃n',x=(o_ vs n' k).1
 | [],n,x,h=>by simp [jL] at h
 |k::ks,n,x,h=>by
  simp only [jL,List.mem_cons] at h
  rcases h with h | h
  ·exact ⟨k,by simp,n,h⟩
  ·obtain ⟨k',h1,h2⟩:=Pn h
   exact ⟨k',by simp [h1],h2⟩
theorem YQ (hm :∀g∈aK,m (f g)=some g) {ks:List WS} (hk:ks.all (WS.aY aK)=true) (hl:ks.any WS.isA=true→lk=true) (n:Nat) :
  (∀(j:Nat) x y,(jL vs n ks).1[j]?=some x→((jL vs n ks).1.map (Rj A I f))[j]?=some y→Ww (Ea A I lk) m (fun _=>False) x y)∧
  ∀g∈((jL vs n ks).1.map (Rj A I f)).flatMap W.names,∃g0∈aK,g=f g0:=by
 have key :∀x∈(jL vs n ks).1,Ww (Ea A I lk) m (fun _=>False) x (Rj A I f x)∧∀g∈(Rj A I f x).names,∃g0∈aK,g=f g0:=by
  intro x hx
  obtain ⟨k,h1,n',rfl⟩:=Pn hx
  exact adB hm ((List.all_eq_true.1 hk) k h1) (fun h=>hl (List.any_eq_true.2 ⟨k,h1,h⟩)) n'
 refine ⟨fun j x y hx hy => ?_,fun g hg => ?_⟩
 ·rw [List.getElem?_map,hx] at hy
  simp only [Option.map_some,Option.some.injEq] at hy
  subst hy
  exact (key x (List.mem_of_getElem? hx)).1
 ·simp only [List.mem_flatMap,List.mem_map] at hg
  obtain ⟨_,⟨x,hx,rfl⟩,hg⟩:=hg
  exact (key x hx).2 g hg
theorem agt (hm :∀g∈aK,m (f g)=some g) {k:SS} (hk:k.aY aK=true) (hl:k.isA=true→lk=true) (n:Nat) :
  ∃x,(mkS vs n k).1=.v x∧Vw (Ea A I lk) m (fun _=>False) x (reV A I f x)∧∀g∈(reV A I f x).names,∃g0∈aK,g=f g0:=by
 cases k with
 |one k=>
  obtain ⟨h1,h2⟩:=adB (vs:=vs) (A:=A) (I:=I) hm hk hl n
  exact ⟨_,rfl,.one h1,h2⟩
 |agg ks=>
  obtain ⟨h1,h2⟩:=YQ (vs:=vs) (A:=A) (I:=I) hm hk hl n
  exact ⟨_,rfl,.agg _ _ (by simp) h1,h2⟩
theorem agu (hm :∀g∈aK,m (f g)=some g) {k:OS} (hk :∀ws,k=.box ws→ws.all (WS.aY aK)=true) (hl:k.isA=true→lk=true) (n:Nat) :
  Ow (Ea A I lk) m (fun _=>False) (sZ vs n k).1 (vX A I f (sZ vs n k).1)∧∀g∈(vX A I f (sZ vs n k).1).names,∃g0∈aK,g=f g0:=by
 cases k with
 |box ks=>
  obtain ⟨h1,h2⟩:=YQ (vs:=vs) (A:=A) (I:=I) hm (hk ks rfl) hl n
  exact ⟨.box _ _ (by simp) h1,h2⟩
 |arr fz a i sz=>exact ⟨.arr _ _ _ ⟨rfl,hl⟩,by simp [sZ,vX,O.names]⟩
 |it=>exact ⟨.it _ _,by simp [sZ,vX,O.names]⟩
 |ay a i sz ah=>exact ⟨.ay _ _ _ ⟨rfl,hl⟩,by simp [sZ,vX,O.names,bn]⟩
end
theorem Kz {A I:Bool×Bool} {f:Nat→Nat} (x:O):(vX A I f x).aX=x.aX:=by cases x<;>rfl
theorem RV {A I:Bool×Bool} {f:Nat→Nat} (x:O):(vX A I f x).mY=x.mY:=by cases x<;>rfl
theorem abB {A I:Bool×Bool} {f:Nat→Nat} (x:O):(vX A I f x).dim=x.dim:=by cases x<;>rfl
theorem WZ {A I:Bool×Bool} {f:Nat→Nat} {x:O} {i:Bool} (h:(vX A I f x).inner=some i) :∃a i0,x.inner=some i0∧i=(qh A I a i0).2:=by
 cases x with
 |arr fz a i0 sz l=>
  cases fz with
  |false=>cases h;exact ⟨a,i0,rfl,rfl⟩
  |true=>cases h
 |ay a i0 sz ah l hole=>cases h;exact ⟨a,i0,rfl,rfl⟩
 |_=>cases h
theorem abC {A I:Bool×Bool} {f:Nat→Nat} {x:O} {ws:List W} (h:vX A I f x=.box ws) :∃ws',x=.box ws':=by cases x<;>first | exact ⟨_,rfl⟩ | cases h
theorem aeC {A I:Bool×Bool} {f:Nat→Nat} {x:O} {s n:P} (h:vX A I f x=.it s n) :∃s' n',x=.it s' n':=by cases x<;>first | exact ⟨_,_,rfl⟩ | cases h
theorem Eb {d:Nat} {aK:List Nat} {g g':Nat} (hg:g∈aK) (h:newName d aK g=newName d aK g'):g=g':=by
 unfold newName at h
 have e:aK.idxOf g=aK.idxOf g':=by omega
 have h1:aK.idxOf g<aK.length:=List.idxOf_lt_length_of_mem hg
 have h2:aK.idxOf g'<aK.length:=by omega
 have a1:=List.getElem_idxOf h1
 have a2:=List.getElem_idxOf h2
 rw [←a1,←a2];congr 1
def wQ (d:Nat) (aK:List Nat) (g:Nat):Option Nat:=aK.find? fun g0=>newName d aK g0==g
theorem MS {d:Nat} {aK:List Nat} {g:Nat} (hg:g∈aK):wQ d aK (newName d aK g)=some g:=by
 unfold wQ
 cases h:aK.find? fun g0=>newName d aK g0==newName d aK g with
 |none=>have:=List.find?_eq_none.1 h g hg;simp at this
 |some g'=>
  have h1:=List.find?_some h
  simp only [beq_iff_eq] at h1
  rw [Eb (List.mem_of_find?_eq_some h) h1]
theorem JL {d:Nat} {aK:List Nat} {g g0:Nat} (h:wQ d aK g=some g0):g0∈aK∧newName d aK g0=g:=by
 unfold wQ at h
 exact ⟨List.mem_of_find?_eq_some h,by simpa using List.find?_some h⟩
theorem jV {α:Type} {g:Nat} :∀{l r:List (Nat×α)},(l++r).lookup g=(l.lookup g).or (r.lookup g)
 | [],r=>by simp
 |(k,v)::l,r=>by
  simp only [List.cons_append,List.lookup]
  split
  ·rfl
  ·exact jV
theorem wR {α:Type} {k:Nat→Nat} {v:Nat→α} {g:Nat} :∀{l:List Nat},(∀g'∈l,k g'≠g)→(l.map fun x=>(k x,v x)).lookup g=none
 | [],_=>rfl
 |x::l,h=>by
  have:(g==k x)=false:=by have:=h x (by simp);simp;exact fun e=>this e.symm
  simp only [List.map_cons,List.lookup,this]
  exact wR fun g' hg'=>h g' (by simp [hg'])
theorem vN {α:Type} {k:Nat→Nat} {v:Nat→α} {g0:Nat} :∀{l:List Nat},g0∈l→(∀g'∈l,k g'=k g0→g'=g0)→(l.map fun x=>(k x,v x)).lookup (k g0)=some (v g0)
 | [],h,_=>by cases h
 |x::l,h,hi=>by
  simp only [List.map_cons,List.lookup]
  by_cases e:k x=k g0
  ·have:=hi x (by simp) e
   subst this;simp
  ·have:(k g0==k x)=false:=by simp;exact fun h=>e h.symm
   rw [this]
   rcases List.mem_cons.1 h with h | h
   ·subst h;exact absurd rfl e
   ·exact vN h fun g' hg'=>hi g' (by simp [hg'])
theorem jO {α:Type} {v:Nat×Nat→α} {p:Nat×Nat} :∀{l:List (Nat×Nat)},(l.map (·.2)).Nodup→p∈l→(l.map fun p=>(p.2,v p)).lookup p.2=some (v p)
 | [],_,h=>by cases h
 |x::l,hn,h=>by
  simp only [List.map_cons,List.nodup_cons] at hn
  simp only [List.map_cons,List.lookup]
  rcases List.mem_cons.1 h with h | h
  ·subst h;simp
  ·have:(p.2==x.2)=false:=by
    simp only [beq_eq_false_iff_ne]
    intro e
    exact hn.1 (e▸List.mem_map.2 ⟨p,h,rfl⟩)
   rw [this]
   exact jO hn.2 h
theorem kG {α:Type} {v:Nat×Nat→α} {g:Nat} :∀{l:List (Nat×Nat)},g∉l.map (·.2)→(l.map fun p=>(p.2,v p)).lookup g=none
 | [],_=>rfl
 |x::l,h=>by
  simp only [List.map_cons,List.mem_cons,not_or] at h
  have:(g==x.2)=false:=by simpa using h.1
  simp only [List.map_cons,List.lookup,this]
  exact kG h.2
theorem O.CU {z:O} (h:O.none.like z):z=.none:=by cases z<;>first | rfl | exact h.elim
theorem O.G7 {x y z:O} (h1:x.like y) (h2:y.like z):z=.none∨x.like z:=.inr (O.like.trans h1 h2)
theorem RX {s:yj} {o:Nat→O} {args:List S} {c:JJ} (hc:fO s o args=some c):wB o c.uq:=by
 unfold fO at hc
 split at hc
 ·rename_i hsl
  split at hc
  ·simp only [Option.some.injEq] at hc;subst hc
   exact uS hsl
  ·cases hc
 ·cases hc
theorem zA {α:Type} {g:Nat} {v:α} :∀{l:List (Nat×α)},l.lookup g=some v→(g,v)∈l
 | [],h=>by cases h
 |(k,x)::l,h=>by
  simp only [List.lookup] at h
  split at h
  ·rename_i e
   simp only [beq_iff_eq] at e
   cases h;subst e;simp
  ·exact List.mem_cons_of_mem _ (zA h)
theorem qY {o:Nat→O} :∀{L:List (Nat×OS)} {r r':List (Nat×Nat)} {u:List P} {c:Bool×Bool},iQ o r L=some (u,c,r')→(∀p∈r,p∈r')∧∀p∈L,∃q∈r',q.1=p.1
 | [],r,r',u,c,h=>by simp only [iQ,Option.some.injEq,Prod.mk.injEq] at h;obtain ⟨_,_,rfl⟩:=h;exact ⟨fun p hp=>hp,fun p hp=>by cases hp⟩
 |(g',k)::rest,r,r',u,c,h=>by
  simp only [iQ] at h
  split at h
  ·rename_i g hg
   have hmem:=zA hg
   have fin :∀{r1:List (Nat×Nat)},(∀p∈r,p∈r1)→((∀p∈r1,p∈r')∧∀p∈rest,∃q∈r',q.1=p.1)→(∀p∈r,p∈r')∧∀p∈(g',k)::rest,∃q∈r',q.1=p.1:=by
    intro r1 h1 ⟨h2,h3⟩
    refine ⟨fun p hp=>h2 p (h1 p hp),fun p hp => ?_⟩
    rcases List.mem_cons.1 hp with rfl | hp
    ·exact ⟨_,h2 _ (h1 _ hmem),rfl⟩
    ·exact h3 p hp
   split at h
   ·split at h
    ·split at h
     ·rename_i h2
      simp only [Option.some.injEq,Prod.mk.injEq] at h
      obtain ⟨_,_,rfl⟩:=h
      exact fin (fun p hp=>List.mem_append_left _ hp) (qY h2)
     ·cases h
    ·cases h
   ·split at h
    ·split at h
     ·rename_i h2
      simp only [Option.some.injEq,Prod.mk.injEq] at h
      obtain ⟨_,_,rfl⟩:=h
      exact fin (fun p hp=>hp) (qY h2)
     ·cases h
    ·cases h
   ·split at h
    ·split at h
     ·rename_i h2
      simp only [Option.some.injEq,Prod.mk.injEq] at h
      obtain ⟨_,_,rfl⟩:=h
      exact fin (fun p hp=>hp) (qY h2)
     ·cases h
    ·cases h
   ·cases h
  ·cases h
theorem abD {j:Shape} {vs:List P} {g:Nat} {a i:Bool} {sz:Nat} {ah:List (Nat×Nat)} {l:List (List P)} {hole:Option (Nat×Nat×Nat)} (h:(mk j vs).o g=.ay a i sz ah l hole):hole=none:=by
 have h1:=RP (j:=j) (vs:=vs) (g:=g) (by rw [h];simp)
 obtain ⟨k,n',_,h2⟩:=jM h1
 rw [h] at h2
 cases k<;>simp [sZ] at h2
 exact h2.2.2.2.2.2
theorem G8 {s:yj} {d:Nat} {o:Nat→O} {c:JJ} {aY:List P} (hf:c.fine s=true) {p:Nat×Nat} (hp:p∈c.ren) (Ec:s.aN.contains p.1=true) :
  (gG s d o c aY).au.lookup p.2=some (vX c.A c.I (callName d s c.ren) ((mk s.aF aY).o p.1)):=by
 simp only [JJ.fine,Bool.and_eq_true] at hf
 obtain ⟨⟨⟨hn2,hn1⟩,hdisj⟩,hkeys⟩:=hf
 have hnb:p.2∉c.uq:=by
  have:=(List.all_eq_true.1 hdisj) p.2 (List.mem_map.2 ⟨p,hp,rfl⟩)
  simpa using this
 have h1:(if s.kN=true then c.uq.map (aC o) else []).lookup p.2=none:=by
  split
  ·have :∀(l:List Nat),p.2∉l→(l.map (aC o)).lookup p.2=none:=by
    intro l
    induction l with
    |nil=>intro _;rfl
    |cons g l ih=>
     intro hl
     simp only [List.mem_cons,not_or] at hl
     have e:(p.2==(aC o g).1)=false:=by
      have:(aC o g).1=g:=rfl
      rw [this];simpa using hl.1
     simp only [List.map_cons,List.lookup,e]
     exact ih hl.2
   exact this _ hnb
  ·rfl
 have h2:=jO (v:=fun p=>if s.aN.contains p.1=true then vX c.A c.I (callName d s c.ren) ((mk s.aF aY).o p.1) else .none) (iK hn2) hp
 rw [if_pos Ec] at h2
 show (((if s.kN=true then c.uq.map (aC o) else [])++c.ren.map _)++s.aK.map _).lookup p.2=_
 rw [jV,jV,h1,h2];rfl
theorem W9 {s:yj} (hok:s.ok=true) {d:Nat} {o:Nat→O} {args:List S} {c:JJ} (hc:fO s o args=some c) (hf:c.fine s=true) {aY:List P} {p:Nat×Nat} (hp:p∈c.ren) (Ec:s.aN.contains p.1=true)
  (hk:qX ((mk s.aF aY).o p.1)=qX ((mk s.pin c.ins).o p.1)) (ha:RQ (o p.2)=true) (hfl:sN (vX c.A c.I (callName d s c.ren) ((mk s.aF aY).o p.1))=sN (o p.2)) :
  (gG s d o c aY).au.lookup p.2=some (o p.2):=by
 rw [G8 hf hp Ec]
 have hcore:=hk.trans (WY hok hc hf p hp ha)
 have hm:=fun {a i:Bool} {sz:Nat} {ah:List (Nat×Nat)} {l:List (List P)} {hole:Option (Nat×Nat×Nat)}=>abD (j:=s.aF) (vs:=aY) (g:=p.1) (a:=a) (i:=i) (sz:=sz) (ah:=ah) (l:=l) (hole:=hole)
 congr 1
 generalize (mk s.aF aY).o p.1=x at hcore hfl hm
 have e:qX (vX c.A c.I (callName d s c.ren) x)=qX (o p.2):=by
  rw [←hcore]
  cases x with
  |ay a i sz ah l hole=>have:=hm rfl;subst this;rfl
  |arr fz a i sz l=>rfl
  |_=>
   generalize o p.2=z at hcore ha
   cases z<;>first | (cases ha;done) | (simp [qX] at hcore;done)
 exact (RS e.symm hfl.symm ha).symm
theorem Po {s:yj} {o:Nat→O} {args:List S} {c:JJ} (hc:fO s o args=some c) :∀p∈s.pin.aJ,∃q∈c.ren,q.1=p.1:=by
 unfold fO at hc
 split at hc
 ·split at hc
  ·rename_i Ec
   simp only [Option.some.injEq] at hc;subst hc
   exact fun p hp=>let ⟨q,h1,h2⟩:=(qY Ec).2 p hp;⟨q,lI.2 h1,h2⟩
  ·cases hc
 ·cases hc
section
variable {E:Env} {st:St} {gh:Nat→Gh} {w:World} {val:Nat→Value}
theorem KA {sp:Spec} (hok:sp.sig.ok=true) (h:Rel E st gh val w) {args:List S} {vals:List Value} (hr :∀t,bD E st gh w (args.getD t .no) (vals.getD t undef))
  {c:JJ} (hc:fO sp.sig st.o args=some c) (hf:c.fine sp.sig=true) :
  ∃(E':Env) (jT:Nat→Gh),E'.B0=w.heap.size∧E'.w0=w∧Rel E' (mk sp.sig.pin c.ins) jT (fun k=>vals.getD k undef) w∧(∀b,E'.Wr b→∃ob,w.heap[b]?=some ob∧blk ob=true)∧
  ∀(d:Nat) (aY:List P) (ef:Eff),ef=gG sp.sig d st.o c aY→(∀g∈ef.new,st.used g=false)→∀(w':World) (rs:List Value) (wH:Nat→Gh),rs.length=sp.sig.bY→Rel E' (mk sp.sig.aF aY) wH (fun k=>rs.getD k undef) w'→(∀g∈sp.sig.aN,((wH g).ad=(jT g).ad∧(wH g).cap=(jT g).cap)∧((mk sp.sig.pin c.ins).o g).like ((mk sp.sig.aF aY).o g))→
   ∃aQ,Rel E (st.au ef.au ef.new) aQ val w'∧Lets E st (st.au ef.au ef.new) gh aQ w w'∧bD E (st.au ef.au ef.new) aQ w' ef.x (WV rs)∧∀g∈ef.x.names,(st.au ef.au ef.new).used g=true:=by
 have hrr :∀t,bD E st gh w (args.getD t .no) ((fun k=>vals.getD k undef) t):=hr
 obtain ⟨h1,hL1,hE,gJ⟩:=RU h hok hrr hc hf _ rfl _ rfl
 refine ⟨_,_,rfl,rfl,hE,fun b hb => ?_,fun d aY ef hef hnew w' rs wH hrl hx abE => ?_⟩
 ·obtain ⟨p,hp,ow,e1⟩:=hb
  have hO:=h.aJ p.2
  rcases (gJ p hp).2.2.2 with ⟨_,ws,_,e,_⟩ | ⟨a,i,sz,l,e,_⟩ | ⟨a,i,sz,ah,l,e,_⟩
  ·rw [e] at hO
   obtain ⟨ad',c,e',q1,_,q3,_⟩:=hO
   rcases e1 with ⟨ad,k1,k2⟩ | k1
   ·rw [k1] at q1;cases q1;rw [←k2];exact ⟨_,q3,rfl⟩
   ·rw [h.ns p.2 ow (by rw [e];rfl) b] at k1;cases k1
  ·rw [e] at hO
   rcases e1 with ⟨ad,k1,k2⟩ | k1
   ·rcases hO with ⟨q1,_⟩ | ⟨ad',ob,q1,_,q3,q4,_⟩
    ·rw [k1] at q1;cases q1
    ·rw [k1] at q1;cases q1;rw [←k2];exact ⟨_,q3,q4.blk⟩
   ·rw [h.ns p.2 ow (by rw [e];rfl) b] at k1;cases k1
  ·rw [e] at hO
   rcases hO with ⟨q1,_,_,q2,_⟩ | ⟨ad',ob,q1,_,q3,q5,_,⟨_,q4⟩,_⟩
   ·rcases e1 with ⟨ad,k1,k2⟩ | k1
    ·rw [k1] at q1;cases q1
    ·rw [q2 b] at k1;cases k1
   ·rcases e1 with ⟨ad,k1,k2⟩ | k1
    ·rw [k1] at q1;cases q1;rw [←k2];exact ⟨_,q3,q5.blk⟩
    ·exact q4 b k1
 generalize hst1:st.au (c.uq.map (Fw.aC st.o)) []=st1 at h1 hL1 hE hx
 generalize hE':UQ h st1 c=E' at hE hx
 generalize W_:mk sp.sig.aF aY=wo at hx
 have hok':=hok
 simp only [yj.ok,Bool.and_eq_true] at hok'
 obtain ⟨⟨⟨⟨⟨⟨⟨⟨YP,UR⟩,hps⟩,hpo⟩,hos⟩,zf⟩,hdisj⟩,hnn⟩,adC⟩:=hok'
 have hnn:=iK hnn
 simp only [JJ.fine,Bool.and_eq_true] at hf
 have hn2:=iK hf.1.1.1
 have aeD :∀g∈sp.sig.aK,sp.sig.aN.contains g=false:=by
  intro g hg
  cases hi:sp.sig.aN.contains g with
  |false=>rfl
  |true=>
   have:=(List.all_eq_true.1 hdisj) g (by simpa using hi)
   simp [hg] at this
 generalize hfn:callName d sp.sig c.ren=f
 have Pq :∀g∈sp.sig.aK,f g=newName d sp.sig.aK g:=fun g hg=>by subst hfn;unfold callName;rw [aeD g hg]
 have amy:sp.sig.aK.map f=sp.sig.aK.map (newName d sp.sig.aK):=List.map_congr_left Pq
 have aeE :∀g,sp.sig.aN.contains g=true→∃g',(g,g')∈c.ren∧f g=g':=by
  intro g hi
  have agv:=(List.all_eq_true.1 adC) g (by simpa using hi)
  cases h1:sp.sig.pin.aJ.lookup g with
  |none=>rw [h1] at agv;cases agv
  |some k1=>
   obtain ⟨q,hq,e⟩:=Po hc _ (zA h1)
   obtain ⟨q1,q2⟩:=q
   simp only at e;subst e
   refine ⟨q2,hq,?_⟩
   subst hfn
   unfold callName
   rw [hi,(gJ _ hq).2.2.1]
 generalize hbk:wQ d sp.sig.aK=bk
 have hbn :∀g∈sp.sig.aK,bk (f g)=some g:=fun g hg=>by rw [Pq g hg];subst hbk;exact MS hg
 have hbs :∀g g0,bk g=some g0→g0∈sp.sig.aK∧f g0=g:=fun g g0 hb=>by subst hbk;obtain ⟨b1,b2⟩:=JL hb;exact ⟨b1,by rw [Pq g0 b1];exact b2⟩
 have hfi :∀g∈sp.sig.aK,∀g'∈sp.sig.aK,f g=f g'→g=g':=fun g hg g' hg' e=>by rw [Pq g hg,Pq g' hg'] at e;exact Eb hg e
 have abG:ef.new=sp.sig.aK.map f:=by subst hef;subst hfn;rfl
 have aeF:ef.au=(if sp.sig.kN then c.uq.map (Fw.aC st.o) else [])++c.ren.map (fun p=>(p.2,if sp.sig.aN.contains p.1 then vX c.A c.I f (wo.o p.1) else .none))++sp.sig.aK.map (fun g=>(f g,vX c.A c.I f (wo.o g))):=by
  subst hef;subst hfn;subst W_;rfl
 have agw:ef.x=WT ((List.range sp.sig.bY).map fun k=>UL c.A c.I f (wo.s k)):=by subst hef;subst hfn;subst W_;rfl
 have anm :∀g,bk g=none→g∉ef.new:=fun g hb hm=>by
  rw [abG] at hm;obtain ⟨g0,h1,rfl⟩:=List.mem_map.1 hm
  rw [hbn g0 h1] at hb;cases hb
 have hbu :∀g,st.used g=true→bk g=none:=fun g hu=>by
  cases hb:bk g with
  |none=>rfl
  |some g0=>
   obtain ⟨h1,h2⟩:=hbs g g0 hb
   have:=hnew g (by rw [abG];exact List.mem_map.2 ⟨g0,h1,h2⟩)
   rw [hu] at this;cases this
 let stB:St:=if sp.sig.kN then st1 else st
 have hB:Rel E stB gh val w∧Lets E st stB gh gh w w:=by
  by_cases hlk:sp.sig.kN=true
  ·have:stB=st1:=by simp [stB,hlk]
   rw [this];exact ⟨h1,hL1⟩
  ·have:stB=st:=by simp [stB,hlk]
   rw [this];exact ⟨h,⟨fun a i b hb=>⟨hb,rfl⟩,fun g _=>.inr ⟨⟨rfl,rfl⟩,O.dM _⟩⟩⟩
 obtain ⟨Xa,hLB⟩:=hB
 have hBs:stB.s=st.s:=by
  by_cases hlk:sp.sig.kN=true
  ·have:stB=st1:=by simp [stB,hlk]
   rw [this,←hst1];rfl
  ·have:stB=st:=by simp [stB,hlk]
   rw [this]
 have hBu:stB.used=st.used:=by
  by_cases hlk:sp.sig.kN=true
  ·have:stB=st1:=by simp [stB,hlk]
   rw [this,←hst1];rfl
  ·have:stB=st:=by simp [stB,hlk]
   rw [this]
 have hBo :∀g,stB.o g=(if g∈c.uq∧sp.sig.kN=true then (Fw.aC st.o g).2 else st.o g):=by
  intro g
  by_cases hlk:sp.sig.kN=true
  ·have:stB=st1:=by simp [stB,hlk]
   rw [this,←hst1,dS]
   by_cases hg:g∈c.uq<;>simp [hg,hlk]
  ·have:stB=st:=by simp [stB,hlk]
   rw [this];simp [hlk]
 have UU :∀g,(stB.o g).aX=true→(st.o g).aX=true:=by
  intro g hg
  rw [hBo] at hg
  split at hg
  ·cases hp:plainO st.o g with
   |none=>simpa [Fw.aC,hp] using hg
   |some x=>
    obtain ⟨a,i,sz,l⟩:=x
    rw [lG hp] at hg;cases hg
  ·exact hg
 have hBr :∀p∈c.ren,stB.o p.2=st.o p.2:=by
  intro p hp
  rw [hBo,if_neg fun h=>(gJ p hp).2.1 h.1]
 generalize abH:st.au ef.au ef.new=G9
 have hFs:G9.s=st.s:=by subst abH;rfl
 have hFu :∀g,st.used g=true→G9.used g=true:=fun g hg=>by subst abH;simp [St.au,hg]
 have hFn :∀g∈sp.sig.aK,G9.used (f g)=true:=fun g hg=>by
  subst abH
  have:f g∈ef.new:=by rw [abG];exact List.mem_map.2 ⟨g,hg,rfl⟩
  simp [St.au,this]
 have UW :∀p∈c.ren,st.used p.2=true:=fun p hp=>h.ul p.2 (by intro e;have:=(gJ p hp).1;rw [e] at this;cases this)
 have amB :∀g∈c.uq,st.used g=true∨st.o g=.none:=fun g hg=>by
  by_cases hn:st.o g=.none
  ·exact .inr hn
  ·exact .inl (h.ul g hn)
 have hFo :∀g,G9.o g=match ef.au.lookup g with | some x=>x | none=>st.o g:=fun g=>by subst abH;rfl
 have UY :∀g∈sp.sig.aK,G9.o (f g)=vX c.A c.I f (wo.o g):=by
  intro g hg
  have hfu:st.used (f g)=false:=hnew _ (by rw [abG];exact List.mem_map.2 ⟨g,hg,rfl⟩)
  have e2:(c.ren.map (fun p=>(p.2,if sp.sig.aN.contains p.1 then vX c.A c.I f (wo.o p.1) else .none))).lookup (f g)=none:=kG fun hm=>by
   obtain ⟨p,hp,e⟩:=List.mem_map.1 hm
   rw [←e,UW p hp] at hfu;cases hfu
  have e3:=vN (k:=f) (v:=fun g=>vX c.A c.I f (wo.o g)) hg fun g' hg' e=>hfi g' hg' g hg e
  have e1:(if sp.sig.kN then c.uq.map (Fw.aC st.o) else []).lookup (f g)=none:=by
   split
   ·rw [kM,if_neg]
    intro hm
    have:=wB.used h (RX hc) hm
    rw [this] at hfu;cases hfu
   ·rfl
  rw [hFo,aeF,jV,jV,e1,e2,e3];rfl
 have KC :∀p∈c.ren,G9.o p.2=if sp.sig.aN.contains p.1 then vX c.A c.I f (wo.o p.1) else .none:=by
  intro p hp
  have e1:(if sp.sig.kN then c.uq.map (Fw.aC st.o) else []).lookup p.2=none:=by
   split
   ·rw [kM,if_neg (gJ p hp).2.1]
   ·rfl
  have e2:=jO (v:=fun p=>if sp.sig.aN.contains p.1 then vX c.A c.I f (wo.o p.1) else O.none) hn2 hp
  rw [hFo,aeF,jV,jV,e1,e2];rfl
 have Pv :∀g,bk g=none→g∉c.ren.map (·.2)→G9.o g=stB.o g:=by
  intro g hb hg
  have e2:=kG (v:=fun p=>if sp.sig.aN.contains p.1 then vX c.A c.I f (wo.o p.1) else O.none) hg
  have e3:(sp.sig.aK.map (fun g=>(f g,vX c.A c.I f (wo.o g)))).lookup g=none:=wR fun g' hg' e=>by
   have:=hbn g' hg'
   rw [e,hb] at this;cases this
  rw [hFo,aeF,jV,jV,e2,e3,hBo]
  by_cases hlk:sp.sig.kN=true
  ·rw [if_pos hlk,kM]
   by_cases hg:g∈c.uq<;>simp [hg,hlk]
  ·simp [hlk]
 have adD :∀p∈c.ren,sp.sig.aN.contains p.1=true→(wH p.1).ad=(gh p.2).ad∧(wH p.1).cap=(gh p.2).cap:=by
  intro p hp hi
  have:=(abE p.1 (by simpa using hi)).1
  have e:=(gJ p hp).2.2.1
  simp only [iP,e] at this
  exact this
 generalize hbk2:(fun g=>match bk g with | some g0=>some g0 | none=>(c.ren.find? (fun (p:Nat×Nat)=>p.2==g&&sp.sig.aN.contains p.1)).map (fun (p:Nat×Nat)=>p.1))=bk2
 have agy :∀g g0,bk2 g=some g0→(g0∈sp.sig.aK∧f g0=g)∨(bk g=none∧sp.sig.aN.contains g0=true∧(g0,g)∈c.ren):=by
  intro g g0 hb
  subst hbk2
  simp only at hb
  cases h1:bk g with
  |some g1=>rw [h1] at hb;simp only [Option.some.injEq] at hb;subst hb;exact .inl (hbs g _ h1)
  |none=>
   rw [h1] at hb
   simp only [Option.map_eq_some_iff] at hb
   obtain ⟨p,hp,rfl⟩:=hb
   have q1:=List.mem_of_find?_eq_some hp
   have q2:=List.find?_some hp
   simp only [Bool.and_eq_true,beq_iff_eq] at q2
   obtain ⟨rfl,q3⟩:=q2
   exact .inr ⟨rfl,q3,q1⟩
 have hb2 :∀g∈sp.sig.aK++sp.sig.aN,bk2 (f g)=some g:=by
  intro g hg
  subst hbk2
  simp only
  rcases List.mem_append.1 hg with hg | hg
  ·rw [hbn g hg]
  ·have hi:sp.sig.aN.contains g=true:=by simpa using hg
   obtain ⟨g',hm,e⟩:=aeE g hi
   rw [e,hbu g' (UW _ hm)]
   cases h1:c.ren.find? fun p=>p.2==g'&&sp.sig.aN.contains p.1 with
   |none=>
    have:=List.find?_eq_none.1 h1 _ hm
    simp at this
    exact absurd hg this
   |some p=>
    have q1:=List.mem_of_find?_eq_some h1
    have q2:=List.find?_some h1
    simp only [Bool.and_eq_true,beq_iff_eq] at q2
    obtain ⟨e2,q3⟩:=q2
    have l1:=(gJ _ hm).2.2.1
    have e3:p=(g,g'):=by
     have:=jO (v:=fun p=>p) hn2 q1
     have h2:=jO (v:=fun p=>p) hn2 hm
     rw [e2] at this
     simp only at h2
     rw [this] at h2;exact Option.some.inj h2
    rw [e3];rfl
 let aQ:Nat→Gh:=fun g=>match bk2 g with | some g0=>wH g0 | none=>gh g
 have hfp :∀p∈c.ren,sp.sig.aN.contains p.1=true→f p.1=p.2:=by
  intro p hp hi
  obtain ⟨g',hm,e⟩:=aeE p.1 hi
  have l1:=(gJ _ hm).2.2.1
  have l2:=(gJ _ hp).2.2.1
  simp only at l1
  rw [l2] at l1;rw [e,←Option.some.inj l1]
 have hgb :∀g g0,bk2 g=some g0→aQ g=wH g0:=fun g g0 hb=>by simp only [aQ,hb]
 have hgn :∀g∈sp.sig.aK,aQ (f g)=wH g:=fun g hg=>hgb _ _ (hb2 g (List.mem_append_left _ hg))
 have hgi :∀p∈c.ren,sp.sig.aN.contains p.1=true→aQ p.2=wH p.1:=by
  intro p hp hi
  have:=hb2 p.1 (List.mem_append_right _ (by simpa using hi))
  rw [hfp p hp hi] at this
  exact hgb _ _ this
 have hgo :∀g,bk g=none→g∉c.ren.map (·.2)→aQ g=gh g:=fun g hb hm=>by
  cases h2:bk2 g with
  |none=>simp only [aQ,h2]
  |some g0=>
   rcases agy g g0 h2 with ⟨b1,b2⟩ | ⟨_,_,b3⟩
   ·rw [←b2,hbn g0 b1] at hb;cases hb
   ·exact absurd (List.mem_map.2 ⟨_,b3,rfl⟩) hm
 have hFb :∀g g0,bk2 g=some g0→G9.o g=vX c.A c.I f (wo.o g0):=fun g g0 hb=>by
  rcases agy g g0 hb with ⟨b1,b2⟩ | ⟨_,b2,b3⟩
  ·rw [←b2];exact UY g0 b1
  ·have e:=KC _ b3
   simp only [b2,if_true] at e
   exact e
 have YR :∀g∈sp.sig.aK++sp.sig.aN,G9.used (f g)=true:=by
  intro g hg
  rcases List.mem_append.1 hg with hg | hg
  ·exact hFn g hg
  ·obtain ⟨g',hm,e⟩:=aeE g (by simpa using hg)
   rw [e];exact hFu _ (UW _ hm)
 have hxo :∀g0,wo.o g0≠.none→∃k n',(g0,k)∈sp.sig.aF.aJ∧wo.o g0=(sZ aY n' k).1:=fun g0 hn=>by
  subst W_
  exact jM (RP hn)
 have agz :∀g0,sp.sig.aN.contains g0=true→(∃ws,(mk sp.sig.pin c.ins).o g0=.box ws)→∃ws,wo.o g0=.box ws:=by
  rintro g0 hi ⟨ws,hb⟩
  have hk:=(List.all_eq_true.1 adC) g0 (by simpa using hi)
  cases h1:sp.sig.pin.aJ.lookup g0 with
  |none=>rw [h1] at hk;cases hk
  |some k1=>
   cases h2:sp.sig.aF.aJ.lookup g0 with
   |none=>rw [h1,h2] at hk;cases k1<;>cases hk
   |some k2=>
    rw [h1,h2] at hk
    obtain ⟨n1,e1⟩:=MR (vs:=c.ins) h1
    obtain ⟨n2,e2⟩:=MR (vs:=aY) h2
    rw [hb] at e1
    cases k1 with
    |box ks=>
     cases k2 with
     |box ks'=>subst W_;exact ⟨_,e2⟩
     |arr=>cases hk
     |it=>cases hk
     |ay=>cases hk
    |arr=>cases e1
    |it=>cases e1
    |ay=>cases e1
 have ajb :∀g0 k,(g0,k)∈sp.sig.aF.aJ→k.isA=true→sp.sig.kN=true:=fun g0 k hm ha=>by
  simp only [yj.kN,Bool.or_eq_true,List.any_eq_true]
  exact .inr ⟨_,hm,ha⟩
 have ajc :∀t k,(t,k)∈sp.sig.aF.slots→k.isA=true→sp.sig.kN=true:=fun t k hm ha=>by
  simp only [yj.kN,Bool.or_eq_true,List.any_eq_true]
  exact .inl ⟨_,hm,ha⟩
 have hOut :∀g0,Ow (Ea c.A c.I sp.sig.kN) bk2 (fun _=>False) (wo.o g0) (vX c.A c.I f (wo.o g0))∧∀g∈(vX c.A c.I f (wo.o g0)).names,∃g1∈sp.sig.aK++sp.sig.aN,g=f g1:=by
  intro g0
  by_cases hn:wo.o g0=.none
  ·rw [hn];exact ⟨.none _,by simp [vX,O.names]⟩
  ·obtain ⟨k,n',h1,h2⟩:=hxo g0 hn
   rw [h2]
   refine agu hb2 (fun ws e => ?_) (ajb g0 k h1) n'
   subst e
   have hk:=(List.all_eq_true.1 zf) _ h1
   simp only [Bool.and_eq_true] at hk
   exact hk.1
 have UZ :∀g,(G9.o g).aX=true→
   (∃g0,(wo.o g0).aX=true∧aQ g=wH g0∧G9.o g=vX c.A c.I f (wo.o g0)∧((g0∈sp.sig.aK∧g=f g0)∨(sp.sig.aN.contains g0=true∧(g0,g)∈c.ren)))∨
   ((stB.o g).aX=true∧aQ g=gh g∧g∉c.ren.map (·.2)∧bk g=none∧G9.o g=stB.o g):=by
  intro g ho
  cases hb:bk g with
  |some g0=>
   obtain ⟨b1,b2⟩:=hbs g g0 hb
   subst b2
   have e:=UY g0 b1
   exact .inl ⟨g0,by rw [e,Kz] at ho;exact ho,hgn g0 b1,e,.inl ⟨b1,rfl⟩⟩
  |none=>
   by_cases hm:g∈c.ren.map (·.2)
   ·obtain ⟨p,hp,e⟩:=List.mem_map.1 hm
    subst e
    have e:=KC p hp
    cases hi:sp.sig.aN.contains p.1 with
    |false=>rw [e,hi] at ho;cases ho
    |true=>
     rw [hi,if_pos rfl] at e
     exact .inl ⟨p.1,by rw [e,Kz] at ho;exact ho,hgi p hp hi,e,.inr ⟨hi,hp⟩⟩
   ·have e:=Pv g hb hm
    exact .inr ⟨by rw [e] at ho;exact ho,hgo g hb hm,hm,by first | exact hb | rfl,e⟩
 have hsplit :∀g b,(G9.o g).aX=true→(aQ g).has b→
   (∃g0,(wo.o g0).aX=true∧(wH g0).has b∧G9.o g=vX c.A c.I f (wo.o g0)∧((g0∈sp.sig.aK∧g=f g0)∨(sp.sig.aN.contains g0=true∧(g0,g)∈c.ren)))∨
   ((stB.o g).aX=true∧(gh g).has b∧g∉c.ren.map (·.2)∧bk g=none∧G9.o g=stB.o g):=by
  intro g b ho had
  rcases UZ g ho with ⟨g0,q1,q2,q3⟩ | ⟨q1,q2,q3⟩
  ·exact .inl ⟨g0,q1,by rw [←q2];exact had,q3⟩
  ·exact .inr ⟨q1,by rw [←q2];exact had,q3⟩
 have YS :∀b,E'.Wr b→∃p∈c.ren,(gh p.2).has b:=fun b hb=>by subst hE';obtain ⟨p,hp,_,h1⟩:=hb;exact ⟨p,hp,h1⟩
 have hEB:E'.B0=w.heap.size:=by subst hE';rfl
 have hEw:E'.w0=w:=by subst hE';rfl
 have hframe :∀b,b<w.heap.size→¬ E'.Wr b→w'.heap[b]?=w.heap[b]?:=fun b hb hw=>by
  rw [hx.frame b (by rw [hEB];exact hb) hw,hEw]
 have aeG :∀b,(∀p∈c.ren,¬ (gh p.2).has b)→¬ E'.Wr b:=fun b hb hw=>by
  obtain ⟨p,hp,e1⟩:=YS b hw
  exact hb p hp e1
 have hsize:w.heap.size≤w'.heap.size:=by rw [←hEB];exact hx.size
 have J6 :∀g,st.used g=true→G9.o g=.none∨(((aQ g).ad=(gh g).ad∧(aQ g).cap=(gh g).cap)∧(stB.o g).like (G9.o g)):=by
  intro g hu
  have hb:=hbu g hu
  by_cases hm:g∈c.ren.map (·.2)
  ·obtain ⟨p,hp,e⟩:=List.mem_map.1 hm
   subst e
   cases hi:sp.sig.aN.contains p.1 with
   |false=>exact .inl (by rw [KC p hp,hi];rfl)
   |true=>
    refine .inr ⟨by rw [hgi p hp hi];exact adD p hp hi,?_⟩
    rw [hBr p hp,KC p hp,hi,if_pos rfl]
    have hlk:=(abE p.1 (by simpa using hi)).2
    rw [W_] at hlk
    rcases (gJ p hp).2.2.2 with ⟨_,ws,ws1,e,eb⟩ | ⟨a,i,sz,l,e,_,ea⟩ | ⟨a,i,sz,ah,l,e,_,ea⟩
    ·obtain ⟨ws',e'⟩:=agz p.1 hi ⟨_,eb⟩
     rw [e,e'];trivial
    ·rw [ea] at hlk
     rw [e]
     generalize wo.o p.1=z at hlk
     cases z with
     |none=>trivial
     |arr=>exact hlk
     |ay=>exact hlk.elim
     |box=>exact hlk.elim
     |it=>exact hlk.elim
    ·rw [ea] at hlk
     rw [e]
     generalize wo.o p.1=z at hlk
     cases z with
     |none=>trivial
     |arr=>exact hlk
     |ay=>exact hlk
     |box=>exact hlk.elim
     |it=>exact hlk.elim
  ·rw [Pv g hb hm];exact .inr ⟨by rw [hgo g hb hm];exact ⟨rfl,rfl⟩,O.dM _⟩
 have YT:Lets E stB G9 gh aQ w w':=by
  refine ⟨fun a i b hb=>⟨⟨hb.1,by have:=hb.2.1;omega,fun g ho had => ?_⟩,?_⟩,fun g hu=>J6 g (by rw [←hBu];exact hu)⟩
  ·rcases hsplit g b ho had with ⟨g0,o0,d0,_,_⟩ | ⟨o0,d0,_⟩
   ·have hw0:=(hx.wr g0 b o0 d0).1
    rw [hEB] at hw0
    rcases hw0 with hw0 | hw0
    ·have:=hb.2.1;omega
    ·obtain ⟨p,hp,e1⟩:=YS b hw0
     exact hb.2.2 p.2 (by rw [hBr p hp];exact (gJ p hp).1) e1
   ·exact hb.2.2 g o0 d0
  ·exact hframe b hb.2.1 (aeG b fun p hp e1=>hb.2.2 p.2 (by rw [hBr p hp];exact (gJ p hp).1) e1)
 have agA :∀b,E'.Wr b→E.Wr b→(∀g ws,wo.o g=.box ws→(wH g).has b→sp.sig.aN.contains g=false)→c.I.2=true:=by
  intro b hb hEb hno
  obtain ⟨p,hp,e1⟩:=YS b hb
  rcases (gJ p hp).2.2.2 with ⟨hi,ws,ws1,e,eb⟩ | ⟨a,i,sz,l,e,hci,_⟩ | ⟨a,i,sz,ah,l,e,hci,_⟩
  ·obtain ⟨ws',e'⟩:=agz p.1 hi ⟨_,eb⟩
   have:=hno p.1 ws' e' (by
    rcases e1 with ⟨ad,k1,k2⟩ | k1
    ·exact .inl ⟨ad,by rw [(adD p hp hi).1];exact k1,k2⟩
    ·rw [h.ns p.2 (gJ p hp).1 (by rw [e];rfl) b] at k1;cases k1)
   rw [hi] at this;cases this
  ·exact hci.2 (h.wi p.2 i b (by rw [e];rfl) e1 hEb)
  ·exact hci.2 (h.wi p.2 i b (by rw [e];rfl) e1 hEb)
 have hcls :∀{a i a' i':Bool} {A:Bool×Bool},(A.1=true→a'=true)→(A.2=true→i'=true)→∀{b:Nat},((A.1=true∧E.FA b)∨(A.2=true∧(E.FI b∨E.Wr b))∨E.B0≤b∨dA.has b)→((a'=true∧E.FA b)∨(i'=true∧(E.FI b∨E.Wr b))∨E.B0≤b∨dA.has b):=by
  intro a i a' i' A h1 h2 b hb
  rcases hb with ⟨q1,q2⟩ | ⟨q1,q2⟩ | q
  ·exact .inl ⟨h1 q1,q2⟩
  ·exact .inr (.inl ⟨h2 q1,q2⟩)
  ·exact .inr (.inr q)
 have hcast:Cast (Ea c.A c.I sp.sig.kN) bk2 (fun _=>False) E' E wo G9 wH aQ w':=by
  refine ⟨fun a i a' i' b hC hb => ?_,fun g g' hm sz len ho=>⟨by rw [hgb g' g hm];exact ⟨rfl,rfl⟩,by rw [hFb g' g hm,abB] at ho;exact ho⟩,
   fun g g' hm ws ho=>⟨by rw [hgb g' g hm],by rw [hFb g' g hm] at ho;exact abC ho⟩,fun g g' hm s n ho=>⟨by rw [hgb g' g hm],by rw [hFb g' g hm] at ho;exact aeC ho⟩,fun g' hf=>hf.elim⟩
  obtain ⟨hC,hA⟩:=hC
  have ha':a'=((a&&c.A.1)||(i&&c.I.1)):=congrArg Prod.fst hC
  have hi':i'=((a&&c.A.2)||(i&&c.I.2)):=congrArg Prod.snd hC
  have adF :∀g,(wo.o g).aX=true→¬ (wH g).has b:=hb.2.2
  have hcase:((a'=true∧E.FA b)∨(i'=true∧(E.FI b∨E.Wr b))∨E.B0≤b∨dA.has b)∧(∀g,(stB.o g).aX=true→g∉c.ren.map (·.2)→¬ (gh g).has b):=by
   have hb1:=hb.1
   subst hE'
   rcases hb1 with ⟨ha,hFA⟩ | ⟨hi,hFI | hWr⟩ | hge | hgl
   ·have hlk:=hA ha
    have hst:stB=st1:=by simp [stB,hlk]
    refine ⟨hcls (a:=a) (i:=i) (A:=c.A) (by intro h;simp [ha',ha,h]) (by intro h;simp [hi',ha,h]) hFA.1,fun g ho _ => ?_⟩
    rw [hst] at ho
    exact hFA.2.2 g ho
   ·refine ⟨hcls (a:=a) (i:=i) (A:=c.I) (by intro h;simp [ha',hi,h]) (by intro h;simp [hi',hi,h]) hFI.1,fun g ho _ => ?_⟩
    exact hFI.2.2 g (UU g ho)
   ·obtain ⟨p,hp,ow,e1⟩:=hWr
    refine ⟨?_,fun g ho hng had => ?_⟩
    ·rcases (h.wr p.2 b (gJ p hp).1 e1).1 with q | q
     ·exact .inr (.inr (.inl q))
     ·have:=agA b ⟨p,hp,ow,e1⟩ q fun g ws1 o1 d1=>absurd d1 (adF g (by rw [o1];rfl))
      exact .inr (.inl ⟨by simp [hi',hi,this],.inr q⟩)
    ·have:=h.inj g p.2 b (UU g ho) (gJ p hp).1 had e1
     exact hng (this▸List.mem_map.2 ⟨p,hp,rfl⟩)
   ·refine ⟨.inr (.inr (.inl (Nat.le_trans h.size hge))),fun g ho _ had => ?_⟩
    have:=(Xa.wr g b ho had).2
    have hge:w.heap.size≤b:=hge
    omega
   ·refine ⟨.inr (.inr (.inr hgl)),fun g ho _ had => ?_⟩
    obtain ⟨g1,g2⟩:=E.Yt hgl
    rcases (Xa.wr g b ho had).1 with q | q
    ·omega
    ·exact g2 q
  refine ⟨hcase.1,hb.2.1,fun g ho had => ?_⟩
  rcases hsplit g b ho had with ⟨g0,o0,d0,_,_⟩ | ⟨o0,d0,n0,_⟩
  ·exact adF g0 o0 d0
  ·exact hcase.2 g o0 n0 d0
 have adG :∀g0,kF E G9 aQ w' (vX c.A c.I f (wo.o g0)) (wH g0):=fun g0=>hcast.Ah (hOut g0).1 (hx.aJ g0)
 have aeH:Rel E G9 aQ val w':=by
  refine Xa.step YT (hFs.trans hBs.symm) (fun g hg=>hFu g (by rw [←hBu];exact hg)) (fun g => ?_) (fun g1 g2 b h1 h2 k1 k2 => ?_) (fun g b ho had => ?_) (fun g i b ho had hw => ?_) (fun g ho hd b => ?_) (fun b hb hw => ?_) hsize (by rw [hx.os,hEw]) (by rw [hx.tape,hEw]) (by rw [hx.output,hEw]) (fun g g' hg' => ?_) (fun g hg => ?_)
  ·cases hb:bk g with
   |some g0=>
    obtain ⟨b1,b2⟩:=hbs g g0 hb
    subst b2
    rw [UY g0 b1,hgn g0 b1];exact adG g0
   |none=>
    by_cases hm:g∈c.ren.map (·.2)
    ·obtain ⟨p,hp,e⟩:=List.mem_map.1 hm
     subst e
     rw [KC p hp]
     cases hi:sp.sig.aN.contains p.1 with
     |false=>trivial
     |true=>rw [if_pos rfl,hgi p hp hi];exact adG p.1
    ·rw [Pv g hb hm,hgo g hb hm]
     refine YT.Ah (fun ho b had=>hframe _ (Xa.wr g b ho had).2 (aeG _ fun p hp e1 => ?_)) (fun g' hg'=>Xa.uo g g' hg') (Xa.aJ g)
     have:=h.inj p.2 g b (gJ p hp).1 (UU g ho) e1 had
     exact hm (this▸List.mem_map.2 ⟨p,hp,rfl⟩)
  ·have mixed :∀g1 g2 b g0,(wo.o g0).aX=true→(wH g0).has b→(stB.o g2).aX=true→(gh g2).has b→g2∉c.ren.map (·.2)→g1=g2:=by
    intro g1 g2 b g0 o1 d1 o2 d2 n2
    exfalso
    rcases (hx.wr g0 b o1 d1).1 with q | q
    ·rw [hEB] at q
     have:=(Xa.wr g2 b o2 d2).2
     omega
    ·obtain ⟨p,hp,e1⟩:=YS _ q
     have:=h.inj p.2 g2 b (gJ p hp).1 (UU g2 o2) e1 d2
     exact n2 (this▸List.mem_map.2 ⟨p,hp,rfl⟩)
   rcases hsplit g1 b h1 k1 with ⟨q1,o1,d1,_,l1⟩ | ⟨o1,d1,n1,_⟩<;>rcases hsplit g2 b h2 k2 with ⟨q2,o2,d2,_,l2⟩ | ⟨o2,d2,n2,_⟩
   ·have:=hx.inj q1 q2 b o1 o2 d1 d2
    subst this
    rcases l1 with ⟨m1,e1⟩ | ⟨i1,m1⟩<;>rcases l2 with ⟨m2,e2⟩ | ⟨i2,m2⟩
    ·rw [e1,e2]
    ·rw [aeD q1 m1] at i2;cases i2
    ·rw [aeD q1 m2] at i1;cases i1
    ·have l1:=(gJ _ m1).2.2.1
     have l2:=(gJ _ m2).2.2.1
     rw [l1] at l2;exact Option.some.inj l2
   ·exact mixed g1 g2 b q1 o1 d1 o2 d2 n2
   ·exact (mixed g2 g1 b q2 o2 d2 o1 d1 n1).symm
   ·exact Xa.inj g1 g2 b o1 o2 d1 d2
  ·rcases hsplit g b ho had with ⟨g0,o0,d0,_,_⟩ | ⟨o0,d0,_⟩
   ·have:=hx.wr g0 b o0 d0
    refine ⟨?_,this.2⟩
    rcases this.1 with q | q
    ·rw [hEB] at q;exact .inl (Nat.le_trans h.size q)
    ·obtain ⟨p,hp,e1⟩:=YS _ q
     exact (h.wr p.2 b (gJ p hp).1 e1).1
   ·have:=Xa.wr g b o0 d0
    exact ⟨this.1,by omega⟩
  ·rcases hsplit g b (O.jK ho) had with ⟨g0,o0,d0,e0,l0⟩ | ⟨o0,d0,_,_,e0⟩
   ·rw [e0] at ho
    obtain ⟨a1,i1,h1,e2⟩:=WZ ho
    have hlt:b<w.heap.size:=by have:=h.wb _ hw;have:=h.size;omega
    rcases (hx.wr g0 b o0 d0).1 with q | q
    ·rw [hEB] at q;omega
    ·have hi1:=hx.wi g0 i1 b h1 d0 q
     have:=agA b q hw fun g3 ws3 o3 d3=>by
      have:=hx.inj g3 g0 b (by rw [o3];rfl) o0 d3 d0
      subst this
      rw [o3] at h1;cases h1
     rw [e2];simp [qh,hi1,this]
   ·rw [e0] at ho
    exact Xa.wi g i b ho d0 hw
  ·rcases UZ g ho with ⟨g0,o0,e,e0,_⟩ | ⟨o0,e,_,_,e0⟩
   ·rw [e];exact hx.ns g0 o0 (by rw [e0,RV] at hd;exact hd) b
   ·rw [e];exact Xa.ns g o0 (by rw [e0] at hd;exact hd) b
  ·refine hframe b (Nat.lt_of_lt_of_le hb h.size) (aeG b fun p hp e1 => ?_)
   rcases (h.wr p.2 b (gJ p hp).1 e1).1 with q | q
   ·omega
   ·exact hw q
  ·cases hb:bk g with
   |some g0=>
    obtain ⟨b1,b2⟩:=hbs g g0 hb
    subst b2
    rw [UY g0 b1] at hg'
    obtain ⟨g1,m1,rfl⟩:=(hOut g0).2 g' hg'
    exact YR g1 m1
   |none=>
    by_cases hm:g∈c.ren.map (·.2)
    ·obtain ⟨p,hp,e⟩:=List.mem_map.1 hm
     subst e
     rw [KC p hp] at hg'
     cases hi:sp.sig.aN.contains p.1 with
     |false=>rw [hi] at hg';simp [O.names] at hg'
     |true=>
      rw [hi,if_pos rfl] at hg'
      obtain ⟨g1,m1,rfl⟩:=(hOut p.1).2 g' hg'
      exact YR g1 m1
    ·rw [Pv g hb hm] at hg'
     exact hFu g' (by rw [←hBu];exact Xa.uo g g' hg')
  ·cases hb:bk g with
   |some g0=>
    obtain ⟨b1,b2⟩:=hbs g g0 hb
    subst b2;exact hFn g0 b1
   |none=>
    by_cases hm:g∈c.ren.map (·.2)
    ·obtain ⟨p,hp,e⟩:=List.mem_map.1 hm
     subst e
     exact hFu _ (UW p hp)
    ·rw [Pv g hb hm] at hg
     exact hFu g (by rw [←hBu];exact Xa.ul g hg)
 have agC :∀k,qK E G9 aQ w' (UL c.A c.I f (wo.s k)) (rs.getD k undef)∧∀g∈(UL c.A c.I f (wo.s k)).names,∃g1∈sp.sig.aK++sp.sig.aN,g=f g1:=by
  intro k
  have hk:=hx.slots k
  subst W_
  have e0:(mk sp.sig.aF aY).s k=match (bG aY 0 sp.sig.aF.slots).1.lookup k with | some x=>x | none=>.no:=rfl
  cases hxk:(bG aY 0 sp.sig.aF.slots).1.lookup k with
  |none=>
   rw [e0,hxk]
   exact ⟨.one _ _ (.no _),by simp [UL,V.names,W.names]⟩
  |some x=>
   rw [hxk] at e0
   rw [e0] at hk ⊢
   obtain ⟨kk,n',h1,h2⟩:=wP hxk
   obtain ⟨y,e,h3,h4⟩:=agt (vs:=aY) (A:=c.A) (I:=c.I) hb2 ((List.all_eq_true.1 hos) _ h1) (ajc k kk h1) n'
   simp only [h2,e] at hk ⊢
   cases hk with | v _ _ hk=>exact ⟨hcast.WA h3 hk,h4⟩
 refine ⟨aQ,aeH,⟨fun a i b hb => ?_,fun g hu => ?_⟩,?_,?_⟩
 ·obtain ⟨q1,q2⟩:=hLB.ok a i b hb
  exact YT.ok a i b q1
 ·rcases J6 g hu with q | ⟨q1,q2⟩
  ·exact .inl q
  ·rcases hLB.names g hu with q | ⟨_,q⟩
   ·rw [q] at q2
    rcases O.G7 (x:=.none) (O.dM _) q2 with q | q
    ·exact .inl q
    ·exact .inl (O.CU q)
   ·rcases O.G7 q q2 with q | q
    ·exact .inl q
    ·exact .inr ⟨q1,q⟩
 ·rw [agw]
  have hl:((List.range sp.sig.bY).map fun k=>UL c.A c.I f (wo.s k)).length=rs.length:=by simp [hrl]
  have hj :∀(j:Nat) x v,((List.range sp.sig.bY).map fun k=>UL c.A c.I f (wo.s k))[j]?=some x→rs[j]?=some v→qK E G9 aQ w' x v:=by
   intro j x v hx' hv
   rw [List.getElem?_map] at hx'
   obtain ⟨k,hk,rfl⟩:=Option.map_eq_some_iff.1 hx'
   obtain ⟨hlt,hk⟩:=List.getElem?_eq_some_iff.1 hk
   simp at hk;subst hk
   have:=(agC j).1
   rwa [List.getD_eq_getElem?_getD,hv] at this
  generalize (List.range sp.sig.bY).map (fun k=>UL c.A c.I f (wo.s k))=xs at hl hj
  unfold WT WV
  match xs,rs,hl,hj with
  | [],[],_,hj=>exact .jH _ _ rfl hj
  | [x],[v],_,hj=>exact .v _ _ (hj 0 x v rfl rfl)
  |x::y::xs,v::u::vs,hl,hj=>exact .jH _ _ hl hj
 ·intro g hg
  have :∃k,g∈(UL c.A c.I f (wo.s k)).names:=by
   rw [agw] at hg
   generalize hxs:(List.range sp.sig.bY).map (fun k=>UL c.A c.I f (wo.s k))=xs at hg
   have hin :∃x∈xs,g∈x.names:=by
    unfold WT at hg
    split at hg
    ·exact ⟨_,by simp,hg⟩
    ·simpa [S.names,List.mem_flatMap] using hg
   obtain ⟨x,hx1,hx2⟩:=hin
   rw [←hxs] at hx1
   obtain ⟨k,_,rfl⟩:=List.mem_map.1 hx1
   exact ⟨k,hx2⟩
  obtain ⟨k,hk⟩:=this
  obtain ⟨g1,m1,rfl⟩:=(agC k).2 g hk
  exact YR g1 m1
theorem RY {Pg:Program} {fn:FuncId} {sp:Spec} (hs:Sound Pg fn sp) (h:Rel E st gh val w) {args:List S} {vals:List Value} (hr :∀t,bD E st gh w (args.getD t .no) (vals.getD t undef)) (hlen:vals.length=sp.sig.aZ)
  {c:JJ} (hc:fO sp.sig st.o args=some c) (hf:c.fine sp.sig=true) {aY:List P} (hR:sp.R c.ins aY) (d:Nat)
  {ef:Eff} (hef:ef=gG sp.sig d st.o c aY) (hnew :∀g∈ef.new,st.used g=false) :
  Calls Pg fn vals.toArray w fun e w' =>∃v aQ,e=.returned v∧Rel E (st.au ef.au ef.new) aQ val w'∧Lets E st (st.au ef.au ef.new) gh aQ w w'∧bD E (st.au ef.au ef.new) aQ w' ef.x v∧∀g∈ef.x.names,(st.au ef.au ef.new).used g=true:=by
 obtain ⟨E',jT,q1,q2,q3,_,q4⟩:=KA hs.1 h hr hc hf
 refine Calls.mono (hs.2.2 E' w vals jT c.ins aY hR q1 q2 q3 hlen) fun e w' he => ?_
 obtain ⟨rs,wH,hrl,rfl,hx,abE⟩:=he
 obtain ⟨aQ,r1,r2,r3,r4⟩:=q4 d aY ef hef hnew w' rs wH hrl hx abE
 exact ⟨_,aQ,rfl,r1,r2,r3,r4⟩
end
end Go.Fw

namespace Go.Fw
set_option linter.unusedSectionVars false
variable [dA]
set_option linter.unusedVariables false
section
variable {o o':Nat→O}
theorem CV {g:Nat} {x:Bool×Bool×Nat×List (List P)} (h:plainO o g=some x):(o g).names=(o g).hn∧∀d∈(o g).hn,(o d).hn=[]:=by
 obtain ⟨a,i,sz,l⟩:=x
 rcases uH h with ⟨fz,h⟩ | ⟨ah,h⟩ | ⟨a0,i0,ah,l0,n,c,d,fz',a',i',sz',l',h,hd,_⟩
 ·rw [h];exact ⟨rfl,fun d hd=>by cases hd⟩
 ·rw [h];exact ⟨rfl,fun d hd=>by cases hd⟩
 ·rw [h]
  refine ⟨rfl,fun d' hd' => ?_⟩
  simp only [O.hn,bn,List.mem_singleton] at hd'
  subst hd';rw [hd];rfl
theorem MV {g:Nat} (h:Agree o o' g):aC o g=aC o' g:=by simp only [aC,Ai h,h.1]
theorem Px {g d:Nat} (h:Agree o o' g) {x:Bool×Bool×Nat×List (List P)} (hp:plainO o g=some x) (hd:d∈(o g).hn):Agree o o' d:=by
 refine ⟨h.2 d hd,fun d' hd' => ?_⟩
 rw [(CV hp).2 d hd] at hd';cases hd'
theorem CW {x:W} (h :∀g∈x.names,Agree o o' g):x.toP o=x.toP o':=by
 cases x<;>simp only [W.toP]<;>(try rw [Ai (h _ (by simp [W.names])),(h _ (by simp [W.names])).1])
theorem zB {x:W} {y:P} {a i:Bool} {gs:List Nat} (h:x.toP o=some (y,a,i,gs)) (hx :∀g∈x.names,Agree o o' g) :∀g∈gs,Agree o o' g:=by
 cases x<;>simp only [W.toP] at h
 case p=>simp only [Option.some.injEq,Prod.mk.injEq] at h;obtain ⟨_,_,_,rfl⟩:=h;simp
 case bg=>simp only [Option.some.injEq,Prod.mk.injEq] at h;obtain ⟨_,_,_,rfl⟩:=h;simp
 case own g=>
  split at h
  ·rename_i hp
   simp only [Option.some.injEq,Prod.mk.injEq] at h;obtain ⟨_,_,_,rfl⟩:=h
   have hg:=hx g (by simp [W.names])
   rw [(CV hp).1]
   intro d hd
   rcases List.mem_append.1 hd with hd | hd
   ·exact Px hg hp hd
   ·rw [List.mem_singleton] at hd;subst hd;exact hg
  ·cases h
 case vw g lo hi=>
  split at h
  ·rename_i hp
   split at h
   rotate_left
   ·cases h
   simp only [Option.some.injEq,Prod.mk.injEq] at h;obtain ⟨_,_,_,rfl⟩:=h
   have hg:=hx g (by simp [W.names])
   rw [(CV hp).1]
   intro d hd
   rcases List.mem_append.1 hd with hd | hd
   ·exact Px hg hp hd
   ·rw [List.mem_singleton] at hd;subst hd;exact hg
  ·cases h
 all_goals cases h
theorem lg :∀{xs:List W},(∀x∈xs,∀g∈x.names,Agree o o' g)→nV o xs=nV o' xs
 | [],_=>rfl
 |x::xs,h=>by simp only [nV];rw [CW (h x (by simp)),lg fun y hy=>h y (by simp [hy])]
theorem qZ :∀{xs:List W} {ys:List P} {a i:Bool} {gs:List Nat},nV o xs=some (ys,a,i,gs)→(∀x∈xs,∀g∈x.names,Agree o o' g)→∀g∈gs,Agree o o' g
 | [],ys,a,i,gs,h,_=>by simp [nV] at h;obtain ⟨_,_,_,rfl⟩:=h;simp
 |x::xs,ys,a,i,gs,h,hx=>by
  simp only [nV] at h
  split at h
  ·rename_i h1 h2
   simp only [Option.some.injEq,Prod.mk.injEq] at h
   obtain ⟨_,_,_,rfl⟩:=h
   intro g hg
   rcases List.mem_append.1 hg with hg | hg
   ·exact zB h1 (hx x (by simp)) g hg
   ·exact qZ h2 (fun y hy=>hx y (by simp [hy])) g hg
  ·cases h
theorem jW {gs:List Nat} (h :∀g∈gs,Agree o o' g):gs.map (aC o)=gs.map (aC o'):=
 List.map_congr_left fun g hg=>MV (h g hg)
theorem G_ {sz:Nat} {x:W} (h :∀g∈x.names,o g=o' g):x.rows o sz=x.rows o' sz:=by
 cases x<;>simp only [W.rows]<;>(try rw [h _ (by simp [W.names])])
theorem Ed {x:W} (h :∀g∈x.names,o g=o' g):lenOf o x=lenOf o' x:=by
 cases x<;>simp only [lenOf]<;>(try rw [h _ (by simp [W.names])])
theorem zC {x:W} (h :∀g∈x.names,o g=o' g):x.live o=x.live o':=by
 cases x<;>simp only [W.live]<;>(try rw [h _ (by simp [W.names])])
theorem MW {tt:TT} {d:Nat} {sT:TypeId} {s x:W} (hs :∀g∈s.names,o g=o' g) (h :∀g∈x.names,o g=o' g):uy tt d o sT s x=uy tt d o' sT s x:=by
 unfold uy
 split
 ·split
  ·split
   ·rfl
   ·rw [G_ h]
    split
    ·rfl
    ·cases s<;>simp only<;>(try rw [hs _ (by simp [W.names])])
  ·rfl
 ·rfl
theorem zD {place:Nat→Option (Nat×Nat)} :∀{ps:List (Nat×S)} {ws0 ws:List W},kJ place ws0 ps=some ws→∀x∈ws,x∈ws0∨∃p∈ps,∀g∈x.names,g∈p.2.names
 | [],ws0,ws,h=>by simp only [kJ,Option.some.injEq] at h;subst h;intro x hx;exact .inl hx
 |(n,s)::ps,ws0,ws,h=>by
  cases s with
  |v y=>
   simp only [kJ] at h
   split at h
   ·split at h
    ·intro x hx
     rcases zD h x hx with hx | ⟨p,hp,hg⟩
     ·unfold aA at hx
      rcases List.mem_append.1 hx with hx | hx
      ·rcases List.mem_append.1 hx with hx | hx
       ·exact .inl (List.mem_of_mem_take hx)
       ·refine .inr ⟨(n,.v y),by simp,fun g hg => ?_⟩
        cases y with
        |one y=>simp only [V.words,List.mem_singleton] at hx;subst hx;simpa [S.names,V.names] using hg
        |agg ys=>simp only [V.words] at hx;simp only [S.names,V.names,List.mem_flatMap];exact ⟨x,hx,hg⟩
      ·exact .inl (List.mem_of_mem_drop hx)
     ·exact .inr ⟨p,by simp [hp],hg⟩
    ·cases h
   ·cases h
  |jH=>simp [kJ] at h
  |no=>simp [kJ] at h
theorem wS {y:V} {x:W} (h:x∈y.words) {g:Nat} (hg:g∈x.names):g∈(S.v y).names:=by
 cases y with
 |one y=>simp only [V.words,List.mem_singleton] at h;subst h;simpa [S.names,V.names] using hg
 |agg ys=>simp only [V.words] at h;simp only [S.names,V.names,List.mem_flatMap];exact ⟨x,h,hg⟩
theorem AQ {tt:TT} {d:Nat} {F F':Operand→S} {op:Op} {ty:TypeId} (hF :∀x∈op.operands.toList,F x=F' x) (hO :∀x∈op.operands.toList,∀g∈(F x).names,Agree o o' g) :
  kernel tt d o F op ty=kernel tt d o' F' op ty:=by
 have ho :∀x∈op.operands.toList,∀g∈(F x).names,o g=o' g:=fun x hx g hg=>(hO x hx g hg).1
 cases op with
 |move x=>simp only [kernel,←hF x (by simp [Op.operands])]
 |assign x=>simp only [kernel,←hF x (by simp [Op.operands])]
 |pick c x y=>simp only [kernel,←hF c (by simp [Op.operands]),←hF x (by simp [Op.operands]),←hF y (by simp [Op.operands])]
 |alloc t=>rfl
 |box t x=>simp only [kernel,←hF x (by simp [Op.operands])]
 |build t ps=>
  have e:ps.toList.map (fun p=>(p.1,F p.2))=ps.toList.map (fun p=>(p.1,F' p.2)):=List.map_congr_left fun p hp=>by
   rw [hF p.2 (by simp only [Op.operands];exact List.mem_map.2 ⟨p,hp,rfl⟩)]
  simp only [kernel,←e]
 |buildSlice t n ps=>
  have e:ps.toList.map (fun p=>(p.1,F p.2))=ps.toList.map (fun p=>(p.1,F' p.2)):=List.map_congr_left fun p hp=>by
   rw [hF p.2 (by simp only [Op.operands];exact List.mem_map.2 ⟨p,hp,rfl⟩)]
  simp only [kernel,←e]
  split
  ·split
   ·rename_i ie _
    split
    ·rename_i ws hws
     have hn :∀x∈ws,∀g∈x.names,Agree o o' g:=by
      intro x hx g hg
      rcases zD hws x hx with h | ⟨p,hp,h⟩
      ·have:=qR h
       obtain ⟨v,_,rfl⟩:=List.mem_map.1 this
       rw [kL] at hg;cases hg
      ·obtain ⟨q,hq,rfl⟩:=List.mem_map.1 hp
       exact hO q.2 (by simp only [Op.operands];exact List.mem_map.2 ⟨q,hq,rfl⟩) g (h g hg)
     rw [←lg hn]
     split
     ·rename_i h
      rw [jW (qZ h hn)]
     ·rfl
    ·rfl
   ·rfl
  ·rfl
 |load t x=>
  have hx:=hF x (by simp [Op.operands])
  have hn:=ho x (by simp [Op.operands])
  simp only [kernel,←hx]
  generalize F x=sx at hn
  split<;>simp_all [S.names,V.names,W.names]
 |store t x y=>
  have hx:=hF x (by simp [Op.operands])
  have hy:=hF y (by simp [Op.operands])
  have hn:=ho x (by simp [Op.operands])
  have hm:=hO y (by simp [Op.operands])
  simp only [kernel,←hx,←hy]
  generalize F x=sx at hn
  generalize F y=sy at hm
  split
  ·rename_i g off y _
   rw [hn g (by simp [S.names,V.names,W.names])]
  ·rename_i g n off y _
   rw [hn g (by simp [S.names,V.names,W.names])]
   have hw :∀x∈y.words,∀g∈x.names,Agree o o' g:=fun x hx g hg=>hm g (wS hx hg)
   rw [←lg hw]
   cases hz:nV o y.words with
   |none=>cases o' g with | arr fz _ _ _ _=>cases fz<;>rfl | _=>rfl
   |some z=>
    obtain ⟨ps,a',i'',gs⟩:=z
    have e:=jW (qZ hz hw)
    cases o' g with
    |arr fz _ _ _ _=>cases fz<;>simp only [e]
    |_=>rfl
  ·rfl
 |makeMap t r=>cases r<;>rfl
 |lookup t x k c=>
  have hn:=ho x (by simp [Op.operands])
  simp only [kernel,←hF x (by simp [Op.operands]),←hF k (by simp [Op.operands])]
  unfold FP
  generalize F x=sx at hn
  split
  ·rename_i x _ _ kp _ _
   have e :∀sz,x.ents o sz=x.ents o' sz:=fun sz=>by
    cases x<;>simp only [W.ents]
    rw [hn _ (by simp [S.names,V.names,W.names])]
   have e2 :∀z:List Value,nV o (z.map cv)=nV o' (z.map cv):=fun z=>lg fun y hy g hg=>by
    obtain ⟨v,_,rfl⟩:=List.mem_map.1 hy
    rw [kL] at hg;cases hg
   simp only [e,e2]
  ·rfl
 |mapUpdate t m k y=>
  have hn:=ho m (by simp [Op.operands])
  have hm:=hO y (by simp [Op.operands])
  simp only [kernel,←hF m (by simp [Op.operands]),←hF k (by simp [Op.operands]),←hF y (by simp [Op.operands])]
  unfold FQ
  generalize F m=sx at hn
  generalize F y=sy at hm
  split
  ·rename_i g _ _ kp y _ _
   rw [hn g (by simp [S.names,V.names,W.names])]
   have hw :∀x∈y.words,∀g∈x.names,Agree o o' g:=fun x hx g hg=>hm g (wS hx hg)
   rw [←lg hw]
   cases hz:nV o y.words with
   |none=>split<;>first | rfl | (rename_i h;cases h)
   |some z=>
    obtain ⟨ps,a',i'',gs⟩:=z
    have e:=jW (qZ hz hw)
    split
    ·rename_i h
     cases h
     simp only [e]
    ·rfl
  ·rfl
 |nilCheck x=>
  have hx:=hF x (by simp [Op.operands])
  have hn:=ho x (by simp [Op.operands])
  simp only [kernel,←hx]
  generalize F x=sx at hn
  split
  ·rw [zC fun g hg=>hn g (by simpa [S.names,V.names] using hg)]
  ·rfl
 |binOp op t x y u=>simp only [kernel,←hF x (by simp [Op.operands]),←hF y (by simp [Op.operands])]
 |unOp op t x=>simp only [kernel,←hF x (by simp [Op.operands])]
 |convert s t x=>
  have hx:=hF x (by simp [Op.operands])
  have hn:=ho x (by simp [Op.operands])
  simp only [kernel,←hx]
  generalize F x=sx at hn
  split
  ·rfl
  ·rw [G_ fun g hg=>hn g (by simpa [S.names,V.names] using hg)]
  ·rfl
  ·rfl
 |makeSlice t n c=>
  simp only [kernel,←hF n (by simp [Op.operands]),←hF c (by simp [Op.operands])]
  split
  ·split
   ·rename_i ie _
    have:nV o (ie.zero.map cv)=nV o' (ie.zero.map cv):=lg fun x hx g hg=>by
     obtain ⟨v,_,rfl⟩:=List.mem_map.1 hx
     rw [kL] at hg;cases hg
    rw [this]
   ·rfl
  ·rfl
 |slice t x lo hi mx=>
  cases mx with
  |some m=>cases lo with
   |some l=>simp only [kernel]
   |none=>cases hi with
    |none=>simp only [kernel]
    |some h=>
     have hx:=hF x (by simp [Op.operands])
     have hn:=ho x (by simp [Op.operands])
     simp only [kernel,←hx,←hF h (by simp [Op.operands]),←hF m (by simp [Op.operands])]
     generalize F x=sx at hn
     unfold Aj
     split
     ·rename_i g _ _ h' _ _ m' _ _ _
      rw [hn g (by simp [S.names,V.names,W.names])]
     ·rfl
     ·rfl
  |none=>
   have hx:=hF x (by simp [Op.operands])
   have hn:=ho x (by simp [Op.operands])
   have hlo:lo.map F=lo.map F':=by
    cases lo with
    |none=>rfl
    |some l=>simp [hF l (by simp [Op.operands])]
   have hhi:hi.map F=hi.map F':=by
    cases hi with
    |none=>rfl
    |some l=>simp [hF l (by simp [Op.operands])]
   simp only [kernel,←hx,←hlo,←hhi]
   generalize F x=sx at hn
   split
   ·rename_i x _
    have hn :∀g∈x.names,o g=o' g:=fun g hg=>hn g (by simpa [S.names,V.names] using hg)
    rw [←Ed hn]
    split
    ·split
     ·split
      ·rw [hn _ (by simp [W.names])]
      all_goals rfl
     ·rfl
    ·rfl
   ·rfl
   ·rfl
 |fieldAddr t x n=>
  have hx:=hF x (by simp [Op.operands])
  have hn:=ho x (by simp [Op.operands])
  simp only [kernel,←hx]
  generalize F x=sx at hn
  split
  ·rw [zC fun g hg=>hn g (by simpa [S.names,V.names] using hg)]
  ·rfl
 |field t x n=>simp only [kernel,←hF x (by simp [Op.operands])]
 |indexAddr t x ix=>
  have hx:=hF x (by simp [Op.operands])
  have hn:=ho x (by simp [Op.operands])
  simp only [kernel,←hx,←hF ix (by simp [Op.operands])]
  generalize F x=sx at hn
  split
  ·rename_i x a i n _ _
   have hn :∀g∈x.names,o g=o' g:=fun g hg=>hn g (by simpa [S.names,V.names] using hg)
   split
   ·rw [hn _ (by simp [W.names])]
   ·rw [hn _ (by simp [W.names])]
   all_goals rfl
  ·rfl
  ·rw [zC fun g hg=>hn g (by simpa [S.names,V.names] using hg)]
  ·rfl
 |index t x ix=>simp only [kernel,←hF x (by simp [Op.operands]),←hF ix (by simp [Op.operands])]
 |extract t n=>simp only [kernel,←hF t (by simp [Op.operands])]
 |range t x=>simp only [kernel,←hF x (by simp [Op.operands])]
 |makeFunc fn first caps=>
  cases fn with
  |func g=>
   simp only [kernel]
   have hc :∀x∈caps.toList,F x=F' x:=fun x hx=>hF x (by simp [Op.operands];exact .inr (by simpa using hx))
   have :∀l:List Operand,(∀x∈l,F x=F' x)→∀(G:Option (List W)→Option Ae),G (l.mapM (fun x=>match F x with | .v (.one w)=>some w | _=>none))=G (l.mapM (fun x=>match F' x with | .v (.one w)=>some w | _=>none)):=by
    intro l hl G
    congr 1
    induction l with
    |nil=>rfl
    |cons x l ih=>
     simp only [List.mapM_cons]
     rw [hl x (by simp),ih fun y hy=>hl y (by simp [hy])]
   split
   ·exact this _ hc fun z=>match z with | some ws=>some (.pure (.v (.one (.clo g ws)))) | none=>none
   ·rfl
  |_=>rfl
 |call c=>
  obtain ⟨callee,args,ts⟩:=c
  have ha :∀x∈args.toList,F x=F' x:=fun x hx=>hF x (by simp [Op.operands,Call.operands];exact .inr (by simpa using hx))
  have hb :∀x∈args.toList,∀g∈(F x).names,o g=o' g:=fun x hx=>ho x (by simp [Op.operands,Call.operands];exact .inr (by simpa using hx))
  cases callee with
  |builtin b=>
   cases b with
   |append=>
    simp only [kernel]
    split
    ·rename_i s x sT xT _ hl _
     have hs:=ha s (by rw [hl];simp)
     have hx:=ha x (by rw [hl];simp)
     have ns:=hb s (by rw [hl];simp)
     have nx:=hb x (by rw [hl];simp)
     rw [←hs,←hx]
     generalize F s=ss at ns
     generalize F x=sx at nx
     split
     ·exact MW (fun g hg=>ns g (by simpa [S.names,V.names] using hg)) (fun g hg=>nx g (by simpa [S.names,V.names] using hg))
     ·rfl
    ·rfl
   |clear=>
    simp only [kernel]
    split
    ·rename_i x t tl hl _
     have hx:=ha x (by rw [hl];simp)
     have nx:=hb x (by rw [hl];simp)
     rw [←hx]
     generalize F x=sx at nx
     unfold LW
     split
     ·rename_i e _ _ _ g lo hi _
      rw [nx g (by simp [S.names,V.names,W.names])]
      split
      ·rename_i ie _ _ _ _ _ _
       have:nV o (ie.zero.map cv)=nV o' (ie.zero.map cv):=lg fun x hx g hg=>by
        obtain ⟨v,_,rfl⟩:=List.mem_map.1 hx
        rw [kL] at hg;cases hg
       rw [this]
      ·rfl
     ·rfl
    ·rfl
   |copy=>
    simp only [kernel]
    split
    ·rename_i x y t tl hl _
     have hx:=ha x (by rw [hl];simp)
     have hy:=ha y (by rw [hl];simp)
     have nx:=hb x (by rw [hl];simp)
     rw [←hx,←hy]
     generalize F x=sx at nx
     unfold UD
     split
     ·rename_i e _ _ _ g _ _ _ _ _
      rw [nx g (by simp [S.names,V.names,W.names])]
     ·rfl
    ·rfl
   |len=>
    simp only [kernel]
    split
    ·rename_i x t hl _
     have hx:=ha x (by rw [hl];simp)
     have nx:=hb x (by rw [hl];simp)
     rw [←hx]
     generalize F x=sx at nx
     split
     ·rw [Ed fun g hg=>nx g (by simpa [S.names,V.names] using hg)]
     ·rfl
     ·rfl
    ·rfl
   |min=>
    simp only [kernel]
    split
    ·rename_i x y hl
     rw [ha x (by rw [hl];simp),ha y (by rw [hl];simp)]
    ·rename_i x y z hl
     rw [ha x (by rw [hl];simp),ha y (by rw [hl];simp),ha z (by rw [hl];simp)]
    ·rfl
   |max=>
    simp only [kernel]
    split
    ·rename_i x y hl
     rw [ha x (by rw [hl];simp),ha y (by rw [hl];simp)]
    ·rename_i x y z hl
     rw [ha x (by rw [hl];simp),ha y (by rw [hl];simp),ha z (by rw [hl];simp)]
    ·rfl
   |_=>rfl
  |_=>rfl
 |_=>rfl
theorem yt {col:Nat→Option Nat} :∀{xs:List W} {j:Nat},(∀x∈xs,∀g∈x.names,Agree o o' g)→Ov o col j xs=Ov o' col j xs
 | [],_,_=>rfl
 |x::xs,j,h=>by
  have hx:=h x (by simp)
  simp only [Ov]
  rw [yt fun y hy=>h y (by simp [hy]),CW hx]
  cases x with
  |own e=>simp only [(hx e (by simp [W.names])).1]
  |_=>rfl
theorem zF {col:Nat→Option Nat} :∀{xs:List W} {j:Nat} {ys:List P} {a i:Bool} {gs:List Nat} {es:List (Nat×Nat)},Ov o col j xs=some (ys,a,i,gs,es)→(∀x∈xs,∀g∈x.names,Agree o o' g)→∀g∈gs,Agree o o' g
 | [],j,ys,a,i,gs,es,h,_=>by simp [Ov] at h;obtain ⟨_,_,_,rfl,_⟩:=h;simp
 |x::xs,j,ys,a,i,gs,es,h,hx=>by
  simp only [Ov] at h
  split at h
  ·cases h
  ·rename_i ys' a' i' gs' es' h2
   have ih:=zF h2 (fun y hy=>hx y (by simp [hy]))
   split at h
   ·split at h
    ·rename_i h1
     simp only [Option.some.injEq,Prod.mk.injEq] at h
     obtain ⟨_,_,_,rfl,_⟩:=h
     intro g hg
     rcases List.mem_append.1 hg with hg | hg
     ·exact zB h1 (hx x (by simp)) g hg
     ·exact ih g hg
    ·cases h
   ·split at h
    ·split at h
     rotate_left
     ·cases h
     simp only [Option.some.injEq,Prod.mk.injEq] at h
     obtain ⟨_,_,_,rfl,_⟩:=h
     exact ih
    ·split at h
     ·split at h
      ·simp only [Option.some.injEq,Prod.mk.injEq] at h
       obtain ⟨_,_,_,rfl,_⟩:=h
       exact ih
      ·cases h
     ·cases h
    ·cases h
theorem Py {x:W} (h :∀g∈x.names,Agree o o' g):baseD o x=baseD o' x:=by
 cases x<;>simp only [baseD]<;>(try rw [lH (h _ (by simp [W.names])),(h _ (by simp [W.names])).1])
theorem JM {tt:TT} {dc:List (Nat×Nat)} {d:Nat} {F F':Operand→S} {op:Op} {ty:TypeId} (hF :∀x∈op.operands.toList,F x=F' x) (hO :∀x∈op.operands.toList,∀g∈(F x).names,Agree o o' g) :
  bQ tt dc d o F op ty=bQ tt dc d o' F' op ty:=by
 cases op with
 |load t x=>
  have hx:=hF x (by simp [Op.operands])
  have hn:=hO x (by simp [Op.operands])
  simp only [bQ,sD,←hx]
  generalize F x=sx at hn
  congr 1
  ·split
   ·have hg:=hn _ (by simp [S.names,V.names,W.names];rfl)
    rw [←lH hg]
   ·rfl
  ·split
   ·have hg:=hn _ (by simp [S.names,V.names,W.names];rfl)
    rw [←lH hg,←hg.1]
   ·rfl
 |slice t x lo hi mx=>
  cases lo with
  |some _=>rfl
  |none=>
  cases mx with
  |some _=>rfl
  |none=>
  have hx:=hF x (by simp [Op.operands])
  have hn:=hO x (by simp [Op.operands])
  have hh:hi.map F=hi.map F':=by
   cases hi with
   |none=>rfl
   |some y=>simp only [Option.map_some,Option.some.injEq];exact hF y (by simp [Op.operands])
  simp only [bQ,←hx,←hh]
  generalize F x=sx at hn
  split
  ·have hg:=hn _ (by simp [S.names,V.names,W.names];rfl)
   rw [←hg.1]
  ·rfl
 |store t x y=>
  have hx:=hF x (by simp [Op.operands])
  have hy:=hF y (by simp [Op.operands])
  have hn:=hO x (by simp [Op.operands])
  have hm:=hO y (by simp [Op.operands])
  simp only [bQ,←hx,←hy]
  generalize F x=sx at hn
  generalize F y=sy at hm
  split
  ·rename_i g off y _
   have hg:=hn _ (by simp [S.names,V.names,W.names];rfl)
   have hw :∀x∈y.words,∀g∈x.names,Agree o o' g:=fun x hx g hg=>hm g (wS hx hg)
   rw [←lH hg,←hg.1]
   split
   ·rename_i a0 i0 sz ah l0 hole _
    rw [←yt hw]
    split
    ·rename_i ps a' i' gs es hz
     rw [jW (zF hz hw)]
    ·rfl
   ·rfl
  ·rfl
 |buildSlice t n ps=>
  have e:ps.toList.map (fun p=>(p.1,F p.2))=ps.toList.map (fun p=>(p.1,F' p.2)):=List.map_congr_left fun p hp=>by
   rw [hF p.2 (by simp only [Op.operands];exact List.mem_map.2 ⟨p,hp,rfl⟩)]
  simp only [bQ,←e]
  split
  ·split
   ·rename_i ie _
    split
    ·rename_i ws hws
     have hn :∀x∈ws,∀g∈x.names,Agree o o' g:=by
      intro x hx g hg
      rcases zD hws x hx with h | ⟨p,hp,h⟩
      ·have:=qR h
       obtain ⟨v,_,rfl⟩:=List.mem_map.1 this
       rw [kL] at hg;cases hg
      ·obtain ⟨q,hq,rfl⟩:=List.mem_map.1 hp
       exact hO q.2 (by simp only [Op.operands];exact List.mem_map.2 ⟨q,hq,rfl⟩) g (h g hg)
     rw [←yt hn]
     split
     ·rename_i h
      rw [jW (zF h hn)]
     ·rfl
    ·rfl
   ·rfl
  ·rfl
 |makeSlice t n c=>
  simp only [bQ,←hF n (by simp [Op.operands]),←hF c (by simp [Op.operands])]
  split
  ·split
   ·rename_i ie _
    have :∀col,Ov o col 0 (ie.zero.map cv)=Ov o' col 0 (ie.zero.map cv):=fun col=>yt fun x hx g hg=>by
     obtain ⟨v,_,rfl⟩:=List.mem_map.1 hx
     rw [kL] at hg;cases hg
    rw [this]
   ·rfl
  ·rfl
 |call c=>
  obtain ⟨callee,args,ts⟩:=c
  have ha :∀x∈args.toList,F x=F' x:=fun x hx=>hF x (by simp [Op.operands,Call.operands];exact .inr (by simpa using hx))
  have hb :∀x∈args.toList,∀g∈(F x).names,Agree o o' g:=fun x hx=>hO x (by simp [Op.operands,Call.operands];exact .inr (by simpa using hx))
  cases callee with
  |builtin b=>
   cases b with
   |append=>
    simp only [bQ]
    split
    ·rename_i s x sT xT _ hl _
     have hs:=ha s (by rw [hl];simp)
     have hx:=ha x (by rw [hl];simp)
     have ns:=hb s (by rw [hl];simp)
     have nx:=hb x (by rw [hl];simp)
     rw [←hs,←hx]
     generalize F s=ss at ns
     generalize F x=sx at nx
     split
     ·rename_i s' g2 _ _
      have hg:=nx g2 (by simp [S.names,V.names,W.names])
      rw [←Py (fun g hg=>ns g (by simpa [S.names,V.names] using hg)),←lH hg,←hg.1]
     ·rfl
    ·rfl
   |_=>rfl
  |_=>rfl
 |_=>rfl
end
end Go.Fw

namespace Go.Fw
open Go.RowKit
set_option linter.unusedSectionVars false
set_option linter.unusedVariables false
set_option linter.unusedSimpArgs false
variable [dA]
def quiet:Obj→Bool
 |.loop _=>true
 |.deferred _=>true
 |_=>false
theorem rC {o:Obj} (h:quiet o=true) :∀c e f,o≠.cells c e f:=by intro c e f e';subst e';cases h
theorem Xb {o:Obj} (h:quiet o=true):blk o=false:=by cases o<;>first | rfl | cases h
theorem qj {o ob:Obj} (h:quiet o=true) (h':blk ob=true):ob≠o:=by rintro rfl;rw [Xb h] at h';cases h'
theorem He {o:Obj} (h:quiet o=true) :∀s k,o≠.stringIter s k:=by intro s k e';subst e';cases h
section
variable {w w':World} {b:Nat} {o:Obj}
theorem Hf {a:Addr} {v:Value} (h:w.cell? a=some v) :∃c e f,w.heap[a.block]?=some (.cells c e f):=by
 obtain ⟨o,ho,hc⟩:=cells_of_cell h
 cases o<;>first | exact ⟨_,_,_,ho⟩ | cases hc
theorem aU.turn (hb:w.heap[b]?=some o) (hq:quiet o=true) (hs :∀k,k≠b→w'.heap[k]?=w.heap[k]?) {ok:Nat→Prop} {x:P} {v:Value} (r:aU w ok x v):aU w' ok x v:=by
 have ne :∀{k c e f},w.heap[k]?=some (.cells c e f)→k≠b:=fun hk e'=>by subst e';rw [hb] at hk;exact rC hq _ _ _ (Option.some.inj hk)
 induction r with
 |int k n=>exact .int k n
 |bool b=>exact .bool b
 |str s=>exact .str s
 |opq v h=>exact .opq v h
 |nil sz ao cap=>exact .nil sz ao cap
 |sl sz l a cap f hs' hok hcap hlen hc hr ih=>
  refine .sl sz l a cap f hs' hok hcap hlen (fun i x hx j y hy => ?_) (fun i x hx j y hy=>ih i x hx j y hy)
  have h0:=hc i x hx j y hy
  obtain ⟨c,e,f,hk⟩:=Hf h0
  rw [←h0]
  exact World.cell?_of_block (w:=w) (hs _ (ne hk))
 |mp sz l r es ck f hok hb' he hlen hc hr ih=>
  exact .mp sz l r es ck f hok ((hs _ fun e'=>by rw [e',hb] at hb';exact (qj hq (ob:=.map es ck) rfl) (Option.some.inj hb').symm).trans hb') he hlen hc fun i x hx j y hy=>ih i x hx j y hy
 |seq l v S hv hS hq'=>
  exact .seq l v S hv (fun b' hb'=>⟨(hS b' hb').1,by obtain ⟨c,e,f,hk⟩:=(hS b' hb').2;exact ⟨c,e,f,(hs _ (ne hk)).trans hk⟩⟩)
   (dA.Uz (fun b' hb'=>by obtain ⟨c,e,f,hk⟩:=(hS b' hb').2;exact hs _ (ne hk)) hq')
variable {E:Env} {st:St} {gh:Nat→Gh}
theorem uU (hz:w'.heap.size=w.heap.size) {a i:Bool}:E.ok st gh w a i=E.ok st gh w' a i:=by
 funext b;unfold Env.ok;rw [hz]
theorem dP.turn (hb:w.heap[b]?=some o) (hq:quiet o=true) (hs :∀k,k≠b→w'.heap[k]?=w.heap[k]?) (hz:w'.heap.size=w.heap.size) {x:W} {v:Value} (r:dP E st gh w x v):dP E st gh w' x v:=by
 induction r with
 |p a i x v h=>exact .p a i x v (by rw [←uU hz];exact h.turn hb hq hs)
 |bg=>exact .bg
 |own g v hv h=>exact .own g v hv h
 |vw g lo hi v hv h=>exact .vw g lo hi v hv h
 |box g off v hv h=>exact .box g off v hv h
 |ep g n off v hv h=>exact .ep g n off v hv h
 |sp a i row off b' o' hb' h=>
  refine .sp a i row off b' o' (by rw [←uU hz];exact hb') fun j y hj => ?_
  obtain ⟨u,hu,hr⟩:=h j y hj
  obtain ⟨c,e,f,hk⟩:=Hf hu
  refine ⟨u,?_,by rw [←uU hz];exact hr.turn hb hq hs⟩
  rw [←hu]
  refine World.cell?_of_block (w:=w) (hs _ fun e' => ?_)
  have hk:w.heap[b']?=some (.cells c e f):=hk
  have e':b'=b:=e'
  rw [e',hb] at hk;exact rC hq _ _ _ (Option.some.inj hk)
 |gl g=>exact .gl g
 |lQ g v hv h=>exact .lQ g v hv h
 |gd b x v h ih=>exact .gd b x v ih
 |clo f caps vs hl h ih=>exact .clo f caps vs hl ih
 |no v=>exact .no v
theorem qK.turn (hb:w.heap[b]?=some o) (hq:quiet o=true) (hs :∀k,k≠b→w'.heap[k]?=w.heap[k]?) (hz:w'.heap.size=w.heap.size) {x:V} {v:Value} (r:qK E st gh w x v):qK E st gh w' x v:=by
 cases r with
 |one x v h=>exact .one x v (h.turn hb hq hs hz)
 |agg xs cs hl hv h=>exact .agg xs cs hl hv fun j x v hx hv'=>(h j x v hx hv').turn hb hq hs hz
theorem bD.turn (hb:w.heap[b]?=some o) (hq:quiet o=true) (hs :∀k,k≠b→w'.heap[k]?=w.heap[k]?) (hz:w'.heap.size=w.heap.size) {x:S} {v:Value} (r:bD E st gh w x v):bD E st gh w' x v:=by
 cases r with
 |v x v h=>exact .v x v (h.turn hb hq hs hz)
 |jH xs vs hl h=>exact .jH xs vs hl fun j x v hx hv=>(h j x v hx hv).turn hb hq hs hz
 |no v=>exact .no v
theorem dw.turn (hb:w.heap[b]?=some o) (hq:quiet o=true) (hs :∀k,k≠b→w'.heap[k]?=w.heap[k]?) (hz:w'.heap.size=w.heap.size) {a i:Bool} {sz:Nat} {l:List (List P)} {G:Gh} (r:dw E st gh w a i sz l G):dw E st gh w' a i sz l G:=by
 rcases r with r | ⟨ad,ob,h1,h2,h3,h4,h6,h7⟩
 ·exact .inl r
 ·exact .inr ⟨ad,ob,h1,h2,(hs _ fun e'=>by rw [e',hb] at h3;exact qj hq h4.blk (Option.some.inj h3).symm).trans h3,h4,h6,fun n x hx j y hy=>let ⟨v,q1,q2⟩:=h7 n x hx j y hy;⟨v,q1,by rw [←uU hz];exact q2.turn hb hq hs⟩⟩
theorem kF.turn (hb:w.heap[b]?=some o) (hq:quiet o=true) (hs :∀k,k≠b→w'.heap[k]?=w.heap[k]?) (hz:w'.heap.size=w.heap.size) {x:O} {G:Gh} (r:kF E st gh w x G):kF E st gh w' x G:=by
 have ne :∀{k c e f},w.heap[k]?=some (.cells c e f)→k≠b:=fun hk e'=>by subst e';rw [hb] at hk;exact rC hq _ _ _ (Option.some.inj hk)
 cases x with
 |none=>trivial
 |box ws=>
  obtain ⟨ad,c,e,h1,h2,h3,h4,h5⟩:=r
  exact ⟨ad,c,e,h1,h2,(hs _ (ne h3)).trans h3,h4,fun j x hx=>let ⟨v,q1,q2,q3⟩:=h5 j x hx;⟨v,q1,q2,q3.turn hb hq hs hz⟩⟩
 |arr fz a i sz l=>
  cases fz with
  |true=>exact (by rw [←uU hz];exact aU.turn hb hq hs r:aU w' (E.ok st gh w' a i) (Yu sz l) (hdl sz G.ad (ml sz l) G.cap))
  |false=>exact dw.turn hb hq hs hz r
 |ay a i sz ah l hole=>
  have nb :∀{k ob},w.heap[k]?=some ob→blk ob=true→k≠b:=fun hk hbk e'=>by rw [e',hb] at hk;exact qj hq hbk (Option.some.inj hk).symm
  rcases r with r | ⟨ad,ob,h1,h2,h3,h4,h6,⟨h7,h7'⟩,h8⟩
  ·exact .inl r
  ·refine .inr ⟨ad,ob,h1,h2,(hs _ (nb h3 h4.blk)).trans h3,h4,h6,⟨h7,fun k hk=>let ⟨ob,q,q'⟩:=h7' k hk;⟨ob,(hs _ (nb q q')).trans q,q'⟩⟩,fun n x hx j y hy => ?_⟩
   obtain ⟨v,hv,hr⟩:=h8 n x hx j y hy
   refine ⟨v,hv,?_⟩
   unfold gB at *
   cases hc:ah.lookup j with
   |none=>rw [hc] at hr;exact (by rw [←uU hz];exact aU.turn hb hq hs hr:aU w' (E.ok st gh w' a i) y v)
   |some sz'=>
    rw [hc] at hr
    simp only at *
    cases hh:fM hole n j with
    |some d=>rw [hh] at hr;exact ⟨hr.1,hr.2.turn hb hq hs hz⟩
    |none=>
     rw [hh] at hr
     obtain ⟨l',ao,k,q1,q2,q3,q4⟩:=hr
     exact ⟨l',ao,k,q1,q2,q3.turn hb hq hs hz,q4⟩
 |it s n=>
  obtain ⟨ad,bs,k,h1,h2,h3,h4⟩:=r
  refine ⟨ad,bs,k,h1,h2,h3,(hs _ fun e' => ?_).trans h4⟩
  rw [e',hb] at h4;exact He hq _ _ (Option.some.inj h4)
theorem Rel.turn {val:Nat→Value} (h:Rel E st gh val w) (hb:w.heap[b]?=some o) (hq:quiet o=true) (hB:E.B0≤b) (o':Obj):Rel E st gh val (w.putObj b o'):=by
 have hs :∀k,k≠b→(w.putObj b o').heap[k]?=w.heap[k]?:=fun k hk=>World.putObj_heap_other hk
 have hz:(w.putObj b o').heap.size=w.heap.size:=World.putObj_size
 exact ⟨fun t=>(h.slots t).turn hb hq hs hz,fun g=>(h.aJ g).turn hb hq hs hz,h.inj,fun g a h1 h2=>by rw [hz];exact h.wr g a h1 h2,h.wi,h.ns,h.wb,fun k hk hw=>(hs k (by omega)).trans (h.frame k hk hw),by rw [hz];exact h.size,h.os,h.tape,h.output,h.us,h.uo,h.ul⟩
omit [dA] in
structure AU (w w':World):Prop where
 size:w.heap.size≤w'.heap.size
 same :∀b,b<w.heap.size→w'.heap[b]?=w.heap[b]?
 os:w'.os=w.os
 tape:w'.tape=w.tape
 output:w'.output=w.output
theorem AU.alloc (w:World) (o:Obj):AU w (w.alloc o):=
 ⟨by simp,fun b hb=>Below.heap_alloc w o b hb,rfl,rfl,rfl⟩
theorem AU.lets (h:AU w w'):Lets E st st gh gh w w':=
 ⟨fun a i b hb=>⟨⟨hb.1,Nat.lt_of_lt_of_le hb.2.1 h.size,hb.2.2⟩,h.same b hb.2.1⟩,fun g _=>.inr ⟨⟨rfl,rfl⟩,O.dM _⟩⟩
theorem Rel.grows {val:Nat→Value} (h:Rel E st gh val w) (hg:AU w w'):Rel E st gh val w':=by
 have hl:Lets E st st gh gh w w':=hg.lets
 refine ⟨fun t=>hl.abr (h.us t) (h.slots t),fun g=>hl.Ah (fun ho ad had=>hg.same _ (h.wr g ad ho had).2) (h.uo g) (h.aJ g),h.inj,fun g a h1 h2=>⟨(h.wr g a h1 h2).1,Nat.lt_of_lt_of_le (h.wr g a h1 h2).2 hg.size⟩,h.wi,h.ns,h.wb,fun k hk hw=>(hg.same k (Nat.lt_of_lt_of_le hk h.size)).trans (h.frame k hk hw),Nat.le_trans h.size hg.size,hg.os.trans h.os,hg.tape.trans h.tape,hg.output.trans h.output,h.us,h.uo,h.ul⟩
theorem Rel.YU {val:Nat→Value} (h:Rel E st gh val w) (hb:w.heap[b]?=some o) (hq:quiet o=true) (hB:E.B0≤b) (a i:Bool):E.ok st gh w a i b:=by
 refine ⟨.inr (.inr (.inl hB)),(Array.getElem?_eq_some_iff.1 hb).1,fun g ho had => ?_⟩
 have hO:=h.aJ g
 rcases had with ⟨ad,had,e⟩ | hsub
 case inr=>
  cases hd:(st.o g).mY with
  |false=>rw [h.ns g ho hd b] at hsub;cases hsub
  |true=>
   cases hog:st.o g with
   |ay a i sz ah l hole=>
    rw [hog] at hO
    rcases hO with ⟨_,_,_,q,_⟩ | ⟨ad,ob,_,_,_,_,_,⟨_,q⟩,_⟩
    ·rw [q b] at hsub;cases hsub
    ·obtain ⟨ob,q,q'⟩:=q b hsub
     rw [hb] at q;exact qj hq q' (Option.some.inj q).symm
   |_=>rw [hog] at hd;cases hd
 cases hog:st.o g with
 |none=>rw [hog] at ho;cases ho
 |box ws=>
  rw [hog] at hO
  obtain ⟨ad',c,e',q1,_,q3,_⟩:=hO
  rw [had] at q1;cases q1
  rw [e,hb] at q3;exact rC hq _ _ _ (Option.some.inj q3)
 |ay a i sz ah l hole=>
  rw [hog] at hO
  rcases hO with ⟨q1,_⟩ | ⟨ad',ob,q1,_,q3,q4,_⟩
  ·rw [had] at q1;cases q1
  ·rw [had] at q1;cases q1
   rw [e,hb] at q3;exact qj hq q4.blk (Option.some.inj q3).symm
 |arr fz a i sz l=>
  cases fz with
  |true=>rw [hog] at ho;cases ho
  |false=>
   rw [hog] at hO
   rcases hO with ⟨q1,_⟩ | ⟨ad',ob,q1,_,q3,q4,_⟩
   ·rw [had] at q1;cases q1
   ·rw [had] at q1;cases q1
    rw [e,hb] at q3;exact qj hq q4.blk (Option.some.inj q3).symm
 |it s n=>
  rw [hog] at hO
  obtain ⟨ad',bs,k,q1,_,_,q4⟩:=hO
  rw [had] at q1;cases q1
  rw [e,hb] at q4;exact He hq _ _ (Option.some.inj q4)
end
end Go.Fw

