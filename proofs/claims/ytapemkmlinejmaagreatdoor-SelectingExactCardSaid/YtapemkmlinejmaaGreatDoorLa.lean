/-
  The plain proofs: what the functions compute answers as the law says.
-/
import Derived.Test.YtapemkmlinejmaaGreatDoorFgB
import Derived.Test.YtapemkmlinejmaaGreatDoorZd
import Derived.Laws.RangeString
set_option linter.unusedSimpArgs false
set_option linter.unusedVariables false
set_option linter.unusedSectionVars false
namespace Go.Fg.YtapemkmlinejmaaGreatDoor
open Go.Fw
theorem aee {l:List Int} {a z:Nat} {v:Int} (ha:a<l.length):(l.set a v).getD z 0=if z=a then v else l.getD z 0:=by
 rw [List.getD_eq_getElem?_getD,List.getD_eq_getElem?_getD];by_cases h:z=a
 .subst h;rw [vi ha,if_pos rfl];rfl
 .rw [List.getElem?_set_ne (fun e=>h e.symm),if_neg h]
def Ends (bs:List aJ):Prop :=∀b,b<bs.length->((bs.getD b ah).bG≠3->0<=(bs.getD b ah).fB/\(bs.getD b ah).fB<bs.length)/\((bs.getD b ah).bG=2->0<=(bs.getD b ah).bV/\(bs.getD b ah).bV<bs.length)
def aaA (bs:List aJ):Prop :=∀S:Nat->Prop,S 0->(∀b,b<bs.length->S b->((bs.getD b ah).bG≠3->S (bs.getD b ah).fB.toNat)/\((bs.getD b ah).bG=2->S (bs.getD b ah).bV.toNat))->∀b,b<bs.length->S b
def succs (k t e:Int):List Int:=if k=2/\e≠t then [t,e] else if k=1\/k=2 then [t] else []
theorem TL (k a t e:Int):f72 k a t e=some (succs k t e):=by
 apply ok_eq;unfold f72 succs;refine bC (fun y=>y=decide (k=2/\e≠t)) ?_ fun y hy => ?_
 .refine dG (fun h=>aF ?_) (fun h=>aF ?_)
  .have h:k=2:=by simpa using h
   by_cases h2:e=t<;>simp [h,h2]
  .have h:¬ k=2:=by simpa using h
   simp [h]
 subst hy;refine dG (fun h=>aF ?_) (fun h => ?_)
 .rw [if_pos (by simpa using h)]
 .rw [if_neg (by simpa using h)];refine bC (fun y=>y=decide (k=1\/k=2)) ?_ fun y hy => ?_
  .refine dG (fun h=>aF ?_) (fun h=>aF ?_)
   .have h:k=1:=by simpa using h
    simp [h]
   .have h:¬ k=1:=by simpa using h
    simp [h]
  .subst hy;refine dG (fun h=>aF ?_) (fun h=>aF ?_)
   .rw [if_pos (by simpa using h)]
   .rw [if_neg (by simpa using h)]
def oq (bs:List aJ) (b:Nat):List Int:=succs (bs.getD b ah).bG (bs.getD b ah).fB (bs.getD b ah).bV
def wU (bs:List aJ):Prop:=Ends bs/\∀b,b<bs.length->(bs.getD b ah).bG=1\/(bs.getD b ah).bG=2\/(bs.getD b ah).bG=3
theorem V7 {bs:List aJ} (h:wU bs) {b:Nat} (hb:b<bs.length) :∀x∈oq bs b,0<=x/\x<bs.length:=by
 obtain ⟨h1,h2⟩:=h;obtain ⟨e1,e2⟩:=h1 b hb;have hk:=h2 b hb;intro x hx;unfold oq succs at hx;split at hx
 .rename_i hc;rcases QQ.1 hx with rfl | hx
  .exact e1 (by omega)
  .rw [QP] at hx;rw [hx];exact e2 hc.1
 .split at hx
  .rename_i hc;rw [QP] at hx;rw [hx];exact e1 (by omega)
  .cases hx
def cntF (l:List Bool):Nat:=l.count false
theorem TM {l:List Bool} {k:Nat} (hk:k<l.length) (hf:l.getD k false=false):cntF (l.set k true)+1=cntF l:=by
 unfold cntF;rw [getD_at _ hk] at hf;have hp:0<l.count false:=List.count_pos_iff.2 (hf▸QR hk);rw [List.count_set hk,hf];simp;omega
theorem uQ {l:List Bool} {a z:Nat} {v:Bool} (ha:a<l.length):(l.set a v).getD z false=if z=a then v else l.getD z false:=by
 rw [List.getD_eq_getElem?_getD,List.getD_eq_getElem?_getD];by_cases h:z=a
 .subst h;rw [vi ha,if_pos rfl];rfl
 .rw [List.getElem?_set_ne (fun e=>h e.symm),if_neg h]
structure Mk (bs:List aJ) (m:List Bool) (st:List Int):Prop where
 len:m.length=bs.length
 zero:m.getD 0 false=true
 stk :∀x∈st,(0<=x/\x<bs.length)/\m.getD x.toNat false=true
 all :∀S:Nat->Prop,S 0->(∀b,b<bs.length->S b->∀x∈oq bs b,S x.toNat)->∀b,b<bs.length->m.getD b false=true->S b
theorem TN {nm:List UInt8} {a b:Int} {bs:List aJ} (hE:wU bs) (h0:0<bs.length) (hl:bs.length<=1000000) :
  Ok (f49 nm a b bs) fun m=>Mk bs m []/\∀b,b<bs.length->m.getD b false=true->∀x∈oq bs b,m.getD x.toNat false=true:=by
 unfold f49;refine bT (qQ.2 (by omega)) ?_;refine b_ (decide_eq_false (by simp only [UP,Q6];omega)) (bT (aG.2 (by simp only [UP,Q6];omega)) ?_);refine bC (fun m=>Mk bs m []/\∀b,b<bs.length->m.getD b false=true->∀x∈oq bs b,m.getD x.toNat false=true) ?_ fun y hy=>aF hy;have hz:(List.replicate ((bs.length:Int)).toNat false).length=bs.length:=by simp
 refine bJ (fun s:List Bool×List Int=>Mk bs s.1 s.2/\s.2.length+cntF s.1<=bs.length/\∀b,b<bs.length->s.1.getD b false=true->(b:Int)∈s.2\/∀x∈oq bs b,s.1.getD x.toNat false=true) (fun s=>2*cntF s.1+s.2.length)
  ⟨⟨by simp,by rw [uQ (by rw [hz];exact h0)];simp,fun x hx => ?_,fun S s0 _ b hb hm => ?_⟩,?_,fun b hb hm=>.inl ?_⟩ fun s ⟨h1,hsz,h2⟩ => ?_
 .rw [QP] at hx;subst hx;refine ⟨by omega,?_⟩;rw [uQ (by rw [hz];exact h0)];simp
 .simp only at hm;rw [uQ (by rw [hz];exact h0)] at hm;split at hm
  .rename_i e;rw [e];exact s0
  .rw [getD_at _ (by rw [hz];exact hb)] at hm;simp at hm
 .have hc:=TM (l:=List.replicate ((bs.length:Int)).toNat false) (k:=0) (by rw [hz];exact h0) (by rw [getD_at _ (by rw [hz];exact h0)];simp);have:cntF (List.replicate ((bs.length:Int)).toNat false)=bs.length:=by simp [cntF,List.count_replicate]
  simp only [Zs,vb];omega
 .simp only at hm;rw [uQ (by rw [hz];exact h0)] at hm;split at hm
  .rename_i e;simp [e]
  .rw [getD_at _ (by rw [hz];exact hb)] at hm;simp at hm
 obtain ⟨m,st⟩:=s;simp only at h1 h2 hsz;refine dG (fun hne => ?_) (fun he=>aF ?_)
 rotate_left
 .have:st=[]:=by simpa using he
  subst this;exact ⟨h1,fun b hb hm=>(h2 b hb hm).resolve_left (by simp)⟩
 have hpos:0<st.length:=by simpa using hne
 have hw:dJ ((st.length:Int)-1)=((st.length-1:Nat):Int):=by rw [aH (by omega)];omega
 simp only [hw,Q6];refine bT (aG.2 (by omega)) (bT (by simp) ?_);have hlast:st.getD (st.length-1) 0∈st:=by rw [getD_at _ (by omega)];exact QR _
 have hst:st=st.take (st.length-1)++[st.getD (st.length-1) 0]:=by
  rw [getD_at _ (by omega),<-take_snoc (by omega),show st.length-1+1=st.length from by omega,JN]
 obtain ⟨hx1,hx2⟩:=h1.stk _ hlast;generalize st.getD (st.length-1) 0=x at hlast hst hx1 hx2 ⊢;obtain ⟨q,rfl⟩ :∃n:Nat,x=n:=⟨x.toNat,by omega⟩;rw [Q6] at hx2;have hq:q<bs.length:=by omega
 have htl:(st.take (st.length-1)).length=st.length-1:=by simp
 generalize st.take (st.length-1)=st' at hst htl ⊢;refine bT (aG.2 (by omega)) ?_;simp only [Q6];refine fA (TL _ _ _ _) ?_;have asx:=V7 hE hq;have aoi:succs (bs.getD q ah).bG (bs.getD q ah).fB (bs.getD q ah).bV=oq bs q:=rfl;rw [aoi];refine bC (fun y=>Mk bs y.1 y.2/\2*cntF y.1+y.2.length<=2*cntF m+st'.length/\y.2.length+cntF y.1<=st'.length+cntF m/\(∀b,b<bs.length->m.getD b false=true->y.1.getD b false=true)/\(∀z∈st',z∈y.2)/\
   (∀b,b<bs.length->y.1.getD b false=true->m.getD b false=false->(b:Int)∈y.2)/\∀x∈oq bs q,y.1.getD x.toNat false=true) ?_ fun y ⟨a1,a2,a3,a4,a5,a6,a7⟩=>aF ⟨⟨a1,?_,fun b hb hm => ?_⟩,?_⟩
 .have hm0:Mk bs m st':=⟨h1.len,h1.zero,fun x hx=>h1.stk x (by rw [hst];exact W6 _ hx),h1.all⟩;refine ajH (oq bs q) (fun i s=>(i,s.1,s.2)) (fun s x=>if s.1.getD x.toNat false then s else (s.1.set x.toNat true,s.2++[x]))
   (fun i s=>Mk bs s.1 s.2/\2*cntF s.1+s.2.length<=2*cntF m+st'.length/\s.2.length+cntF s.1<=st'.length+cntF m/\(∀b,b<bs.length->m.getD b false=true->s.1.getD b false=true)/\(∀z∈st',z∈s.2)/\
    (∀b,b<bs.length->s.1.getD b false=true->m.getD b false=false->(b:Int)∈s.2)/\∀j,(hj:j<(oq bs q).length)->j<i->s.1.getD ((oq bs q)[j]).toNat false=true)
   (s0:=(m,st')) rfl ⟨hm0,Z1 _,Z1 _,fun _ _ h=>h,fun _ h=>h,fun b _ h h'=>(by rw [h] at h';cases h'),fun j _ h=>by omega⟩ (fun i h s ⟨b1,b2,b3,b4,b5,b6,b7⟩ _ => ?_) (fun s ⟨b1,b2,b3,b4,b5,b6,b7⟩ _ => ?_)
  rotate_left
  .refine b_ (decide_eq_false (by simp only;omega)) (aF ⟨b1,b2,b3,b4,b5,b6,fun x hx => ?_⟩);obtain ⟨j,hj,e⟩:=Wt hx;rw [<-e];exact b7 j hj hj
  obtain ⟨mk,sk⟩:=s;simp only at b1 b2 b3 b4 b5 b6 b7;have hs2:(oq bs q).length<=2:=by unfold oq succs;(repeat' split)<;>simp
  have hmem:=QR h;have hxr:=asx _ hmem;have hlen:=b1.len;refine goT (decide_eq_true (by simp only;omega)) (bT (aG.2 ⟨by simp only;omega,by simp only;omega⟩) ?_);have e:(oq bs q).getD i 0=(oq bs q)[i]:=getD_at _ h;simp only [Q6,e];have hnew :∀(mk':List Bool) (b':Nat),b'<bs.length->mk'.getD b' false=true->True:=fun _ _ _ _=>trivial;refine bT (aG.2 (by omega)) ?_;generalize hgx:(oq bs q)[i]=x at hmem hxr ⊢;have hxl:x.toNat<mk.length:=by omega
  refine bC (fun y=>y=if mk.getD x.toNat false then (mk,sk) else (mk.set x.toNat true,sk++[x])) ?_ fun y hy => ?_
  .refine dG (fun hc => ?_) (fun hc=>aF ?_)
   .have hc:mk.getD x.toNat false=false:=by simpa using hc
    refine bT (aG.2 ⟨by omega,by omega⟩) ?_;refine bT (aG.2 (by omega)) (bT (aG.2 ⟨by omega,by omega⟩) (bT (by unfold aX;simp;omega) (aF ?_)));rw [if_neg (by rw [hc];simp)]
   .have hc:mk.getD x.toNat false=true:=by simpa using hc
    rw [if_pos hc]
  .subst hy;refine aF ⟨by rw [aH (x:=(i:Int)+1) (by omega)],?_⟩;by_cases hc:mk.getD x.toNat false=true
   .simp only [if_pos hc];refine ⟨b1,b2,b3,b4,b5,b6,fun j hj hji => ?_⟩;by_cases e2:j=i
    .subst e2;rw [hgx];exact hc
    .exact b7 j hj (by omega)
   .simp only [if_neg hc];have hcf:mk.getD x.toNat false=false:=by simpa using hc
    have hcnt:=TM hxl hcf;have hset :∀z,(mk.set x.toNat true).getD z false=if z=x.toNat then true else mk.getD z false:=fun z=>uQ hxl
    refine ⟨⟨by simp [hlen],?_,fun z hz => ?_,fun S s0 hcl z hz hm => ?_⟩,by simp;omega,by simp;omega,fun z hz hm => ?_,fun z hz=>W6 _ (b5 z hz),fun z hz hm hf => ?_,fun j hj hji => ?_⟩
    .rw [hset];split
     .rfl
     .exact b1.zero
    .rcases X2.1 hz with hz | hz
     .obtain ⟨r1,r2⟩:=b1.stk z hz;refine ⟨r1,?_⟩;rw [hset];split
      .rfl
      .exact r2
     .rw [QP] at hz;subst hz;refine ⟨hxr,?_⟩;rw [hset,if_pos rfl]
    .rw [hset] at hm;split at hm
     .rename_i e2;rw [e2];exact hcl q hq (h1.all S s0 hcl q hq hx2) x hmem
     .exact b1.all S s0 hcl z hz hm
    .rw [hset];split
     .rfl
     .exact b4 z hz hm
    .rw [hset] at hm;split at hm
     .rename_i e2;refine K0 _ ?_;rw [QP];omega
     .exact W6 _ (b6 z hz hm hf)
    .rw [hset];by_cases e2:j=i
     .subst e2;rw [hgx,if_pos rfl]
     .split
      .rfl
      .exact b7 j hj (by omega)
 .have:st.length=st'.length+1:=by rw [hst];simp
  (try simp only);omega
 .try simp only at hm ⊢
  cases hmb:m.getD b false with
  |false=>exact .inl (a6 b hb hm hmb)
  |true=>
   by_cases e:b=q
   .subst e;exact .inr a7
   .rcases h2 b hb hmb with h | h
    .rw [hst] at h;rcases X2.1 h with h | h
     .exact .inl (a5 _ h)
     .rw [QP] at h;omega
    .refine .inr fun x hx => ?_;have:=V7 hE hb x hx;exact a4 x.toNat (by omega) (h x hx)
 .have:st.length=st'.length+1:=by rw [hst];simp
  (try simp only);omega
def Good (f:aY):Prop:=f.blocks.length<=1000/\0<f.blocks.length/\wU f.blocks/\aaA f.blocks
def idx (m:List Bool):Nat->List Nat
 |0=>[]
 |i+1=>idx m i++if m.getD i false then [i] else []
def rk (m:List Bool) (i:Nat):Nat:=(idx m i).length
theorem YG (m:List Bool) (i:Nat):rk m (i+1)=rk m i+if m.getD i false then 1 else 0:=by
 show (idx m i++if m.getD i false then [i] else []).length=(idx m i).length+_;rw [Ys];split<;>rfl
theorem Dv {m:List Bool} :∀{n j:Nat},j∈idx m n->j<n/\m.getD j false=true
 |n+1,j,h=>by
  rcases X2.1 h with h | h
  .have:=Dv h;exact ⟨by omega,this.2⟩
  .split at h
   .rename_i e;rw [QP] at h;subst h;exact ⟨by omega,e⟩
   .cases h
theorem Kv {m:List Bool} :∀{n j:Nat},j<n->m.getD j false=true->(idx m n)[rk m j]?=some j
 |n+1,j,h,hm=>by
  unfold idx;by_cases e:j=n
  .subst e;show (idx m j++if m.getD j false then [j] else [])[(idx m j).length]?=_;rw [W5 (Z1 _),if_pos hm,Nat.sub_self];rfl
  .have:=Kv (n:=n) (by omega) hm;rw [W8 (Q3.1 this).1];exact this
theorem aef (m:List Bool) (i:Nat):rk m i<=i:=by
 induction i with
 |zero=>exact Z1 _
 |succ i ih=>rw [YG];split<;>omega
def ren (m:List Bool) (t:aJ):aJ:=
 { t with fB:=if t.bG=3 then t.fB else (rk m t.fB.toNat:Int),bV:=if t.bG=2 then (rk m t.bV.toNat:Int) else t.bV }
def wW (m:List Bool) (bs:List aJ):List aJ:=(idx m bs.length).map fun j=>ren m (bs.getD j ah)
theorem Dw {bs:List aJ} {b:Nat}:((bs.getD b ah).bG=1\/(bs.getD b ah).bG=2->(bs.getD b ah).fB∈oq bs b)/\((bs.getD b ah).bG=2->(bs.getD b ah).bV∈oq bs b):=by
 unfold oq succs;constructor
 .intro h;split
  .simp
  .first
   |(rw [if_pos h];simp)
   |simp
 .intro h;split
  .simp
  .rename_i hc
   first
    |rw [if_pos (.inr h)]
    |skip
   have:(bs.getD b ah).bV=(bs.getD b ah).fB:=Decidable.byContradiction fun e=>hc ⟨h,e⟩;rw [this];exact QP.2 rfl
theorem aaB {bs:List aJ} {m:List Bool} (hE:wU bs) (h0:0<bs.length) (hM:Mk bs m []) (hc :∀b,b<bs.length->m.getD b false=true->∀x∈oq bs b,m.getD x.toNat false=true) :
  0<(wW m bs).length/\(wW m bs).length<=bs.length/\wU (wW m bs)/\aaA (wW m bs):=by
 have hlen:(wW m bs).length=rk m bs.length:=by unfold wW rk;simp
 have hlt :∀j,j<bs.length->m.getD j false=true->rk m j<(wW m bs).length:=by
  intro j hj hm;have:=(Q3.1 (Kv hj hm)).1;rw [hlen];exact this
 have hget :∀p,p<(wW m bs).length->∃j,j<bs.length/\m.getD j false=true/\rk m j=p/\(wW m bs).getD p ah=ren m (bs.getD j ah):=by
  intro p hp;have hp':p<(idx m bs.length).length:=by unfold wW at hp;simpa using hp
  have hm:=Dv (QR hp');refine ⟨(idx m bs.length)[p],hm.1,hm.2,?_,?_⟩
  .have h1:=Kv hm.1 hm.2;have key :∀n,∀a b:Nat,(idx m n)[a]?=(idx m n)[b]?->a<(idx m n).length->a=b:=by
    intro n
    induction n with
    |zero=>intro a b _ h;simp [idx] at h
    |succ n ih=>
     intro a b hab ha;unfold idx at hab ha;by_cases hn:m.getD n false=true
     .rw [if_pos hn] at hab ha;rw [Ys] at ha;by_cases ha2:a<(idx m n).length
      .rw [W8 ha2] at hab;by_cases hb2:b<(idx m n).length
       .rw [W8 hb2] at hab;exact ih a b hab ha2
       .rw [W5 (by omega),Q2 ha2] at hab;have hbb:b-(idx m n).length=0:=by
         have:=(Q3.1 hab.symm).1;simp at this;omega
        rw [hbb] at hab;have:=Dv (QR ha2);simp at hab;omega
      .have haa:a=(idx m n).length:=by simp at ha;omega
       rw [W5 (by omega),haa,Nat.sub_self] at hab;by_cases hb2:b<(idx m n).length
       .rw [W8 hb2,Q2 hb2] at hab;have:=Dv (QR hb2);simp at hab;omega
       .rw [W5 (by omega)] at hab;have:=(Q3.1 hab.symm).1;simp at this;omega
     .rw [if_neg hn,Ki] at hab ha;exact ih a b hab ha
   refine (key bs.length p _ ?_ hp').symm;rw [h1,Q2 hp']
  .unfold wW;rw [List.getD_eq_getElem?_getD,XS,Q2 hp'];rfl
 have hz:rk m 0=0:=rfl;refine ⟨by have:=hlt 0 h0 hM.zero;omega,by rw [hlen];exact aef _ _,⟨fun p hp => ?_,fun p hp => ?_⟩,fun S s0 hS p hp => ?_⟩
 .obtain ⟨j,hj,hm,_,e⟩:=hget p hp;obtain ⟨e1,e2⟩:=hE.1 j hj;have hk:=hE.2 j hj;have hs:=Dw (bs:=bs) (b:=j);rw [e];unfold ren;simp only;refine ⟨fun hk3 => ?_,fun hk2 => ?_⟩
  .rw [if_neg hk3];have:=hlt _ (by have:=e1 hk3;omega) (hc j hj hm _ (hs.1 (by omega)));omega
  .rw [if_pos hk2];have:=hlt _ (by have:=e2 hk2;omega) (hc j hj hm _ (hs.2 hk2));omega
 .obtain ⟨j,hj,hm,_,e⟩:=hget p hp;rw [e];exact hE.2 j hj
 .obtain ⟨j,hj,hm,hr,_⟩:=hget p hp;have:=hM.all (fun b=>m.getD b false=true/\S (rk m b)) ⟨hM.zero,s0⟩ (fun b hb ⟨hbm,hbS⟩ x hx=>⟨hc b hb hbm x hx,?_⟩) j hj hm
  .rw [<-hr];exact this.2
  .have hbl:=hlt b hb hbm;obtain ⟨j',hj',hm',hr',e'⟩:=hget _ hbl;have hjb:j'=b:=by
    have h1:=Kv hj' hm';have h2:=Kv hb hbm;rw [hr',h2] at h1;exact (Wc h1).symm
   subst hjb;obtain ⟨c1,c2⟩:=hS _ hbl hbS;rw [e'] at c1 c2;unfold ren at c1 c2;simp only at c1 c2;unfold oq succs at hx;split at hx
   .rename_i hk;rcases QQ.1 hx with rfl | hx
    .have:=c1 (by omega);rw [if_neg (by omega)] at this;simpa using this
    .rw [QP] at hx;subst hx;have:=c2 hk.1;rw [if_pos hk.1] at this;simpa using this
   .split at hx
    .rename_i hk;rw [QP] at hx;subst hx;have:=c1 (by omega);rw [if_neg (by omega)] at this;simpa using this
    .cases hx
theorem aeg (m:List Bool) (i:Nat):idx m (i+1)=idx m i++if m.getD i false then [i] else []:=rfl
theorem Kw {nm:List UInt8} {a b:Int} {bs:List aJ} (hE:wU bs) (h0:0<bs.length) (hl:bs.length<=1000000) :
  Ok (f37 nm a b bs) fun y=>y.1=nm/\y.2.1=a/\y.2.2.1=b/\0<y.2.2.2.length/\y.2.2.2.length<=bs.length/\wU y.2.2.2/\aaA y.2.2.2/\∀x∈y.2.2.2,∃t∈bs,x.instrs=t.instrs/\x.bG=t.bG/\x.j_=t.j_:=by
 unfold f37;refine bC _ (TN hE h0 hl) fun m ⟨hM,hc⟩ => ?_;have hml:=hM.len;refine bT (qQ.2 (by omega)) ?_;refine bC (fun y=>y.length=bs.length/\∀j,j<bs.length->y.getD j 0=(rk m j:Int)) ?_ fun nums ⟨hn1,hn2⟩ => ?_
 .refine bJ (fun s:Int×Int×List Int =>∃i:Nat,s.2.1=i/\i<=bs.length/\s.1=(rk m i:Int)/\s.2.2.length=bs.length/\∀j,j<i->s.2.2.getD j 0=(rk m j:Int)) (fun s=>bs.length-s.2.1.toNat)
   ⟨0,rfl,by omega,rfl,by simp [hml],fun j h=>by omega⟩ fun s ⟨i,e1,e2,e3,e4,e5⟩ => ?_
  obtain ⟨k,i',l⟩:=s;simp only at e1 e3 e4 e5;subst e1;subst e3;refine dG (fun hi => ?_) (fun hi=>aF ⟨e4,fun j hj=>e5 j ?_⟩)
  rotate_left
  .simp at hi;omega
  have hi:i<bs.length:=by simp at hi;omega
  have hrk:=aef m i;refine bT (aG.2 ⟨by simp only;omega,by simp only;omega⟩) (bT (aG.2 ⟨by simp only;omega,by simp only;omega⟩) ?_);simp only [Q6];refine bC (fun y=>y=(rk m (i+1):Int)) ?_ fun y hy => ?_
  .rw [YG];refine dG (fun hm=>aF ?_) (fun hm=>aF ?_)
   .rw [if_pos hm,aH (by omega)];simp
   .rw [if_neg (by rw [hm];simp)];simp
  .subst hy;refine aF ⟨⟨i+1,by simp only;rw [aH (x:=(i:Int)+1) (by omega)];simp,by omega,rfl,by simp [e4],fun j hj => ?_⟩,by simp only;rw [aH (x:=(i:Int)+1) (by omega)];omega⟩;simp only;rw [aee (by omega)];split
   .rename_i e;rw [e]
   .exact e5 j (by omega)
 refine bC (fun y=>y=(nm,a,b,wW m bs)) ?_ fun y hy => ?_
 rotate_left
 .subst hy;obtain ⟨c1,c2,c3,c4⟩:=aaB hE h0 hM hc;exact aF ⟨rfl,rfl,rfl,c1,c2,c3,c4,fun x hx=>by
   obtain ⟨j,hj,e⟩:=X1.1 hx;have hj:=(Dv hj).1;exact ⟨bs.getD j ah,by rw [getD_at _ hj];exact QR _,by subst e;exact ⟨rfl,rfl,rfl⟩⟩⟩
 refine bJ (fun s:Int×List UInt8×Int×Int×List aJ =>∃i:Nat,i<=bs.length/\s=((i:Int),nm,a,b,(idx m i).map fun j=>ren m (bs.getD j ah))) (fun s=>bs.length-s.1.toNat)
  ⟨0,by omega,rfl⟩ fun s ⟨i,e2,e⟩ => ?_
 subst e;refine dG (fun hi => ?_) (fun hi=>aF ?_)
 rotate_left
 .have:i=bs.length:=by simp at hi;omega
  subst this;rfl
 have hi:i<bs.length:=by simp at hi;omega
 have hrk:=aef m i;refine bC (fun y=>y=(nm,a,b,(idx m (i+1)).map fun j=>ren m (bs.getD j ah))) ?_ fun y hy => ?_
 rotate_left
 .subst hy;refine aF ⟨⟨i+1,by omega,?_⟩,by simp only;rw [aH (x:=(i:Int)+1) (by omega)];omega⟩;simp only;rw [aH (x:=(i:Int)+1) (by omega)];rfl
 refine bT (aG.2 ⟨by simp only;omega,by simp only;omega⟩) ?_;simp only [Q6];rw [aeg];refine dG (fun hm=>aF ?_) (fun hm => ?_)
 .have hm:m.getD i false=false:=by simpa using hm
  rw [if_neg (by rw [hm];simp),Ki]
 have hm:m.getD i false=true:=by simpa using hm
 rw [if_pos hm];obtain ⟨t1,t2⟩:=hE.1 i hi;refine bT (aG.2 (by omega)) ?_;have iI:ren m (bs.getD i ah)={ bs.getD i ah with fB:=if (bs.getD i ah).bG=3 then (bs.getD i ah).fB else (rk m (bs.getD i ah).fB.toNat:Int),bV:=if (bs.getD i ah).bG=2 then (rk m (bs.getD i ah).bV.toNat:Int) else (bs.getD i ah).bV }:=rfl;have hmap:(idx m i++[i]).map (fun j=>ren m (bs.getD j ah))=(idx m i).map (fun j=>ren m (bs.getD j ah))++[ren m (bs.getD i ah)]:=by simp
 have hll:((idx m i).map fun j=>ren m (bs.getD j ah)).length=rk m i:=by unfold rk;simp
 rw [hmap];generalize (idx m i).map (fun j=>ren m (bs.getD j ah))=acc at hll ⊢;rw [iI];refine bC (fun y=>y=((bs.getD i ah).instrs,(bs.getD i ah).bG,(bs.getD i ah).j_,(if (bs.getD i ah).bG=3 then (bs.getD i ah).fB else (rk m (bs.getD i ah).fB.toNat:Int)),(bs.getD i ah).bV,(bs.getD i ah).line,(bs.getD i ah).g_,(bs.getD i ah).gJ)) ?_ fun y hy => ?_
 .refine dG (fun hk => ?_) (fun hk=>aF ?_)
  .have hk:¬ (bs.getD i ah).bG=3:=by simpa using hk
   have:=t1 hk;refine bT (aG.2 (by omega)) (aF ?_);rw [if_neg hk,hn2 _ (by omega)]
  .have hk:(bs.getD i ah).bG=3:=by simpa using hk
   rw [if_pos hk]
 subst hy;refine bC (fun y=>y=((bs.getD i ah).instrs,(bs.getD i ah).bG,(bs.getD i ah).j_,(if (bs.getD i ah).bG=3 then (bs.getD i ah).fB else (rk m (bs.getD i ah).fB.toNat:Int)),(if (bs.getD i ah).bG=2 then (rk m (bs.getD i ah).bV.toNat:Int) else (bs.getD i ah).bV),(bs.getD i ah).line,(bs.getD i ah).g_,(bs.getD i ah).gJ)) ?_ fun y hy => ?_
 .refine dG (fun hk => ?_) (fun hk=>aF ?_)
  .have hk:(bs.getD i ah).bG=2:=by simpa using hk
   have:=t2 hk;refine bT (aG.2 ⟨by simp only;omega,by simp only;omega⟩) (aF ?_);simp only;rw [if_pos hk,hn2 _ (by omega)]
  .have hk:¬ (bs.getD i ah).bG=2:=by simpa using hk
   (try simp only)
   rw [if_neg hk]
 subst hy;refine bT (by unfold aX;simp;omega) (aF rfl)
def Bytes (l:List Int):Prop:=l.length<=9223372036854775807/\∀x∈l,0<=x/\x<=255
theorem bytes_at {l:List Int} (h:Bytes l) {n:Int} (h0:0<=n) (h1:n<l.length):0<=l.getD n.toNat 0/\l.getD n.toNat 0<=255:=by
 rw [getD_at 0 (by omega)];exact h.2 _ (QR _)
def TQ (n:Int) (l:List Int) (y:Int×(List Int×Int)):Prop:=y.2.1=l/\0<=y.2.2/\0<=y.1/\(1<=n->y.1<n)/\(n<=1->y.1=0)
theorem Nk {rec:Int->List Int->Int->Option (Int×(List Int×Int))} {n:Int} {l:List Int} {i:Int} (hl:Bytes l) (hi:0<=i) (hn:n<=65536)
  (hrec:256<n->∀j,0<=j->Ok (rec 256 l j) (TQ 256 l)):Ok (agh rec n l i) (TQ n l):=by
 unfold agh;simp only [Hf,VF,zh,ac3,XW,SI,aG,not_iff];have tail:(n≥1)->i<l.length->(0<=i/\i<(l.length:Int))/\(256<n->Ok (rec 256 l (dJ (i+1))) fun y=>¬ n=0/\TQ n l (Int.tmod (dJ (dJ (256*dJ (l.getD i.toNat 0))+y.1)) n,y.2.1,y.2.2))/\(¬ 256<n->¬ n=0/\TQ n l (Int.tmod (dJ (l.getD i.toNat 0)) n,l,dJ (i+1))):=by
  intro h1 h2;have hb:=bytes_at hl hi h2;have hl':=hl.1;rw [aH (x:=i+1) (by omega),aH (x:=l.getD i.toNat 0) (by omega),aH (x:=256*l.getD i.toNat 0) (by omega)];refine ⟨⟨hi,h2⟩,fun h3=>jR (hrec h3 (i+1) (by omega)) fun y hy => ?_,fun h3=>⟨by omega,?_⟩⟩
  .obtain ⟨q1,q2,q3,q4,q5⟩:=hy;have q4:=q4 (by omega);rw [aH (by omega)];refine ⟨by omega,q1,q2,?_⟩;have:=tmod_lt (a:=256*l.getD i.toNat 0+y.1) (b:=n) (by omega) (by omega);exact ⟨this.1,fun _=>this.2,fun _=>by omega⟩
  .have:=tmod_lt (a:=l.getD i.toNat 0) (b:=n) hb.1 (by omega);refine ⟨rfl,by simp;omega,this.1,fun _=>this.2,fun _ => ?_⟩;have e:n=1:=by omega
   subst e;have:=this.2;have:=this;simp only;omega
 refine ⟨fun h=>⟨fun _=>⟨rfl,hi,WK _,fun h=>by simp only;omega,fun _=>rfl⟩,fun h0=>by cases h0⟩,fun h=>⟨fun h1=>⟨rfl,hi,WK _,fun h=>by simp only;omega,fun _=>rfl⟩,fun h1 => ?_⟩⟩;exact tail (by omega) (by omega)
theorem Nl (k:Nat):agi (k+1)=agh (agi k):=rfl
theorem ag_ {n:Int} {l:List Int} {i:Int} (hl:Bytes l) (hi:0<=i) (hn:n<=65536):Ok (f12 n l i) (TQ n l):=by
 have e:f12 n l i=agi (1048574+2) n l i:=rfl;rw [e,Nl];refine Nk hl hi hn fun _ j hj => ?_;rw [Nl];exact Nk hl hj (by omega) fun h=>absurd h (by omega)
theorem aky {l:List Int} {n:Int} (hl:Bytes l) (hn:0<=n):Ok (f7 l n) fun y=>y.2=0/\Bytes y.1:=by
 unfold f7;simp only [Hf,VF,zh,ac3,XW,SI,J8];refine ⟨fun h=>⟨⟨⟨by omega,hn⟩,by omega⟩,trivial,?_⟩,fun h=>⟨trivial,hl⟩⟩;simp only [vb,List.drop_zero];exact ⟨by have:=hl.1;simp;omega,fun x hx=>hl.2 x (W7 hx)⟩
theorem aaC (k:Nat):VP (k+1)=agt (VP k):=rfl
theorem Gq :∀(k:Nat) (n:Int),0<=n->n<k->k<=1048576->Ok (VP k n) fun s=>s.length<=k
 |0,n,h0,h1,_=>by omega
 |k+1,n,h0,h1,h2=>by
  rw [aaC];unfold agt;refine dG (fun hc => ?_) (fun hc=>aF (by simp));have hc:10<=n:=by simpa using hc
  have hd:Int.tdiv n 10=n/10:=Int.tdiv_eq_ediv_of_nonneg h0;have hw:dJ (Int.tdiv n 10)=n/10:=by rw [hd];exact aH (by omega)
  rw [hw];refine bC _ (Gq k (n/10) (by omega) (by omega) (by omega)) fun y hy=>bT (oL.2 (by simp;omega)) (aF (by simp;omega))
theorem aaD {n:Int} (h0:0<=n) (h1:n<1048576):Ok (f52 n) fun s=>s.length<=1048576:=Gq _ n h0 h1 (Z1 _)
theorem goN {β:Type} {n:Int} {l:List Int} {i:Int} {f:Int×List Int×Int->Option β} {Q:β->Prop} (hb:Bytes l) (hi:0<=i) (hn:n<=65536)
  (k :∀x j,0<=j->0<=x->(1<=n->x<n)->Ok (f (x,l,j)) Q):Ok (Option.bind (f12 n l i) f) Q:=
 bC _ (ag_ hb hi hn) fun ⟨x,l',j⟩ ⟨(e:l'=l),h1,h2,h3,_⟩=>by subst e;exact k x j h1 h2 h3
theorem jg {α:Type} {l:List α} {a z:Nat} {v d:α} (ha:a<l.length):(l.set a v).getD z d=if z=a then v else l.getD z d:=by
 rw [List.getD_eq_getElem?_getD,List.getD_eq_getElem?_getD];by_cases h:z=a
 .subst h;rw [vi ha,if_pos rfl];rfl
 .rw [List.getElem?_set_ne (fun e=>h e.symm),if_neg h]
theorem akz {A α:Type} {a b:A} {x:Option α} {Q:α->Prop}:Ok (yt a b x) Q↔a=b/\Ok x Q:=by
 unfold yt;split
 .rename_i e;exact ⟨fun h=>⟨e,h⟩,fun h=>h.2⟩
 .rename_i e;exact ⟨fun ⟨_,h,_⟩=>(by cases h),fun h=>absurd h.1 e⟩
theorem goK {A α:Type} {a b:A} {x:Option α} {Q:α->Prop} (e:a=b) (h:Ok x Q):Ok (yt a b x) Q:=akz.2 ⟨e,h⟩
def iY (fs:List aA):List (List UInt8×Nat):=fs.map fun f=>(f.name,f.params.length)
def PG (a:Bool) (g:List aB) (nm:List UInt8):Prop :=∃x∈g,x.name=nm/\decide (0<x.size)=a
def NV (g:List aB) (lo:List (List UInt8)) (nm:List UInt8):Prop:=nm∈lo\/PG false g nm
inductive RX (g:List aB) (sg:List (List UInt8×Nat)) (lo:List (List UInt8)):Nat->aP->Prop
 |leaf {n:Nat} {k o v i:Int} {nm:List UInt8}:k=1\/k=12->RX g sg lo (n+1) (aP.mk k o v i nm [])
 |name {n:Nat} {o v i:Int} {nm:List UInt8}:NV g lo nm->RX g sg lo (n+1) (aP.mk 13 o v i nm [])
 |func {n:Nat} {o v i:Int} {nm:List UInt8} {q:Nat}:(nm,q)∈sg->RX g sg lo (n+1) (aP.mk 11 o v i nm [])
 |elem {n:Nat} {o v i:Int} {nm:List UInt8} {a:aP}:PG true g nm->RX g sg lo n a->RX g sg lo (n+1) (aP.mk 4 o v i nm [a])
 |un {n:Nat} {o v i:Int} {nm:List UInt8} {a:aP}:o=1\/o=2->RX g sg lo n a->RX g sg lo (n+1) (aP.mk 5 o v i nm [a])
 |bin {n:Nat} {o v i:Int} {nm:List UInt8} {a b:aP}:3<=o/\o<=11->RX g sg lo n a->RX g sg lo n b->RX g sg lo (n+1) (aP.mk 6 o v i nm [a,b])
 |lazy {n:Nat} {k o v i:Int} {nm:List UInt8} {a b:aP}:k=7\/k=8->RX g sg lo n a->RX g sg lo n b->RX g sg lo (n+1) (aP.mk k o v i nm [a,b])
 |call {n:Nat} {o v i:Int} {nm:List UInt8} {ar:List aP}:1<=n->(nm,ar.length)∈sg\/NV g lo nm->ar.length<=2->(∀y∈ar,RX g sg lo n y)->RX g sg lo (n+1) (aP.mk 9 o v i nm ar)
 |value {n:Nat} {o v i:Int} {nm:List UInt8} {f:aP} {ar:List aP}:ar.length<=2->RX g sg lo n f->(∀y∈ar,RX g sg lo n y)->RX g sg lo (n+1) (aP.mk 10 o v i nm (f::ar))
theorem NV.mono {g:List aB} {lo lo':List (List UInt8)} {nm:List UInt8} (hl :∀x∈lo,x∈lo') (h:NV g lo nm):NV g lo' nm:=h.imp (hl nm) id
theorem RX.up {g:List aB} {sg:List (List UInt8×Nat)} {lo:List (List UInt8)} {n:Nat} {x:aP} (h:RX g sg lo n x):RX g sg lo (n+1) x:=by
 induction h with
 |leaf h=>exact .leaf h
 |name h=>exact .name h
 |func h=>exact .func h
 |elem h _ ih=>exact .elem h ih
 |un h _ ih=>exact .un h ih
 |bin h _ _ i1 i2=>exact .bin h i1 i2
 |lazy h _ _ i1 i2=>exact .lazy h i1 i2
 |call h1 h2 h3 _ ih=>exact .call (by omega) h2 h3 ih
 |value h1 _ _ i1 i2=>exact .value h1 i1 i2
structure Env (l:List Int) (g:List aB) (fs:List aA) (lo:List (List UInt8)):Prop where
 b:Bytes l
 g:g.length<=100
 f0:0<fs.length
 f1:fs.length<=100
 fp :∀f∈fs,f.params.length<=2
 lo:lo.length<=100
section
variable {l:List Int} {g:List aB} {fs:List aA} {lo:List (List UInt8)}
theorem aha {a:Bool} {b i:Int} (h:Env l g fs lo) (hi:0<=i):Ok (Yg a b l i g fs lo) fun y =>∃nm t j,0<=j/\(t=true->PG a g nm)/\y=(nm,t,b,l,j,g,fs,lo):=by
 unfold Yg;refine bC (fun y =>∃nm t j,0<=j/\(t=true->PG a g nm)/\y=(nm,t,b,l,j,g,fs,lo)) ?_ fun y ⟨nm,t,j,hj,hn,e⟩=>by subst e;exact bT (by simp) (bT (by simp) (bT (by simp) (aF ⟨nm,t,j,hj,hn,rfl⟩)))
 have hg:=h.g;refine bC (fun s=>s.length<=100/\∀x∈s,PG a g x) ?_ fun s ⟨hs,hn⟩ => ?_
 .refine bJ (fun s:Int×List (List UInt8)=>(0<=s.1/\s.1<=g.length/\s.2.length<=s.1)/\∀x∈s.2,PG a g x) (fun s=>(g.length-s.1).toNat) ⟨⟨by simp,by simp,by simp⟩,fun x hx=>by cases hx⟩ fun ⟨q,s⟩ ⟨⟨e1,e2,e3⟩,e4⟩ => ?_;simp only at e1 e2 e3 e4;refine dG (fun hc => ?_) (fun hc=>aF ⟨by simp only;omega,e4⟩);have hc:q<g.length:=by simpa using hc
  have hgm:g.getD q.toNat (aB.mk bH 0)∈g:=by rw [getD_at _ (by omega:q.toNat<g.length)];exact QR _
  refine bT (aG.2 ⟨e1,hc⟩) (bC (fun s'=>s'.length<=s.length+1/\∀x∈s',PG a g x) ?_ fun s' ⟨hs',hn'⟩=>aF ⟨⟨⟨?_,?_,?_⟩,hn'⟩,?_⟩)
  .refine dG (fun hz=>bT (aG.2 ⟨e1,hc⟩) (bT (by unfold aX;simp;omega) (aF ⟨by simp,fun x hx => ?_⟩))) fun _=>aF ⟨by simp,e4⟩;rcases X2.1 hx with hx | hx
   .exact e4 x hx
   .rw [QP] at hx;subst hx;exact ⟨_,hgm,rfl,by simpa using hz⟩
  all_goals simp only [aH (x:=q+1) (by omega)];omega
 refine dG (fun _=>aF ⟨_,_,_,hi,fun h=>(by cases h),rfl⟩) fun hc => ?_;have hpos:0<s.length:=by
  simp at hc;cases s with
  |nil=>exact absurd rfl hc
  |cons a s=>simp
 refine goN h.b hi (by omega) fun x j hj h0 h1=>bT (aG.2 ⟨h0,h1 (by omega)⟩) (aF ⟨_,_,_,hj,fun _ => ?_,rfl⟩);have h1:=h1 (by omega);exact hn _ (by rw [getD_at _ (by omega:x.toNat<s.length)];exact QR _)
theorem goP {β:Type} {a:Bool} {b i:Int} {f:List UInt8×Bool×Int×List Int×Int×List aB×List aA×List (List UInt8)->Option β} {Q:β->Prop} (h:Env l g fs lo) (hi:0<=i)
  (k :∀nm t j,0<=j->(t=true->PG a g nm)->Ok (f (nm,t,b,l,j,g,fs,lo)) Q):Ok (Option.bind (f130 a b l i g fs lo) f) Q:=by
 refine bC (fun y =>∃nm t j,0<=j/\(t=true->PG a g nm)/\y=(nm,t,b,l,j,g,fs,lo)) ?_ fun y ⟨nm,t,j,hj,hn,e⟩=>by subst e;exact k nm t j hj hn
 exact bC _ (aha h hi) fun y ⟨nm,t,j,hj,hn,e⟩=>by subst e;exact goK rfl (goK rfl (goK rfl (aF ⟨nm,t,j,hj,hn,rfl⟩)))
theorem ahb {b i:Int} (h:Env l g fs lo) (hi:0<=i):Ok (Yh b l i g fs lo) fun y =>∃k v nm j,0<=j/\RX g (iY fs) lo 1 (aP.mk k 0 v 0 nm [])/\y=(k,0,v,0,nm,b,l,j,g,fs,lo):=by
 unfold Yh;refine bC (fun y =>∃k v nm j,0<=j/\RX g (iY fs) lo 1 (aP.mk k 0 v 0 nm [])/\y=(k,0,v,0,nm,b,l,j,g,fs,lo)) ?_ fun y ⟨k,v,nm,j,hj,hk,e⟩=>by subst e;exact bT (by simp) (bT (by simp) (bT (by simp) (aF ⟨k,v,nm,j,hj,hk,rfl⟩)))
 refine goN h.b hi (by omega) fun x0 j0 h0 _ _=>dG (fun _=>aF ⟨12,_,_,_,h0,.leaf (.inr rfl),rfl⟩) fun _=>iF (fun y =>∃j,0<=j/\y=(b,l,j)) ?_ fun y ⟨j,hj,e⟩ => ?_
 .refine dG (fun _=>goP h h0 fun nm t j hj hn=>dG (fun ht=>aF ⟨13,_,_,_,hj,.name (.inr (hn ht)),rfl⟩) fun _=>aF ⟨_,hj,rfl⟩) fun _=>bC (fun _=>True) ?_ fun s _=>iF (fun _=>True) ?_ fun _ _=>aF ⟨_,h0,rfl⟩
  .exact dG (fun _=>aF trivial) fun _=>aF trivial
  .refine dG (fun _=>dG (fun _=>goN h.b h0 (by have:=h.lo;omega) fun x j hj a1 a2 => ?_) fun _=>aF trivial) fun _=>aF trivial;rename_i hc;have hc:0<lo.length:=by simpa using hc
   have a2:=a2 (by omega);exact bT (aG.2 ⟨a1,a2⟩) (aF ⟨13,_,_,_,hj,.name (.inl (by rw [getD_at _ (by omega:x.toNat<lo.length)];exact QR _)),rfl⟩)
 subst e;refine goN h.b hj (by omega) fun x1 j1 h1 _ _=>goN h.b h1 (by omega) fun x2 j2 h2 _ _=>bC (fun y =>∃v j,0<=j/\y=(v,l,j)) ?_ fun y ⟨v,j,hj,e⟩=>by subst e;exact aF ⟨1,_,_,_,hj,.leaf (.inl rfl),rfl⟩
 exact dG (fun _=>goN h.b h2 (by omega) fun x3 j3 h3 a3 b3=>bT (aG.2 ⟨a3,by have:=b3 (by omega);simp;omega⟩) (aF ⟨_,_,h3,rfl⟩)) fun _=>aF ⟨_,_,h2,rfl⟩
theorem goL {β:Type} {b i:Int} {f:Int×Int×Int×Int×List UInt8×Int×List Int×Int×List aB×List aA×List (List UInt8)->Option β} {Q:β->Prop} (h:Env l g fs lo) (hi:0<=i)
  (k :∀q v nm j,0<=j->RX g (iY fs) lo 1 (aP.mk q 0 v 0 nm [])->Ok (f (q,0,v,0,nm,b,l,j,g,fs,lo)) Q):Ok (Option.bind (f134 b l i g fs lo) f) Q:=by
 refine bC (fun y =>∃k v nm j,0<=j/\RX g (iY fs) lo 1 (aP.mk k 0 v 0 nm [])/\y=(k,0,v,0,nm,b,l,j,g,fs,lo)) ?_ fun y ⟨q,v,nm,j,hj,hk,e⟩=>by subst e;exact k q v nm j hj hk
 exact bC _ (ahb h hi) fun y ⟨q,v,nm,j,hj,hk,e⟩=>by subst e;exact goK rfl (goK rfl (goK rfl (aF ⟨q,v,nm,j,hj,hk,rfl⟩)))
theorem RX.aeh {g:List aB} {sg:List (List UInt8×Nat)} {lo:List (List UInt8)} {x:aP} (h:RX g sg lo 1 x) :∀n,RX g sg lo (n+1) x
 |0=>h
 |n+1=>(h.aeh n).up
def PE (n:Nat) (b:Int) (l:List Int) (g:List aB) (fs:List aA) (lo:List (List UInt8)) (y:Int×Int×Int×Int×List UInt8×List aP×Int×List Int×Int×List aB×List aA×List (List UInt8)):Prop:=
 ∃x j,y=(x.kind,x.op,x.value,x.line,x.name,x.args,b,l,j,g,fs,lo)/\0<=j/\RX g (iY fs) lo n x
def PC (n:Nat) (b:Int) (l:List Int) (g:List aB) (fs:List aA) (lo:List (List UInt8)) (y:Int×Int×Int×Int×List UInt8×Int×List Int×Int×List aB×List aA×List (List UInt8)×List aP):Prop:=
 ∃x j,y=(x.kind,x.op,x.value,x.line,x.name,b,l,j,g,fs,lo,x.args)/\0<=j/\RX g (iY fs) lo n x
theorem YH {n:Nat} {p b i:Int} {r} (h:Ok r (PE n b l g fs lo)):Ok (agP p b l i g fs lo r) (PE n b l g fs lo):=
 bC _ h fun y ⟨x,j,e,h⟩=>by subst e;exact goK rfl (goK rfl (goK rfl (aF ⟨x,j,rfl,h⟩)))
theorem YI {n:Nat} {p b i:Int} {r} (h:Ok r (PC n b l g fs lo)):Ok (agQ p b l i g fs lo r) (PC n b l g fs lo):=
 bC _ h fun y ⟨x,j,e,h⟩=>by subst e;exact goK rfl (goK rfl (goK rfl (aF ⟨x,j,rfl,h⟩)))
theorem goX {β:Type} {rec:Pq} {d n:Nat} (h :∀b i,0<=i->Ok (rec d b l i g fs lo) (PE n b l g fs lo)) {q b i:Int} {f} {Q:β->Prop} (hq:q=d) (hi:0<=i)
  (k :∀k o v i nm ar j,0<=j->RX g (iY fs) lo n (aP.mk k o v i nm ar)->Ok (f (k,o,v,i,nm,ar,b,l,j,g,fs,lo)) Q):Ok (Option.bind (rec q b l i g fs lo) f) Q:=by
 subst hq;exact bC _ (h b i hi) fun y ⟨⟨a1,a2,a3,a4,a5,a6⟩,j,e,h1,h2⟩=>by subst e;exact k _ _ _ _ _ _ j h1 h2
theorem aok {β:Type} {rec:Pv} {d n:Nat} (h :∀b i,0<=i->Ok (rec d b l i g fs lo) (PC n b l g fs lo)) {q b i:Int} {f} {Q:β->Prop} (hq:q=d) (hi:0<=i)
  (k :∀k o v i nm ar j,0<=j->RX g (iY fs) lo n (aP.mk k o v i nm ar)->Ok (f (k,o,v,i,nm,b,l,j,g,fs,lo,ar)) Q):Ok (Option.bind (rec q b l i g fs lo) f) Q:=by
 subst hq;exact bC _ (h b i hi) fun y ⟨⟨a1,a2,a3,a4,a5,a6⟩,j,e,h1,h2⟩=>by subst e;exact k _ _ _ _ _ _ j h1 h2
theorem Np {rec:Pq} {rec':Pv} {d:Nat} (h:Env l g fs lo) (hd:d<=100) (hr :∀b i,0<=i->Ok (rec d b l i g fs lo) (PE (d+1) b l g fs lo)) {b i:Int} (hi:0<=i) :
  Ok (Yt rec rec' (d+1:Nat) b l i g fs lo) (PC (d+2) b l g fs lo):=by
 have hw:dJ (((d+1:Nat):Int)-1)=d:=by rw [aH (by omega)];omega
 have hf0:=h.f0;have hf1:=h.f1;unfold Yt;refine bC (PC (d+2) b l g fs lo) ?_ fun y ⟨x,j,e,h⟩=>by subst e;exact bT (by simp) (bT (by simp) (bT (by simp) (aF ⟨x,j,rfl,h⟩)))
 refine goN h.b hi (by omega) fun x0 j0 h0 a0 b0=>bT (aG.2 ⟨a0,b0 (by omega)⟩) (goN h.b h0 (by omega) fun x1 j1 h1 a1 b1 => ?_);have b0:=b0 (by omega);have hfm:fs.getD x0.toNat bI∈fs:=by rw [getD_at _ (by omega:x0.toNat<fs.length)];exact QR _
 have hsg:((fs.getD x0.toNat bI).name,(fs.getD x0.toNat bI).params.length)∈iY fs:=X1.2 ⟨_,hfm,rfl⟩;have hp2:=h.fp _ hfm;refine bC (fun y =>∃t j,0<=j/\(decide (x1=2)=false->t=false)/\y=(t,l,j)) ?_ fun y ⟨t,j2,h2,ht,e⟩ => ?_
 .exact dG (fun hc=>goN h.b h1 (by omega) fun x j hj _ _=>aF ⟨_,_,hj,fun h=>Bool.noConfusion (h.symm.trans hc),rfl⟩) fun _=>aF ⟨_,_,h1,fun _=>rfl,rfl⟩
 subst e;refine bC (fun y =>∃(q:Int) (j:Int),0<=j/\(0<=q/\q<=2)/\(t=false->q=(fs.getD x0.toNat bI).params.length)/\y=(q,l,j)) ?_ fun y ⟨q,j3,h3,hq2,hqt,e⟩ => ?_
 .refine dG (fun hc=>goN h.b h2 (by omega) fun x j hj c0 c=>aF ⟨x,_,hj,⟨c0,by have:=c (by omega);omega⟩,fun h=>Bool.noConfusion (h.symm.trans hc),rfl⟩) fun _=>aF ⟨_,_,h2,?_,fun _=>rfl,rfl⟩;show 0<=((fs.getD x0.toNat bI).params.length:Int)/\((fs.getD x0.toNat bI).params.length:Int)<=2;omega
 subst e;refine bC (fun y =>∃j ar,0<=j/\(ar.length:Int)=q/\(∀x∈ar,RX g (iY fs) lo (d+1) x)/\y=(b,l,j,ar)) ?_ fun y ⟨j4,ar,h4,l1,l2,e⟩ => ?_
 .refine bJ (fun s:Int×Int×List Int×Int×List aP =>∃j,0<=j/\0<=s.1/\s.1<=q/\(s.2.2.2.2.length:Int)=s.1/\(∀x∈s.2.2.2.2,RX g (iY fs) lo (d+1) x)/\s=(s.1,b,l,j,s.2.2.2.2)) (fun s=>(q-s.1).toNat)
   ⟨j3,h3,by simp,hq2.1,by simp,fun x hx=>(by cases hx),rfl⟩ fun ⟨c,b',l',j',ar⟩ ⟨j,hj,e1,e2,e3,e4,e⟩ => ?_
  simp only at e1 e2 e3 e4;injection e with _ e;injection e with f1 e;injection e with f2 e;injection e with f3 e
  subst f1;subst f2;subst f3;refine dG (fun hc => ?_) (fun hc=>aF ⟨j',ar,hj,by have:¬ c<q:=(by simpa using hc);omega,e4,rfl⟩);have hc:c<q:=by simpa using hc
  refine goX hr hw hj fun _ _ _ _ _ _ j hj hx=>bT (by unfold aX;simp;omega) (aF ⟨⟨j,hj,?_,?_,?_,fun z hz => ?_,rfl⟩,?_⟩)
  all_goals try simp only [aH (x:=c+1) (by omega)]
  .omega
  .omega
  .simp;omega
  .rcases X2.1 hz with hz | hz
   .exact e4 z hz
   .rw [QP] at hz;subst hz;exact hx
  .omega
 subst e;refine dG (fun hn=>aF ⟨aP.mk 9 0 0 0 _ ar,j4,rfl,h4,.call (by omega) (.inl ?_) (by omega) l2⟩) fun _=>goN h.b h4 (by omega) fun x5 j5 h5 _ _ => ?_
 .have hn:decide (x1=2)=false:=by simpa using hn
  have:=hqt (ht hn);rw [show ar.length=(fs.getD x0.toNat bI).params.length from by omega];exact hsg
 refine bC (fun y =>∃x j,0<=j/\RX g (iY fs) lo (d+1) x/\y=(b,l,j,x.kind,x.op,x.value,x.line,x.name,x.args)) ?_ fun y ⟨⟨x1,x2,x3,x4,x5,x6⟩,j6,h6,hx,e⟩ => ?_
 .refine dG (fun _=>goX hr hw h5 fun _ _ _ _ _ _ j hj hx=>aF ⟨aP.mk _ _ _ _ _ _,j,hj,hx,rfl⟩) fun _=>aF ⟨aP.mk 11 0 0 0 _ pY,j5,h5,.func hsg,rfl⟩
 subst e;refine dG (fun hk=>aF ⟨aP.mk 9 0 0 0 x5 ar,j6,rfl,h6,.call (by omega) (.inr ?_) (by omega) l2⟩) fun _=>bT (by unfold aX;simp;omega) (aF ⟨aP.mk 10 0 0 0 bH (aP.mk x1 x2 x3 x4 x5 x6::ar),j6,rfl,h6,.value (by omega) hx l2⟩);have hk:x1=13:=by simpa using hk
 subst hk;cases hx with
 |leaf h=>omega
 |name h=>exact h
 |lazy h _ _=>omega
theorem aaE {rec:Pq} {rec':Pv} {d:Nat} (h:Env l g fs lo) (hd:d<=100) (hr :∀b i,0<=i->Ok (rec d b l i g fs lo) (PE (d+1) b l g fs lo))
  (hc :∀b i,0<=i->Ok (rec' (d+1:Nat) b l i g fs lo) (PC (d+2) b l g fs lo)) {b i:Int} (hi:0<=i) :
  Ok (Nj rec rec' (d+1:Nat) b l i g fs lo) (PE (d+2) b l g fs lo):=by
 have hw:dJ (((d+1:Nat):Int)-1)=d:=by rw [aH (by omega)];omega
 unfold Nj;refine bC (PE (d+2) b l g fs lo) ?_ fun y ⟨x,j,e,h⟩=>by subst e;exact bT (by simp) (bT (by simp) (bT (by simp) (aF ⟨x,j,rfl,h⟩)))
 refine bC (fun y =>∃t j,0<=j/\y=(t,l,j)) ?_ fun y ⟨t,j2,h2,e⟩ => ?_
 .exact dG (fun _=>aF ⟨_,_,hi,rfl⟩) fun _=>goN h.b hi (by omega) fun x j hj _ _=>aF ⟨_,_,hj,rfl⟩
 subst e;refine dG (fun _=>goL h h2 fun q v nm j hj hq=>aF ⟨aP.mk q 0 v 0 nm [],j,rfl,hj,hq.aeh _⟩) fun _=>goN h.b h2 (by omega) fun x3 j3 h3 _ _ => ?_;refine dG (fun _=>goN h.b h3 (by omega) fun x4 j4 h4 a4 b4=>goX hr hw h4 fun _ _ _ _ _ _ j hj hx=>fA rfl (aF ⟨aP.mk 5 _ 0 0 bH [_],j,rfl,hj,.un (by have:=b4 (by omega);rw [aH (by omega)];omega) hx⟩)) fun _ => ?_;refine dG (fun _=>goX hr hw h3 fun _ _ _ _ _ _ j hj hx=>goX hr hw hj fun _ _ _ _ _ _ j hj hz=>fA rfl (aF ⟨aP.mk 7 _ 0 0 bH [_,_],j,rfl,hj,.lazy (.inl rfl) hx hz⟩)) fun _ => ?_;refine dG (fun _=>goX hr hw h3 fun _ _ _ _ _ _ j hj hx=>goX hr hw hj fun _ _ _ _ _ _ j hj hz=>fA rfl (aF ⟨aP.mk 8 _ 0 0 bH [_,_],j,rfl,hj,.lazy (.inr rfl) hx hz⟩)) fun _ => ?_;refine bC (fun _=>True) ?_ fun s _ => ?_
 .exact dG (fun _=>aF trivial) fun _=>aF trivial
 refine dG (fun _=>aok hc rfl h3 fun _ _ _ _ _ _ j hj hx=>aF ⟨aP.mk _ _ _ _ _ _,j,rfl,hj,hx⟩) fun _=>iF (fun y =>∃j,0<=j/\y=(b,l,j)) ?_ fun y ⟨j,hj,e⟩ => ?_
 .exact dG (fun _=>goP h h3 fun nm t j hj hn=>dG (fun ht=>goX hr hw hj fun _ _ _ _ _ _ j hj hx=>aF ⟨aP.mk 4 0 0 0 nm [_],j,rfl,hj,.elem (hn ht) hx⟩) fun _=>aF ⟨_,hj,rfl⟩) fun _=>aF ⟨_,h3,rfl⟩
 subst e;exact goN h.b hj (by omega) fun x5 j5 h5 a5 b5=>goX hr hw h5 fun _ _ _ _ _ _ j hj hx=>goX hr hw hj fun _ _ _ _ _ _ j hj hz=>fA rfl (aF ⟨aP.mk 6 _ 0 0 bH [_,_],j,rfl,hj,.bin (by have:=b5 (by omega);rw [aH (by omega)];omega) hx hz⟩)
theorem aaF {rec:Pq} {rec':Pv} (h:Env l g fs lo) {b i:Int} (hi:0<=i):Ok (Nj rec rec' (0:Nat) b l i g fs lo) (PE 1 b l g fs lo):=by
 unfold Nj;refine bC (PE 1 b l g fs lo) ?_ fun y ⟨x,j,e,h⟩=>by subst e;exact bT (by simp) (bT (by simp) (bT (by simp) (aF ⟨x,j,rfl,h⟩)))
 refine bC (fun y=>y=(true,l,i)) ?_ fun y e => ?_
 .exact goT (decide_eq_true (by simp)) (aF rfl)
 subst e;exact goT rfl (goL h hi fun q v nm j hj hq=>aF ⟨aP.mk q 0 v 0 nm [],j,rfl,hj,hq⟩)
theorem Nq (n:Nat):(o9 (n+1)).1=Nj (Yu n) (Yv n):=rfl
theorem Nr (n:Nat):(o9 (n+1)).2=Yt (Yu n) (Yv n):=rfl
theorem yQ (h:Env l g fs lo) :∀d:Nat,d<=100->∀n,2*d+1<=n->(∀b i,0<=i->Ok (Yu n d b l i g fs lo) (PE (d+1) b l g fs lo))/\∀e,e+1=d->∀b i,0<=i->Ok (Yv n d b l i g fs lo) (PC (d+1) b l g fs lo)
 |_,_,0,hn=>by omega
 |0,_,n+1,hn=>⟨fun b i hi=>YH (by rw [Nq];exact aaF h hi),fun e he=>by omega⟩
 |d+1,hd,n+1,hn=>by
  have ih:=yQ h d (by omega) n (by omega);obtain ⟨m,rfl⟩ :∃m,n=m+1:=⟨n-1,by omega⟩;have ih':=yQ h d (by omega) m (by omega);refine ⟨fun b i hi=>YH (by rw [Nq];exact aaE h (by omega) ih.1 (fun b i hi=>YI (by rw [Nr];exact Np h (by omega) ih'.1 hi)) hi),fun e he b i hi=>YI (by rw [Nr];exact Np h (by omega) ih.1 hi)⟩
end
def frN:List (List UInt8):=[[97],[98],[99],[100],[101],[102],[105],[107]]
inductive Ch {S:Type} (P:List (List UInt8)->S->List (List UInt8)->Nat->Nat->Prop):List (List UInt8)->List S->List (List UInt8)->Nat->Nat->Prop
 |nil {lo:List (List UInt8)}:Ch P lo [] lo 0 0
 |cons {lo l1 l2:List (List UInt8)} {s:S} {ss:List S} {c1 c2 k1 k2:Nat}:P lo s l1 c1 k1->Ch P l1 ss l2 c2 k2->Ch P lo (s::ss) l2 (c1+c2) (k1+k2)
theorem Ch.snoc {S:Type} {P:List (List UInt8)->S->List (List UInt8)->Nat->Nat->Prop} {lo l1 l2:List (List UInt8)} {ss:List S} {s:S} {c1 c2 k1 k2:Nat} (h:Ch P lo ss l1 c1 k1) (hs:P l1 s l2 c2 k2):Ch P lo (ss++[s]) l2 (c1+c2) (k1+k2):=by
 induction h with
 |nil=>have:=Ch.cons hs (Ch.nil (P:=P));simpa using this
 |cons a _ ih=>rw [Uv,Uv];exact .cons a (ih hs)
inductive RS1 (g:List aB) (sg:List (List UInt8×Nat)) (P:List (List UInt8)->cO->List (List UInt8)->Nat->Nat->Prop) (lo:List (List UInt8)):cO->List (List UInt8)->Nat->Nat->Prop
 |var {i:Int} {nm:List UInt8} {x:aP}:nm∈frN->¬ nm∈lo->RX g sg lo 3 x->RS1 g sg P lo (cO.mk 1 i nm [x] [] []) (lo++[nm]) 1 1
 |assign {i:Int} {nm:List UInt8} {x:aP}:NV g lo nm->RX g sg lo 3 x->RS1 g sg P lo (cO.mk 2 i nm [x] [] []) lo 1 1
 |step {i o v w u i2 i3:Int} {nm n2 n3:List UInt8}:NV g lo nm->RS1 g sg P lo (cO.mk 2 i nm [aP.mk 6 3 o v n2 [aP.mk 13 w u i2 nm [],aP.mk 1 0 1 i3 n3 []]] [] []) lo 0 1
 |store {i:Int} {nm:List UInt8} {x z:aP}:PG true g nm->RX g sg lo 2 x->RX g sg lo 3 z->RS1 g sg P lo (cO.mk 3 i nm [x,z] [] []) lo 1 1
 |if' {i:Int} {nm:List UInt8} {x:aP} {th el:List cO} {l1 l2:List (List UInt8)} {c1 c2 k1 k2:Nat}:RX g sg lo 3 x->th.length<=10->el.length<=10->Ch P lo th l1 c1 k1->Ch P l1 el l2 c2 k2->RS1 g sg P lo (cO.mk 4 i nm [x] th el) l2 (1+c1+c2) (1+k1+k2)
 |qU {i:Int} {nm:List UInt8} {x:aP} {th:List cO} {l1:List (List UInt8)} {c1 k1:Nat}:RX g sg lo 3 x->th.length<=10->Ch P lo th l1 c1 k1->RS1 g sg P lo (cO.mk 5 i nm [x] th []) l1 (1+c1) (1+k1)
 |plain {k i:Int} {nm:List UInt8} {x:aP}:k=6\/k=7\/k=8->RX g sg lo 3 x->RS1 g sg P lo (cO.mk k i nm [x] [] []) lo 1 1
def RS (g:List aB) (sg:List (List UInt8×Nat)):Nat->List (List UInt8)->cO->List (List UInt8)->Nat->Nat->Prop
 |0=>fun _ _ _ _ _=>False
 |n+1=>fun lo s lo' c k=>RS1 g sg (RS g sg n) lo s lo' c k
theorem Ch.mono {S:Type} {P:List (List UInt8)->S->List (List UInt8)->Nat->Nat->Prop} (hP :∀lo s l1 c k,P lo s l1 c k->∀x∈lo,x∈l1) {lo l1:List (List UInt8)} {ss:List S} {c k:Nat} (h:Ch P lo ss l1 c k) :∀x∈lo,x∈l1:=by
 induction h with
 |nil=>exact fun x hx=>hx
 |cons a _ ih=>exact fun x hx=>ih x (hP _ _ _ _ _ a x hx)
theorem Hy {g:List aB} {sg:List (List UInt8×Nat)} :∀n lo s l1 c k,RS g sg n lo s l1 c k->∀x∈lo,x∈l1
 |0,_,_,_,_,_,h=>h.elim
 |n+1,lo,s,l1,c,k,h=>by
  have ih:=Hy (g:=g) (sg:=sg) n;cases (show RS1 g sg (RS g sg n) lo s l1 c k from h) with
  |var _ _ _=>exact fun x hx=>W6 _ hx
  |assign _ _=>exact fun x hx=>hx
  |step _=>exact fun x hx=>hx
  |store _ _ _=>exact fun x hx=>hx
  |if' _ _ _ a b=>exact fun x hx=>b.mono ih x (a.mono ih x hx)
  |qU _ _ a=>exact fun x hx=>a.mono ih x hx
  |plain _ _=>exact fun x hx=>hx
theorem PK {g:List aB} {sg:List (List UInt8×Nat)} {n:Nat} {lo l1:List (List UInt8)} {ss:List cO} {c k:Nat} (h:Ch (RS g sg n) lo ss l1 c k) :∀x∈lo,x∈l1:=h.mono (Hy n)
theorem o_ {α:Type} {P:α->Prop} {x:α} (h:P x) :∀y∈[x],P y:=fun y hy=>by rw [QP] at hy;subst hy;exact h
structure V8 (k:Int) (l:List Int) (g:List aB) (fs:List aA):Prop where
 b:Bytes l
 g:g.length<=100
 f0:0<fs.length
 f1:fs.length<=100
 fp :∀f∈fs,f.params.length<=2
 k:k<=100
section
variable {kk:Int} {l:List Int} {g:List aB} {fs:List aA}
theorem V8.env (h:V8 kk l g fs) {lo:List (List UInt8)} (hl:(lo.length:Int)<=kk):Env l g fs lo:=⟨h.b,h.g,h.f0,h.f1,h.fp,by have:=h.k;omega⟩
def PS (n:Nat) (kk:Int) (l:List Int) (g:List aB) (fs:List aA) (YJ:List (List UInt8)) (b0:Int) (y:Int×Int×List UInt8×Int×List Int×Int×List aB×List aA×List aP×List cO×List cO×List (List UInt8)):Prop:=
 ∃k i nm es th el b j lo,y=(k,i,nm,b,l,j,g,fs,es,th,el,lo)/\0<=j/\(0<=b/\lo.length+b<=kk)/\∃c q:Nat,RS g (iY fs) n YJ (cO.mk k i nm es th el) lo c q/\(c:Int)+b<=b0+1/\(q:Int)+2*b<=2*b0+2
def PL (n:Nat) (kk:Int) (l:List Int) (g:List aB) (fs:List aA) (YJ:List (List UInt8)) (b0:Int) (y:Int×Int×List UInt8×Int×List Int×Int×List aB×List aA×List aP×List cO×List (List UInt8)):Prop:=
 ∃k i nm es th b j lo,y=(k,i,nm,b,l,j,g,fs,es,th,lo)/\0<=j/\(0<=b/\lo.length+b<=kk)/\∃c q:Nat,RS g (iY fs) n YJ (cO.mk k i nm es th []) lo c q/\(c:Int)+b<=b0+1/\(q:Int)+2*b<=2*b0+2
def PB (n:Nat) (m kk:Int) (l:List Int) (g:List aB) (fs:List aA) (YJ:List (List UInt8)) (b0:Int) (y:Int×List Int×Int×List aB×List aA×List cO×List (List UInt8)):Prop:=
 ∃ss b j lo,y=(b,l,j,g,fs,ss,lo)/\0<=j/\(0<=b/\lo.length+b<=kk)/\(ss.length<=10/\ss.length<=m)/\∃c q:Nat,Ch (RS g (iY fs) n) YJ ss lo c q/\(c:Int)+b<=b0/\(q:Int)+2*b<=2*b0
theorem ahc {n:Nat} {p m m' b i b0:Int} {lo YJ r} (h:Ok r (PB n m kk l g fs YJ b0)):Ok (ad7 p m' b l i g fs lo r) (PB n m kk l g fs YJ b0):=
 bC _ h fun y ⟨ss,b,j,lo,e,h⟩=>by subst e;exact goK rfl (goK rfl (aF ⟨ss,b,j,lo,rfl,h⟩))
theorem ahd {n:Nat} {p b i b0:Int} {lo YJ r} (h:Ok r (PS n kk l g fs YJ b0)):Ok (ad9 p b l i g fs lo r) (PS n kk l g fs YJ b0):=
 bC _ h fun y ⟨k,i,nm,es,th,el,b,j,lo,e,h⟩=>by subst e;exact goK rfl (goK rfl (aF ⟨k,i,nm,es,th,el,b,j,lo,rfl,h⟩))
theorem ahe {n:Nat} {p b i b0:Int} {lo YJ r} (h:Ok r (PL n kk l g fs YJ b0)):Ok (ad_ p b l i g fs lo r) (PL n kk l g fs YJ b0):=
 bC _ h fun y ⟨k,i,nm,es,th,b,j,lo,e,h⟩=>by subst e;exact goK rfl (goK rfl (aF ⟨k,i,nm,es,th,b,j,lo,rfl,h⟩))
theorem ahf {β:Type} {rec:Lp} {d n:Nat} (h :∀m b i lo,m<=4->0<=b->lo.length+b<=kk->0<=i->Ok (rec d m b l i g fs lo) (PB n (max m 0) kk l g fs lo b)) {q m b i:Int} {lo f} {Q:β->Prop} (hq:q=d) (hm:m<=4) (hb:0<=b) (hl:lo.length+b<=kk) (hi:0<=i)
  (k :∀ss b' j lo' (c q:Nat),0<=j->0<=b'->lo'.length+b'<=kk->ss.length<=4->Ch (RS g (iY fs) n) lo ss lo' c q->(c:Int)+b'<=b->(q:Int)+2*b'<=2*b->Ok (f (b',l,j,g,fs,ss,lo')) Q):Ok (Option.bind (rec q m b l i g fs lo) f) Q:=by
 subst hq;exact bC _ (h m b i lo hm hb hl hi) fun y ⟨ss,b,j,lo,e,h1,h2,h3,c,q,h4,h5,h6⟩=>by subst e;exact k ss b j lo c q h1 h2.1 h2.2 (by omega) h4 h5 h6
theorem TR {β:Type} {lo:List (List UInt8)} (h:Env l g fs lo) {b i:Int} {f} {Q:β->Prop} (hi:0<=i)
  (k :∀k o v i nm ar j,0<=j->RX g (iY fs) lo 3 (aP.mk k o v i nm ar)->Ok (f (k,o,v,i,nm,ar,b,l,j,g,fs,lo)) Q):Ok (Option.bind (f129 2 b l i g fs lo) f) Q:=
 goX (rec:=f129) (d:=2) (fun b i hi=>(yQ h 2 (by omega) 1048576 (by omega)).1 b i hi) rfl hi k
theorem asy {β:Type} {lo:List (List UInt8)} (h:Env l g fs lo) {b i:Int} {f} {Q:β->Prop} (hi:0<=i)
  (k :∀k o v i nm ar j,0<=j->RX g (iY fs) lo 2 (aP.mk k o v i nm ar)->Ok (f (k,o,v,i,nm,ar,b,l,j,g,fs,lo)) Q):Ok (Option.bind (f129 1 b l i g fs lo) f) Q:=
 goX (rec:=f129) (d:=1) (fun b i hi=>(yQ h 1 (by omega) 1048576 (by omega)).1 b i hi) rfl hi k
theorem asz {β:Type} {lo:List (List UInt8)} (h:Env l g fs lo) {b i:Int} {f} {Q:β->Prop} (hi:0<=i)
  (k :∀k o v i nm ar j,0<=j->RX g (iY fs) lo 3 (aP.mk k o v i nm ar)->Ok (f (k,o,v,i,nm,b,l,j,g,fs,lo,ar)) Q):Ok (Option.bind (f132 2 b l i g fs lo) f) Q:=
 aok (rec:=f132) (d:=2) (fun b i hi=>(yQ h 2 (by omega) 1048576 (by omega)).2 1 rfl b i hi) rfl hi k
theorem aei {b i:Int} {lo:List (List UInt8)} (hl:lo.length<=100):Ok (f127 b l i g fs lo) fun y =>∃nm t,(t=true->nm∈frN/\¬ nm∈lo)/\y=(nm,t,b,l,i,g,fs,lo):=by
 refine bC (fun y =>∃nm t,(t=true->nm∈frN/\¬ nm∈lo)/\y=(nm,t,b,l,i,g,fs,lo)) ?_ fun y ⟨nm,t,hn,e⟩=>by subst e;exact goK rfl (goK rfl (goK rfl (aF ⟨nm,t,hn,rfl⟩)))
 unfold adX;refine bC (fun y =>∃nm t,(t=true->nm∈frN/\¬ nm∈lo)/\y=(nm,t,b,l,i,g,fs,lo)) ?_ fun y ⟨nm,t,hn,e⟩=>by subst e;exact bT (by simp) (bT (by simp) (bT (by simp) (aF ⟨nm,t,hn,rfl⟩)))
 refine fA (y:=frN) rfl ?_;refine iF (fun _=>True) ?_ fun _ _=>aF ⟨_,_,fun h=>(by cases h),rfl⟩;have h8:frN.length=8:=rfl;refine bJ (fun s:Int=>0<=s/\s<=8) (fun s=>(8-s).toNat) ⟨by simp,by simp⟩ fun s ⟨h1,h2⟩ => ?_;refine dG (fun hc => ?_) fun _=>aF trivial;have hc:s<8:=by simpa [h8] using hc
 refine bC (fun u=>u=false->∀k,k<lo.length->lo.getD k bH≠frN.getD s.toNat bH) ?_ fun y hy => ?_
 .refine bJ (fun t:Bool×Int=>(0<=t.2/\t.2<=lo.length)/\(t.1=false->∀k:Nat,(k:Int)<t.2->lo.getD k bH≠frN.getD s.toNat bH)) (fun t=>(lo.length-t.2).toNat) ⟨⟨by simp,by simp⟩,fun _ k hk=>by simp only at hk;omega⟩ fun ⟨u,t⟩ ⟨⟨h1,h2⟩,h3⟩ => ?_;simp only at h1 h2 h3;refine dG (fun hc' => ?_) fun hc'=>aF fun hu k hk=>h3 hu k (by have:¬ t<lo.length:=(by simpa using hc');omega);have hc':t<lo.length:=by simpa using hc'
  refine bC (fun y=>y=false->u=false/\lo.getD t.toNat bH≠frN.getD s.toNat bH) ?_ fun y hy=>aF ⟨⟨⟨?_,?_⟩,fun e k hk => ?_⟩,?_⟩
  .exact dG (fun hu=>aF fun h=>by cases h) fun hu=>bT (aG.2 ⟨h1,hc'⟩) (bT (aG.2 ⟨by assumption,by rw [h8];exact hc⟩) (aF fun h=>⟨hu,fun e=>by simp only [e] at h;simp at h⟩))
  .simp only [aH (x:=t+1) (by omega)];omega
  .simp only [aH (x:=t+1) (by omega)];omega
  .obtain ⟨y1,y2⟩:=hy e;simp only [aH (x:=t+1) (by omega)] at hk;by_cases ek:(k:Int)=t
   .rw [show k=t.toNat from by omega];exact y2
   .exact h3 y1 k (by omega)
  .simp only [aH (x:=t+1) (by omega)];omega
 .refine dG (fun hb=>bT (aG.2 ⟨h1,by rw [h8];exact hc⟩) (aF ⟨_,_,fun _=>⟨?_,fun hm => ?_⟩,rfl⟩)) fun _=>aF ⟨?_,?_⟩
  .rw [getD_at _ (by rw [h8];omega:s.toNat<frN.length)];exact QR _
  .obtain ⟨k,hk,e⟩:=Wt hm;have:=hy (by simpa using hb) k hk;rw [getD_at _ hk,e] at this;exact this rfl
  all_goals simp only [aH (x:=s+1) (by omega)];omega
theorem V9 {rec:Lp} {rec':SX} {uS:SY} {d:Int} {n:Nat} (h:V8 kk l g fs) (hr :∀b i lo,0<=b->lo.length+b+1<=kk->0<=i->Ok (rec' d b l i g fs lo) (PS n kk l g fs lo b))
  {m b i:Int} {lo} (hm:m<=4) (hb:0<=b) (hl:lo.length+b<=kk) (hi:0<=i):Ok (Yw rec rec' uS d m b l i g fs lo) (PB n (max m 0) kk l g fs lo b):=by
 unfold Yw;refine bC (PB n (max m 0) kk l g fs lo b) ?_ fun y ⟨ss,b,j,lo,e,h⟩=>by subst e;exact bT (by simp) (bT (by simp) (aF ⟨ss,b,j,lo,rfl,h⟩))
 refine bC (fun y =>∃b' j ss lo',y=(b',l,j,ss,lo')/\0<=j/\(0<=b'/\lo'.length+b'<=kk)/\((ss.length:Int)<=max m 0)/\∃c q:Nat,Ch (RS g (iY fs) n) lo ss lo' c q/\(c:Int)+b'<=b/\(q:Int)+2*b'<=2*b) ?_ fun y ⟨b',j,ss,lo',e,h1,h2,h3,h4⟩=>by subst e;exact aF ⟨ss,b',j,lo',rfl,h1,h2,⟨by omega,h3⟩,h4⟩
 refine bJ (fun s:Int×Int×List Int×Int×List cO×List (List UInt8) =>∃q b' j ss lo',s=(q,b',l,j,ss,lo')/\0<=j/\(0<=b'/\lo'.length+b'<=kk)/\(ss.length:Int)=q/\q<=max m 0/\∃c q:Nat,Ch (RS g (iY fs) n) lo ss lo' c q/\(c:Int)+b'<=b/\(q:Int)+2*b'<=2*b) (fun s=>(max m 0-s.1).toNat)
  ⟨0,b,i,[],lo,rfl,hi,⟨hb,hl⟩,rfl,by omega,0,0,.nil,by omega,by omega⟩ fun s ⟨q,b',j,ss,lo',e,h1,⟨h2,h3⟩,h4,h5,c0,q0,h6,h7,h8⟩ => ?_
 subst e;refine bC (fun t=>t=true->q<m/\0<b') ?_ fun t ht=>dG (fun e => ?_) fun _=>aF ⟨b',j,ss,lo',rfl,h1,⟨h2,h3⟩,by omega,c0,q0,h6,h7,h8⟩
 .exact dG (fun h=>aF fun h'=>⟨by simpa using h,by simpa using h'⟩) fun _=>aF fun h=>by cases h
 obtain ⟨t1,t2⟩:=ht e;rw [show dJ (b'-1)=b'-1 from aH (by have:=h.k;omega)];refine bC _ (hr (b'-1) j lo' (by omega) (by omega) h1) fun y ⟨k,i',nm,es,th,el,b2,j',lo2,e,c1,c2,c3,c4,c5,c6,c7⟩ => ?_;subst e;have hk:=h.k;refine bT (by unfold aX;simp;omega) (aF ⟨⟨_,b2,j',_,lo2,rfl,c1,c2,?_,?_,_,_,h6.snoc c5,?_,?_⟩,?_⟩)
 all_goals try simp only [aH (x:=q+1) (by omega)]
 .simp;omega
 .omega
 .omega
 .omega
 .omega
theorem aaG {rec:Lp} {rec':SX} {uS:SY} {d n:Nat} (h:V8 kk l g fs) (hd:d<=100) (hr :∀m b i lo,m<=4->0<=b->lo.length+b<=kk->0<=i->Ok (rec d m b l i g fs lo) (PB (n+1) (max m 0) kk l g fs lo b))
  {b i:Int} {lo} (hb:0<=b) (hl:lo.length+b<=kk) (hi:0<=i):Ok (Yy rec rec' uS (d+1:Nat) b l i g fs lo) (PL (n+2) kk l g fs lo b):=by
 have hw:dJ (((d+1:Nat):Int)-1)=d:=by rw [aH (by omega)];omega
 have hE:=h.env (lo:=lo) (by omega);have hlo:=hE.lo;unfold Yy;refine bC (PL (n+2) kk l g fs lo b) ?_ fun y ⟨k,i,nm,es,th,b,j,lo,e,h⟩=>by subst e;exact bT (by simp) (bT (by simp) (aF ⟨k,i,nm,es,th,b,j,lo,rfl,h⟩))
 refine goP hE hi fun nm t j0 h0 hn0=>bC (fun y =>∃u j,0<=j/\(u=true->0<lo.length)/\y=(u,l,j)) ?_ fun y ⟨u,j,hj,hu,e⟩ => ?_
 .refine dG (fun hc=>goN h.b h0 (by omega) fun x j hj _ _=>aF ⟨_,_,hj,fun _=>by simpa using hc,rfl⟩) fun _=>aF ⟨_,_,h0,fun h=>(by cases h),rfl⟩
 subst e;refine bC (fun y =>∃nm t j,0<=j/\(t=true->NV g lo nm)/\y=(nm,t,l,j)) ?_ fun y ⟨nm,t,j,hj,hn,e⟩ => ?_
 .refine dG (fun hc=>goN h.b hj (by omega) fun x j hj a1 a2 => ?_) fun _=>aF ⟨_,_,_,hj,fun ht=>.inr (hn0 ht),rfl⟩;have a2:=a2 (by have:=hu hc;omega);exact bT (aG.2 ⟨a1,a2⟩) (aF ⟨_,_,_,hj,fun _=>.inl (by rw [getD_at _ (by omega:x.toNat<lo.length)];exact QR _),rfl⟩)
 subst e;refine bC (fun y =>∃t' j,0<=j/\(t'=false->t=true)/\y=(t',l,j)) ?_ fun y ⟨t',j,hj,ht,e⟩ => ?_
 .exact dG (fun _=>aF ⟨_,_,hj,fun h=>(by cases h),rfl⟩) fun hc=>goN h.b hj (by omega) fun x j hj _ _=>aF ⟨_,_,hj,fun _=>by simpa using hc,rfl⟩
 subst e;refine dG (fun _=>TR hE hj fun _ _ _ _ _ _ j hj hx=>fA rfl (goN h.b hj (by omega) fun x j hj a1 a2=>ahf hr hw ?_ hb hl hj fun ss b' j lo' c q c1 c2 c3 c4 c5 c6 c7=>aF ⟨5,_,_,[_],ss,b',j,lo',rfl,c1,⟨c2,c3⟩,_,_,.qU hx (by omega) c5,by have c6:(c:Int)+b'<=b:=c6;omega,by have c7:(q:Int)+2*b'<=2*b:=c7;omega⟩)) fun hf => ?_
 .have a2:=a2 (by omega);show dJ (1+x)<=4;rw [aH (by omega)];omega
 have hnv:=hn (ht hf);refine goN h.b hj (by omega) fun x j hj _ _=>fA rfl (fA rfl (goN h.b hj (by omega) fun x2 j2 h2 _ b2=>ahf hr hw (by have:=b2 (by omega);omega) hb hl h2 fun ss b' j lo' c q c1 c2 c3 c4 c5 c6 c7=>fA rfl (fA rfl (bT (by unfold aX;simp;omega) (aF ⟨5,_,_,[_],ss++[_],b',j,lo',rfl,c1,⟨c2,c3⟩,_,_,.qU (.bin (show 3<=(8:Int)/\(8:Int)<=11 by omega) (.name hnv) (.leaf (.inl rfl))) (by simp;omega) (c5.snoc (show RS g (iY fs) (n+1) lo' _ lo' 0 1 from .step (hnv.mono fun x hx=>PK c5 x hx))),by have c6:(c:Int)+b'<=b:=c6;omega,by have c7:(q:Int)+2*b'<=2*b:=c7;omega⟩)))))
end
section
variable {kk:Int} {l:List Int} {g:List aB} {fs:List aA}
theorem aaH {rec:Lp} {rec':SX} {uS:SY} {d:Nat} (h:V8 kk l g fs) (hd:d<=100) (hr :∀e:Nat,e+1=d->∀m b i lo,m<=4->0<=b->lo.length+b<=kk->0<=i->Ok (rec e m b l i g fs lo) (PB (e+1) (max m 0) kk l g fs lo b))
  (hp:0<d->∀b i lo,0<=b->lo.length+b<=kk->0<=i->Ok (uS d b l i g fs lo) (PL (d+1) kk l g fs lo b))
  {b i:Int} {lo} (hb:0<=b) (hl:lo.length+b+1<=kk) (hi:0<=i):Ok (Yx rec rec' uS d b l i g fs lo) (PS (d+1) kk l g fs lo b):=by
 have hE:=h.env (lo:=lo) (by omega);have hlo:=hE.lo;unfold Yx;refine bC (PS (d+1) kk l g fs lo b) ?_ fun y ⟨k,i,nm,es,th,el,b,j,lo,e,h⟩=>by subst e;exact bT (by simp) (bT (by simp) (aF ⟨k,i,nm,es,th,el,b,j,lo,rfl,h⟩))
 refine goN h.b hi (by omega) fun x0 j0 h0 _ _=>bC (fun _=>True) ?_ fun s3 _ => ?_
 .exact dG (fun _=>aF trivial) fun _=>aF trivial
 refine iF (fun y =>∃j,0<=j/\y=(b,l,j)) ?_ fun y ⟨j,hj,e⟩ => ?_
 rotate_left
 .subst e;exact TR hE hj fun _ _ _ _ _ _ j hj hx=>fA rfl (aF ⟨7,_,_,[_],[],[],b,j,lo,rfl,hj,⟨hb,by omega⟩,1,1,.plain (by omega) hx,by omega,by omega⟩)
 refine dG (fun _=>bC _ (aei hlo) fun y ⟨nm,t,hn,e⟩ => ?_) fun _=>iF (fun y =>∃j,0<=j/\y=(b,l,j)) ?_ fun y ⟨j,hj,e⟩=>(by subst e;exact aF ⟨j,hj,rfl⟩)
 .subst e;refine dG (fun ht=>TR hE h0 fun _ _ _ _ _ _ j hj hx=>fA rfl (bT (by unfold aX;simp;omega) (aF ⟨1,_,_,[_],[],[],b,j,lo++[nm],rfl,hj,⟨hb,by simp;omega⟩,1,1,.var (hn ht).1 (hn ht).2 hx,by omega,by omega⟩))) fun _=>aF ⟨_,h0,rfl⟩
 refine dG (fun _=>dG (fun hc=>goN h.b h0 (by omega) fun x j hj a1 a2 => ?_) fun _=>aF ⟨_,h0,rfl⟩) fun _=>iF (fun y =>∃j,0<=j/\y=(b,l,j)) ?_ fun y ⟨j,hj,e⟩=>(by subst e;exact aF ⟨j,hj,rfl⟩)
 .have a2:=a2 (by have:0<lo.length:=(by simpa using hc);omega);have hv:NV g lo (lo.getD x.toNat bH):=.inl (by rw [getD_at _ (by omega:x.toNat<lo.length)];exact QR _);exact bT (aG.2 ⟨a1,a2⟩) (TR hE hj fun _ _ _ _ _ _ j hj hx=>fA rfl (aF ⟨2,_,_,[_],[],[],b,j,lo,rfl,hj,⟨hb,by omega⟩,1,1,.assign hv hx,by omega,by omega⟩))
 refine dG (fun _=>goP hE h0 fun nm t j hj hn=>dG (fun ht=>TR hE hj fun _ _ _ _ _ _ j hj hx=>fA rfl (aF ⟨2,_,_,[_],[],[],b,j,lo,rfl,hj,⟨hb,by omega⟩,1,1,.assign (.inr (hn ht)) hx,by omega,by omega⟩)) fun _=>aF ⟨_,hj,rfl⟩) fun _=>iF (fun y =>∃j,0<=j/\y=(b,l,j)) ?_ fun y ⟨j,hj,e⟩=>(by subst e;exact aF ⟨j,hj,rfl⟩);refine dG (fun _=>goP hE h0 fun nm t j hj hn=>dG (fun ht=>asy hE hj fun _ _ _ _ _ _ j hj hx=>TR hE hj fun _ _ _ _ _ _ j hj hz=>aF ⟨3,_,_,[_,_],[],[],b,j,lo,rfl,hj,⟨hb,by omega⟩,1,1,.store (hn ht) hx hz,by omega,by omega⟩) fun _=>aF ⟨_,hj,rfl⟩) fun _=>bC (fun _=>True) ?_ fun s3 _=>iF (fun _=>True) ?_ fun _ _=>aF ⟨_,h0,rfl⟩
 .exact dG (fun _=>aF trivial) fun _=>aF trivial
 refine dG (fun _=>dG (fun hc => ?_) fun _=>aF trivial) fun _=>iF (fun _=>True) ?_ fun _ _=>aF trivial
 .obtain ⟨e,rfl⟩ :∃e,d=e+1:=⟨d-1,by have:0<d:=(by simpa using hc);omega⟩;have hw:dJ (((e+1:Nat):Int)-1)=e:=by rw [aH (by omega)];omega
  have hr:=hr e rfl;have hone :∀x:Int,0<=x->(1<=(2:Int)->x<2)->dJ (1+x)<=4:=fun x h1 h2=>by have:=h2 (by omega);rw [aH (by omega)];omega
  refine TR hE h0 fun _ _ _ _ _ _ j hj hx=>fA rfl (goN h.b hj (by omega) fun x1 j1 h1 a1 b1=>ahf hr hw (hone _ a1 b1) hb (show (lo.length:Int)+b<=kk by omega) h1 fun ss b' j lo' c q c1 c2 c3 c4 c5 c6 c7=>goN h.b c1 (by omega) fun x2 j2 h2 a2 b2 => ?_);have c6:(c:Int)+b'<=b:=c6;have c7:(q:Int)+2*b'<=2*b:=c7;refine bC (fun y =>∃b2 j lo2 el,y=(b2,l,j,4,0,bH,lo2,el)/\0<=j/\(0<=b2/\lo2.length+b2<=kk)/\el.length<=4/\∃c2 q2:Nat,Ch (RS g (iY fs) (e+1)) lo' el lo2 c2 q2/\(c2:Int)+b2<=b'/\(q2:Int)+2*b2<=2*b') ?_ fun y ⟨b2,j,lo2,el,e',d1,d2,d3,e2,q2,d4,d5,d6⟩=>by
   subst e';exact aF ⟨4,_,_,[_],ss,el,b2,j,lo2,rfl,d1,d2,_,_,.if' hx (by omega) (by omega) c5 d4,by omega,by omega⟩
  exact dG (fun _=>goN h.b h2 (by omega) fun x3 j3 h3 a3 b3=>ahf hr hw (hone _ a3 b3) c2 c3 h3 fun ss b2 j lo2 e2 q2 c1 c2 c3 c4 c5 c6 c7=>aF ⟨b2,j,lo2,ss,rfl,c1,⟨c2,c3⟩,c4,e2,q2,c5,c6,c7⟩) fun _=>aF ⟨b',j2,lo',[],rfl,h2,⟨c2,c3⟩,by simp,0,0,.nil,by omega,by omega⟩
 refine dG (fun _=>dG (fun hc=>bC _ (hp (by simpa using hc) b j0 lo hb (by omega) h0) fun y ⟨k,i,nm,es,th,b,j,lo,e,h1,h2,h3⟩=>by subst e;exact aF ⟨k,i,nm,es,th,[],b,j,lo,rfl,h1,h2,h3⟩) fun _=>aF trivial) fun _=>dG (fun _ => ?_) fun _=>aF trivial;exact goN h.b h0 (by omega) fun x j hj _ _=>dG (fun _=>TR hE hj fun _ _ _ _ _ _ j hj hx=>fA rfl (aF ⟨6,_,_,[_],[],[],b,j,lo,rfl,hj,⟨hb,by omega⟩,1,1,.plain (by omega) hx,by omega,by omega⟩)) fun _=>asz hE hj fun _ _ _ _ _ _ j hj hx=>fA rfl (aF ⟨8,_,_,[_],[],[],b,j,lo,rfl,hj,⟨hb,by omega⟩,1,1,.plain (by omega) hx,by omega,by omega⟩)
theorem aaI (n:Nat):(jm (n+1)).1=Yw (TJ n) (Yz n) (YA n):=rfl
theorem aaJ (n:Nat):(jm (n+1)).2.1=Yx (TJ n) (Yz n) (YA n):=rfl
theorem aaK (n:Nat):(jm (n+1)).2.2=Yy (TJ n) (Yz n) (YA n):=rfl
theorem TU (h:V8 kk l g fs) :∀n:Nat,(∀d:Nat,d<=100->3*d+2<=n->∀m b i lo,m<=4->0<=b->lo.length+b<=kk->0<=i->Ok (TJ n d m b l i g fs lo) (PB (d+1) (max m 0) kk l g fs lo b))/\
  (∀d:Nat,d<=100->3*d+1<=n->∀b i lo,0<=b->lo.length+b+1<=kk->0<=i->Ok (Yz n d b l i g fs lo) (PS (d+1) kk l g fs lo b))/\
  (∀d:Nat,d<=100->0<d->3*d<=n->∀b i lo,0<=b->lo.length+b<=kk->0<=i->Ok (YA n d b l i g fs lo) (PL (d+1) kk l g fs lo b))
 |0=>⟨fun d _ h=>by omega,fun d _ h=>by omega,fun d _ h h'=>by omega⟩
 |n+1=>by
  obtain ⟨i1,i2,i3⟩:=TU h n;refine ⟨fun d h1 h2 m b i lo h3 h4 h5 h6=>ahc (by rw [aaI];exact V9 h (i2 d h1 (by omega)) h3 h4 h5 h6),
   fun d h1 h2 b i lo h3 h4 h5=>ahd (by rw [aaJ];exact aaH h h1 (fun e he=>i1 e (by omega) (by omega)) (fun hd=>i3 d h1 hd (by omega)) h3 h4 h5),fun d h1 h2 h3 b i lo h4 h5 h6 => ?_⟩
  obtain ⟨e,rfl⟩ :∃e,d=e+1:=⟨d-1,by omega⟩;exact ahe (by rw [aaK];exact aaG h (by omega) (i1 e (by omega) (by omega)) h4 h5 h6)
end
theorem Hz {A R α:Type} {body:A->Option (A ⊕ R)} {Q:R->Prop} {a:A} (ct:A->Int) (ls:A->List α) (I:A->Prop) (m:Nat) (h0:I a) (hm:(ls a).length+ct a<=m) (hc:m<=1000)
  (h :∀a,I a->(ls a).length<=m->0<ct a->(ls a).length+ct a<=m->Ok (body a) (J7 (fun a'=>I a'/\ct a'=ct a-1/\(ls a').length=(ls a).length+1) Q))
  (he :∀a,I a->(ls a).length<=m->¬ 0<ct a->Ok (body a) (J7 (fun _=>False) Q)) (hl:(ls a).length<=m):Ok (bF body a) Q:=by
 refine bJ (fun a=>I a/\(ls a).length<=m/\(0<ct a->(ls a).length+ct a<=m)) (fun a=>(ct a).toNat) ⟨h0,hl,fun _=>hm⟩ fun a ⟨h1,h2,h3⟩ => ?_;by_cases hp:0<ct a
 .refine jR (h a h1 h2 hp (h3 hp)) fun y hy => ?_;cases y with
  |inl a'=>obtain ⟨g1,g2,g3⟩:=hy;exact ⟨⟨g1,by have:=h3 hp;omega,fun _=>by have:=h3 hp;omega⟩,by omega⟩
  |inr r=>exact hy
 .refine jR (he a h1 h2 hp) fun y hy => ?_;cases y with
  |inl a'=>exact hy.elim
  |inr r=>exact hy
def digit (i:Nat):UInt8:=UInt8.ofNat (48+i)
theorem zi {n:Nat} (h:n<10):f52 (n:Int)=some [digit n]:=by
 show VP 1048576 (n:Int)=_;rw [show VP 1048576=agt (VP 1048575) from rfl];have hn:n=0\/n=1\/n=2\/n=3\/n=4\/n=5\/n=6\/n=7\/n=8\/n=9:=by omega
 rcases hn with rfl | rfl | rfl | rfl | rfl | rfl | rfl | rfl | rfl | rfl<;>rfl
def aiF:List UInt8:=[109,97,105,110]
def PN (ps:List (List UInt8)):Prop:=ps.length<=2/\∀k,k<ps.length->ps.getD k bH=[112,digit k]
def GN (g:List aB):Prop:=g.length<=4/\∀i,i<g.length->(g.getD i (aB.mk bH 0)).name=[103,digit i]/\0<=(g.getD i (aB.mk bH 0)).size/\(g.getD i (aB.mk bH 0)).size<=5
def FN (fs:List aA):Prop:=(0<fs.length/\fs.length<=4)/\(fs.getD 0 bI).params=[]/\∀i,i<fs.length->(fs.getD i bI).name=(if i=0 then aiF else [102,digit i])/\PN (fs.getD i bI).params
structure Src (g:List aB) (fs:List aA):Prop where
 gn:GN g
 fn:FN fs
 bd :∀i,i<fs.length->(fs.getD i bI).body.length<=10/\∃lo c q,Ch (RS g (iY fs) 3) (fs.getD i bI).params (fs.getD i bI).body lo c q/\c<=7/\q<=14
theorem lM {α:Type} {l:List α} {x d:α} {i:Nat}:(l++[x]).getD i d=if i<l.length then l.getD i d else if i=l.length then x else d:=by
 rw [List.getD_eq_getElem?_getD,List.getD_eq_getElem?_getD];by_cases h:i<l.length
 .rw [if_pos h,W8 h]
 .rw [if_neg h,W5 (by omega)];by_cases e:i=l.length
  .rw [if_pos e,e];simp
  .rw [if_neg e,WD (by simp;omega)];rfl
theorem PN.snoc {ps:List (List UInt8)} (h:PN ps) (hl:ps.length<2):PN (ps++[[112]++[digit ps.length]]):=by
 refine ⟨by simp;omega,fun k hk => ?_⟩;rw [lM];simp only [Ys,Zs] at hk;by_cases e:k<ps.length
 .rw [if_pos e];exact h.2 k e
 .have:k=ps.length:=by omega
  subst this;rw [if_neg e,if_pos rfl];rfl
theorem GN.snoc {g:List aB} (h:GN g) (hl:g.length<4) {z:Int} (h0:0<=z) (h1:z<=5):GN (g++[aB.mk ([103]++[digit g.length]) z]):=by
 refine ⟨by simp;omega,fun k hk => ?_⟩;rw [lM];simp only [Ys,Zs] at hk;by_cases e:k<g.length
 .rw [if_pos e];exact h.2 k e
 .have:k=g.length:=by omega
  subst this;rw [if_neg e,if_pos rfl];exact ⟨rfl,h0,h1⟩
theorem FN.snoc {fs:List aA} (h:FN fs) (hl:fs.length<4) {i:Int} {ps:List (List UInt8)} (hp:PN ps):FN (fs++[aA.mk ([102]++[digit fs.length]) i ps []]):=by
 obtain ⟨⟨h1,h2⟩,h3,h4⟩:=h;refine ⟨⟨by simp,by simp;omega⟩,by rw [lM,if_pos h1];exact h3,fun k hk => ?_⟩;rw [lM];simp only [Ys,Zs] at hk;by_cases e:k<fs.length
 .rw [if_pos e];exact h4 k e
 .have:k=fs.length:=by omega
  subst this;rw [if_neg e,if_pos rfl,if_neg (by omega)];exact ⟨rfl,hp⟩
theorem FN.mem {fs:List aA} (h:FN fs) :∀f∈fs,f.params.length<=2:=fun f hf=>by
 obtain ⟨i,hi,e⟩:=Wt hf;have:=(h.2.2 i hi).2.1;rw [getD_at _ hi,e] at this;exact this
theorem aaL {l:List Int} {i:Int} (hb:Bytes l) (hi:0<=i):Ok (f80 l i) fun y=>y.1=l/\0<=y.2.1/\Src y.2.2.1 y.2.2.2:=by
 unfold f80;refine fA rfl (goN hb hi (by omega) fun x1 j1 h1 a1 b1=>bC (fun y=>y.2.length<=2/\GN y.2) ?_ fun ⟨z,g0⟩ ⟨hg0,hn0⟩ => ?_)
 .have b1:=b1 (by omega);refine Hz (fun s:Int×Int×List aB=>s.1) (fun s=>s.2.2) (fun s=>GN s.2.2) 2 ⟨by simp,fun i hi=>by simp at hi⟩ (by simp only [Jn];omega) (by omega) (fun ⟨q,z,gs⟩ e0 e1 e2 e3 => ?_) (fun ⟨q,z,gs⟩ e0 e1 e2=>b_ (decide_eq_false e2) (aF ⟨e1,e0⟩)) (by simp);simp only at e0 e1 e2 e3;refine goT (decide_eq_true e2) (fA (zi (by simp only;omega)) (bT (oL.2 (by simp)) (bT (by unfold aX;simp;omega) (aF ⟨e0.snoc (by omega) (WK _) (by omega),aH (by omega),by simp⟩))))
 simp only at hg0 hn0;refine goN hb h1 (by omega) fun x2 j2 h2 a2 b2=>bC (fun y=>y.1=l/\0<=y.2.1/\y.2.2.2.length<=4/\GN y.2.2.2) ?_ fun ⟨l',j3,z',gs⟩ ⟨e1,e2,e3,e3'⟩ => ?_
 .have b2:=b2 (by omega);refine Hz (fun s:Int×List Int×Int×Int×List aB=>s.1) (fun s=>s.2.2.2.2) (fun s=>s.2.1=l/\0<=s.2.2.1/\GN s.2.2.2.2) 4 ⟨rfl,h2,hn0⟩ (by simp only;omega) (by omega) (fun ⟨q,l',j,z,gs⟩ ⟨c1,c2,c3⟩ e1 e2 e3 => ?_) (fun ⟨q,l',j,z,gs⟩ ⟨c1,c2,c3⟩ e1 e2=>b_ (decide_eq_false e2) (aF ⟨c1,c2,e1,c3⟩)) (by simp only;omega);simp only at e1 e2 e3 c1 c2 c3;subst c1;refine goT (decide_eq_true e2) (fA (zi (by simp only;omega)) (bT (oL.2 (by simp)) (goN hb c2 (by omega) fun x j hj a4 b4 => ?_)));have b4:=b4 (by omega);have hw:dJ (1+x)=1+x:=aH (by omega);exact bT (by unfold aX;simp;omega) (aF ⟨⟨rfl,hj,c3.snoc (by omega) (by simp only [hw];omega) (by simp only [hw];omega)⟩,aH (by omega),by simp⟩)
 simp only at e1 e2 e3 e3';subst e1;refine goN hb e2 (by omega) fun x4 j4 h4 a4 b4=>bC (fun y=>y.1=l'/\0<=y.2.1/\FN y.2.2.2/\∀f∈y.2.2.2,f.body=[]) ?_ fun ⟨l2,j5,z2,fs⟩ ⟨e1,e2,e4,e5⟩ => ?_
 .have b4:=b4 (by omega);refine Hz (fun s:Int×List Int×Int×Int×List aA=>s.1) (fun s=>s.2.2.2.2) (fun s=>s.2.1=l'/\0<=s.2.2.1/\FN s.2.2.2.2/\∀f∈s.2.2.2.2,f.body=[]) 4 ⟨rfl,h4,⟨⟨by simp,by simp⟩,rfl,fun i hi=>by
    simp at hi;subst hi;exact ⟨rfl,by simp,fun k hk=>by simp at hk⟩⟩,o_ rfl⟩ (by simp only [Zs];omega) (by omega)
   (fun ⟨q,l',j,z,fs⟩ ⟨c1,c2,c3,c4⟩ e1 e2 e3 => ?_) (fun ⟨q,l',j,z,gs⟩ ⟨c1,c2,c3,c4⟩ e1 e2=>b_ (decide_eq_false e2) (aF ⟨c1,c2,c3,c4⟩)) (by simp)
  simp only at e1 e2 e3 c1 c2 c3 c4;subst c1;refine goT (decide_eq_true e2) (fA (zi (by simp only;omega)) (bT (oL.2 (by simp)) (goN hb c2 (by omega) fun x j hj a5 b5=>bC (fun y=>y.1=[102]++[digit fs.length]/\PN y.2.2) ?_ fun y ⟨hy1,hy2⟩=>bT (by unfold aX;simp;omega) (aF ⟨⟨rfl,hj,by simp only;rw [hy1];exact c3.snoc (by omega) hy2,fun f hf => ?_⟩,aH (by omega),by simp⟩))))
  .have b5:=b5 (by omega);refine Hz (fun s:Int×List UInt8×Int×List (List UInt8)=>s.1) (fun s=>s.2.2.2) (fun s=>s.2.1=[102]++[digit fs.length]/\PN s.2.2.2) 2 ⟨rfl,by simp,fun k hk=>by simp at hk⟩ (by simp only [Jn];omega) (by omega) (fun ⟨q,z,z',gs⟩ ⟨e0,e0'⟩ e1 e2 e3 => ?_) (fun ⟨q,z,z',gs⟩ ⟨e0,e0'⟩ e1 e2=>b_ (decide_eq_false e2) (aF ⟨e0,e0'⟩)) (by simp);simp only at e0 e0' e1 e2 e3;refine goT (decide_eq_true e2) (fA (zi (by simp only;omega)) (bT (oL.2 (by simp)) (bT (by unfold aX;simp;omega) (aF ⟨⟨e0,e0'.snoc (by omega)⟩,aH (by omega),by simp⟩))))
  .rcases X2.1 hf with hf | hf
   .exact c4 f hf
   .rw [QP] at hf;subst hf;rfl
 simp only at e1 e2 e3 e3' e4 e5;subst e1;refine bC (fun y=>y.1=l2/\0<=y.2.1/\Src y.2.2.2.1 y.2.2.2.2.1) ?_ fun y hy=>aF hy;refine bJ (fun s:Int×List Int×Int×Int×List aB×List aA×List (List UInt8)=>s.2.1=l2/\0<=s.2.2.1/\s.2.2.2.2.1=gs/\FN s.2.2.2.2.2.1/\(0<=s.1/\s.1<=s.2.2.2.2.2.1.length)/\∀i:Nat,(i:Int)<s.1->(s.2.2.2.2.2.1.getD i bI).body.length<=10/\∃lo c q,Ch (RS gs (iY s.2.2.2.2.2.1) 3) (s.2.2.2.2.2.1.getD i bI).params (s.2.2.2.2.2.1.getD i bI).body lo c q/\c<=7/\q<=14) (fun s=>(s.2.2.2.2.2.1.length-s.1).toNat)
  ⟨rfl,e2,rfl,e4,⟨by simp,by simp⟩,fun i hi=>by simp only at hi;omega⟩ fun ⟨q,l3,j,z,gs',fs',lo⟩ ⟨c1,c2,c3,c4,c5,c6⟩ => ?_
 simp only at c1 c2 c3 c4 c5 c6;subst c1;subst c3;refine dG (fun hc => ?_) (fun hc => ?_)
 rotate_left
 .have:¬ q<fs'.length:=by simpa using hc
  exact aF ⟨rfl,c2,⟨e3',c4,fun i hi=>c6 i (by simp only at hi ⊢;omega)⟩⟩
 have hc:q<fs'.length:=by simpa using hc
 have hq:q.toNat<fs'.length:=by omega
 obtain ⟨f1,f2,f3⟩:=c4;obtain ⟨n1,n2⟩:=f3 q.toNat hq;generalize hfd:fs'.getD q.toNat bI=fd at n1 n2;have hp2:=n2.1;have hES:V8 20 l3 gs' fs':=⟨hb,by omega,by omega,by omega,FN.mem ⟨f1,f2,f3⟩,by omega⟩;refine bT (aG.2 ⟨c5.1,hc⟩) (bT ?_ (goN hb c2 (by omega) fun x6 j6 h6 a6 b6 => ?_))
 .show (true&&decide _)=true;simp [hfd];omega
 simp only [hfd];have b6:=b6 (by omega);rw [show dJ (1+x6)=1+x6 from aH (by omega)];refine bC _ ((TU hES 1048576).1 2 (by omega) (by omega) (1+x6) 7 j6 (jS++fd.params) (by omega) (by omega) (by simp;omega) h6) fun y ⟨ss,b,j,lo,e,d1,d2,d3,c,k,d4,d5,d6⟩ => ?_;subst e;have hset :∀i,(fs'.set q.toNat (aA.mk fd.name fd.line fd.params ss)).getD i bI=if i=q.toNat then aA.mk fd.name fd.line fd.params ss else fs'.getD i bI:=fun i=>jg hq
 have hsg:iY (fs'.set q.toNat (aA.mk fd.name fd.line fd.params ss))=iY fs':=by
  unfold iY;rw [List.map_set];have:fs'[q.toNat]=fd:=by rw [<-hfd,getD_at _ hq]
  rw [show ((aA.mk fd.name fd.line fd.params ss).name,(aA.mk fd.name fd.line fd.params ss).params.length)=(fs'.map fun f=>(f.name,f.params.length))[q.toNat]'(by simpa using hq) from by simp [this]];exact List.set_getElem_self _
 refine bT (aG.2 ⟨c5.1,hc⟩) (aF ⟨⟨rfl,d1,rfl,⟨by simpa using f1,?_,fun i hi => ?_⟩,?_,fun i hi => ?_⟩,?_⟩)
 .simp only;rw [hset];split
  .rename_i e;rw [<-e] at hfd;rw [hfd] at f2;exact f2
  .exact f2
 .simp only [UB] at hi ⊢;rw [hset];split
  .rename_i e;subst e;exact ⟨n1,n2⟩
  .exact f3 i hi
 .simp only [aH (x:=q+1) (by omega),UB];omega
 .simp only [aH (x:=q+1) (by omega)] at hi ⊢;rw [hset,hsg];split
  .rename_i e;exact ⟨d3.1,lo,c,k,by simpa using d4,by omega,by omega⟩
  .exact c6 i (by omega)
 .simp only [aH (x:=q+1) (by omega),UB];omega
theorem iL {R:Type} {body:Int->Option (Int ⊕ R)} {Q:R->Prop} (n:Nat) (P:Nat->Prop) (hn:n<=4000000000) (h :∀i:Nat,i<n->(∀j,j<i->P j)->Ok (body i) (J7 (fun j=>j=dJ (i+1)/\P i) Q)) (he:(∀j,j<n->P j)->Ok (body n) (J7 (fun _=>False) Q)):Ok (bF body 0) Q:=by
 refine bJ (fun i:Int =>∃k:Nat,i=k/\k<=n/\∀j,j<k->P j) (fun i=>(n-i).toNat) ⟨0,rfl,by omega,fun j hj=>by omega⟩ fun i ⟨k,e,h1,h2⟩ => ?_;subst e;by_cases hi:k<n
 .refine jR (h k hi h2) fun y hy => ?_;cases y with
  |inl j=>
   obtain ⟨e,hp⟩:j=dJ ((k:Int)+1)/\P k:=hy;rw [aH (by omega)] at e;exact ⟨⟨k+1,by omega,by omega,fun j hj=>by
    by_cases e:j=k
    .rw [e];exact hp
    .exact h2 j (by omega)⟩,by omega⟩
  |inr r=>exact hy
 .have e:k=n:=by omega
  subst e;refine jR (he h2) fun y hy => ?_;cases y with
  |inl j=>exact hy.elim
  |inr r=>exact hy
def cls:List UInt8->Nat
 | [_]=>1
 | [a,_]=>if a=112 then 1 else if a=103 then 2 else 3
 |_=>3
def LN (lo:List (List UInt8)):Prop :=∀x∈lo,cls x=1
theorem GN.cls {g:List aB} (h:GN g) :∀x∈g,YtapemkmlinejmaaGreatDoor.cls x.name=2:=fun x hx=>by
 obtain ⟨i,hi,e⟩:=Wt hx;have:=(h.2 i hi).1;rw [getD_at _ hi,e] at this;rw [this];rfl
theorem FN.cls {fs:List aA} (h:FN fs) :∀i,i<fs.length->YtapemkmlinejmaaGreatDoor.cls (fs.getD i bI).name=3:=fun i hi=>by
 rw [(h.2.2 i hi).1];split<;>rfl
theorem EO {i j:Nat} (hi:i<4) (hj:j<4) (h:digit i=digit j):i=j:=by
 have:i=0\/i=1\/i=2\/i=3:=by omega
 have:j=0\/j=1\/j=2\/j=3:=by omega
 rcases ‹i=0\/_› with rfl | rfl | rfl | rfl<;>rcases ‹j=0\/_› with rfl | rfl | rfl | rfl<;>first | rfl | (revert h;decide)
theorem GN.inj {g:List aB} (h:GN g) {i j:Nat} (hi:i<g.length) (hj:j<g.length) (e:(g.getD i (aB.mk bH 0)).name=(g.getD j (aB.mk bH 0)).name):i=j:=by
 rw [(h.2 i hi).1,(h.2 j hj).1] at e;have h4:=h.1;injection e with _ e;injection e with e _
 exact EO (by omega) (by omega) e
theorem FN.inj {fs:List aA} (h:FN fs) {i j:Nat} (hi:i<fs.length) (hj:j<fs.length) (e:(fs.getD i bI).name=(fs.getD j bI).name):i=j:=by
 rw [(h.2.2 i hi).1,(h.2.2 j hj).1] at e;have h4:=h.1.2;unfold aiF at e;split at e<;>split at e
 .omega
 .injection e with e _;exact absurd e (by decide)
 .injection e with e _;exact absurd e (by decide)
 .injection e with _ e;injection e with e _
  exact EO (by omega) (by omega) e
section
variable {g:List aB} {fs:List aA} {lo:List (List UInt8)}
theorem HY {nm:List UInt8} (hg:g.length<=1000000):Ok (f97 g fs nm) fun y=>(y=-1/\∀i,i<g.length->(g.getD i (aB.mk bH 0)).name≠nm)\/∃i:Nat,y=i/\i<g.length/\(g.getD i (aB.mk bH 0)).name=nm:=by
 unfold f97;refine iF (fun _ =>∀i,i<g.length->(g.getD i (aB.mk bH 0)).name≠nm) (iL g.length (fun i=>(g.getD i (aB.mk bH 0)).name≠nm) (by omega) (fun i h1 _=>goT (decide_eq_true (by omega)) (bT (aG.2 ⟨by omega,by omega⟩) (dG (fun h=>aF (.inr ⟨i,rfl,h1,by simpa using h⟩)) fun h=>aF ⟨rfl,by simpa using h⟩))) fun h=>b_ (decide_eq_false (by omega)) (aF h)) fun _ h=>aF (.inl ⟨rfl,h⟩)
theorem H6 {nm:List UInt8} (hg:fs.length<=1000000):Ok (f98 g fs nm) fun y=>(y=-1/\∀i,i<fs.length->(fs.getD i bI).name≠nm)\/∃i:Nat,y=i/\i<fs.length/\(fs.getD i bI).name=nm:=by
 unfold f98;refine iF (fun _ =>∀i,i<fs.length->(fs.getD i bI).name≠nm) (iL fs.length (fun i=>(fs.getD i bI).name≠nm) (by omega) (fun i h1 _=>goT (decide_eq_true (by omega)) (bT (aG.2 ⟨by omega,by omega⟩) (dG (fun h=>aF (.inr ⟨i,rfl,h1,by simpa using h⟩)) fun h=>aF ⟨rfl,by simpa using h⟩))) fun h=>b_ (decide_eq_false (by omega)) (aF h)) fun _ h=>aF (.inl ⟨rfl,h⟩)
theorem aej {nm:List UInt8} (hg:lo.length<=1000000):f100 lo nm=some (decide (nm∈lo)):=by
 apply ok_eq;unfold f100;refine iF (fun _ =>∀i,i<lo.length->lo.getD i bH≠nm) (iL lo.length (fun i=>lo.getD i bH≠nm) (by omega) (fun i h1 _=>goT (decide_eq_true (by omega)) (bT (aG.2 ⟨by omega,by omega⟩) (dG (fun h=>aF ?_) fun h=>aF ⟨rfl,by simpa using h⟩))) fun h=>b_ (decide_eq_false (by omega)) (aF h)) fun _ h=>aF ?_
 .have h:lo.getD i bH=nm:=by simpa using h
  refine (decide_eq_true ?_).symm;rw [<-h,getD_at _ h1];exact QR _
 .refine (decide_eq_false fun hm => ?_).symm;obtain ⟨i,hi,e⟩:=Wt hm;have:=h i hi;rw [getD_at _ hi] at this;exact this e
structure Sc (g:List aB) (fs:List aA) (lo:List (List UInt8)):Prop where
 gn:GN g
 fn:FN fs
 ln:LN lo
 lo:lo.length<=1000000
theorem YK (hg:GN g) {nm:List UInt8} {a:Bool} (h:PG a g nm):Ok (f97 g fs nm) fun y =>∃i:Nat,y=i/\i<g.length/\(g.getD i (aB.mk bH 0)).name=nm/\decide (0<(g.getD i (aB.mk bH 0)).size)=a:=by
 have h4:=hg.1;refine jR (HY (by omega)) fun y hy => ?_;obtain ⟨x,hx,e,hs⟩:=h;obtain ⟨j,hj,e2⟩:=Wt hx;have e3:g.getD j (aB.mk bH 0)=x:=by rw [getD_at _ hj,e2]
 rcases hy with ⟨_,hn⟩ | ⟨i,e4,h1,h2⟩
 .exact absurd (by rw [e3,e]) (hn j hj)
 .have:=hg.inj h1 hj (by rw [h2,e3,e]);subst this;exact ⟨i,e4,h1,h2,by rw [e3];exact hs⟩
theorem PO {nm:List UInt8} (hg:GN g) (h:cls nm≠2):f97 g fs nm=some (-1):=by
 have h4:=hg.1;obtain ⟨y,hy,hq⟩:=HY (g:=g) (fs:=fs) (nm:=nm) (by omega);rcases hq with ⟨e,_⟩ | ⟨i,_,h1,h2⟩
 .rw [hy,e]
 .have:=hg.cls _ (by rw [getD_at _ h1];exact QR _:g.getD i (aB.mk bH 0)∈g);rw [h2] at this;exact absurd this h
theorem aek {nm:List UInt8} {q:Nat} (h:(nm,q)∈iY fs) :∃i,i<fs.length/\(fs.getD i bI).name=nm/\(fs.getD i bI).params.length=q:=by
 obtain ⟨f,hf,e⟩:=X1.1 h;obtain ⟨i,hi,e2⟩:=Wt hf;injection e with e3 e4
 exact ⟨i,hi,by rw [getD_at _ hi,e2];exact e3,by rw [getD_at _ hi,e2];exact e4⟩
theorem PU (hf:FN fs) {nm:List UInt8} {q:Nat} (h:(nm,q)∈iY fs):Ok (f98 g fs nm) fun y =>∃i:Nat,y=i/\i<fs.length/\(fs.getD i bI).params.length=q:=by
 have h4:=hf.1.2;refine jR (H6 (by omega)) fun y hy => ?_;obtain ⟨j,hj,e1,e2⟩:=aek h;rcases hy with ⟨_,hn⟩ | ⟨i,e4,h1,h2⟩
 .exact absurd e1 (hn j hj)
 .have:=hf.inj h1 hj (by rw [h2,e1]);subst this;exact ⟨i,e4,h1,e2⟩
theorem ael (hf:FN fs) {nm:List UInt8} {q:Nat} (h:(nm,q)∈iY fs):cls nm=3:=by
 obtain ⟨j,hj,e1,_⟩:=aek h;rw [<-e1];exact hf.cls j hj
theorem aem (hg:GN g) {a:Bool} {nm:List UInt8} (h:PG a g nm):cls nm=2:=by
 obtain ⟨x,hx,e,_⟩:=h;rw [<-e];exact hg.cls x hx
theorem H7 (hg:GN g) {nm:List UInt8} {a:Bool} (h:PG a g nm):f101 g fs nm=some (if a then 3 else 2):=by
 apply ok_eq;unfold f101;refine bC _ (YK hg h) fun c ⟨i,e,h1,_,h2⟩ => ?_;subst e;refine goT (decide_eq_true (by omega)) (bT (aG.2 ⟨by omega,by omega⟩) (dG (fun hc=>aF ?_) fun hc=>aF ?_))
 .simp only [Q6] at hc;rw [<-h2,hc];rfl
 .simp only [Q6] at hc;rw [<-h2,hc];rfl
theorem ahg (hg:GN g) (hf:FN fs) {nm:List UInt8} {q:Nat} (h:(nm,q)∈iY fs):f101 g fs nm=some 4:=by
 apply ok_eq;unfold f101;refine fA (PO hg (by rw [ael hf h];omega)) (b_ rfl (bC _ (PU hf h) fun c ⟨i,e,_⟩ => ?_));subst e;exact goT (decide_eq_true (by omega)) (aF rfl)
theorem YL (hg:GN g) (hf:FN fs) {nm:List UInt8} (h:cls nm=1):f101 g fs nm=some 0:=by
 apply ok_eq;unfold f101;have h4:=hf.1.2;refine fA (PO hg (by omega)) (b_ rfl (bC _ (H6 (by omega)) fun c hc => ?_));rcases hc with ⟨e,_⟩ | ⟨i,_,h1,h2⟩
 .subst e;exact b_ rfl (aF rfl)
 .have:=hf.cls i h1;rw [h2] at this;omega
theorem aen {nm:List UInt8} (hg:GN g) (hf:FN fs):Ok (f101 g fs nm) fun _=>True:=by
 unfold f101;have h4:=hf.1.2;have h5:=hg.1;refine bC _ (HY (by omega)) fun c hc=>dG (fun h => ?_) fun _=>bC _ (H6 (by omega)) fun _ _=>dG (fun _=>aF trivial) fun _=>aF trivial;rcases hc with ⟨e,_⟩ | ⟨i,e,h1,_⟩
 .rw [e] at h;cases h
 .exact bT (aG.2 ⟨by omega,by omega⟩) (dG (fun _=>aF trivial) fun _=>aF trivial)
theorem ahh {nm:List UInt8} (h:Sc g fs lo) {a b:Int} {P:Int->Prop} (h1:nm∈lo->P 1) (h2:¬ nm∈lo->Ok (f101 g fs nm) P):Ok (f117 nm g fs a b lo) fun y =>∃k,y=(k,g,fs,a,b,lo)/\P k:=by
 refine bC (fun y =>∃k,y=(k,g,fs,a,b,lo)/\P k) ?_ fun y ⟨k,e,h⟩=>by subst e;exact goK rfl (aF ⟨k,rfl,h⟩)
 unfold adw;refine bC (fun y =>∃k,y=(k,g,fs,a,b,lo)/\P k) ?_ fun y ⟨k,e,h⟩=>by subst e;exact bT (by simp) (aF ⟨k,rfl,h⟩)
 refine fA (aej h.lo) (dG (fun hc=>aF ⟨1,rfl,h1 (by simpa using hc)⟩) fun hc=>bC _ (h2 (by simpa using hc)) fun c hc=>aF ⟨c,rfl,hc⟩)
theorem aeo {β:Type} {nm:List UInt8} (h:Sc g fs lo) {a b:Int} {f} {Q:β->Prop} {P:Int->Prop} (h1:nm∈lo->P 1) (h2:¬ nm∈lo->Ok (f101 g fs nm) P) (k :∀q,P q->Ok (f (q,g,fs,a,b,lo)) Q):Ok (Option.bind (f117 nm g fs a b lo) f) Q:=
 bC _ (ahh h h1 h2) fun y ⟨q,e,h⟩=>by subst e;exact k q h
theorem V_ (h:Sc g fs lo) {nm:List UInt8} (hc:cls nm≠1):¬ nm∈lo:=fun hm=>hc (h.ln nm hm)
inductive Wh (g:List aB) (fs:List aA) (lo:List (List UInt8)) (nm:List UInt8):Int->Prop
 |loc:nm∈lo->Wh g fs lo nm 1
 |glo:¬ nm∈lo->PG false g nm->Wh g fs lo nm 2
 |arr:¬ nm∈lo->PG true g nm->Wh g fs lo nm 3
 |fn {q:Nat}:¬ nm∈lo->(nm,q)∈iY fs->Wh g fs lo nm 4
theorem akA (h:Sc g fs lo) {nm:List UInt8} (hv:NV g lo nm) :∃k,Wh g fs lo nm k/\(k=1\/k=2):=by
 by_cases hm:nm∈lo
 .exact ⟨1,.loc hm,.inl rfl⟩
 .exact ⟨2,.glo hm (hv.resolve_left hm),.inr rfl⟩
theorem asA (h:Sc g fs lo) {nm:List UInt8} (hv:PG true g nm):Wh g fs lo nm 3:=.arr (V_ h (by rw [aem h.gn hv];omega)) hv
theorem aol (h:Sc g fs lo) {nm:List UInt8} {q:Nat} (hv:(nm,q)∈iY fs):Wh g fs lo nm 4:=.fn (V_ h (by rw [ael h.fn hv];omega)) hv
theorem ahi {β:Type} {nm:List UInt8} {q:Int} (h:Sc g fs lo) (hw:Wh g fs lo nm q) {a b:Int} {f} {Q:β->Prop} (k:Ok (f (q,g,fs,a,b,lo)) Q):Ok (Option.bind (f117 nm g fs a b lo) f) Q:=by
 refine aeo h (P:=fun z=>z=q) (fun hm => ?_) (fun hm => ?_) fun z hz=>by subst hz;exact k
 .cases hw with
  |loc _=>rfl
  |glo h _=>exact absurd hm h
  |arr h _=>exact absurd hm h
  |fn h _=>exact absurd hm h
 .cases hw with
  |loc h=>exact absurd h hm
  |glo _ h'=>exact ⟨2,H7 h.gn h',rfl⟩
  |arr _ h'=>exact ⟨3,H7 h.gn h',rfl⟩
  |fn _ h'=>exact ⟨4,ahg h.gn h.fn h',rfl⟩
theorem Wi {β:Type} (h:Sc g fs lo) {k o v i:Int} {nm:List UInt8} {ar:List aP} {p q z a b:Int} (hw:Wh g fs lo nm z) (hz:z=p\/z=q) {f} {Q:β->Prop} (k':Ok (f (g,fs,a,b,lo)) Q):Ok (Option.bind (f124 k o v i nm ar p q g fs a b lo) f) Q:=by
 have hz0:z≠0:=by cases hw<;>omega
 refine bC (fun y=>y=(g,fs,a,b,lo)) ?_ fun y e=>by subst e;exact k'
 refine bC (fun y=>y=(g,fs,a,b,lo)) ?_ fun y e=>by subst e;exact goK rfl (aF rfl)
 unfold adF;refine bC (fun y=>y=(g,fs,a,b,lo)) ?_ fun y e=>by subst e;exact bT (by simp) (aF rfl)
 refine ahi h hw (bC (fun y=>y=(g,fs,a,b)) ?_ fun y e=>by subst e;exact aF rfl);refine b_ (decide_eq_false hz0) (bC (fun y=>y=false) ?_ fun y e=>by subst e;exact bC (fun y=>y=(g,fs,a,b)) (b_ rfl (aF rfl)) fun y e=>by subst e;exact aF rfl);refine dG (fun hp=>aF ?_) fun _=>aF rfl;have hp:z≠p:=by simpa using hp
 have:z=q:=hz.resolve_left hp;simp [this]
inductive QX (g:List aB) (sg:List (List UInt8×Nat)) (lo:List (List UInt8)):Nat->aP->Prop
 |leaf {n:Nat} {k o v i:Int} {nm:List UInt8}:k=1\/k=12->QX g sg lo (n+1) (aP.mk k o v i nm [])
 |loc {n:Nat} {o v i:Int} {nm:List UInt8}:nm∈lo->QX g sg lo (n+1) (aP.mk 2 o v i nm [])
 |glo {n:Nat} {o v i:Int} {nm:List UInt8}:PG false g nm->QX g sg lo (n+1) (aP.mk 3 o v i nm [])
 |func {n:Nat} {o v i:Int} {nm:List UInt8} {q:Nat}:(nm,q)∈sg->QX g sg lo (n+1) (aP.mk 11 o v i nm [])
 |elem {n:Nat} {o v i:Int} {nm:List UInt8} {a:aP}:PG true g nm->QX g sg lo n a->QX g sg lo (n+1) (aP.mk 4 o v i nm [a])
 |un {n:Nat} {o v i:Int} {nm:List UInt8} {a:aP}:o=1\/o=2->QX g sg lo n a->QX g sg lo (n+1) (aP.mk 5 o v i nm [a])
 |bin {n:Nat} {o v i:Int} {nm:List UInt8} {a b:aP}:3<=o/\o<=11->QX g sg lo n a->QX g sg lo n b->QX g sg lo (n+1) (aP.mk 6 o v i nm [a,b])
 |lazy {n:Nat} {k o v i:Int} {nm:List UInt8} {a b:aP}:k=7\/k=8->QX g sg lo n a->QX g sg lo n b->QX g sg lo (n+1) (aP.mk k o v i nm [a,b])
 |call {n:Nat} {o v i:Int} {nm:List UInt8} {ar:List aP}:(nm,ar.length)∈sg->ar.length<=2->(∀y∈ar,QX g sg lo n y)->QX g sg lo (n+1) (aP.mk 9 o v i nm ar)
 |value {n:Nat} {o v i:Int} {nm:List UInt8} {f:aP} {ar:List aP}:ar.length<=2->QX g sg lo n f->(∀y∈ar,QX g sg lo n y)->QX g sg lo (n+1) (aP.mk 10 o v i nm (f::ar))
theorem QX.mono {sg:List (List UInt8×Nat)} {lo':List (List UInt8)} (hl :∀x∈lo,x∈lo') {n:Nat} {x:aP} (h:QX g sg lo n x):QX g sg lo' n x:=by
 induction h with
 |leaf h=>exact .leaf h
 |loc h=>exact .loc (hl _ h)
 |glo h=>exact .glo h
 |func h=>exact .func h
 |elem h _ ih=>exact .elem h ih
 |un h _ ih=>exact .un h ih
 |bin h _ _ i1 i2=>exact .bin h i1 i2
 |lazy h _ _ i1 i2=>exact .lazy h i1 i2
 |call h2 h3 _ ih=>exact .call h2 h3 ih
 |value h1 _ _ i1 i2=>exact .value h1 i1 i2
def vk (lo:List (List UInt8)) (nm:List UInt8):Int:=if nm∈lo then 2 else 3
theorem aom {sg:List (List UInt8×Nat)} {nm:List UInt8} (hv:NV g lo nm) {n:Nat} {o v i:Int}:QX g sg lo (n+1) (aP.mk (vk lo nm) o v i nm []):=by
 unfold vk;split
 .rename_i h;exact .loc h
 .rename_i h;exact .glo (hv.resolve_left h)
def asB (lo:List (List UInt8)) (nm:List UInt8) (i:Int):aP:=aP.mk (vk lo nm) 0 0 i nm []
theorem YM {β:Type} (h:Sc g fs lo) {i a b:Int} {nm:List UInt8} (hv:NV g lo nm) {f} {Q:β->Prop} (k':Ok (f (vk lo nm,0,0,i,nm,g,fs,a,b,lo)) Q):Ok (Option.bind (f125 nm i g fs a b lo) f) Q:=by
 refine bC (fun y=>y=(vk lo nm,0,0,i,nm,g,fs,a,b,lo)) ?_ fun y e=>by subst e;exact k'
 refine bC (fun y=>y=(vk lo nm,0,0,i,nm,g,fs,a,b,lo)) ?_ fun y e=>by subst e;exact goK rfl (aF rfl)
 unfold adH;refine bC (fun y=>y=(vk lo nm,0,0,i,nm,g,fs,a,b,lo)) ?_ fun y e=>by subst e;exact bT (by simp) (aF rfl)
 obtain ⟨k,hw,hk⟩:=akA h hv;refine ahi h hw (bC (fun y=>y=vk lo nm) ?_ fun y e=>by subst e;exact aF rfl);unfold vk;cases hw with
 |loc hm=>rw [if_pos hm];exact b_ rfl (aF rfl)
 |glo hm _=>rw [if_neg hm];exact goT rfl (aF rfl)
 |arr _ _=>omega
 |fn _ _=>omega
def PX (n:Nat) (g:List aB) (fs:List aA) (lo:List (List UInt8)) (a b:Int) (y:Int×Int×Int×Int×List UInt8×List aB×List aA×Int×Int×List (List UInt8)×List aP):Prop:=
 ∃k o v i nm ar,y=(k,o,v,i,nm,g,fs,a,b,lo,ar)/\QX g (iY fs) lo n (aP.mk k o v i nm ar)
def PXs (n m:Nat) (g:List aB) (fs:List aA) (lo:List (List UInt8)) (a b:Int) (y:List aB×List aA×Int×Int×List (List UInt8)×List aP):Prop:=
 ∃ar,y=(g,fs,a,b,lo,ar)/\ar.length=m/\∀x∈ar,QX g (iY fs) lo n x
theorem Wj {rec:VK} {rec':aah} {n:Nat} {a b:Int} {ls:List aP} (hl:ls.length<=10) (hr :∀x∈ls,Ok (rec x.kind x.op x.value x.line x.name x.args g fs a b lo) (PX n g fs lo a b)) :
  Ok (Ye rec rec' ls g fs a b lo) (PXs n ls.length g fs lo a b):=by
 unfold Ye;refine bC (PXs n ls.length g fs lo a b) ?_ fun y ⟨ar,e,h⟩=>by subst e;exact bT (by simp) (aF ⟨ar,rfl,h⟩)
 refine bC (fun y =>∃ar,y=(g,fs,a,b,ar)/\ar.length=ls.length/\∀x∈ar,QX g (iY fs) lo n x) ?_ fun y ⟨ar,e,h⟩=>by subst e;exact aF ⟨ar,rfl,h⟩
 refine bJ (fun s:Int×List aB×List aA×Int×Int×List aP =>∃q ar,s=(q,g,fs,a,b,ar)/\(ar.length:Int)=q/\ar.length<=ls.length/\∀x∈ar,QX g (iY fs) lo n x) (fun s=>(ls.length-s.1).toNat) ⟨0,[],rfl,rfl,by simp,fun x h=>by cases h⟩ fun s ⟨q,ar,e,h1,h2,h3⟩ => ?_;subst e;subst h1;refine dG (fun hc => ?_) fun hc=>aF ⟨ar,rfl,?_,h3⟩
 .have hc:ar.length<ls.length:=by simp at hc;omega
  refine bT (aG.2 ⟨by simp only;omega,by simp only;omega⟩) (bC _ (hr _ (by rw [getD_at _ (by simpa using hc)];exact QR _)) fun y ⟨k,o,v,i,nm,Ky,e,hx⟩ => ?_);subst e;refine bT (by unfold aX;simp;omega) (aF ⟨⟨_,_,rfl,?_,?_,fun x hx' => ?_⟩,?_⟩)
  all_goals try simp only [aH (x:=(ar.length:Int)+1) (by omega)]
  .simp
  .simp;omega
  .rcases X2.1 hx' with h | h
   .exact h3 x h
   .rw [QP] at h;subst h;exact hx
  .omega
 .have hc:¬ (ar.length:Int)<ls.length:=by simpa using hc
  omega
theorem vV {n:Nat} {sg:List (List UInt8×Nat)} {ar:List aP} (h:ar.length=1) (hq :∀x∈ar,QX g sg lo n x) :∃x,ar=[x]/\QX g sg lo n x:=by
 obtain ⟨x,e⟩:=List.length_eq_one_iff.1 h;subst e;exact ⟨x,rfl,hq x (by simp)⟩
theorem aer {n:Nat} {sg:List (List UInt8×Nat)} {ar:List aP} (h:ar.length=2) (hq :∀x∈ar,QX g sg lo n x) :∃x z,ar=[x,z]/\QX g sg lo n x/\QX g sg lo n z:=by
 match ar,h with
 | [x,z],_=>exact ⟨x,z,rfl,hq x (by simp),hq z (by simp)⟩
theorem RX.args {sg:List (List UInt8×Nat)} {n:Nat} {x:aP} (h:RX g sg lo (n+1) x):x.args.length<=3/\∀y∈x.args,RX g sg lo n y:=by
 cases h with
 |leaf _=>exact ⟨by simp,fun y h=>by cases h⟩
 |name _=>exact ⟨by simp,fun y h=>by cases h⟩
 |func _=>exact ⟨by simp,fun y h=>by cases h⟩
 |elem _ h=>exact ⟨by simp,o_ h⟩
 |un _ h=>exact ⟨by simp,o_ h⟩
 |bin _ h1 h2=>exact ⟨by simp,fun y hy=>by rcases QQ.1 hy with e | e;(· subst e;exact h1);exact o_ h2 y e⟩
 |lazy _ h1 h2=>exact ⟨by simp,fun y hy=>by rcases QQ.1 hy with e | e;(· subst e;exact h1);exact o_ h2 y e⟩
 |call _ _ h1 h2=>exact ⟨by simp only;omega,h2⟩
 |value h1 h2 h3=>exact ⟨by simp only [Wg];omega,fun y hy=>by rcases QQ.1 hy with e | e;(· subst e;exact h2);exact h3 y e⟩
theorem aes {rec:VK} {rec':aah} {n:Nat} (h:Sc g fs lo) {k o v i a b:Int} {nm:List UInt8} {ar:List aP} (hx:RX g (iY fs) lo (n+1) (aP.mk k o v i nm ar)) (hr:Ok (rec' ar g fs a b lo) (PXs n ar.length g fs lo a b)) :
  Ok (Yd rec rec' k o v i nm ar g fs a b lo) (PX (n+1) g fs lo a b):=by
 have h3:=hx.args.1;simp only at h3;unfold Yd;refine bC (PX (n+1) g fs lo a b) ?_ fun y ⟨k,o,v,i,nm,ar,e,h⟩=>by subst e;exact bT (by simp) (aF ⟨k,o,v,i,nm,ar,rfl,h⟩)
 have fin:(∀Ky,Ky.length=ar.length->(∀z∈Ky,QX g (iY fs) lo n z)->QX g (iY fs) lo (n+1) (aP.mk k o v i nm Ky))->∀y:List aB×List aA×Int×Int,y=(g,fs,a,b)->Ok (Option.bind (rec' ar y.1 y.2.1 y.2.2.1 y.2.2.2 lo) fun c40=>some (k,o,v,i,nm,c40.1,c40.2.1,c40.2.2.1,c40.2.2.2.1,lo,c40.2.2.2.2.2)) (PX (n+1) g fs lo a b):=fun hq y e=>by
  subst e;refine bC _ hr fun y ⟨Ky,e,h1,h2⟩ => ?_;subst e;exact aF ⟨k,o,v,i,nm,Ky,rfl,hq Ky h1 h2⟩
 have pass:¬ k=13->¬ k=4->¬ k=11->¬ k=9->∀{P:Int×Int×Int×Int×List UInt8×List aB×List aA×Int×Int×List (List UInt8)×List aP->Prop} (fn:List aB×List aA×Int×Int->Option _),(∀y,y=(g,fs,a,b)->Ok (fn y) P)->True:=fun _ _ _ _ _ _ _=>trivial;clear pass;cases hx with
 |name hv=>
  obtain ⟨z,hw,hz⟩:=akA h hv;exact goT rfl (Wi h hw hz (YM h hv (aF ⟨_,_,_,_,_,_,rfl,aom hv⟩)))
 |elem hp hy=>
  refine b_ rfl (iF (fun y=>y=(g,fs,a,b)) (goT rfl (Wi h (asA h hp) (.inl rfl) (aF rfl))) (fin fun Ky h1 h2 => ?_));obtain ⟨x,e,hx⟩:=vV h1 h2;subst e;exact .elem hp hx
 |func hs=>
  refine b_ rfl (iF (fun y=>y=(g,fs,a,b)) (b_ rfl (iF (fun y=>y=(g,fs,a,b)) (goT rfl (Wi h (aol h hs) (.inl rfl) (aF rfl))) fun y e=>by subst e;exact aF rfl)) (fin fun Ky h1 h2 => ?_));have:Ky=[]:=Wb.1 h1;subst this;exact .func hs
 |call h1 h2 h3' h4=>
  rcases h2 with hs | hv
  .refine b_ rfl (iF (fun y=>y=(g,fs,a,b)) (b_ rfl (iF (fun y=>y=(g,fs,a,b)) (b_ rfl (iF (fun y=>y=(g,fs,a,b)) (goT rfl (ahi h (aol h hs) (iF (fun y=>y=(g,fs,a,b)) (b_ rfl (iF (fun y=>y=(g,fs,a,b)) (b_ rfl (goT rfl (bC _ (PU h.fn hs) fun c ⟨j,e,j1,j2⟩ => ?_))) fun y e=>by subst e;exact aF rfl)) fun y e=>by subst e;exact aF rfl))) fun y e=>by subst e;exact aF rfl)) fun y e=>by subst e;exact aF rfl)) (fin fun Ky h5 h6=>.call (by rw [h5];exact hs) (by omega) h6));subst e;refine bT (aG.2 ⟨by omega,by simp only;omega⟩) (bC (fun y=>y=(g,fs,a,b)) (b_ ?_ (aF rfl)) fun y e=>by subst e;exact aF rfl);rw [qb];refine decide_eq_true ?_;simp only [Q6];omega
  .obtain ⟨m,rfl⟩ :∃m,n=m+1:=⟨n-1,by omega⟩;obtain ⟨z,hw,hz⟩:=akA h hv;refine b_ rfl (iF (fun y=>False) (b_ rfl (iF (fun y=>False) (b_ rfl (iF (fun y=>False) (goT rfl (ahi h hw (iF (fun y=>False) (b_ (decide_eq_false (by simp only;omega)) (iF (fun y=>False) (b_ (decide_eq_false (by simp only;omega)) (b_ (decide_eq_false (by simp only;omega)) (bC (fun y=>y=(g,fs,a,b)) (b_ (decide_eq_false (by omega)) (aF rfl)) fun y e => ?_))) fun y e=>e.elim)) fun y e=>e.elim))) fun y e=>e.elim)) fun y e=>e.elim)) fun y e=>e.elim);subst e;refine YM h hv (bC _ hr fun y ⟨Ky,e,h5,h6⟩ => ?_);subst e;exact bT (by unfold aX;simp;omega) (aF ⟨_,_,_,_,_,asB lo nm i::Ky,rfl,.value (by omega) (aom hv) h6⟩)
 |value h1 h2 h4=>
  refine b_ rfl (iF (fun y=>y=(g,fs,a,b)) (b_ rfl (iF (fun y=>y=(g,fs,a,b)) (b_ rfl (iF (fun y=>y=(g,fs,a,b)) (b_ rfl (bC (fun y=>y=(g,fs,a,b)) (goT rfl (bC (fun y=>y=(g,fs,a,b)) (b_ (decide_eq_false (by omega)) (aF rfl)) fun y e=>by subst e;exact aF rfl)) fun y e=>by subst e;exact aF rfl)) fun y e=>by subst e;exact aF rfl)) fun y e=>by subst e;exact aF rfl)) (fin fun Ky h5 h6 => ?_))
  match Ky,h5 with
  |f::Ky,h5=>exact .value (by simp at h5;omega) (h6 _ (by simp)) fun y hy=>h6 y (by simp [hy])
 |leaf hk=>
  refine b_ (decide_eq_false (by omega)) (iF (fun y=>y=(g,fs,a,b)) (b_ (decide_eq_false (by omega)) (iF (fun y=>y=(g,fs,a,b)) (b_ (decide_eq_false (by omega)) (iF (fun y=>y=(g,fs,a,b)) (b_ (decide_eq_false (by omega)) (bC (fun y=>y=(g,fs,a,b)) (b_ (decide_eq_false (by omega)) (aF rfl)) fun y e=>by subst e;exact aF rfl)) fun y e=>by subst e;exact aF rfl)) fun y e=>by subst e;exact aF rfl)) (fin fun Ky h5 h6 => ?_));have:Ky=[]:=Wb.1 h5;subst this;exact .leaf hk
 |un ho hy=>
  refine b_ rfl (iF (fun y=>y=(g,fs,a,b)) (b_ rfl (iF (fun y=>y=(g,fs,a,b)) (b_ rfl (iF (fun y=>y=(g,fs,a,b)) (b_ rfl (bC (fun y=>y=(g,fs,a,b)) (b_ rfl (aF rfl)) fun y e=>by subst e;exact aF rfl)) fun y e=>by subst e;exact aF rfl)) fun y e=>by subst e;exact aF rfl)) (fin fun Ky h5 h6 => ?_));obtain ⟨x,e,hx⟩:=vV h5 h6;subst e;exact .un ho hx
 |bin ho hy hz=>
  refine b_ rfl (iF (fun y=>y=(g,fs,a,b)) (b_ rfl (iF (fun y=>y=(g,fs,a,b)) (b_ rfl (iF (fun y=>y=(g,fs,a,b)) (b_ rfl (bC (fun y=>y=(g,fs,a,b)) (b_ rfl (aF rfl)) fun y e=>by subst e;exact aF rfl)) fun y e=>by subst e;exact aF rfl)) fun y e=>by subst e;exact aF rfl)) (fin fun Ky h5 h6 => ?_));obtain ⟨x,z,e,hx,hz⟩:=aer h5 h6;subst e;exact .bin ho hx hz
 |lazy hk hy hz=>
  refine b_ (decide_eq_false (by omega)) (iF (fun y=>y=(g,fs,a,b)) (b_ (decide_eq_false (by omega)) (iF (fun y=>y=(g,fs,a,b)) (b_ (decide_eq_false (by omega)) (iF (fun y=>y=(g,fs,a,b)) (b_ (decide_eq_false (by omega)) (bC (fun y=>y=(g,fs,a,b)) (b_ (decide_eq_false (by omega)) (aF rfl)) fun y e=>by subst e;exact aF rfl)) fun y e=>by subst e;exact aF rfl)) fun y e=>by subst e;exact aF rfl)) (fin fun Ky h5 h6 => ?_));obtain ⟨x,z,e,hx,hz⟩:=aer h5 h6;subst e;exact .lazy hk hx hz
theorem aaM (n:Nat):(o8 (n+1)).1=Yd (Yf n) (ais n):=rfl
theorem aaN (n:Nat):(o8 (n+1)).2=Ye (Yf n) (ais n):=rfl
theorem Ns (h:Sc g fs lo) {a b:Int} :∀n:Nat,∀k,2*n<=k->∀x,RX g (iY fs) lo n x->Ok (Yf k x.kind x.op x.value x.line x.name x.args g fs a b lo) (PX n g fs lo a b)
 |0,_,_=>fun _ h=>by cases h
 |n+1,0,hk=>by omega
 |n+1,1,hk=>by omega
 |n+1,k+2,hk=>fun x hx=>by
  have ih:=Ns h (a:=a) (b:=b) n k (by omega);obtain ⟨w1,w2⟩:=hx.args;obtain ⟨x1,x2,x3,x4,x5,x6⟩:=x;refine bC (PX (n+1) g fs lo a b) ?_ fun y ⟨k,o,v,i,nm,ar,e,h⟩=>by subst e;exact goK rfl (aF ⟨k,o,v,i,nm,ar,rfl,h⟩)
  rw [aaM];refine aes h hx ?_;refine bC (PXs n x6.length g fs lo a b) ?_ fun y ⟨ar,e,h⟩=>by subst e;exact goK rfl (aF ⟨ar,rfl,h⟩)
  rw [aaN];exact Wj (J1 w1 (by omega)) fun z hz=>ih z (w2 z hz)
theorem Nu {sg:List (List UInt8×Nat)} :∀n k:Nat,n<=k->n<=1000->∀x,RX g sg lo n x->Ok (X9 k x.kind x.op x.value x.line x.name x.args) fun y=>0<=y/\y<=n
 |0,_,_,_,_,h=>by cases h
 |n+1,0,hk,_,_,_=>by omega
 |n+1,k+1,hk,hn,x,h=>by
  have ih :∀x,RX g sg lo n x->Ok (X9 k x.kind x.op x.value x.line x.name x.args) fun y=>0<=y/\y<=n:=Nu n k (by omega) (by omega);show Ok (adu (X9 k) x.kind x.op x.value x.line x.name x.args) _;obtain ⟨hl,hr⟩:=h.args;unfold adu;refine bC (fun y=>0<=y/\y<=n) ?_ fun y hy=>aF (by rw [aH (by omega)];omega);refine bJ (fun s:Int×Int=>(0<=s.2/\s.2<=x.args.length)/\0<=s.1/\s.1<=n) (fun s=>(x.args.length-s.2).toNat) ⟨⟨by simp,by simp⟩,by simp,by simp only;omega⟩ fun ⟨z,q⟩ ⟨⟨h1,h2⟩,h3⟩=>dG (fun hc => ?_) fun _=>aF h3;have hc:q<x.args.length:=by simpa using hc
  simp only at h1 h2 h3;refine bT (aG.2 ⟨h1,hc⟩) (bC _ (ih _ (hr _ (by rw [getD_at _ (by simp only;omega)];exact QR _))) fun y hy=>aF ⟨⟨⟨?_,?_⟩,?_⟩,?_⟩)
  .simp only [aH (x:=q+1) (by omega)];omega
  .simp only [aH (x:=q+1) (by omega)];omega
  .rw [Hg];omega
  .simp only [aH (x:=q+1) (by omega)];omega
end
theorem aeu {α:Type} {l:List α} {q:Int} (d:α) (h0:0<=q) (h1:q<l.length):l.getD q.toNat d∈l:=by
 rw [getD_at _ (by omega)];exact QR _
inductive QS1 (g:List aB) (sg:List (List UInt8×Nat)) (L:List (List UInt8)) (P:List (List UInt8)->cO->List (List UInt8)->Nat->Nat->Prop) (lo:List (List UInt8)):cO->List (List UInt8)->Nat->Nat->Prop
 |var {i:Int} {nm:List UInt8} {x:aP}:nm∈L->QX g sg L 3 x->QS1 g sg L P lo (cO.mk 1 i nm [x] [] []) (lo++[nm]) 1 1
 |assign {i:Int} {nm:List UInt8} {x:aP}:NV g L nm->QX g sg L 3 x->QS1 g sg L P lo (cO.mk 2 i nm [x] [] []) lo 1 1
 |step {i:Int} {nm:List UInt8} {x:aP}:NV g L nm->QX g sg L 2 x->QS1 g sg L P lo (cO.mk 2 i nm [x] [] []) lo 0 1
 |store {i:Int} {nm:List UInt8} {x z:aP}:PG true g nm->QX g sg L 2 x->QX g sg L 3 z->QS1 g sg L P lo (cO.mk 3 i nm [x,z] [] []) lo 1 1
 |if' {i:Int} {nm:List UInt8} {x:aP} {th el:List cO} {l1 l2:List (List UInt8)} {c1 c2 k1 k2:Nat}:QX g sg L 3 x->th.length<=10->el.length<=10->Ch P lo th l1 c1 k1->Ch P l1 el l2 c2 k2->QS1 g sg L P lo (cO.mk 4 i nm [x] th el) l2 (1+c1+c2) (1+k1+k2)
 |qU {i:Int} {nm:List UInt8} {x:aP} {th:List cO} {l1:List (List UInt8)} {c1 k1:Nat}:QX g sg L 3 x->th.length<=10->Ch P lo th l1 c1 k1->QS1 g sg L P lo (cO.mk 5 i nm [x] th []) l1 (1+c1) (1+k1)
 |plain {k i:Int} {nm:List UInt8} {x:aP}:k=6\/k=7\/k=8->QX g sg L 3 x->QS1 g sg L P lo (cO.mk k i nm [x] [] []) lo 1 1
def QS (g:List aB) (sg:List (List UInt8×Nat)) (L:List (List UInt8)):Nat->List (List UInt8)->cO->List (List UInt8)->Nat->Nat->Prop
 |0=>fun _ _ _ _ _=>False
 |n+1=>fun lo s lo' c k=>QS1 g sg L (QS g sg L n) lo s lo' c k
abbrev Rel:=Nat->List (List UInt8)->cO->List (List UInt8)->Nat->Nat->Prop
def View (P:Rel) (n:Nat) (lo:List (List UInt8)) (s:cO) (lo':List (List UInt8)):Prop:=
 ∃l1 l2 c1 c2 k1 k2,(s.kind=1->l1=lo++[s.name])/\(s.kind≠1->l1=lo)/\Ch (P n) l1 s.then' l2 c1 k1/\Ch (P n) l2 s.else' lo' c2 k2/\s.then'.length<=10/\s.else'.length<=10
theorem YN {g:List aB} {sg:List (List UInt8×Nat)} {n:Nat} {lo lo':List (List UInt8)} {s:cO} {c k:Nat} (h:RS g sg (n+1) lo s lo' c k):View (RS g sg) n lo s lo':=by
 cases (show RS1 g sg (RS g sg n) lo s lo' c k from h) with
 |var _ _ _=>exact ⟨_,_,0,0,0,0,fun _=>rfl,fun h=>absurd rfl h,.nil,.nil,by simp,by simp⟩
 |assign _ _=>exact ⟨_,_,0,0,0,0,fun h=>absurd h (by simp),fun _=>rfl,.nil,.nil,by simp,by simp⟩
 |step _=>exact ⟨_,_,0,0,0,0,fun h=>absurd h (by simp),fun _=>rfl,.nil,.nil,by simp,by simp⟩
 |store _ _ _=>exact ⟨_,_,0,0,0,0,fun h=>absurd h (by simp),fun _=>rfl,.nil,.nil,by simp,by simp⟩
 |if' _ h1 h2 a b=>exact ⟨_,_,_,_,_,_,fun h=>absurd h (by simp),fun _=>rfl,a,b,h1,h2⟩
 |qU _ h1 a=>exact ⟨_,_,_,0,_,0,fun h=>absurd h (by simp),fun _=>rfl,a,.nil,h1,by simp⟩
 |plain hk _=>exact ⟨_,_,0,0,0,0,fun h=>by simp only at h;omega,fun _=>rfl,.nil,.nil,by simp,by simp⟩
theorem ahj {g:List aB} {sg:List (List UInt8×Nat)} {L:List (List UInt8)} {n:Nat} {lo lo':List (List UInt8)} {s:cO} {c k:Nat} (h:QS g sg L (n+1) lo s lo' c k):View (QS g sg L) n lo s lo':=by
 cases (show QS1 g sg L (QS g sg L n) lo s lo' c k from h) with
 |var _ _=>exact ⟨_,_,0,0,0,0,fun _=>rfl,fun h=>absurd rfl h,.nil,.nil,by simp,by simp⟩
 |assign _ _=>exact ⟨_,_,0,0,0,0,fun h=>absurd h (by simp),fun _=>rfl,.nil,.nil,by simp,by simp⟩
 |step _ _=>exact ⟨_,_,0,0,0,0,fun h=>absurd h (by simp),fun _=>rfl,.nil,.nil,by simp,by simp⟩
 |store _ _ _=>exact ⟨_,_,0,0,0,0,fun h=>absurd h (by simp),fun _=>rfl,.nil,.nil,by simp,by simp⟩
 |if' _ h1 h2 a b=>exact ⟨_,_,_,_,_,_,fun h=>absurd h (by simp),fun _=>rfl,a,b,h1,h2⟩
 |qU _ h1 a=>exact ⟨_,_,_,0,_,0,fun h=>absurd h (by simp),fun _=>rfl,a,.nil,h1,by simp⟩
 |plain hk _=>exact ⟨_,_,0,0,0,0,fun h=>by simp only at h;omega,fun _=>rfl,.nil,.nil,by simp,by simp⟩
theorem Ch.at {P:List (List UInt8)->cO->List (List UInt8)->Nat->Nat->Prop} {lo l1:List (List UInt8)} {ss:List cO} {c k i:Nat} (h:Ch P lo (ss.drop i) l1 c k) (hi:i<ss.length) :∃l2 c1 c2 k1 k2,P lo (ss.getD i o7) l2 c1 k1/\Ch P l2 (ss.drop (i+1)) l1 c2 k2/\c=c1+c2/\k=k1+k2:=by
 rw [List.drop_eq_getElem_cons hi] at h;cases h with
 |cons a b=>rw [getD_at _ hi];exact ⟨_,_,_,_,_,a,b,rfl,rfl⟩
theorem Ch.fin {P:List (List UInt8)->cO->List (List UInt8)->Nat->Nat->Prop} {lo l1:List (List UInt8)} {ss:List cO} {c k i:Nat} (h:Ch P lo (ss.drop i) l1 c k) (hi:ss.length<=i):lo=l1/\c=0/\k=0:=by
 rw [List.drop_eq_nil_of_le hi] at h;cases h with
 |nil=>exact ⟨rfl,rfl,rfl⟩
theorem Ch.len {P:List (List UInt8)->cO->List (List UInt8)->Nat->Nat->Prop} (hP :∀lo s l1 c k,P lo s l1 c k->lo.length<=l1.length/\l1.length<=lo.length+k) {lo l1:List (List UInt8)} {ss:List cO} {c k:Nat} (h:Ch P lo ss l1 c k):lo.length<=l1.length/\l1.length<=lo.length+k:=by
 induction h with
 |nil=>omega
 |cons a _ ih=>have:=hP _ _ _ _ _ a;omega
theorem EP {g:List aB} {sg:List (List UInt8×Nat)} :∀n lo s l1 c k,RS g sg n lo s l1 c k->lo.length<=l1.length/\l1.length<=lo.length+k
 |0,_,_,_,_,_,h=>h.elim
 |n+1,lo,s,l1,c,k,h=>by
  have ih:=EP (g:=g) (sg:=sg) n;cases (show RS1 g sg (RS g sg n) lo s l1 c k from h) with
  |var _ _ _=>simp
  |assign _ _=>omega
  |step _=>omega
  |store _ _ _=>omega
  |if' _ _ _ a b=>have:=a.len ih;have:=b.len ih;omega
  |qU _ _ a=>have:=a.len ih;omega
  |plain _ _=>omega
theorem H8 {P:Rel} (h0 :∀lo s l1 c k,¬ P 0 lo s l1 c k) (hv :∀n lo s l1 c k,P (n+1) lo s l1 c k->View P n lo s l1) :∀n k:Nat,n+1<=k->∀ss:List cO,ss.length<=10->∀l l' c q,Ch (P n) l ss l' c q->l'.length<=1000->(∀n lo s l1 c k,P n lo s l1 c k->lo.length<=l1.length)->aj9 k ss l=some l'
 |_,0,hk,_,_,_,_,_,_,_,_,_=>by omega
 |n,k+1,hk,ss,hs,l,l',c,q,hc,hl,hm=>by
  apply ok_eq;show Ok (aj8 (aj9 k) ss l) _;have hmC :∀{n:Nat} {a b:List (List UInt8)} {ss:List cO} {c q:Nat},Ch (P n) a ss b c q->a.length<=b.length:=fun h=>by
   induction h with
   |nil=>exact Z1 _
   |cons a _ ih=>exact J1 (hm _ _ _ _ _ _ a) ih
  unfold aj8;refine bC (fun y=>y=l') ?_ fun y hy=>aF hy;refine bJ (fun s:Int×List (List UInt8) =>∃i c q:Nat,s.1=i/\i<=ss.length/\Ch (P n) s.2 (ss.drop i) l' c q) (fun s=>(ss.length-s.1).toNat) ⟨0,c,q,rfl,by omega,hc⟩ fun ⟨i',acc⟩ ⟨i,c,q,e1,e2,e3⟩ => ?_;simp only at e1 e3;subst e1;refine dG (fun hc => ?_) fun hc=>aF (e3.fin (by simpa using hc)).1;have hc:(i:Int)<ss.length:=by simpa using hc
  have hin:=aG.2 (show 0<=(i:Int)/\(i:Int)<ss.length from ⟨by omega,hc⟩);obtain ⟨l2,c1,c2,k1,k2,hx,hr,_,_⟩:=e3.at (by omega);cases n with
  |zero=>exact absurd hx (h0 _ _ _ _ _)
  |succ n=>
   obtain ⟨m1,m2,d1,d2,q1,q2,v1,v2,v3,v4,v5,v6⟩:=hv _ _ _ _ _ _ hx;have b1:=hmC hr;have b2:=hmC v4;have b3:=hmC v3;refine bT hin (bC (fun y=>y=m1) ?_ fun y hy => ?_)
   .refine dG (fun hk=>bT hin (bT ?_ (aF ?_))) fun hk=>aF ?_
    .have:=v1 (by simpa using hk);have b4:m1.length=acc.length+1:=by rw [this];simp
     unfold aX;simp;omega
    .exact (v1 (by simpa using hk)).symm
    .exact (v2 (by simpa using hk)).symm
   subst hy;refine bT hin (fA (H8 h0 hv n k (by omega) _ v5 _ _ _ _ v3 (by omega) hm) (bT hin (fA (H8 h0 hv n k (by omega) _ v6 _ _ _ _ v4 (by omega) hm) (aF ⟨⟨i+1,c2,k2,?_,by omega,hr⟩,?_⟩))))
   .show dJ ((i:Int)+1)=_;rw [aH (by omega)];rfl
   .show ((ss.length:Int)-dJ ((i:Int)+1)).toNat<((ss.length:Int)-i).toNat;rw [aH (by omega)];omega
theorem PY {P:Rel} (h0 :∀lo s l1 c k,¬ P 0 lo s l1 c k) (hv :∀n lo s l1 c k,P (n+1) lo s l1 c k->View P n lo s l1) :∀n k:Nat,n+1<=k->n<=1000->∀ss:List cO,ss.length<=10->∀l l' c q,Ch (P n) l ss l' c q->Ok (akb k ss) fun y=>0<=y/\y<=n
 |_,0,hk,_,_,_,_,_,_,_,_=>by omega
 |n,k+1,hk,hn,ss,hs,l,l',c,q,hc=>by
  show Ok (aj_ (akb k) ss) _;unfold aj_;refine bC (fun y=>0<=y/\y<=n) ?_ fun y hy=>aF hy;refine bJ (fun s:Int×Int=>(0<=s.1/\s.1<=n)/\∃i c q:Nat,∃l,s.2=i/\i<=ss.length/\Ch (P n) l (ss.drop i) l' c q) (fun s=>(ss.length-s.2).toNat) ⟨⟨by simp,by simp only;omega⟩,0,c,q,l,rfl,by omega,hc⟩ fun ⟨z,i'⟩ ⟨hz,i,c,q,l,e1,e2,e3⟩ => ?_;simp only at e1 hz;subst e1;refine dG (fun hc => ?_) fun hc=>aF hz;have hc:(i:Int)<ss.length:=by simpa using hc
  have hin:=aG.2 (show 0<=(i:Int)/\(i:Int)<ss.length from ⟨by omega,hc⟩);obtain ⟨l2,c1,c2,k1,k2,hx,hr,_,_⟩:=e3.at (by omega);cases n with
  |zero=>exact absurd hx (h0 _ _ _ _ _)
  |succ n=>
   obtain ⟨m1,m2,d1,d2,q1,q2,v1,v2,v3,v4,v5,v6⟩:=hv _ _ _ _ _ _ hx;refine bT hin (bC _ (PY h0 hv n k (by omega) (by omega) _ v5 _ _ _ _ v3) fun y1 hy1=>bT hin (bC _ (PY h0 hv n k (by omega) (by omega) _ v6 _ _ _ _ v4) fun y2 hy2=>aF ⟨⟨?_,i+1,c2,k2,l2,?_,by omega,hr⟩,?_⟩))
   .simp only [Hg];rw [aH (x:=1+y1) (by omega),aH (x:=1+y2) (by omega)];omega
   .show dJ ((i:Int)+1)=_;rw [aH (by omega)];rfl
   .show ((ss.length:Int)-dJ ((i:Int)+1)).toNat<((ss.length:Int)-i).toNat;rw [aH (by omega)];omega
section
variable {g:List aB} {fs:List aA}
theorem YO :∀x∈frN,cls x=1:=by decide
def DL (g:List aB) (sg:List (List UInt8×Nat)) (L:List (List UInt8)) (n:Nat) (lo:List (List UInt8)) (s:cO) (lo':List (List UInt8)) (c k:Nat):Prop:=
 ∃l1 l2 c1 c2 k1 k2,∃ht:Nat->Nat,(s.kind=1->l1=lo++[s.name]/\s.name∈frN/\¬ s.name∈lo)/\(s.kind≠1->l1=lo)/\(s.kind=2->NV g lo s.name)/\(s.kind=3->PG true g s.name)/\
  Ch (RS g sg n) l1 s.then' l2 c1 k1/\Ch (RS g sg n) l2 s.else' lo' c2 k2/\(s.then'.length<=10/\s.else'.length<=10/\s.exprs.length<=2)/\(∀i,i<s.exprs.length->ht i<=3/\RX g sg lo (ht i) (s.exprs.getD i eH))/\
  ∀es th el,es.length=s.exprs.length->(∀i,i<s.exprs.length->QX g sg L (ht i) (es.getD i eH))->th.length<=10->el.length<=10->Ch (QS g sg L n) l1 th l2 c1 k1->Ch (QS g sg L n) l2 el lo' c2 k2->(th.length=s.then'.length/\el.length=s.else'.length)->QS g sg L (n+1) lo (cO.mk s.kind s.line s.name es th el) lo' c k
theorem zk {es:List aP} (h:es.length=1):es=[es.getD 0 eH]:=by
 match es,h with
 | [x],_=>rfl
theorem ahk {es:List aP} (h:es.length=2):es=[es.getD 0 eH,es.getD 1 eH]:=by
 match es,h with
 | [x,z],_=>rfl
theorem akB {sg:List (List UInt8×Nat)} {L:List (List UInt8)} {n:Nat} {lo lo':List (List UInt8)} {s:cO} {c k:Nat} (hL :∀x∈lo',x∈L) (h:RS g sg (n+1) lo s lo' c k):DL g sg L n lo s lo' c k:=by
 have hLo :∀x∈lo,x∈L:=fun x hx=>hL x (Hy _ _ _ _ _ _ h x hx);have one :∀{x:aP} {m:Nat},m<=3->RX g sg lo m x->∀i,i<([x]:List aP).length->m<=3/\RX g sg lo m (([x]:List aP).getD i eH):=fun hm hx i hi=>by
  have:i=0:=by simpa using hi
  subst this;exact ⟨hm,hx⟩
 cases (show RS1 g sg (RS g sg n) lo s lo' c k from h) with
 |var h1 h2 hx=>
  refine ⟨_,_,0,0,0,0,fun _=>3,fun _=>⟨rfl,h1,h2⟩,fun h=>absurd rfl h,fun h=>absurd h (by simp),fun h=>absurd h (by simp),.nil,.nil,by simp,one (by omega) hx,fun es th el e1 e2 _ _ _ _ ⟨e5,e6⟩ => ?_⟩;rw [zk e1,Wb.1 e5,Wb.1 e6];exact .var (hL _ (by simp)) (e2 0 (by simp))
 |assign h1 hx=>
  refine ⟨_,_,0,0,0,0,fun _=>3,fun h=>absurd h (by simp),fun _=>rfl,fun _=>h1,fun h=>absurd h (by simp),.nil,.nil,by simp,one (by omega) hx,fun es th el e1 e2 _ _ _ _ ⟨e5,e6⟩ => ?_⟩;rw [zk e1,Wb.1 e5,Wb.1 e6];exact .assign (h1.mono hLo) (e2 0 (by simp))
 |step h1=>
  refine ⟨_,_,0,0,0,0,fun _=>2,fun h=>absurd h (by simp),fun _=>rfl,fun _=>h1,fun h=>absurd h (by simp),.nil,.nil,by simp,one (by omega) (.bin (by omega) (.name h1) (.leaf (.inl rfl))),fun es th el e1 e2 _ _ _ _ ⟨e5,e6⟩ => ?_⟩;rw [zk e1,Wb.1 e5,Wb.1 e6];exact .step (h1.mono hLo) (e2 0 (by simp))
 |store h1 hx hz=>
  refine ⟨_,_,0,0,0,0,fun i=>if i=0 then 2 else 3,fun h=>absurd h (by simp),fun _=>rfl,fun h=>absurd h (by simp),fun _=>h1,.nil,.nil,by simp,fun i hi => ?_,fun es th el e1 e2 _ _ _ _ ⟨e5,e6⟩ => ?_⟩
  .have:i=0\/i=1:=by simp at hi;omega
   rcases this with rfl | rfl
   .exact ⟨by simp,hx⟩
   .exact ⟨by simp,hz⟩
  .rw [ahk e1,Wb.1 e5,Wb.1 e6];exact .store h1 (e2 0 (by simp)) (e2 1 (by simp))
 |if' hx h1 h2 a b=>
  refine ⟨_,_,_,_,_,_,fun _=>3,fun h=>absurd h (by simp),fun _=>rfl,fun h=>absurd h (by simp),fun h=>absurd h (by simp),a,b,⟨h1,h2,by simp⟩,one (by omega) hx,fun es th el e1 e2 e3 e4 ha hb _ => ?_⟩;rw [zk e1];exact .if' (e2 0 (by simp)) e3 e4 ha hb
 |qU hx h1 a=>
  refine ⟨_,_,_,0,_,0,fun _=>3,fun h=>absurd h (by simp),fun _=>rfl,fun h=>absurd h (by simp),fun h=>absurd h (by simp),a,.nil,⟨h1,by simp,by simp⟩,one (by omega) hx,fun es th el e1 e2 e3 e4 ha hb ⟨_,e6⟩ => ?_⟩;rw [zk e1,Wb.1 e6];exact .qU (e2 0 (by simp)) e3 ha
 |plain hk hx=>
  refine ⟨_,_,0,0,0,0,fun _=>3,fun h=>by simp only at h;omega,fun _=>rfl,fun h=>by simp only at h;omega,fun h=>by simp only at h;omega,.nil,.nil,by simp,one (by omega) hx,fun es th el e1 e2 _ _ _ _ ⟨e5,e6⟩ => ?_⟩;rw [zk e1,Wb.1 e5,Wb.1 e6];exact .plain hk (e2 0 (by simp))
def PR (n m:Nat) (g:List aB) (fs:List aA) (L lo:List (List UInt8)) (a:Int) (lo':List (List UInt8)) (c q:Nat) (y:List aB×List aA×Int×Int×List cO×List (List UInt8)):Prop:=
 ∃ss,y=(g,fs,a,0,ss,lo')/\ss.length=m/\Ch (QS g (iY fs) L n) lo ss lo' c q
theorem ER (hg:GN g) (hf:FN fs) {L:List (List UInt8)} {a:Int} :∀n k:Nat,n+1<=k->∀ss:List cO,ss.length<=10->∀lo lo' c q,Ch (RS g (iY fs) n) lo ss lo' c q->LN lo->lo'.length<=1000->(∀x∈lo',x∈L)->Ok (adT k ss g fs a 0 lo) fun y=>PR n ss.length g fs L lo a lo' c q y/\LN lo'
 |_,0,hk,_,_,_,_,_,_,_,_,_,_=>by omega
 |n,k+1,hk,ss,hs,lo,lo',c,q,hch,hln,hl,hL=>by
  show Ok (adR (adT k) ss g fs a 0 lo) _;unfold adR;refine bC (fun y=>PR n ss.length g fs L lo a lo' c q y/\LN lo') ?_ fun y ⟨⟨ss,e,h⟩,h2⟩=>by subst e;exact aF ⟨⟨ss,rfl,h⟩,h2⟩
  refine bJ (fun s:Int×List aB×List aA×Int×Int×List cO×List (List UInt8) =>∃i c1 q1 c2 q2:Nat,∃rs l1,s=((i:Int),g,fs,a,0,rs,l1)/\i<=ss.length/\rs.length=i/\Ch (QS g (iY fs) L n) lo rs l1 c1 q1/\Ch (RS g (iY fs) n) l1 (ss.drop i) lo' c2 q2/\c=c1+c2/\q=q1+q2/\LN l1) (fun s=>(ss.length-s.1).toNat)
   ⟨0,0,0,c,q,[],lo,rfl,by omega,rfl,.nil,hch,by omega,by omega,hln⟩ fun s ⟨i,c1,q1,c2,q2,rs,l1,e,e1,e2,e3,e4,e5,e6,e7⟩ => ?_
  subst e;refine dG (fun hc => ?_) fun hc => ?_
  rotate_left
  .have hc:¬ (i:Int)<ss.length:=by simpa using hc
   obtain ⟨f1,f2,f3⟩:=e4.fin (by omega);subst f1;subst f2;subst f3;have:i=ss.length:=by omega
   subst this;subst e5;subst e6;exact aF ⟨⟨rs,rfl,e2,e3⟩,e7⟩
  have hc:(i:Int)<ss.length:=by simpa using hc
  have hin:=aG.2 (show 0<=(i:Int)/\(i:Int)<ss.length from ⟨by omega,hc⟩);obtain ⟨l2,c3,c4,k3,k4,hx,hr,d1,d2⟩:=e4.at (by omega);obtain ⟨x,hxe⟩ :∃x,ss.getD (i:Int).toNat o7=x:=⟨_,rfl⟩;rw [Q6] at hxe;rw [hxe] at hx;simp only [Q6,hxe];cases n with
  |zero=>exact hx.elim
  |succ n=>
   have hl2:l2.length<=1000:=by have:=(hr.len (EP _)).1;omega
   have hl1:l1.length<=1000:=by have:=(EP _ _ _ _ _ _ hx).1;omega
   have hLr :∀z∈l2,z∈L:=fun z hz=>hL z (PK hr z hz);obtain ⟨m1,m2,p1,p2,r1,r2,ht,w1,w2,w3,w4,w5,w6,⟨w7,w8,w9⟩,w10,w11⟩:=akB hLr hx;have hSc:Sc g fs l1:=⟨hg,hf,e7,by omega⟩;have asE :∀z∈l1,z∈L:=fun z hz=>hLr z (Hy _ _ _ _ _ _ hx z hz);refine bT hin (bC (fun y =>∃ar,y=(g,fs,a,0,ar)/\ar.length=x.exprs.length/\∀i,i<x.exprs.length->QX g (iY fs) L (ht i) (ar.getD i eH)) ?_ fun y ⟨ar,e,f1,f2⟩ => ?_)
   .refine bJ (fun s:Int×List aB×List aA×Int×Int×List aP =>∃ar,s=((ar.length:Int),g,fs,a,0,ar)/\ar.length<=x.exprs.length/\∀i,i<ar.length->QX g (iY fs) L (ht i) (ar.getD i eH)) (fun s=>(x.exprs.length-s.1).toNat) ⟨[],rfl,by simp,fun i h=>by simp at h⟩ fun s ⟨ar,e,f1,f2⟩ => ?_;subst e;refine dG (fun hc => ?_) fun hc => ?_
    rotate_left
    .have hc:¬ (ar.length:Int)<x.exprs.length:=by simpa using hc
     exact aF ⟨ar,rfl,by omega,fun i hi=>f2 i (by omega)⟩
    have hc:(ar.length:Int)<x.exprs.length:=by simpa using hc
    have hin:=aG.2 (show 0<=(ar.length:Int)/\(ar.length:Int)<x.exprs.length from ⟨by omega,hc⟩);obtain ⟨hh,hz⟩:=w10 ar.length (by omega);simp only [Q6];refine bT hin (bC _ (Nu (ht ar.length) 1048576 (by omega) (by omega) _ hz) fun y hy=>bC (fun y=>y=(g,fs,a,0)) (b_ (decide_eq_false (by omega)) (aF rfl)) fun y e => ?_);subst e;refine bT hin (bC _ (Ns hSc (ht ar.length) 1048576 (by omega) _ hz) fun y ⟨k,o,v,i,nm,Ky,e,hr⟩ => ?_);subst e;refine bT (by unfold aX;simp;omega) (aF ⟨⟨ar++[aP.mk k o v i nm Ky],?_,by simp;omega,fun i hi => ?_⟩,?_⟩)
    .simp only [aH (x:=(ar.length:Int)+1) (by omega)];simp
    .rw [lM];simp only [Ys,Zs] at hi;by_cases e:i<ar.length
     .rw [if_pos e];exact f2 i e
     .have:i=ar.length:=by omega
      subst this;rw [if_neg e,if_pos rfl];exact hr.mono asE
    .simp only [aH (x:=(ar.length:Int)+1) (by omega)];omega
   subst e;refine aeo hSc (P:=fun z=>(x.kind=1->z=0)/\(x.kind=2->z=1\/z=2)/\(x.kind=3->z=3)) (fun hm=>⟨fun hk=>absurd hm (w1 hk).2.2,fun _=>.inl rfl,fun hk=>absurd hm (V_ hSc (by rw [aem hg (w4 hk)];omega))⟩) (fun hm => ?_) fun z ⟨z1,z2,z3⟩ => ?_
   .by_cases hk1:x.kind=1
    .exact ⟨0,YL hg hf (YO _ (w1 hk1).2.1),fun _=>rfl,fun h=>by omega,fun h=>by omega⟩
    .by_cases hk2:x.kind=2
     .exact ⟨2,H7 hg ((w3 hk2).resolve_left hm),fun h=>by omega,fun _=>.inr rfl,fun h=>by omega⟩
     .by_cases hk3:x.kind=3
      .exact ⟨3,H7 hg (w4 hk3),fun h=>by omega,fun h=>by omega,fun _=>rfl⟩
      .exact jR (aen hg hf) fun y _=>⟨fun h=>absurd h hk1,fun h=>absurd h hk2,fun h=>absurd h hk3⟩
   refine bC (fun y=>y=(g,fs,a,0,m1)) ?_ fun y e => ?_
   .refine dG (fun hk => ?_) fun hk => ?_
    .have hk:x.kind=1:=by simpa using hk
     refine bC (fun y=>y=(g,fs,a,0)) (b_ (by rw [z1 hk];rfl) (aF rfl)) fun y e => ?_;subst e;exact bT (by unfold aX;simp;omega) (aF (by rw [(w1 hk).1]))
    .have hk:x.kind≠1:=by simpa using hk
     rw [w2 hk];refine bC (fun u=>u=decide (x.kind=2\/x.kind=3)) ?_ fun u hu => ?_
     .refine dG (fun h=>aF ?_) fun h=>aF ?_
      .have h:x.kind=2:=by simpa using h
       simp [h]
      .have h:¬ x.kind=2:=by simpa using h
       simp [h]
     subst hu;refine bC (fun y=>y=(g,fs,a,0)) ?_ fun y e=>by subst e;exact aF rfl
     refine dG (fun h23 => ?_) fun _=>aF rfl;have h23:x.kind=2\/x.kind=3:=by simpa using h23
     refine bC (fun y=>y=(g,fs,a,0)) ?_ fun y e=>by subst e;exact aF rfl
     refine b_ (decide_eq_false (by rcases h23 with h | h;(· have:=z2 h;omega);(· have:=z3 h;omega))) (bC (fun u=>u=false) ?_ fun u hu => ?_)
     .refine dG (fun h => ?_) fun h => ?_
      .have h:x.kind=2:=by simpa using h
       have h3:¬ x.kind=3:=by omega
       refine dG (fun hz1 => ?_) fun _=>b_ (decide_eq_false h3) (aF rfl);have hz1:¬ z=1:=by simpa using hz1
       exact b_ (by have:=(z2 h).resolve_left hz1;rw [this];rfl) (b_ (decide_eq_false h3) (aF rfl))
      .have h:¬ x.kind=2:=by simpa using h
       have h3:=h23.resolve_left h;exact goT (decide_eq_true h3) (aF (by rw [z3 h3];rfl))
     subst hu;exact bC (fun y=>y=(g,fs,a,0)) (b_ rfl (aF rfl)) fun y e=>by subst e;exact aF rfl
   subst e;have hm1:LN m1:=by
    by_cases hk1:x.kind=1
    .rw [(w1 hk1).1];intro z hz;rcases X2.1 hz with hz | hz
     .exact e7 z hz
     .rw [QP] at hz;subst hz;exact YO _ (w1 hk1).2.1
    .rw [w2 hk1];exact e7
   have hl3:=(w6.len (EP _)).1;refine bC _ (ER hg hf (L:=L) (a:=a) n k (by omega) _ w7 _ _ _ _ w5 hm1 (by omega) fun z hz=>hLr z (PK w6 z hz)) fun y ⟨⟨s1,e,g1,g2⟩,g3⟩ => ?_;subst e;refine bC _ (ER hg hf (L:=L) (a:=a) n k (by omega) _ w8 _ _ _ _ w6 g3 hl2 hLr) fun y ⟨⟨s2,e,g4,g5⟩,g6⟩ => ?_;subst e;refine bT (by unfold aX;simp;omega) (aF ⟨⟨i+1,_,_,_,_,rs++[cO.mk x.kind x.line x.name ar s1 s2],l2,?_,by omega,?_,e3.snoc (w11 ar s1 s2 f1 f2 (by omega) (by omega) g2 g5 ⟨g1,g4⟩),hr,by omega,by omega,g6⟩,?_⟩)
   .show (dJ ((i:Int)+1),_)=_;rw [aH (by omega)];rfl
   .simp;exact e2
   .show ((ss.length:Int)-dJ ((i:Int)+1)).toNat<((ss.length:Int)-i).toNat;rw [aH (by omega)];omega
end
structure akC (g:List aB) (fs:List aA):Prop where
 gn:GN g
 fn:FN fs
 bd :∀i,i<fs.length->(fs.getD i bI).body.length<=10/\∃L c q,Ch (QS g (iY fs) L 3) (fs.getD i bI).params (fs.getD i bI).body L c q/\c<=7/\q<=14/\LN L/\L.length<=16
theorem PN.cls {ps:List (List UInt8)} (h:PN ps):LN ps:=fun x hx=>by
 obtain ⟨k,hk,e⟩:=Wt hx;have:=h.2 k hk;rw [getD_at _ hk,e] at this;rw [this];rfl
theorem Wn {g:List aB} {sg:List (List UInt8×Nat)} {L:List (List UInt8)} :∀n lo s l1 c k,QS g sg L n lo s l1 c k->lo.length<=l1.length/\l1.length<=lo.length+k
 |0,_,_,_,_,_,h=>h.elim
 |n+1,lo,s,l1,c,k,h=>by
  have ih:=Wn (g:=g) (sg:=sg) (L:=L) n;cases (show QS1 g sg L (QS g sg L n) lo s l1 c k from h) with
  |var _ _=>simp
  |assign _ _=>omega
  |step _ _=>omega
  |store _ _ _=>omega
  |if' _ _ _ a b=>have:=a.len ih;have:=b.len ih;omega
  |qU _ _ a=>have:=a.len ih;omega
  |plain _ _=>omega
theorem aew {α:Type} {l m:List α} {d:α} (hl:l.length=m.length) (h :∀i,i<m.length->l.getD i d=m.getD i d):l=m:=by
 refine Kd hl fun i h1 h2 => ?_;have:=h i h2;rw [getD_at _ h1,getD_at _ h2] at this;exact this
theorem Wp {g:List aB} {fs:List aA} (h:Src g fs):Ok (f79 g fs) fun y=>akC y.2.2.1 y.2.2.2:=by
 have hg:=h.gn;have hf:=h.fn;have hg4:=hg.1;obtain ⟨⟨hf0,hf4⟩,hp0,hfn⟩:=id hf;have hin0:inB (0:Int) fs.length=true:=aG.2 ⟨by omega,by omega⟩;unfold f79;refine bC (fun y=>y=false) (b_ (decide_eq_false (by omega)) (aF (decide_eq_false (by omega)))) fun s5 e => ?_;subst e;refine b_ rfl (bC (fun y=>y=false) (b_ (decide_eq_false (by omega)) (bT hin0 (b_ ?_ (bT hin0 (aF ?_))))) fun s15 e => ?_)
 .have:=(hfn 0 hf0).1;rw [if_pos rfl] at this;rw [show Int.toNat 0=0 from rfl,this];rfl
 .rw [show Int.toNat 0=0 from rfl,hp0];rfl
 subst e;refine b_ rfl (iF (fun _=>True) (iL g.length (fun _=>True) (by omega) (fun i h1 _=>goT (decide_eq_true (by omega)) (bT (aG.2 ⟨by omega,by omega⟩) (bC (fun y=>y=(i:Int)) ?_ fun y e=>by subst e;exact b_ (by simp) (aF ⟨rfl,trivial⟩)))) fun _=>b_ (decide_eq_false (by omega)) (aF trivial)) fun _ _ => ?_)
 .refine jR (HY (by omega)) fun y hy => ?_;simp only [Q6] at hy;rcases hy with ⟨_,hn⟩ | ⟨j,e,h2,h3⟩
  .exact absurd rfl (hn i h1)
  .rw [e,hg.inj h2 h1 h3]
 refine iF (fun _=>True) (iL fs.length (fun _=>True) (by omega) (fun i h1 _=>goT (decide_eq_true (by omega)) (bC (fun y=>y=false) ?_ fun y e=>by subst e;exact b_ rfl (aF ⟨rfl,trivial⟩))) fun _=>b_ (decide_eq_false (by omega)) (aF trivial)) fun _ _ => ?_
 .refine bT (aG.2 ⟨by omega,by omega⟩) ?_;simp only [Q6];refine fA (PO hg (by rw [hf.cls i h1];omega)) (b_ rfl (bT (aG.2 ⟨by omega,by omega⟩) (bC _ (H6 (by omega)) fun y hy=>aF ?_)));rcases hy with ⟨_,hn⟩ | ⟨j,e,h2,h3⟩
  .exact absurd rfl (hn i h1)
  .rw [e,hf.inj h2 h1 h3];simp
 refine bT (by unfold aX;simp;omega) (iF (fun rs=>(rs.length=fs.length/\∀i,i<fs.length->(rs.getD i bI).name=(fs.getD i bI).name/\(rs.getD i bI).params=(fs.getD i bI).params)/\∀i,i<fs.length->(rs.getD i bI).body.length<=10/\∃L c q,Ch (QS g (iY fs) L 3) (fs.getD i bI).params (rs.getD i bI).body L c q/\c<=7/\q<=14/\LN L/\L.length<=16) ?_ fun rs ⟨⟨r1,r2⟩,r3⟩=>aF ?_)
 rotate_left
 .have hsg:iY rs=iY fs:=by
   refine aew (d:=([],0)) (by unfold iY;simp [r1]) fun i hi => ?_;have hi:i<fs.length:=by simpa [iY] using hi
   unfold iY;rw [getD_at _ (by simpa using r1▸hi),getD_at _ (by simpa using hi)];simp only [Ke];have:=r2 i hi;rw [getD_at _ (by omega),getD_at _ hi] at this;rw [this.1,this.2]
  have e0:jk++g=g:=by simp
  simp only [e0];refine ⟨hg,⟨⟨by omega,by omega⟩,by rw [(r2 0 hf0).2];exact hp0,fun i hi => ?_⟩,fun i hi => ?_⟩
  .rw [(r2 i (by omega)).1,(r2 i (by omega)).2];exact hfn i (by omega)
  .rw [hsg,(r2 i (by omega)).2];exact r3 i (by omega)
 refine bJ (fun s:Int×List aA =>∃n:Nat,s.1=n/\n<=fs.length/\(s.2.length=n/\∀i,i<n->(s.2.getD i bI).name=(fs.getD i bI).name/\(s.2.getD i bI).params=(fs.getD i bI).params)/\∀i,i<n->(s.2.getD i bI).body.length<=10/\∃L c q,Ch (QS g (iY fs) L 3) (fs.getD i bI).params (s.2.getD i bI).body L c q/\c<=7/\q<=14/\LN L/\L.length<=16) (fun s=>(fs.length-s.1).toNat) ⟨0,rfl,by omega,⟨rfl,fun i hi=>by omega⟩,fun i hi=>by omega⟩ fun ⟨q,rs⟩ ⟨n,e1,e2,⟨e3,e4⟩,e5⟩ => ?_;simp only at e1 e3 e4 e5;subst e1;refine dG (fun hc => ?_) (fun hc => ?_)
 rotate_left
 .have:¬ (n:Int)<fs.length:=by simpa using hc
  have:n=fs.length:=by omega
  subst this;exact aF ⟨⟨e3,e4⟩,e5⟩
 have hc:n<fs.length:=by simpa using hc
 obtain ⟨hb,lo,c,q,hch,hc7,aon⟩:=h.bd n hc;obtain ⟨_,hpn⟩:=hfn n hc;obtain ⟨f,hfe⟩ :∃f,fs.getD n bI=f:=⟨_,rfl⟩;rw [hfe] at hb hch hpn;simp only [Q6,hfe];have hp2:=hpn.1;have hlen:=(hch.len (EP 3)).2;have hcap:(true&&decide ((List.length jS+f.params.length)*16<=140737488355328))=true:=by simp;omega
 have he:jS++f.params=f.params:=by simp
 have hR0 :∀lo s l1 c k,¬ RS g (iY fs) 0 lo s l1 c k:=fun _ _ _ _ _ h=>h;refine bT (aG.2 ⟨by omega,by omega⟩) (bC (fun y=>y=false) ?_ fun y e => ?_)
 .refine b_ (decide_eq_false (by omega)) ?_;refine fA (y:=lo) ?_ (b_ (decide_eq_false (by omega)) (bC _ (PY hR0 (fun _ _ _ _ _ _=>YN) 3 1048576 (by omega) (by omega) _ hb _ _ _ _ hch) fun y hy=>aF (decide_eq_false (by omega))));apply ok_eq;unfold f73;refine bT hcap ?_;rw [he];exact fA (H8 hR0 (fun _ _ _ _ _ _=>YN) 3 1048576 (by omega) _ hb _ _ _ _ hch (by omega) fun n lo s l1 c k h=>(EP n lo s l1 c k h).1) (aF rfl)
 subst e;refine b_ rfl (iF (fun _=>True) (iL f.params.length (fun _=>True) (by omega) (fun i h1 _=>goT (decide_eq_true (by omega)) (bC (fun y=>y=false) ?_ fun y e=>by subst e;exact b_ rfl (aF ⟨rfl,trivial⟩))) fun _=>b_ (decide_eq_false (by omega)) (aF trivial)) fun _ _ => ?_)
 .refine bT (J8.2 ⟨⟨by omega,by omega⟩,by omega⟩) (bT (aG.2 ⟨by omega,by omega⟩) ?_);simp only [Q6,vb,List.drop_zero];refine fA (aej (by simp;omega)) (b_ (decide_eq_false fun hm => ?_) (bT (aG.2 ⟨by omega,by omega⟩) (fA (YL hg hf (hpn.cls _ (by rw [getD_at _ h1];exact QR _))) (aF rfl))));obtain ⟨k,hk,e⟩:=Wt hm;have hk':k<i:=by rw [UI] at hk;omega
  rw [List.getElem_take] at e;have a1:=hpn.2 k (by omega);have a2:=hpn.2 i h1;rw [getD_at _ (by omega:k<f.params.length),e,a2] at a1;injection a1 with _ a1;injection a1 with a1 _
  have:=EO (by omega) (by omega) a1;omega
 refine bT hcap ?_;rw [he];refine bC _ (ER hg hf (L:=lo) (a:=0) 3 1048576 (by omega) _ hb _ _ _ _ hch hpn.cls (by omega) fun x hx=>hx) fun y ⟨⟨ss,e,c1,c2⟩,c3⟩ => ?_;subst e;refine b_ rfl (bT hcap (bT (by unfold aX;simp;omega) (aF ⟨⟨n+1,?_,by omega,⟨by simp [e3],fun i hi => ?_⟩,fun i hi => ?_⟩,?_⟩)))
 .simp only;rw [aH (by omega)];rfl
 .simp only;rw [lM];by_cases e:i<rs.length
  .rw [if_pos e];exact e4 i (by omega)
  .have:i=n:=by omega
   subst this;rw [if_neg e,if_pos e3.symm,hfe];exact ⟨rfl,rfl⟩
 .simp only;rw [lM];by_cases e:i<rs.length
  .rw [if_pos e];exact e5 i (by omega)
  .have:i=n:=by omega
   subst this;rw [if_neg e,if_pos e3.symm,hfe];exact ⟨by simp only;omega,lo,c,q,c2,hc7,aon,c3,by omega⟩
 .simp only;rw [aH (by omega)];omega
def RG (re x:Int):Prop:=0<=x/\x<re
def GI (a:Bool) (g:List aB) (v:Int):Prop:=(0<=v/\v<g.length)/\decide (0<(g.getD v.toNat (aB.mk bH 0)).size)=a
inductive IV (g:List aB) (sg:List (List UInt8×Nat)) (cl re:Int):dA->Prop
 |const {o d a b v:Int} {ar:List Int}:RG re d->ar.length<=10->IV g sg cl re (dA.mk 1 o d a b v ar)
 |move {o d a b v:Int} {ar:List Int}:RG re d->RG re a->ar.length<=10->IV g sg cl re (dA.mk 2 o d a b v ar)
 |un {o d a b v:Int} {ar:List Int}:RG re d->RG re a->o=1\/o=2->ar.length<=10->IV g sg cl re (dA.mk 3 o d a b v ar)
 |bin {o d a b v:Int} {ar:List Int}:RG re d->RG re a->RG re b->3<=o/\o<=11->ar.length<=10->IV g sg cl re (dA.mk 4 o d a b v ar)
 |load {o d a b v:Int} {ar:List Int}:RG re d->GI false g v->ar.length<=10->IV g sg cl re (dA.mk 5 o d a b v ar)
 |store {o d a b v:Int} {ar:List Int}:RG re a->GI false g v->ar.length<=10->IV g sg cl re (dA.mk 6 o d a b v ar)
 |elem {o d a b v:Int} {ar:List Int}:RG re d->RG re a->GI true g v->ar.length<=10->IV g sg cl re (dA.mk 7 o d a b v ar)
 |set {o d a b v:Int} {ar:List Int}:RG re a->RG re b->GI true g v->ar.length<=10->IV g sg cl re (dA.mk 8 o d a b v ar)
 |read {o d a b v:Int} {ar:List Int}:RG re d->ar.length<=10->IV g sg cl re (dA.mk 9 o d a b v ar)
 |print {o d a b v:Int} {ar:List Int}:RG re a->ar.length<=10->IV g sg cl re (dA.mk 10 o d a b v ar)
 |call {o d a b v:Int} {ar:List Int}:RG re d->(0<=v/\v<sg.length)->(sg.getD v.toNat ([],0)).2=ar.length->(∀x∈ar,RG re x)->ar.length<=10->IV g sg cl re (dA.mk 11 o d a b v ar)
 |Nv {o d a b v:Int} {ar:List Int}:RG re d->RG re a->(∀x∈ar,RG re x)->ar.length<=10->IV g sg cl re (dA.mk 12 o d a b v ar)
 |func {o d a b v:Int} {ar:List Int}:RG re d->(0<=v/\v<cl)->ar.length<=10->IV g sg cl re (dA.mk 14 o d a b v ar)
variable {g:List aB} {sg:List (List UInt8×Nat)} {cl re re':Int}
theorem RG.mono (hr:re<=re') {x:Int} (h:RG re x):RG re' x:=⟨h.1,by have:=h.2;omega⟩
theorem IV.mono (hr:re<=re') {i:dA} (h:IV g sg cl re i):IV g sg cl re' i:=by
 cases h with
 |const a b=>exact .const (a.mono hr) b
 |move a b c=>exact .move (a.mono hr) (b.mono hr) c
 |un a b c d=>exact .un (a.mono hr) (b.mono hr) c d
 |bin a b c d e=>exact .bin (a.mono hr) (b.mono hr) (c.mono hr) d e
 |load a b c=>exact .load (a.mono hr) b c
 |store a b c=>exact .store (a.mono hr) b c
 |elem a b c d=>exact .elem (a.mono hr) (b.mono hr) c d
 |set a b c d=>exact .set (a.mono hr) (b.mono hr) c d
 |read a b=>exact .read (a.mono hr) b
 |print a b=>exact .print (a.mono hr) b
 |call a b c d e=>exact .call (a.mono hr) b c (fun x hx=>(d x hx).mono hr) e
 |Nv a b c d=>exact .Nv (a.mono hr) (b.mono hr) (fun x hx=>(c x hx).mono hr) d
 |func a b c=>exact .func (a.mono hr) b c
structure TV (re:Int) (n:Nat) (k a t e:Int):Prop where
 kind:k=1\/k=2\/k=3
 reg:k≠1->RG re a
 suc :∀x∈succs k t e,0<=x/\x<n
theorem TV.mono {n n':Nat} {k a t e:Int} (hr:re<=re') (hn:n<=n') (h:TV re n k a t e):TV re' n' k a t e:=⟨h.kind,fun hk=>(h.reg hk).mono hr,fun x hx=>by have:=h.suc x hx;omega⟩
def tvB (re:Int) (n:Nat) (b:aJ):Prop:=TV re n b.bG b.j_ b.fB b.bV
def zu (bl:List aJ):Nat:=(bl.map fun b=>b.instrs.length+1).sum
structure Inv (g:List aB) (sg:List (List UInt8×Nat)) (cl re:Int) (w n:Nat) (bl:List aJ) (O:Nat->Prop) (P:Nat->Nat->Prop):Prop where
 wt:zu bl<=w
 len:bl.length<=n
 ins :∀b∈bl,∀i∈b.instrs,IV g sg cl re i
 trm :∀b,b<bl.length->¬ O b->tvB re bl.length (bl.getD b ah)
 opn :∀b,O b->b<bl.length
 src :∀a b,P a b->O a/\b<bl.length
 con :∀S:Nat->Prop,S 0->(∀b,b<bl.length->¬ O b->S b->∀x∈oq bl b,S x.toNat)->(∀a b,P a b->S a->S b)->∀b,b<bl.length->S b
theorem Inv.up {w n w' n':Nat} {bl:List aJ} {O:Nat->Prop} {P:Nat->Nat->Prop} (h:Inv g sg cl re w n bl O P) (hr:re<=re') (hw:w<=w') (hn:n<=n'):Inv g sg cl re' w' n' bl O P:=
 ⟨J1 h.wt hw,J1 h.len hn,fun b hb i hi=>(h.ins b hb i hi).mono hr,fun b hb ho=>(h.trm b hb ho).mono hr (Z1 _),h.opn,h.src,h.con⟩
theorem Inv.cast {w n:Nat} {bl:List aJ} {O O':Nat->Prop} {P P':Nat->Nat->Prop} (h:Inv g sg cl re w n bl O P) (ho :∀x,O x↔O' x) (hp :∀a b,P a b↔P' a b):Inv g sg cl re w n bl O' P':=by
 have e1:O=O':=funext fun x=>propext (ho x);have e2:P=P':=funext fun a=>funext fun b=>propext (hp a b);rw [<-e1,<-e2];exact h
theorem aex (bl:List aJ):bl.length<=zu bl:=by
 unfold zu
 induction bl with
 |nil=>simp
 |cons b bl ih=>simp only [Qf,K9,Wg];omega
theorem Wq {bl:List aJ} :∀b∈bl,b.instrs.length+1<=zu bl:=by
 unfold zu
 induction bl with
 |nil=>intro b h;cases h
 |cons c bl ih=>
  intro b hb;simp only [Qf,K9];rcases QQ.1 hb with e | hb
  .subst e;omega
  .have:=ih b hb;omega
theorem Ws :∀{bl:List aJ} {a:Nat} {b:aJ},a<bl.length->zu (bl.set a b)+((bl.getD a ah).instrs.length+1)=zu bl+(b.instrs.length+1)
 | [],a,b,h=>by simp at h
 |c::bl,0,b,h=>by unfold zu;simp;omega
 |c::bl,a+1,b,h=>by
  have:=Ws (bl:=bl) (a:=a) (b:=b) (by simpa using h);unfold zu at this ⊢;simp only [List.set_cons_succ,Qf,K9,List.getD_cons_succ];omega
section
variable {fs:List aA} {lo:List (List UInt8)} {nu:Int}
theorem PZ {bl jw:List aJ} {b:Nat} (h:jw.getD b ah=bl.getD b ah):oq jw b=oq bl b:=by unfold oq;rw [h]
theorem nY {β:Type} {w n a:Nat} {a' ln:Int} {bl:List aJ} {O:Nat->Prop} {P:Nat->Nat->Prop} {f} {Q:β->Prop} (h:Inv g sg cl re w n bl O P) (ha:O a) (hk:w<=1000000) (c :∀jw,jw.length=bl.length+1->Inv g sg cl re (w+1) (n+1) jw (fun x=>x=bl.length\/O x) (fun x y=>(x=a/\y=bl.length)\/P x y)->Ok (f ((bl.length:Int),g,fs,lo,nu,re,(bl.length:Int),jw)) Q) :
  Ok (Option.bind (f74 ln g fs lo nu re a' bl) f) Q:=by
 have hl:=aex bl;have hw:=h.wt;have hal:=h.opn a ha;have hg :∀(x:aJ) b,b<bl.length->(bl++[x]).getD b ah=bl.getD b ah:=fun x b hb=>by rw [lM,if_pos hb]
 refine bC (fun y =>∃jw,y=((bl.length:Int),g,fs,lo,nu,re,(bl.length:Int),jw)/\jw.length=bl.length+1/\Inv g sg cl re (w+1) (n+1) jw (fun x=>x=bl.length\/O x) (fun x y=>(x=a/\y=bl.length)\/P x y)) (bT (by unfold aX;simp;omega) (aF ⟨bl++[_],rfl,by simp,⟨?_,by have:=h.len;simp;omega,fun b hb => ?_,fun b hb ho => ?_,fun b hb => ?_,fun x y hp => ?_,fun S h0 h1 h2 b hb => ?_⟩⟩)) fun y ⟨jw,e,h1,h2⟩=>by subst e;exact c jw h1 h2
 .unfold zu at hw ⊢;simp;omega
 .rcases X2.1 hb with hb | hb
  .exact h.ins b hb
  .rw [QP] at hb;subst hb;exact fun i hi=>by cases hi
 .simp only [Ys,Zs] at hb;have hne:b≠bl.length:=fun e=>ho (.inl e);rw [hg _ b (by omega)];exact (h.trm b (by omega) fun hb=>ho (.inr hb)).mono (WK _) (by simp)
 .rcases hb with hb | hb
  .simp;omega
  .have:=h.opn b hb;simp;omega
 .rcases hp with ⟨e1,e2⟩ | hp
  .exact ⟨.inr (e1▸ha),by simp;omega⟩
  .have:=h.src x y hp;exact ⟨.inr this.1,by simp;omega⟩
 .simp only [Ys,Zs] at hb;have hold :∀b,b<bl.length->S b:=h.con S h0 (fun b hb ho hs x hx=>h1 b (by simp;omega) (fun hh=>hh.elim (fun e=>by omega) ho) hs x (by rw [PZ (hg _ b hb)];exact hx)) fun x y hp hs=>h2 x y (.inr hp) hs;by_cases e:b=bl.length
  .rw [e];exact h2 a bl.length (.inl ⟨rfl,rfl⟩) (hold a hal)
  .exact hold b (by omega)
theorem TY {β:Type} {w n a:Nat} {p0 p1 p2 p3 p4 p5:Int} {ar:List Int} {bl:List aJ} {O:Nat->Prop} {P:Nat->Nat->Prop} {f} {Q:β->Prop} (h:Inv g sg cl re w n bl O P) (ha:O a) (hk:w<=1000000) (hi:IV g sg cl re (dA.mk p0 p1 p2 p3 p4 p5 ar)) (c :∀jw,jw.length=bl.length->Inv g sg cl re (w+1) n jw O P->Ok (f (g,fs,lo,nu,re,(a:Int),jw)) Q) :
  Ok (Option.bind (f76 p0 p1 p2 p3 p4 p5 ar g fs lo nu re a bl) f) Q:=by
 have hal:=h.opn a ha;have hw:=h.wt;have hin:=aG.2 (show 0<=(a:Int)/\(a:Int)<bl.length by omega);have hm:bl.getD a ah∈bl:=by rw [getD_at _ hal];exact QR _
 have hx:=Wq _ hm;have hws:=fun b=>Ws (bl:=bl) (a:=a) (b:=b) hal;refine bC (fun y =>∃jw,y=(g,fs,lo,nu,re,(a:Int),jw)/\jw.length=bl.length/\Inv g sg cl re (w+1) n jw O P) ?_ fun y ⟨jw,e,h1,h2⟩=>by subst e;exact c jw h1 h2
 unfold f76;refine bC (fun y =>∃jw,y=(g,fs,lo,nu,re,(a:Int),jw)/\jw.length=bl.length/\Inv g sg cl re (w+1) n jw O P) ?_ fun y ⟨jw,e,h1,h2⟩=>by subst e;exact bT (by simp [h1]) (aF ⟨jw,rfl,h1,h2⟩)
 simp only [Q6];obtain ⟨x,hxe⟩ :∃x,bl.getD a ah=x:=⟨_,rfl⟩;simp only [hxe] at hm hx hws ⊢;have hg :∀b,(bl.set a (aJ.mk (x.instrs++[dA.mk p0 p1 p2 p3 p4 p5 ar]) x.bG x.j_ x.fB x.bV x.line x.g_ x.gJ)).getD b ah=if b=a then _ else bl.getD b ah:=fun b=>jg hal
 refine bT hin (bT ?_ (bT hin (bT (by simp) (aF ⟨_,rfl,by simp,⟨?_,by simpa using h.len,fun b hb => ?_,fun b hb ho => ?_,fun b hb=>by simpa using h.opn b hb,fun x y hp=>by simpa using h.src x y hp,fun S h0 h1 h2 b hb => ?_⟩⟩))))
 .show (true&&decide _)=true;simp only [Bool.true_and,decide_eq_true_eq,Zs];omega
 .have:=hws (aJ.mk (x.instrs++[dA.mk p0 p1 p2 p3 p4 p5 ar]) x.bG x.j_ x.fB x.bV x.line x.g_ x.gJ);simp only [Ys,Zs] at this;omega
 .rcases Kn hb with hb | hb
  .exact h.ins b hb
  .subst hb;intro i hi';rcases X2.1 hi' with hi' | hi'
   .exact h.ins x hm i hi'
   .rw [QP] at hi';subst hi';exact hi
 .rw [hg,if_neg (show ¬ b=a from fun e=>ho (e▸ha))];simp only [UB] at hb ⊢;exact h.trm b hb ho
 .simp only [UB] at hb;refine h.con S h0 (fun b hb ho hs z hz=>h1 b (by simpa using hb) ho hs z ?_) h2 b hb;rw [PZ (bl:=bl) (by rw [hg,if_neg (show ¬ b=a from fun e=>ho (e▸ha))])];exact hz
theorem qV {β:Type} {w n b0:Nat} {a p1 p2 p3 p4:Int} {bl:List aJ} {O:Nat->Prop} {P:Nat->Nat->Prop} {f} {Q:β->Prop} (h:Inv g sg cl re w n bl O P) (hb0:O b0) (ht:TV re bl.length p1 p2 p3 p4) (hp :∀y,P b0 y->(y:Int)∈succs p1 p3 p4)
  (c :∀jw,jw.length=bl.length->Inv g sg cl re w n jw (fun x=>O x/\x≠b0) (fun x y=>P x y/\x≠b0)->Ok (f (g,fs,lo,nu,re,a,jw)) Q) :
  Ok (Option.bind (f77 b0 p1 p2 p3 p4 g fs lo nu re a bl) f) Q:=by
 have hal:=h.opn b0 hb0;have hw:=h.wt;refine bC (fun y =>∃jw,y=(g,fs,lo,nu,re,a,jw)/\jw.length=bl.length/\Inv g sg cl re w n jw (fun x=>O x/\x≠b0) (fun x y=>P x y/\x≠b0)) ?_ fun y ⟨jw,e,h1,h2⟩=>by subst e;exact c jw h1 h2
 unfold f77;refine bC (fun y =>∃jw,y=(g,fs,lo,nu,re,a,jw)/\jw.length=bl.length/\Inv g sg cl re w n jw (fun x=>O x/\x≠b0) (fun x y=>P x y/\x≠b0)) ?_ fun y ⟨jw,e,h1,h2⟩=>by subst e;exact bT (by simp [h1]) (aF ⟨jw,rfl,h1,h2⟩)
 have hm:bl.getD b0 ah∈bl:=by rw [getD_at _ hal];exact QR _
 have hws:=fun b=>Ws (bl:=bl) (a:=b0) (b:=b) hal;simp only [Q6];obtain ⟨x,hxe⟩ :∃x,bl.getD b0 ah=x:=⟨_,rfl⟩;simp only [hxe] at hm hws ⊢;have hg :∀b,(bl.set b0 (aJ.mk x.instrs p1 p2 p3 p4 x.line x.g_ x.gJ)).getD b ah=if b=b0 then aJ.mk x.instrs p1 p2 p3 p4 x.line x.g_ x.gJ else bl.getD b ah:=fun b=>jg hal
 refine bT (aG.2 (by omega)) (aF ⟨_,rfl,by simp,⟨?_,by simpa using h.len,fun b hb => ?_,fun b hb ho => ?_,fun b hb=>by simpa using h.opn b hb.1,fun x y hp => ?_,fun S h0 h1 h2 b hb => ?_⟩⟩)
 .have:=hws (aJ.mk x.instrs p1 p2 p3 p4 x.line x.g_ x.gJ);simp only at this;omega
 .rcases Kn hb with hb | hb
  .exact h.ins b hb
  .subst hb;exact h.ins x hm
 .rw [hg];simp only [UB] at hb ⊢;by_cases e:b=b0
  .rw [if_pos e];exact ht
  .rw [if_neg e];exact h.trm b hb fun hob=>ho ⟨hob,e⟩
 .have:=h.src x y hp.1;exact ⟨⟨this.1,hp.2⟩,by simpa using this.2⟩
 .simp only [UB] at hb;refine h.con S h0 (fun b hb ho hs z hz=>h1 b (by simpa using hb) (fun hh=>ho hh.1) hs z ?_) (fun x y hxy hs => ?_) b hb
  .rw [PZ (bl:=bl) (by rw [hg,if_neg (show ¬ b=b0 from fun e=>ho (e▸hb0))])];exact hz
  .by_cases e:x=b0
   .subst e;have:=h1 x (by simpa using hal) (fun hh=>hh.2 rfl) hs (y:Int) (by unfold oq;rw [hg,if_pos rfl];exact hp y hxy)
    rwa [Q6] at this
   .exact h2 x y ⟨hxy,e⟩ hs
theorem YP {β:Type} {nm:List UInt8} {re a:Int} {bl:List aJ} {f} {Q:β->Prop} (hl:lo.length<=1000000) (c :∀q:Int,(nm∈lo->0<=q/\q<lo.length)->(¬ nm∈lo->q=-1)->Ok (f (q,g,fs,lo,nu,re,a,bl)) Q):Ok (Option.bind (f109 nm g fs lo nu re a bl) f) Q:=by
 refine bC (fun y =>∃q:Int,((nm∈lo->0<=q/\q<lo.length)/\(¬ nm∈lo->q=-1))/\y=(q,g,fs,lo,nu,re,a,bl)) ?_ fun y ⟨q,⟨h1,h2⟩,e⟩=>by subst e;exact c q h1 h2
 refine bC (fun y =>∃q:Int,((nm∈lo->0<=q/\q<lo.length)/\(¬ nm∈lo->q=-1))/\y=(q,g,fs,lo,nu,re,a,bl)) ?_ fun y ⟨q,h,e⟩=>by subst e;exact goK rfl (aF ⟨q,h,rfl⟩)
 unfold adq;refine bC (fun y =>∃q:Int,((nm∈lo->0<=q/\q<lo.length)/\(¬ nm∈lo->q=-1))/\y=(q,g,fs,lo,nu,re,a,bl)) ?_ fun y ⟨q,h,e⟩=>by subst e;exact bT (by simp) (aF ⟨q,h,rfl⟩)
 refine iF (fun _=>¬ nm∈lo) (iL lo.length (fun i=>lo.getD i bH≠nm) (by omega) (fun i h1 _=>goT (decide_eq_true (by omega)) (bT (aG.2 (by omega)) (dG (fun hc=>aF ⟨_,⟨fun _=>by omega,fun hn => ?_⟩,rfl⟩) fun hc=>aF ⟨rfl,by simpa using hc⟩))) fun hn=>b_ (decide_eq_false (by omega)) (aF fun hm => ?_)) fun _ hn=>aF ⟨-1,⟨fun h=>absurd h hn,fun _=>rfl⟩,rfl⟩
 .have hc:lo.getD i bH=nm:=by simpa using hc
  exact absurd (by rw [<-hc,getD_at _ h1];exact QR _) hn
 .obtain ⟨i,hi,e⟩:=Wt hm;have:=hn i hi;rw [getD_at _ hi] at this;exact this e
end
def BX:Nat->Nat
 |0=>0
 |1=>0
 |n+2=>3*BX (n+1)+4
def WX:Nat->Nat
 |0=>0
 |n+1=>3*WX n+7
def KX (n:Nat):Int:=2*n+1
theorem akD {q n:Nat} (h:q<=3):q*BX n<=BX (n+1):=by
 cases n with
 |zero=>simp [BX]
 |succ n=>have:=YY (BX (n+1)) h;simp only [BX] at this ⊢;omega
theorem ahl {n:Nat} (h:1<=n):BX n+BX n+4<=BX (n+1):=by
 cases n with
 |zero=>omega
 |succ n=>simp only [BX];omega
structure Lw (g:List aB) (fs:List aA) (lo:List (List UInt8)):Prop where
 gn:GN g
 fn:FN fs
 ln:LN lo
 lo:lo.length<=16
theorem YQ {g:List aB} {fs:List aA} (hf:FN fs) {nm:List UInt8} {q:Nat} (h:(nm,q)∈iY fs):Ok (f98 g fs nm) fun y=>(0<=y/\y<(iY fs).length)/\((iY fs).getD y.toNat ([],0)).2=q/\y<fs.length:=by
 refine jR (PU hf h) fun y ⟨i,e,h1,h2⟩ => ?_;subst e;have hl:(iY fs).length=fs.length:=by unfold iY;simp
 refine ⟨by omega,?_,by omega⟩;rw [Q6,getD_at _ (by omega)];unfold iY;simp only [Ke];rw [getD_at _ h1] at h2;exact h2
theorem H9 {g:List aB} {fs:List aA} (hg:GN g) {nm:List UInt8} {a:Bool} (h:PG a g nm):Ok (f97 g fs nm) fun y=>GI a g y:=by
 refine jR (YK hg h) fun y ⟨i,e,h1,_,h2⟩ => ?_;subst e;exact ⟨by omega,by rw [Q6];exact h2⟩
section
variable {g:List aB} {fs:List aA} {lo:List (List UInt8)} {nu:Int}
structure Pre (g:List aB) (fs:List aA) (lo:List (List UInt8)) (re:Int) (w m:Nat) (bl:List aJ) (a:Nat) (O:Nat->Prop) (P:Nat->Nat->Prop):Prop where
 inv:Inv g (iY fs) fs.length re w m bl (fun x=>x=a\/O x) P
 na:¬ O a
 np :∀y,¬ P a y
 re:lo.length<=re
def PV (w m:Nat) (g:List aB) (fs:List aA) (lo:List (List UInt8)) (nu re t k:Int) (bl:List aJ) (a:Nat) (O:Nat->Prop) (P:Nat->Nat->Prop) (y:List aB×List aA×List (List UInt8)×Int×Int×Int×List aJ):Prop:=
 ∃re' a' jw,y=(g,fs,lo,nu,re',((a':Nat):Int),jw)/\re<=re'/\t+1<=re'/\(re'<=re\/re'<=t+k)/\bl.length<=jw.length/\(a'=a\/bl.length<=a')/\Pre g fs lo re' w m jw a' O P
theorem Pre.lt {re:Int} {w m:Nat} {bl:List aJ} {a:Nat} {O:Nat->Prop} {P:Nat->Nat->Prop} (h:Pre g fs lo re w m bl a O P):a<bl.length/\(∀x,O x->x<bl.length/\x≠a)/\∀x y,P x y->x<bl.length/\x≠a/\y<bl.length:=
 ⟨h.inv.opn a (.inl rfl),fun x hx=>⟨h.inv.opn x (.inr hx),fun e=>h.na (e▸hx)⟩,fun x y hp=>⟨h.inv.opn x (h.inv.src x y hp).1,fun e=>h.np y (e▸hp),(h.inv.src x y hp).2⟩⟩
def VS (g:List aB) (fs:List aA) (lo:List (List UInt8)) (nu:Int) (rec:GK) (n:Nat) (x:aP) (t:Int):Prop:=
 ∀(re:Int) (a:Nat) bl w m O P,Pre g fs lo re w m bl a O P->w+WX n<=900000->Ok (rec x.kind x.op x.value x.line x.name x.args t g fs lo nu re a bl) (PV (w+WX n) (m+BX n) g fs lo nu re t (KX n) bl a O P)
theorem oV {t e:Int} (h:e≠t):succs 2 t e=[t,e]:=by unfold succs;rw [if_pos ⟨rfl,h⟩]
theorem uU {t e:Int}:succs 1 t e=[t]:=by unfold succs;rw [if_neg (by omega),if_pos (by omega)]
theorem ES {re a t e:Int} {n:Nat} (ha:RG re a) (ht:0<=t/\t<n) (he:0<=e/\e<n) (hne:e≠t):TV re n 2 a t e:=
 ⟨by omega,fun _=>ha,fun x hx=>by
  rw [oV hne] at hx;rcases QQ.1 hx with h | h
  .rw [h];exact ht
  .rw [QP] at h;rw [h];exact he⟩
theorem Bc {re a t e:Int} {n:Nat} (ht:0<=t/\t<n):TV re n 1 a t e:=
 ⟨by omega,fun h=>absurd rfl h,fun x hx=>by rw [uU,QP] at hx;rw [hx];exact ht⟩
theorem aaO {rec:GK} {rec':aag} {uS:SV} {n:Nat} {p0 p1 p2 p3 t re:Int} {p4:List UInt8} {x z:aP} (hn:1<=n) (hx:VS g fs lo nu rec n x t) (hz:VS g fs lo nu rec n z t)
  {a w m:Nat} {bl:List aJ} {O:Nat->Prop} {P:Nat->Nat->Prop} (h:Pre g fs lo re w m bl a O P) (h0:0<=t) (h1:t<=1000) (hw:w+WX (n+1)<=900000) :
  Ok (Yb rec rec' uS p0 p1 p2 p3 p4 [x,z] t g fs lo nu re a bl) (PV (w+WX (n+1)) (m+BX (n+1)) g fs lo nu re t (KX (n+1)) bl a O P):=by
 have hW:WX (n+1)=3*WX n+7:=rfl;have hB:=ahl hn;obtain ⟨q1,q2,q3⟩:=h.lt;unfold Yb;refine bT rfl (bC _ (hx re a bl w m O P h (by omega)) fun y ⟨r1,a1,b1,e,d1,d2,d3,d4,d5,d6⟩ => ?_);subst e;obtain ⟨u1,u2,u3⟩:=d6.lt;refine nY (bl:=b1) (re:=r1) d6.inv (.inl rfl) (by omega) fun b2 l2 i2=>bT rfl ?_;have hp2:Pre g fs lo r1 (w+WX n+1) (m+BX n+1) b2 b1.length (fun x=>x=a1\/O x) (fun x y=>(x=a1/\y=b1.length)\/P x y):=
  ⟨i2,fun hh=>by rcases hh with hh | hh;(· omega);(· have:=u2 _ hh;omega),fun y hh=>by rcases hh with hh | hh;(· omega);(· have:=u3 _ _ hh;omega),d6.re⟩
 refine bC _ (hz r1 b1.length b2 _ _ _ _ hp2 (by omega)) fun y ⟨r3,a3,b3,e,e1,e2,e3,e4,e5,e6⟩ => ?_;subst e;obtain ⟨v1,v2,v3⟩:=e6.lt;have hrg:RG r3 t:=⟨h0,by omega⟩;have hc :∀{o d a b v},RG r3 d->IV g (iY fs) fs.length r3 (dA.mk 1 o d a b v eInt):=fun hd=>.const hd (by simp);refine nY (bl:=b3) (re:=r3) (a:=a3) e6.inv (.inl rfl) (by omega) fun b4 l4 i4=>TY (bl:=b4) (re:=r3) (a:=b3.length) i4 (.inl rfl) (by omega) (hc hrg) fun b5 l5 i5=>nY (bl:=b5) (re:=r3) (a:=a3) i5 (.inr (.inl rfl)) (by omega) fun b6 l6 i6=>TY (bl:=b6) (re:=r3) (a:=b5.length) i6 (.inl rfl) (by omega) (hc hrg) fun b7 l7 i7=>nY (bl:=b7) (re:=r3) (a:=b3.length) i7 (.inr (.inl rfl)) (by omega) fun b8 l8 i8 => ?_;have a3n:a1≠a3:=by omega
 have pf :∀x y,P x y->x<bl.length/\x≠a:=fun x y hp=>⟨(q3 x y hp).1,(q3 x y hp).2.1⟩;refine qV (bl:=b8) (re:=r3) i8 (b0:=a3) (.inr (.inr (.inr (.inl rfl)))) (ES hrg (by omega) (by omega) (by omega)) (fun y hp => ?_) fun b9 l9 i9 => ?_
 .rw [oV (by omega)];rcases hp with hp | hp | hp | hp | hp
  .omega
  .simp [hp.2]
  .simp [hp.2]
  .omega
  .have:=pf _ _ hp;omega
 refine bC (fun y =>∃jw,y=(g,fs,lo,nu,r3,(b7.length:Int),jw)/\jw.length=b9.length/\Inv g (iY fs) fs.length r3 (w+WX n+1+WX n+1+1+1+1+1) (m+BX n+1+BX n+1+1+1) jw (fun x=>((x=b7.length\/x=b5.length\/x=b3.length\/x=a3\/x=a1\/O x)/\x≠a3)/\x≠a1)
   (fun x y=>(((x=b3.length/\y=b7.length)\/(x=a3/\y=b5.length)\/(x=a3/\y=b3.length)\/(x=a1/\y=b1.length)\/P x y)/\x≠a3)/\x≠a1)) ?_ fun y ⟨b10,e,l10,i10⟩ => ?_
 .have hp :∀y,(((a1=b3.length/\y=b7.length)\/(a1=a3/\y=b5.length)\/(a1=a3/\y=b3.length)\/(a1=a1/\y=b1.length)\/P a1 y)/\a1≠a3)->y=b1.length:=fun y hp=>by
   rcases hp.1 with hp | hp | hp | hp | hp
   .omega
   .omega
   .omega
   .exact hp.2
   .have:=pf _ _ hp;omega
  refine dG (fun _ => ?_) fun _ => ?_
  .refine qV (bl:=b9) (re:=r3) i9 (b0:=a1) ⟨.inr (.inr (.inr (.inr (.inl rfl)))),a3n⟩ (ES hrg (by omega) (by omega) (by omega)) (fun y hh => ?_) fun b l i=>aF ⟨b,rfl,l,i⟩;rw [oV (by omega),hp y hh];simp
  .refine qV (bl:=b9) (re:=r3) i9 (b0:=a1) ⟨.inr (.inr (.inr (.inr (.inl rfl)))),a3n⟩ (ES hrg (by omega) (by omega) (by omega)) (fun y hh => ?_) fun b l i=>aF ⟨b,rfl,l,i⟩;rw [oV (by omega),hp y hh];simp
 subst e;refine qV (bl:=b10) (re:=r3) i10 (b0:=b3.length) ⟨⟨.inr (.inr (.inl rfl)),by omega⟩,by omega⟩ (Bc (by omega)) (fun y hp => ?_) fun b11 l11 i11=>qV (bl:=b11) (re:=r3) i11 (b0:=b5.length) ⟨⟨⟨.inr (.inl rfl),by omega⟩,by omega⟩,by omega⟩ (Bc (by omega)) (fun y hp => ?_) fun b12 l12 i12=>aF ⟨r3,b7.length,b12,rfl,by omega,by omega,?_,by omega,by omega,⟨?_,fun hh => ?_,fun y hh => ?_,?_⟩⟩
 .rw [uU];rcases hp.1.1 with hp | hp | hp | hp | hp
  .simp [hp.2]
  .omega
  .omega
  .omega
  .have:=pf _ _ hp;omega
 .exfalso;rcases hp.1.1.1 with hp | hp | hp | hp | hp
  .omega
  .omega
  .omega
  .omega
  .have:=pf _ _ hp;omega
 .unfold KX at d3 e3 ⊢;omega
 .refine ((i12.up (WK _) (by omega) (by omega)).cast (fun x=>⟨fun hh => ?_,fun hh => ?_⟩) fun x y=>⟨fun hh => ?_,fun hh => ?_⟩)
  .rcases hh.1.1.1.1 with e | e | e | e | e | e
   .exact .inl e
   .exact absurd e hh.2
   .exact absurd e hh.1.2
   .exact absurd e hh.1.1.1.2
   .exact absurd e hh.1.1.2
   .exact .inr e
  .rcases hh with e | e
   .subst e;exact ⟨⟨⟨⟨.inl rfl,by omega⟩,by omega⟩,by omega⟩,by omega⟩
   .have:=q2 x e;exact ⟨⟨⟨⟨.inr (.inr (.inr (.inr (.inr e)))),by omega⟩,by omega⟩,by omega⟩,by omega⟩
  .rcases hh.1.1.1.1 with e | e | e | e | e
   .exact absurd e.1 hh.1.2
   .exact absurd e.1 hh.1.1.1.2
   .exact absurd e.1 hh.1.1.1.2
   .exact absurd e.1 hh.1.1.2
   .exact e
  .have:=pf _ _ hh;exact ⟨⟨⟨⟨.inr (.inr (.inr (.inr hh))),by omega⟩,by omega⟩,by omega⟩,by omega⟩
 .have:=q2 _ hh;omega
 .have:=pf _ _ hh;omega
 .have:=h.re;omega
def PVs (w m q:Nat) (g:List aB) (fs:List aA) (lo:List (List UInt8)) (nu re t k:Int) (bl:List aJ) (a:Nat) (O:Nat->Prop) (P:Nat->Nat->Prop) (y:List aB×List aA×List (List UInt8)×Int×Int×Int×List Int×List aJ):Prop:=
 ∃re' a' rs jw,y=(g,fs,lo,nu,re',((a':Nat):Int),rs,jw)/\(rs.length=q/\∀x∈rs,RG re' x)/\re<=re'/\t+q<=re'/\(re'<=re\/re'<=t+2+k)/\bl.length<=jw.length/\(a'=a\/bl.length<=a')/\Pre g fs lo re' w m jw a' O P
theorem T_ {rec:GK} {rec':aag} {uS:SV} {n:Nat} {t re:Int} {ar:List aP} (har:ar.length<=3) (hr :∀x∈ar,∀i:Int,0<=i/\i<=3->VS g fs lo nu rec n x (t+i))
  {a w m:Nat} {bl:List aJ} {O:Nat->Prop} {P:Nat->Nat->Prop} (h:Pre g fs lo re w m bl a O P) (h0:0<=t) (h1:t<=990) (hw:w+WX (n+1)<=900000) (ht:t+1<=re) :
  Ok (Yc rec rec' uS ar t g fs lo nu re a bl) (PVs (w+ar.length*WX n) (m+ar.length*BX n) ar.length g fs lo nu re t (KX n) bl a O P):=by
 have hW:WX (n+1)=3*WX n+7:=rfl;unfold Yc;refine bC (PVs (w+ar.length*WX n) (m+ar.length*BX n) ar.length g fs lo nu re t (KX n) bl a O P) ?_ fun y ⟨re',a',rs,jw,e,hh⟩=>by subst e;exact aF ⟨re',a',rs,jw,rfl,hh⟩
 refine bJ (fun s:Int×List aB×List aA×List (List UInt8)×Int×Int×Int×List Int×List aJ =>∃q:Nat,∃re' a' rs jw,s=((q:Int),g,fs,lo,nu,re',((a':Nat):Int),rs,jw)/\q<=ar.length/\(rs.length=q/\∀x∈rs,RG re' x)/\re<=re'/\t+q<=re'/\(re'<=re\/re'<=t+2+KX n)/\bl.length<=jw.length/\(a'=a\/bl.length<=a')/\Pre g fs lo re' (w+q*WX n) (m+q*BX n) jw a' O P) (fun s=>(ar.length-s.1).toNat)
  ⟨0,re,a,[],bl,rfl,by omega,⟨rfl,fun x hx=>by cases hx⟩,by omega,by omega,by omega,by omega,.inl rfl,by simpa using h⟩ fun s ⟨q,r1,a1,rs,b1,e,c0,⟨c1,c1'⟩,c2,c3,c4,c5,c6,c7⟩ => ?_
 subst e;refine dG (fun hc => ?_) fun hc => ?_
 rotate_left
 .have hc:¬ (q:Int)<ar.length:=by simpa using hc
  have:q=ar.length:=by omega
  subst this;exact aF ⟨r1,a1,rs,b1,rfl,⟨c1,c1'⟩,c2,c3,c4,c5,c6,c7⟩
 have hc:(q:Int)<ar.length:=by simpa using hc
 have hm:=aey (WX n) (show q<3 by omega);have hm2:=aey (BX n) (show q<3 by omega);have hwt:dJ (t+q)=t+q:=aH (by omega);refine bT (aG.2 ⟨by simp only;omega,hc⟩) ?_;simp only [hwt];refine bC _ (hr _ (aeu eH (by omega) hc) q (by omega) r1 a1 b1 _ _ O P c7 (by omega)) fun y ⟨r2,a2,b2,e,d1,d2,d3,d4,d5,d6⟩ => ?_;subst e;refine bT (by unfold aX;simp;omega) (aF ⟨⟨q+1,r2,a2,rs++[t+q],b2,?_,by omega,⟨by simp [c1],fun x hx => ?_⟩,by omega,by omega,?_,by omega,by omega,?_⟩,?_⟩)
 .show (dJ ((q:Int)+1),_)=_;rw [aH (by omega)];rfl
 .rcases X2.1 hx with hx | hx
  .exact (c1' x hx).mono d1
  .rw [QP] at hx;subst hx;exact ⟨by omega,by omega⟩
 .unfold KX at d3 c4 ⊢;omega
 .exact ⟨d6.inv.up (WK _) (by omega) (by omega),d6.na,d6.np,d6.re⟩
 .show ((ar.length:Int)-dJ ((q:Int)+1)).toNat<((ar.length:Int)-q).toNat;rw [aH (by omega)];omega
where
 aey {q m:Nat} (V:Nat) (h:q<m):(q+1)*V=q*V+V/\q*V+V<=m*V:=by
  have e:(q+1)*V=q*V+V:=Nat.succ_mul q V;exact ⟨e,e▸YY V h⟩
theorem gB {x:Option (List aB×List aA×List (List UInt8)×Int×Int×Int×List aJ)} {Q:List aB×List aA×List (List UInt8)×Int×Int×Int×List aJ->Prop} (h:Ok x Q):Ok (Option.bind x fun s=>some (s.1,s.2.1,s.2.2.1,s.2.2.2.1,s.2.2.2.2.1,s.2.2.2.2.2.1,s.2.2.2.2.2.2)) Q:=
 bC _ h fun y h=>aF h
theorem QX.args {sg:List (List UInt8×Nat)} {n:Nat} {x:aP} (h:QX g sg lo (n+1) x):x.args.length<=3/\∀y∈x.args,QX g sg lo n y:=by
 cases h with
 |leaf _=>exact ⟨by simp,fun y h=>by cases h⟩
 |loc _=>exact ⟨by simp,fun y h=>by cases h⟩
 |glo _=>exact ⟨by simp,fun y h=>by cases h⟩
 |func _=>exact ⟨by simp,fun y h=>by cases h⟩
 |elem _ h=>exact ⟨by simp,o_ h⟩
 |un _ h=>exact ⟨by simp,o_ h⟩
 |bin _ h1 h2=>exact ⟨by simp,fun y hy=>by rcases QQ.1 hy with e | e;(· subst e;exact h1);exact o_ h2 y e⟩
 |lazy _ h1 h2=>exact ⟨by simp,fun y hy=>by rcases QQ.1 hy with e | e;(· subst e;exact h1);exact o_ h2 y e⟩
 |call _ h1 h2=>exact ⟨by simp only;omega,h2⟩
 |value h1 h2 h3=>exact ⟨by simp only [Wg];omega,fun y hy=>by rcases QQ.1 hy with e | e;(· subst e;exact h2);exact h3 y e⟩
theorem Wu {rec:GK} {rec':aag} {uS:SV} {n:Nat} (hS:Lw g fs lo) {x:aP} (hx:QX g (iY fs) lo (n+1) x) {t re:Int} {a w m:Nat} {bl:List aJ} {O:Nat->Prop} {P:Nat->Nat->Prop} (h:Pre g fs lo re w m bl a O P) (h0:0<=t) (h1:t<=990) (hw:w+WX (n+1)<=900000)
  (hl:x.kind=7\/x.kind=8->∀re,Pre g fs lo re w m bl a O P->Ok (rec' x.kind x.op x.value x.line x.name x.args t g fs lo nu re a bl) (PV (w+WX (n+1)) (m+BX (n+1)) g fs lo nu re t (KX (n+1)) bl a O P))
  (hv :∀re,Pre g fs lo re w m bl a O P->t+1<=re->Ok (uS x.args t g fs lo nu re a bl) (PVs (w+x.args.length*WX n) (m+x.args.length*BX n) x.args.length g fs lo nu re t (KX n) bl a O P)) :
  Ok (Ya rec rec' uS x.kind x.op x.value x.line x.name x.args t g fs lo nu re a bl) (PV (w+WX (n+1)) (m+BX (n+1)) g fs lo nu re t (KX (n+1)) bl a O P):=by
 have hW:WX (n+1)=3*WX n+7:=rfl;have ha3:=hx.args.1;have hB:=akD (n:=n) ha3;have hWm:=YY (WX n) ha3;obtain ⟨r1,hr1⟩ :∃r1,Eb re (dJ (t+1))=r1:=⟨_,rfl⟩;have hr1':r1=max re (t+1):=by rw [<-hr1,Hg,aH (by omega)]
 have hp1:Pre g fs lo r1 w m bl a O P:=⟨h.inv.up (by omega) (Z1 _) (Z1 _),h.na,h.np,by have:=h.re;omega⟩;have hout :∀y,PV (w+WX (n+1)) (m+BX (n+1)) g fs lo nu r1 t (KX (n+1)) bl a O P y->PV (w+WX (n+1)) (m+BX (n+1)) g fs lo nu re t (KX (n+1)) bl a O P y:=fun y ⟨r,a',b,e,c1,c2,c3,c4⟩=>⟨r,a',b,e,by omega,c2,by unfold KX at c3 ⊢;omega,c4⟩;unfold Ya;dsimp only;rw [hr1];refine bC (fun s=>s=decide (x.kind=7\/x.kind=8)) ?_ fun s hs => ?_
 .refine dG (fun e=>aF ?_) fun e=>aF ?_
  .have e:x.kind=7:=by simpa using e
   simp [e]
  .have e:¬ x.kind=7:=by simpa using e
   simp [e]
 subst hs;refine dG (fun e=>gB (jR (hl (by simpa using e) r1 hp1) hout)) fun e => ?_;have e:¬ (x.kind=7\/x.kind=8):=by simpa using e
 refine bC _ (hv r1 hp1 (by omega)) fun y ⟨r2,a2,rs,b2,e',⟨c1,c2⟩,c3,c4,c5,c6,c7,c8⟩ => ?_;subst e';have hrt:RG r2 t:=⟨h0,by omega⟩;have put :∀{p0 p1 p2 p3 p4 p5:Int} {ar:List Int},IV g (iY fs) fs.length r2 (dA.mk p0 p1 p2 p3 p4 p5 ar)->Ok (f76 p0 p1 p2 p3 p4 p5 ar g fs lo nu r2 a2 b2) (PV (w+WX (n+1)) (m+BX (n+1)) g fs lo nu re t (KX (n+1)) bl a O P):=fun {p0 p1 p2 p3 p4 p5 ar} hi=>by
  have:=TY (g:=g) (sg:=iY fs) (cl:=fs.length) (fs:=fs) (lo:=lo) (nu:=nu) (re:=r2) (p0:=p0) (p1:=p1) (p2:=p2) (p3:=p3) (p4:=p4) (p5:=p5) (ar:=ar) (f:=some) (Q:=PV (w+WX (n+1)) (m+BX (n+1)) g fs lo nu re t (KX (n+1)) bl a O P) c8.inv (.inl rfl) (by omega) hi fun b l hh=>aF ⟨r2,a2,b,rfl,by omega,by omega,by unfold KX at c5 ⊢;omega,by omega,c7,⟨hh.up (WK _) (by omega) (by omega),c8.na,c8.np,c8.re⟩⟩
  rwa [show∀z:Option (List aB×List aA×List (List UInt8)×Int×Int×Int×List aJ),Option.bind z some=z from fun z=>by cases z<;>rfl] at this
 have hlo:lo.length<=1000000:=by have:=hS.lo;omega
 have hlr:=c8.re;clear hout hv hl;cases hx with
 |leaf hk=>
  rcases hk with hk | hk
  .subst hk;exact gB (goT rfl (gB (put (.const hrt (by simp)))))
  .subst hk;exact gB (b_ rfl (gB (b_ rfl (gB (b_ rfl (gB (b_ rfl (gB (b_ rfl (gB (b_ rfl (gB (b_ rfl (gB (b_ rfl (gB (b_ rfl (gB (goT rfl (gB (put (.read hrt (by simp)))))))))))))))))))))))
 |loc hm=>exact gB (b_ rfl (gB (goT rfl (YP hlo fun q q1 _=>gB (put (.move hrt ⟨(q1 hm).1,by have:q<lo.length:=(q1 hm).2;omega⟩ (by simp)))))))
 |glo hg=>exact gB (b_ rfl (gB (b_ rfl (gB (goT rfl (bC _ (H9 hS.gn hg) fun y hy=>gB (put (.load hrt hy (by simp)))))))))
 |func hs=>exact gB (b_ rfl (gB (b_ rfl (gB (b_ rfl (gB (b_ rfl (gB (b_ rfl (gB (b_ rfl (gB (b_ rfl (gB (b_ rfl (gB (goT rfl (bC _ (YQ hS.fn hs) fun y hy=>gB (put (.func hrt ⟨hy.1.1,hy.2.2⟩ (by simp)))))))))))))))))))))
 |elem hg _=>exact gB (b_ rfl (gB (b_ rfl (gB (b_ rfl (gB (goT rfl (bC _ (H9 hS.gn hg) fun y hy=>gB (put (.elem hrt hrt hy (by simp)))))))))))
 |un ho _=>exact gB (b_ rfl (gB (b_ rfl (gB (b_ rfl (gB (b_ rfl (gB (goT rfl (gB (put (.un hrt hrt ho (by simp)))))))))))))
 |bin ho _ _=>
  have hb:RG r2 (dJ (t+1)):=by rw [aH (by omega)];simp only [Wg,Jn] at c4;exact ⟨by omega,by omega⟩
  exact gB (b_ rfl (gB (b_ rfl (gB (b_ rfl (gB (b_ rfl (gB (b_ rfl (gB (goT rfl (gB (put (.bin hrt hrt hb ho (by simp)))))))))))))))
 |lazy hk _ _=>exact absurd hk e
 |call hs hlen _=>
  simp only at c1;exact gB (b_ rfl (gB (b_ rfl (gB (b_ rfl (gB (b_ rfl (gB (b_ rfl (gB (b_ rfl (gB (goT rfl (bC _ (YQ hS.fn hs) fun y hy=>gB (put (.call hrt hy.1 (by rw [hy.2.1];exact c1.symm) c2 (show rs.length<=10 by omega)))))))))))))))))
 |value hlen _ _=>
  simp only [Wg] at c1;refine gB (b_ rfl (gB (b_ rfl (gB (b_ rfl (gB (b_ rfl (gB (b_ rfl (gB (b_ rfl (gB (b_ rfl (gB (goT rfl (bT (J8.2 ⟨⟨by omega,by simp only;omega⟩,by simp only;omega⟩) (gB (put (.Nv hrt hrt (fun x hx=>c2 x (W7 (WP hx))) ?_)))))))))))))))))));simp;omega
theorem aaP (n:Nat):(iE (n+1)).1=Ya (Tq n) (adx n) (ady n):=rfl
theorem aaQ (n:Nat):(iE (n+1)).2.1=Yb (Tq n) (adx n) (ady n):=rfl
theorem aaR (n:Nat):(iE (n+1)).2.2=Yc (Tq n) (adx n) (ady n):=rfl
theorem P5 (hS:Lw g fs lo) :∀n k:Nat,2*n<=k->n<=10->∀x,QX g (iY fs) lo n x->∀(t re:Int) (a:Nat) bl w m O P,Pre g fs lo re w m bl a O P->0<=t->t+4*n<=980->w+WX n<=900000->Ok (Tq k x.kind x.op x.value x.line x.name x.args t g fs lo nu re a bl) (PV (w+WX n) (m+BX n) g fs lo nu re t (KX n) bl a O P)
 |0,_,_,_=>fun _ h=>by cases h
 |n+1,0,hk,_=>by omega
 |n+1,1,hk,_=>by omega
 |n+1,k+2,hk,hn=>fun x hx t re a bl w m O P h h0 h1 hw=>by
  have ih:=P5 hS n k (by omega) (by omega);obtain ⟨ha3,har⟩:=hx.args;show Ok ((iE (k+2)).1 x.kind x.op x.value x.line x.name x.args t g fs lo nu re a bl) _;rw [aaP];refine Wu hS hx h h0 (by omega) hw (fun hk re hp => ?_) fun re hp ht => ?_
  .show Ok ((iE (k+1)).2.1 x.kind x.op x.value x.line x.name x.args t g fs lo nu re a bl) _;rw [aaQ];cases hx with
   |lazy _ h2 h3=>
    have hn1:1<=n:=by
     cases n with
     |zero=>cases h2
     |succ n=>omega
    exact aaO hn1 (fun re a bl w m O P hp hw=>ih _ h2 t re a bl w m O P hp h0 (by omega) hw) (fun re a bl w m O P hp hw=>ih _ h3 t re a bl w m O P hp h0 (by omega) hw) hp h0 (by omega) hw
   |leaf h=>simp only at hk;omega
   |loc _=>simp only at hk;omega
   |glo _=>simp only at hk;omega
   |func _=>simp only at hk;omega
   |elem _ _=>simp only at hk;omega
   |un _ _=>simp only at hk;omega
   |bin _ _ _=>simp only at hk;omega
   |call _ _ _=>simp only at hk;omega
   |value _ _ _=>simp only at hk;omega
  .show Ok ((iE (k+1)).2.2 x.args t g fs lo nu re a bl) _;rw [aaR];exact T_ ha3 (fun z hz i hi re a bl w m O P hp hw=>ih z (har z hz) (t+i) re a bl w m O P hp (by omega) (by omega) hw) hp h0 (by omega) hw ht
end
section
variable {g:List aB} {fs:List aA} {lo:List (List UInt8)} {nu:Int}
theorem wx2:WX 2=28:=rfl
theorem wx3:WX 3=91:=rfl
theorem bx2:BX 2=4:=rfl
theorem bx3:BX 3=16:=rfl
def PW (w m:Nat) (g:List aB) (fs:List aA) (lo:List (List UInt8)) (nu re:Int) (bl:List aJ) (a:Nat) (O:Nat->Prop) (P:Nat->Nat->Prop) (y:Bool×List aB×List aA×List (List UInt8)×Int×Int×Int×List aJ):Prop:=
 ∃on re' a' jw,y=(on,g,fs,lo,nu,re',((a':Nat):Int),jw)/\re<=re'/\(re'<=re\/re'<=lo.length+10)/\bl.length<=jw.length/\(a'=a\/bl.length<=a')/\Inv g (iY fs) fs.length re' w m jw (fun x=>(on=true/\x=a')\/O x) P
def sW (ht:Nat->Nat):Nat->Nat
 |0=>0
 |q+1=>sW ht q+WX (ht q)
def sB (ht:Nat->Nat):Nat->Nat
 |0=>0
 |q+1=>sB ht q+BX (ht q)
theorem aiG {n:Nat} (h:n<=3):WX n<=91:=by
 have:n=0\/n=1\/n=2\/n=3:=by omega
 rcases this with rfl | rfl | rfl | rfl<;>decide
theorem aiH {ht:Nat->Nat} (h :∀i,ht i<=3) :∀q,sW ht q<=91*q
 |0=>by simp [sW]
 |q+1=>by have:=aiH h q;have:=aiG (h q);simp only [sW];omega
def PE2 (w m:Nat) (q:Nat) (g:List aB) (fs:List aA) (lo:List (List UInt8)) (nu re:Int) (bl:List aJ) (a:Nat) (O:Nat->Prop) (P:Nat->Nat->Prop) (y:List aB×List aA×List (List UInt8)×Int×Int×Int×List aJ):Prop:=
 ∃re' a' jw,y=(g,fs,lo,nu,re',((a':Nat):Int),jw)/\re<=re'/\(lo.length:Int)+q<=re'/\(re'<=re\/re'<=lo.length+10)/\bl.length<=jw.length/\(a'=a\/bl.length<=a')/\Pre g fs lo re' w m jw a' O P
theorem aaS (hS:Lw g fs lo) {es:List aP} {ht:Nat->Nat} (he:es.length<=2) (hh :∀i,ht i<=3) (hq :∀i,i<es.length->QX g (iY fs) lo (ht i) (es.getD i eH)) {re:Int} {a w m:Nat} {bl:List aJ} {O:Nat->Prop} {P:Nat->Nat->Prop} (h:Pre g fs lo re w m bl a O P) (hw:w+182<=800000)
  {body:Int×List aB×List aA×List (List UInt8)×Int×Int×Int×List aJ->Option ((Int×List aB×List aA×List (List UInt8)×Int×Int×Int×List aJ) ⊕ (List aB×List aA×List (List UInt8)×Int×Int×Int×List aJ))}
  (hb :∀(q:Nat) (re:Int) (a:Int) (b:List aJ),body ((q:Int),g,fs,lo,nu,re,a,b)=bif decide ((q:Int)<(es.length:Int)) then ck (inB (q:Int) es.length) <| OB (f108 (List.getD es q eH).kind (List.getD es q eH).op (List.getD es q eH).value (List.getD es q eH).line (List.getD es q eH).name (List.getD es q eH).args (dJ ((lo.length:Int)+q)) g fs lo nu re a b) fun c8=>some (.inl ((dJ ((q:Int)+1)),c8.1,c8.2.1,c8.2.2.1,c8.2.2.2.1,c8.2.2.2.2.1,c8.2.2.2.2.2.1,c8.2.2.2.2.2.2)) else some (.inr (g,fs,lo,nu,re,a,b))) :
  Ok (bF body ((0:Int),g,fs,lo,nu,re,(a:Int),bl)) (PE2 (w+sW ht es.length) (m+sB ht es.length) es.length g fs lo nu re bl a O P):=by
 have hL:=hS.lo;refine bJ (fun s =>∃q:Nat,∃re' a' b,s=((q:Int),g,fs,lo,nu,re',((a':Nat):Int),b)/\q<=es.length/\re<=re'/\(lo.length:Int)+q<=re'/\(re'<=re\/re'<=lo.length+10)/\bl.length<=b.length/\(a'=a\/bl.length<=a')/\Pre g fs lo re' (w+sW ht q) (m+sB ht q) b a' O P) (fun s=>(es.length-s.1).toNat)
  ⟨0,re,a,bl,rfl,by omega,by omega,by have:=h.re;omega,by omega,by omega,.inl rfl,by simpa [sW,sB] using h⟩ fun s ⟨q,r1,a1,b1,e,c0,c1,c2,c3,c4,c5,c6⟩ => ?_
 subst e;rw [hb];refine dG (fun hc => ?_) fun hc => ?_
 rotate_left
 .have hc:¬ (q:Int)<es.length:=by simpa using hc
  have:q=es.length:=by omega
  subst this;exact aF ⟨r1,a1,b1,rfl,c1,c2,c3,c4,c5,c6⟩
 have hc:(q:Int)<es.length:=by simpa using hc
 have hsw:=aiH hh q;have hwx:=aiG (hh q);have hhq:=hh q;refine bT (aG.2 ⟨by omega,hc⟩) ?_;rw [aH (x:=(lo.length:Int)+q) (by omega)];refine bC _ (P5 hS (ht q) 1048576 (by omega) (by omega) _ (hq q (by omega)) (lo.length+q) r1 a1 b1 _ _ O P c6 (by omega) (by omega) (by omega)) fun y ⟨r2,a2,b2,e,d1,d2,d3,d4,d5,d6⟩ => ?_;subst e;refine aF ⟨⟨q+1,r2,a2,b2,?_,by omega,by omega,by omega,?_,by omega,by omega,?_⟩,?_⟩
 .show (dJ ((q:Int)+1),_)=_;rw [aH (by omega)];rfl
 .unfold KX at d3;omega
 .simp only [sW,sB];rw [<-Uv,<-Uv];exact d6
 .show ((es.length:Int)-dJ ((q:Int)+1)).toNat<((es.length:Int)-q).toNat;rw [aH (by omega)];omega
def SS (g:List aB) (fs:List aA) (lo:List (List UInt8)) (nu:Int) (rec:T75) (ss:List cO) (c k:Nat):Prop:=
 ∀(re:Int) (a:Nat) bl w m O P,Pre g fs lo re w m bl a O P->w+130*k<=700000->Ok (rec ss g fs lo nu re a bl) (PW (w+130*k) (m+(20*c+4*k)) g fs lo nu re bl a O P)
theorem Wv {rec:T75} {rec':T95} {Ua:Ll} {Ub:Lm} {c k:Nat} {p0 p1 re:Int} {nm:List UInt8} {x:aP} {th el:List cO} (hS:Lw g fs lo) (hx:QX g (iY fs) lo 3 x)
  (hr:SS g fs lo nu rec th c k) {a w m:Nat} {bl:List aJ} {O:Nat->Prop} {P:Nat->Nat->Prop} (h:Pre g fs lo re w m bl a O P) (hw:w+130*(1+k)<=700000) :
  Ok (Yl rec rec' Ua Ub p0 p1 nm [x] th el (lo.length:Int) g fs lo nu re a bl) fun y=>PW (w+130*(1+k)) (m+(20*(1+c)+4*(1+k))) g fs lo nu re bl a O P (true,y):=by
 have hL:=hS.lo;obtain ⟨q1,q2,q3⟩:=h.lt;have pf :∀x y,P x y->x<bl.length/\x≠a:=fun x y hp=>⟨(q3 x y hp).1,(q3 x y hp).2.1⟩;unfold Yl;refine nY (bl:=bl) (re:=re) (a:=a) h.inv (.inl rfl) (by omega) fun b1 l1 i1=>qV (bl:=b1) (re:=re) (b0:=a) i1 (.inr (.inl rfl)) (Bc (by omega)) (fun y hp => ?_) fun b2 l2 i2=>bT rfl ?_
 .rw [uU];rcases hp with hp | hp
  .simp [hp.2]
  .exact absurd rfl (pf _ _ hp).2
 have hp2:Pre g fs lo re (w+1) (m+1) b2 bl.length O P:=by
  refine ⟨i2.cast (fun z=>⟨fun hh => ?_,fun hh => ?_⟩) fun z y=>⟨fun hh => ?_,fun hh => ?_⟩,fun hh => ?_,fun y hh => ?_,h.re⟩
  .rcases hh.1 with e | e | e
   .exact .inl e
   .exact absurd e hh.2
   .exact .inr e
  .rcases hh with e | e
   .exact ⟨.inl e,by omega⟩
   .exact ⟨.inr (.inr e),(q2 z e).2⟩
  .rcases hh.1 with e | e
   .exact absurd e.1 hh.2
   .exact e
  .exact ⟨.inr hh,(pf _ _ hh).2⟩
  .have:=q2 _ hh;omega
  .have:=pf _ _ hh;omega
 refine bC _ (P5 hS 3 1048576 (by omega) (by omega) x hx lo.length re bl.length b2 _ _ O P hp2 (by omega) (by omega) (by rw [wx3];omega)) fun y ⟨r3,a3,b3,e,d1,d2,d3,d4,d5,d6⟩ => ?_;subst e;rw [wx3,bx3] at d6;obtain ⟨u1,u2,u3⟩:=d6.lt;refine nY (bl:=b3) (re:=r3) (a:=a3) d6.inv (.inl rfl) (by omega) fun b4 l4 i4 => ?_;have hp4:Pre g fs lo r3 (w+1+91+1) (m+1+16+1) b4 b3.length (fun x=>x=a3\/O x) (fun x y=>(x=a3/\y=b3.length)\/P x y):=
  ⟨i4,fun hh=>by rcases hh with hh | hh;(· omega);(· have:=u2 _ hh;omega),fun y hh=>by rcases hh with hh | hh;(· omega);(· have:=u3 _ _ hh;omega),d6.re⟩
 refine bC _ (hr r3 b3.length b4 _ _ _ _ hp4 (by omega)) fun y ⟨on,r5,a5,b5,e,e1,e2,e3,e4,e5⟩ => ?_;subst e;have hlen5:=e5.opn;refine bC (fun y =>∃jw,y=(g,fs,lo,nu,r5,(a5:Int),jw)/\jw.length=b5.length/\Inv g (iY fs) fs.length r5 (w+1+91+1+130*k) (m+1+16+1+(20*c+4*k)) jw (fun x=>x=a3\/O x) (fun x y=>(x=a3/\y=b3.length)\/P x y)) ?_ fun y ⟨b6,e,l6,i6⟩ => ?_
 .refine dG (fun hon => ?_) fun hon=>aF ⟨b5,rfl,rfl,e5.cast (fun z=>⟨fun hh=>hh.resolve_left fun hh => ?_,.inr⟩) fun z y=>Iff.rfl⟩
  rotate_left
  .have hon:on=false:=hon;rw [hon] at hh;exact absurd hh.1 (by simp)
  have hon:on=true:=hon;refine qV (bl:=b5) (re:=r5) (b0:=a5) e5 (.inl ⟨hon,rfl⟩) (Bc (by omega)) (fun y hp => ?_) fun b l i=>aF ⟨b,rfl,l,i.cast (fun z=>⟨fun hh => ?_,fun hh => ?_⟩) fun z y=>⟨fun hh=>hh.1,fun hh=>⟨hh,?_⟩⟩⟩
  .rcases hp with hp | hp
   .omega
   .have:=u3 _ _ hp;omega
  .exact hh.1.resolve_left fun hz=>hh.2 hz.2
  .refine ⟨.inr hh,?_⟩;rcases hh with hh | hh
   .omega
   .have:=u2 _ hh;omega
  .rcases hh with hh | hh
   .omega
   .have:=u3 _ _ hh;omega
 subst e;refine nY (bl:=b6) (re:=r5) (a:=a3) i6 (.inl rfl) (by omega) fun b7 l7 i7=>qV (bl:=b7) (re:=r5) (b0:=a3) i7 (.inr (.inl rfl)) (ES ⟨by omega,by omega⟩ (by omega) (by omega) (by omega)) (fun y hp => ?_) fun b8 l8 i8=>aF ⟨true,r5,b6.length,b8,rfl,by omega,?_,by omega,by omega,?_⟩
 .rw [oV (by omega)];rcases hp with hp | hp | hp
  .simp [hp.2]
  .simp [hp.2]
  .have:=u3 _ _ hp;omega
 .unfold KX at d3;omega
 .refine (i8.up (WK _) (by omega) (by omega)).cast (fun z=>⟨fun hh => ?_,fun hh => ?_⟩) fun z y=>⟨fun hh => ?_,fun hh => ?_⟩
  .rcases hh.1 with e | e | e
   .exact .inl ⟨rfl,e⟩
   .exact absurd e hh.2
   .exact .inr e
  .rcases hh with e | e
   .exact ⟨.inl e.2,by omega⟩
   .have:=u2 _ e;exact ⟨.inr (.inr e),by omega⟩
  .rcases hh.1 with e | e | e
   .exact absurd e.1 hh.2
   .exact absurd e.1 hh.2
   .exact e
  .have:=u3 _ _ hh;exact ⟨.inr (.inr hh),by omega⟩
theorem Uc {rec:T75} {rec':T95} {Ua:Ll} {Ub:Lm} {c1 c2 k1 k2:Nat} {p0 p1 re:Int} {nm:List UInt8} {es:List aP} {th el:List cO} (hS:Lw g fs lo)
  (hr:SS g fs lo nu rec th c1 k1) (hr':SS g fs lo nu rec el c2 k2) {a w m:Nat} {bl:List aJ} {O:Nat->Prop} {P:Nat->Nat->Prop} (h:Pre g fs lo re w m bl a O P) (hre:(lo.length:Int)+1<=re) (hw:w+3+130*k1+130*k2<=700000) :
  Ok (Ym rec rec' Ua Ub p0 p1 nm es th el (lo.length:Int) g fs lo nu re a bl) (PW (w+3+130*k1+130*k2) (m+3+(20*c1+4*k1)+(20*c2+4*k2)) g fs lo nu re bl a O P):=by
 have hL:=hS.lo;obtain ⟨q1,q2,q3⟩:=h.lt;have pf :∀x y,P x y->x<bl.length/\x≠a:=fun x y hp=>⟨(q3 x y hp).1,(q3 x y hp).2.1⟩;unfold Ym;refine nY (bl:=bl) (re:=re) (a:=a) h.inv (.inl rfl) (by omega) fun b1 l1 i1 => ?_;have hp1:Pre g fs lo re (w+1) (m+1) b1 bl.length (fun x=>x=a\/O x) (fun x y=>(x=a/\y=bl.length)\/P x y):=
  ⟨i1,fun hh=>by rcases hh with hh | hh;(· omega);(· have:=q2 _ hh;omega),fun y hh=>by rcases hh with hh | hh;(· omega);(· have:=pf _ _ hh;omega),h.re⟩
 refine bC _ (hr re bl.length b1 _ _ _ _ hp1 (by omega)) fun y ⟨on,r2,a2,b2,e,e1,e2,e3,e4,e5⟩ => ?_;subst e;have hO2 :∀x,O x->x<b1.length/\x≠a/\x≠a2:=fun x hx=>by have:=q2 x hx;omega
 have hP2 :∀x y,P x y->x<b1.length/\x≠a/\x≠a2:=fun x y hx=>by have:=pf x y hx;omega
 have ha2:a≠a2:=by omega
 have hrg :∀{r:Int},r2<=r->RG r (lo.length:Int):=fun hr=>⟨by omega,by omega⟩;refine dG (fun _ => ?_) fun _ => ?_
 .refine nY (bl:=b2) (re:=r2) (a:=a) e5 (.inr (.inl rfl)) (by omega) fun b3 l3 i3=>qV (bl:=b3) (re:=r2) (b0:=a) i3 (.inr (.inr (.inl rfl))) (ES (hrg (WK _)) (by omega) (by omega) (by omega)) (fun y hp => ?_) fun b4 l4 i4 => ?_
  .rw [oV (by omega)];rcases hp with hp | hp | hp
   .simp [hp.2]
   .simp [hp.2]
   .have:=pf _ _ hp;omega
  refine bC (fun y =>∃jw,y=(g,fs,lo,nu,r2,(b2.length:Int),jw)/\jw.length=b4.length/\Inv g (iY fs) fs.length r2 (w+1+130*k1+1) (m+1+(20*c1+4*k1)+1) jw (fun x=>(true=true/\x=b2.length)\/O x) P) ?_ fun y ⟨b5,e,l5,i5⟩=>by subst e;exact aF ⟨true,r2,b2.length,b5,rfl,by omega,by omega,by omega,by omega,i5.up (WK _) (by omega) (by omega)⟩
  have ob:=e5.opn;refine dG (fun hon => ?_) fun hon=>aF ⟨b4,rfl,rfl,i4.cast (fun z=>⟨fun hh => ?_,fun hh => ?_⟩) fun z y=>⟨fun hh => ?_,fun hh => ?_⟩⟩
  .have hon:on=true:=hon;have:=ob a2 (.inl ⟨hon,rfl⟩);refine qV (bl:=b4) (re:=r2) (b0:=a2) i4 ⟨.inr (.inl ⟨hon,rfl⟩),by omega⟩ (Bc (by omega)) (fun y hp => ?_) fun b l i=>aF ⟨b,rfl,l,i.cast (fun z=>⟨fun hh => ?_,fun hh => ?_⟩) fun z y=>⟨fun hh => ?_,fun hh => ?_⟩⟩
   .exfalso;rcases hp.1 with hp | hp | hp
    .omega
    .omega
    .have:=hP2 _ _ hp;omega
   .rcases hh.1.1 with e | e | e | e
    .exact .inl ⟨rfl,e⟩
    .exact absurd e.2 hh.2
    .exact absurd e hh.1.2
    .exact .inr e
   .rcases hh with e | e
    .exact ⟨⟨.inl e.2,by omega⟩,by omega⟩
    .have:=hO2 _ e;exact ⟨⟨.inr (.inr (.inr e)),by omega⟩,by omega⟩
   .rcases hh.1.1 with e | e | e
    .exact absurd e.1 hh.1.2
    .exact absurd e.1 hh.1.2
    .exact e
   .have:=hP2 _ _ hh;exact ⟨⟨.inr (.inr hh),by omega⟩,by omega⟩
  .have hon:on=false:=hon;rcases hh.1 with e | e | e | e
   .exact .inl ⟨rfl,e⟩
   .rw [hon] at e;exact absurd e.1 (by simp)
   .exact absurd e hh.2
   .exact .inr e
  .rcases hh with e | e
   .exact ⟨.inl e.2,by omega⟩
   .have:=hO2 _ e;exact ⟨.inr (.inr (.inr e)),by omega⟩
  .rcases hh.1 with e | e | e
   .exact absurd e.1 hh.2
   .exact absurd e.1 hh.2
   .exact e
  .have:=hP2 _ _ hh;exact ⟨.inr (.inr hh),by omega⟩
 .refine nY (bl:=b2) (re:=r2) (a:=a) e5 (.inr (.inl rfl)) (by omega) fun b3 l3 i3=>qV (bl:=b3) (re:=r2) (b0:=a) i3 (.inr (.inr (.inl rfl))) (ES (hrg (WK _)) (by omega) (by omega) (by omega)) (fun y hp => ?_) fun b4 l4 i4 => ?_
  .rw [oV (by omega)];rcases hp with hp | hp | hp
   .simp [hp.2]
   .simp [hp.2]
   .have:=pf _ _ hp;omega
  have ob:=e5.opn;have akE:on=true->a2<b2.length:=fun hon=>ob a2 (.inl ⟨hon,rfl⟩);have hp4:Pre g fs lo r2 (w+1+130*k1+1) (m+1+(20*c1+4*k1)+1) b4 b2.length (fun x=>(on=true/\x=a2)\/O x) P:=by
   refine ⟨i4.cast (fun z=>⟨fun hh => ?_,fun hh => ?_⟩) fun z y=>⟨fun hh => ?_,fun hh => ?_⟩,fun hh => ?_,fun y hh => ?_,by have:=h.re;omega⟩
   .rcases hh.1 with e | e | e | e
    .exact .inl e
    .exact .inr (.inl e)
    .exact absurd e hh.2
    .exact .inr (.inr e)
   .rcases hh with e | e | e
    .exact ⟨.inl e,by omega⟩
    .exact ⟨.inr (.inl e),by omega⟩
    .have:=hO2 _ e;exact ⟨.inr (.inr (.inr e)),by omega⟩
   .rcases hh.1 with e | e | e
    .exact absurd e.1 hh.2
    .exact absurd e.1 hh.2
    .exact e
   .have:=hP2 _ _ hh;exact ⟨.inr (.inr hh),by omega⟩
   .rcases hh with hh | hh
    .have:=akE hh.1;omega
    .have:=hO2 _ hh;omega
   .have:=hP2 _ _ hh;omega
  refine bC _ (hr' r2 b2.length b4 _ _ _ _ hp4 (by omega)) fun y ⟨als,r5,a5,b5,e,f1,f2,f3,F4,F5⟩ => ?_;subst e;have ob5:=F5.opn;have hO5 :∀x,O x->x<b5.length/\x≠a5:=fun x hx=>by have:=hO2 x hx;omega
  refine bC (fun y=>y=(!on&&!als)) ?_ fun y hy => ?_
  .exact dG (fun hh=>aF (by have hh:on=false:=(by simpa using hh);rw [hh];rfl)) fun hh=>aF (by have hh:on=true:=(by simpa using hh);rw [hh];rfl)
  subst hy;refine dG (fun hh=>aF ⟨false,r5,a5,b5,rfl,by omega,by omega,by omega,by omega,?_⟩) fun hh => ?_
  .have hh:on=false/\als=false:=by simpa using hh
   refine (F5.up (WK _) (by omega) (by omega)).cast (fun z=>⟨fun hz => ?_,fun hz => ?_⟩) fun z y=>Iff.rfl
   .rcases hz with hz | hz | hz
    .rw [hh.2] at hz;exact absurd hz.1 (by simp)
    .rw [hh.1] at hz;exact absurd hz.1 (by simp)
    .exact .inr hz
   .rcases hz with hz | hz
    .exact absurd hz.1 (by simp)
    .exact .inr (.inr hz)
  have hor:on=true\/als=true:=by
   cases on with
   |true=>exact .inl rfl
   |false=>cases als with
    |true=>exact .inr rfl
    |false=>simp at hh
  obtain ⟨src,hsrc,hsv⟩ :∃src,((als=true/\src=a5)\/(on=true/\src=a2)\/O src)/\((on=true/\src=a2)\/(als=true/\src=a5)):=by
   rcases hor with hh | hh
   .exact ⟨a2,.inr (.inl ⟨hh,rfl⟩),.inl ⟨hh,rfl⟩⟩
   .exact ⟨a5,.inl ⟨hh,rfl⟩,.inr ⟨hh,rfl⟩⟩
  refine nY (bl:=b5) (re:=r5) (a:=src) F5 hsrc (by omega) fun b6 l6 i6 => ?_;have hP5 :∀x y,P x y->x≠a2/\x≠a5/\x<b5.length:=fun x y hx=>by have:=hP2 x y hx;omega
  have asH:on=true->a2≠a5:=fun hon=>by have:=akE hon;omega
  refine bC (fun y =>∃jw,y=(g,fs,lo,nu,r5,(b5.length:Int),jw)/\jw.length=b6.length/\Inv g (iY fs) fs.length r5 (w+1+130*k1+1+130*k2+1) (m+1+(20*c1+4*k1)+1+(20*c2+4*k2)+1) jw (fun x=>x=b5.length\/(als=true/\x=a5)\/O x) (fun x y=>(x=src/\src≠a2/\y=b5.length)\/(on=false/\x=src/\y=b5.length)\/P x y)) ?_ fun y ⟨b7,e,l7,i7⟩ => ?_
  .refine dG (fun hon => ?_) fun hon=>aF ⟨b6,rfl,rfl,i6.cast (fun z=>⟨fun hz => ?_,fun hz => ?_⟩) fun z y=>⟨fun hz => ?_,fun hz => ?_⟩⟩
   .have hon:on=true:=hon;have:=akE hon;refine qV (bl:=b6) (re:=r5) (b0:=a2) i6 (.inr (.inr (.inl ⟨hon,rfl⟩))) (Bc (by omega)) (fun y hp => ?_) fun b l i=>aF ⟨b,rfl,l,i.cast (fun z=>⟨fun hz => ?_,fun hz => ?_⟩) fun z y=>⟨fun hz => ?_,fun hz => ?_⟩⟩
    .rw [uU];rcases hp with hp | hp
     .simp [hp.2]
     .have:=hP5 _ _ hp;omega
    .rcases hz.1 with e | e | e | e
     .exact .inl e
     .exact .inr (.inl e)
     .exact absurd e.2 hz.2
     .exact .inr (.inr e)
    .rcases hz with e | e | e
     .exact ⟨.inl e,by omega⟩
     .exact ⟨.inr (.inl e),by have:=asH hon;omega⟩
     .have:=hO2 _ e;exact ⟨.inr (.inr (.inr e)),by omega⟩
    .rcases hz.1 with e | e
     .exact .inl ⟨e.1,fun e'=>hz.2 (e.1.trans e'),e.2⟩
     .exact .inr (.inr e)
    .rcases hz with e | e | e
     .exact ⟨.inl ⟨e.1,e.2.2⟩,fun e'=>e.2.1 (e.1.symm.trans e')⟩
     .rw [hon] at e;exact absurd e.1 (by simp)
     .exact ⟨.inr e,(hP5 _ _ e).1⟩
   .have hon:on=false:=hon;rcases hz with e | e | e | e
    .exact .inl e
    .exact .inr (.inl e)
    .rw [hon] at e;exact absurd e.1 (by simp)
    .exact .inr (.inr e)
   .rcases hz with e | e | e
    .exact .inl e
    .exact .inr (.inl e)
    .exact .inr (.inr (.inr e))
   .have hon:on=false:=hon;rcases hz with e | e
    .exact .inr (.inl ⟨hon,e⟩)
    .exact .inr (.inr e)
   .rcases hz with e | e | e
    .exact .inl ⟨e.1,e.2.2⟩
    .exact .inl e.2
    .exact .inr e
  subst e;have hs5:(src≠a2\/on=false)->src=a5/\als=true:=fun hs=>by
   rcases hsv with e | e
   .rcases hs with hs | hs
    .exact absurd e.2 hs
    .rw [hs] at e;exact absurd e.1 (by simp)
   .exact ⟨e.2,e.1⟩
  refine bC (fun y =>∃jw,y=(g,fs,lo,nu,r5,(b5.length:Int),jw)/\jw.length=b7.length/\Inv g (iY fs) fs.length r5 (w+1+130*k1+1+130*k2+1) (m+1+(20*c1+4*k1)+1+(20*c2+4*k2)+1) jw (fun x=>(true=true/\x=b5.length)\/O x) P) ?_ fun y ⟨b8,e,l8,i8⟩=>by subst e;exact aF ⟨true,r5,b5.length,b8,rfl,by omega,by omega,by omega,by omega,i8.up (WK _) (by omega) (by omega)⟩
  refine dG (fun GR => ?_) fun GR=>aF ⟨b7,rfl,rfl,i7.cast (fun z=>⟨fun hz => ?_,fun hz => ?_⟩) fun z y=>⟨fun hz => ?_,fun hz=>.inr (.inr hz)⟩⟩
  .have GR:als=true:=GR;have:=ob5 a5 (.inl ⟨GR,rfl⟩);refine qV (bl:=b7) (re:=r5) (b0:=a5) i7 (.inr (.inl ⟨GR,rfl⟩)) (Bc (by omega)) (fun y hp => ?_) fun b l i=>aF ⟨b,rfl,l,i.cast (fun z=>⟨fun hz => ?_,fun hz => ?_⟩) fun z y=>⟨fun hz => ?_,fun hz => ?_⟩⟩
   .rw [uU];rcases hp with hp | hp | hp
    .simp [hp.2.2]
    .simp [hp.2.2]
    .have:=hP5 _ _ hp;omega
   .rcases hz.1 with e | e | e
    .exact .inl ⟨rfl,e⟩
    .exact absurd e.2 hz.2
    .exact .inr e
   .rcases hz with e | e
    .exact ⟨.inl e.2,by omega⟩
    .have:=hO5 _ e;exact ⟨.inr (.inr e),by omega⟩
   .rcases hz.1 with e | e | e
    .exact absurd (e.1.trans (hs5 (.inl e.2.1)).1) hz.2
    .exact absurd (e.2.1.trans (hs5 (.inr e.1)).1) hz.2
    .exact e
   .have:=hP5 _ _ hz;exact ⟨.inr (.inr hz),by omega⟩
  .have GR:als=false:=GR;rcases hz with e | e | e
   .exact .inl ⟨rfl,e⟩
   .rw [GR] at e;exact absurd e.1 (by simp)
   .exact .inr e
  .rcases hz with e | e
   .exact .inl e.2
   .exact .inr (.inr e)
  .have GR:als=false:=GR;rcases hz with e | e | e
   .have:=(hs5 (.inl e.2.1)).2;rw [GR] at this;cases this
   .have:=(hs5 (.inr e.1)).2;rw [GR] at this;cases this
   .exact e
end
section
variable {g:List aB} {fs:List aA} {lo:List (List UInt8)} {nu:Int}
theorem Wx {rec:T75} {rec':T95} {Ua:Ll} {Ub:Lm} {n c k:Nat} {s:cO} {l1 l2:List (List UInt8)} {re:Int} (hS:Lw g fs lo) (hs:QS g (iY fs) lo (n+1) l1 s l2 c k)
  {a w m:Nat} {bl:List aJ} {O:Nat->Prop} {P:Nat->Nat->Prop} (h:Pre g fs lo re w m bl a O P) (hw:w+130*k<=700000)
  (h5 :∀x th c1 k1 l3,s.exprs=[x]->s.then'=th->QX g (iY fs) lo 3 x->th.length<=10->Ch (QS g (iY fs) lo n) l1 th l3 c1 k1->w+130*(1+k1)<=700000->Ok (Ua s.kind s.line s.name s.exprs s.then' s.else' (lo.length:Int) g fs lo nu re a bl) fun y=>PW (w+130*(1+k1)) (m+(20*(1+c1)+4*(1+k1))) g fs lo nu re bl a O P (true,y))
  (h4 :∀c1 c2 k1 k2 l3 l4,s.then'.length<=10->s.else'.length<=10->Ch (QS g (iY fs) lo n) l1 s.then' l3 c1 k1->Ch (QS g (iY fs) lo n) l3 s.else' l4 c2 k2->∀(re':Int) (a':Nat) b w' m',Pre g fs lo re' w' m' b a' O P->(lo.length:Int)+1<=re'->w'+3+130*k1+130*k2<=700000->Ok (Ub s.kind s.line s.name s.exprs s.then' s.else' (lo.length:Int) g fs lo nu re' a' b) (PW (w'+3+130*k1+130*k2) (m'+3+(20*c1+4*k1)+(20*c2+4*k2)) g fs lo nu re' b a' O P)) :
  Ok (agK rec rec' Ua Ub s.kind s.line s.name s.exprs s.then' s.else' g fs lo nu re a bl) (PW (w+130*k) (m+(20*c+4*k)) g fs lo nu re bl a O P):=by
 have hL:=hS.lo;have hlo:lo.length<=1000000:=by omega
 unfold agK;dsimp only;have ex :∀(es:List aP) (ht:Nat->Nat),es.length<=2->(∀i,ht i<=3)->(∀i,i<es.length->QX g (iY fs) lo (ht i) (es.getD i eH))->w+182<=800000->Ok (bF (fun (s3:(Int×fC×(List aA)×bK×Int×Int×Int×lU))=>
   bif (decide (s3.1<(es.length:Int))) then ck (inB s3.1 es.length) <| OB (f108 (List.getD es s3.1.toNat eH).kind (List.getD es s3.1.toNat eH).op (List.getD es s3.1.toNat eH).value (List.getD es s3.1.toNat eH).line (List.getD es s3.1.toNat eH).name (List.getD es s3.1.toNat eH).args (dJ ((lo.length:Int)+s3.1)) s3.2.1 s3.2.2.1 s3.2.2.2.1 s3.2.2.2.2.1 s3.2.2.2.2.2.1 s3.2.2.2.2.2.2.1 s3.2.2.2.2.2.2.2) fun c8=>some (.inl ((dJ (s3.1+1)),c8.1,c8.2.1,c8.2.2.1,c8.2.2.2.1,c8.2.2.2.2.1,c8.2.2.2.2.2.1,c8.2.2.2.2.2.2)) else
   some (.inr (s3.2.1,s3.2.2.1,s3.2.2.2.1,s3.2.2.2.2.1,s3.2.2.2.2.2.1,s3.2.2.2.2.2.2.1,s3.2.2.2.2.2.2.2))) ((0:Int),g,fs,lo,nu,re,(a:Int),bl)) (PE2 (w+sW ht es.length) (m+sB ht es.length) es.length g fs lo nu re bl a O P):=fun es ht h1 h2 h3 h4=>aaS hS h1 h2 h3 h h4 fun q re a b=>rfl
 have at0 :∀{x:aP} {d:Nat},QX g (iY fs) lo d x->∀i,i<([x]:List aP).length->QX g (iY fs) lo d (([x]:List aP).getD i eH):=fun hx i hi=>by
  have:i=0:=by simpa using hi
  subst this;exact hx
 have put :∀{p0 p1 p2 p3 p4 p5:Int} {ar:List Int} {r2:Int} {a2 w2 m2:Nat} {b2:List aJ},Pre g fs lo r2 w2 m2 b2 a2 O P->re<=r2->(r2<=re\/r2<=lo.length+10)->bl.length<=b2.length->(a2=a\/bl.length<=a2)->w2+1<=w+130*k->m2<=m+(20*c+4*k)->IV g (iY fs) fs.length r2 (dA.mk p0 p1 p2 p3 p4 p5 ar)->
   Ok (f76 p0 p1 p2 p3 p4 p5 ar g fs lo nu r2 a2 b2) fun y=>PW (w+130*k) (m+(20*c+4*k)) g fs lo nu re bl a O P (true,y):=fun {p0 p1 p2 p3 p4 p5 ar r2 a2 w2 m2 b2} hp g1 g2 g3 g4 g5 g6 hi=>by
  have:=TY (g:=g) (sg:=iY fs) (cl:=fs.length) (fs:=fs) (lo:=lo) (nu:=nu) (re:=r2) (p0:=p0) (p1:=p1) (p2:=p2) (p3:=p3) (p4:=p4) (p5:=p5) (ar:=ar) (bl:=b2) (f:=some) (Q:=fun y=>PW (w+130*k) (m+(20*c+4*k)) g fs lo nu re bl a O P (true,y)) hp.inv (.inl rfl) (by omega) hi fun b l hh=>aF ⟨true,r2,a2,b,rfl,g1,g2,by omega,g4,(hh.up (WK _) (by omega) (by omega)).cast (fun x=>by simp) fun x y=>Iff.rfl⟩
  rwa [show∀z:Option (List aB×List aA×List (List UInt8)×Int×Int×Int×List aJ),Option.bind z some=z from fun z=>by cases z<;>rfl] at this
 have asg :∀{nm:List UInt8} {r2:Int} {a2 w2 m2:Nat} {b2:List aJ} {k1:Int},(k1=1\/k1=2)->(nm∈lo\/PG false g nm)->Pre g fs lo r2 w2 m2 b2 a2 O P->re<=r2->(r2<=re\/r2<=lo.length+10)->bl.length<=b2.length->(a2=a\/bl.length<=a2)->w2+1<=w+130*k->m2<=m+(20*c+4*k)->(lo.length:Int)+1<=r2->
   Ok (Option.bind (f109 nm g fs lo nu r2 a2 b2) fun c14=>Option.bind (bif (decide (0<=c14.1)) then OB (f76 2 0 c14.1 (lo.length:Int) 0 0 eInt c14.2.1 c14.2.2.1 c14.2.2.2.1 c14.2.2.2.2.1 c14.2.2.2.2.2.1 c14.2.2.2.2.2.2.1 b2) fun c16=>some (c16.1,c16.2.1,c16.2.2.1,c16.2.2.2.1,c16.2.2.2.2.1,c16.2.2.2.2.2.1,c16.2.2.2.2.2.2) else
    OB (f97 c14.2.1 c14.2.2.1 nm) fun c17=>OB (f76 6 0 0 (lo.length:Int) 0 c17 eInt c14.2.1 c14.2.2.1 c14.2.2.2.1 c14.2.2.2.2.1 c14.2.2.2.2.2.1 c14.2.2.2.2.2.2.1 b2) fun c18=>some (c18.1,c18.2.1,c18.2.2.1,c18.2.2.2.1,c18.2.2.2.2.1,c18.2.2.2.2.2.1,c18.2.2.2.2.2.2)) fun wI=>(some (.inl (wI.1,wI.2.1,wI.2.2.1,wI.2.2.2.1,wI.2.2.2.2.1,wI.2.2.2.2.2.1,wI.2.2.2.2.2.2)):Option ((List aB×List aA×List (List UInt8)×Int×Int×Int×List aJ) ⊕ (Bool×List aB×List aA×List (List UInt8)×Int×Int×Int×List aJ))))
    (J7 (fun y=>PW (w+130*k) (m+(20*c+4*k)) g fs lo nu re bl a O P (true,y)) (PW (w+130*k) (m+(20*c+4*k)) g fs lo nu re bl a O P)):=fun {nm r2 a2 w2 m2 b2 k1} _ hnm hp g1 g2 g3 g4 g5 g6 g7=>by
  have hrt:RG r2 (lo.length:Int):=⟨by omega,by omega⟩;refine YP hlo fun q q1 q2=>bC (fun y=>PW (w+130*k) (m+(20*c+4*k)) g fs lo nu re bl a O P (true,y)) ?_ fun y hy=>aF hy;by_cases hm:nm∈lo
  .obtain ⟨z1,z2⟩:=q1 hm;exact goT (decide_eq_true z1) (gB (put (r2:=r2) hp g1 g2 g3 g4 g5 g6 (.move ⟨z1,by omega⟩ hrt (by simp))))
  .have z:=q2 hm;subst z;exact b_ rfl (bC _ (H9 hS.gn (hnm.resolve_left hm)) fun y hy=>gB (put hp g1 g2 g3 g4 g5 g6 (.store hrt hy (by simp))))
 have out :∀{y:List aB×List aA×List (List UInt8)×Int×Int×Int×List aJ},PW (w+130*k) (m+(20*c+4*k)) g fs lo nu re bl a O P (true,y)->PW (w+130*k) (m+(20*c+4*k)) g fs lo nu re bl a O P (true,y.1,y.2.1,y.2.2.1,y.2.2.2.1,y.2.2.2.2.1,y.2.2.2.2.2.1,y.2.2.2.2.2.2):=fun h=>h;cases (show QS1 g (iY fs) lo (QS g (iY fs) lo n) l1 s l2 c k from hs) with
 |var hm hx=>
  refine b_ rfl (bC _ (ex _ (fun _=>3) (by simp) (fun _=>Z1 _) (at0 hx) (by omega)) fun y ⟨r2,a2,b2,e,f1,f2,f3,F4,F5,f6⟩ => ?_);subst e;simp only [sW,sB,Zs,wx3,bx3] at f2 f6;exact bC (fun y=>y=true) (goT rfl (aF rfl)) fun y e=>by subst e;exact iF (fun y=>PW (w+130*1) (m+(20*1+4*1)) g fs lo nu re bl a O P (true,y)) (goT rfl (asg (k1:=1) (by omega) (.inl hm) f6 f1 f3 F4 F5 (by omega) (by omega) (by omega))) fun y hy=>aF (out hy)
 |assign hm hx=>
  refine b_ rfl (bC _ (ex _ (fun _=>3) (by simp) (fun _=>Z1 _) (at0 hx) (by omega)) fun y ⟨r2,a2,b2,e,f1,f2,f3,F4,F5,f6⟩ => ?_);subst e;simp only [sW,sB,Zs,wx3,bx3] at f2 f6;exact bC (fun y=>y=true) (b_ rfl (aF rfl)) fun y e=>by subst e;exact iF (fun y=>PW (w+130*1) (m+(20*1+4*1)) g fs lo nu re bl a O P (true,y)) (goT rfl (asg (k1:=1) (by omega) hm f6 f1 f3 F4 F5 (by omega) (by omega) (by omega))) fun y hy=>aF (out hy)
 |step hm hx=>
  refine b_ rfl (bC _ (ex _ (fun _=>2) (by simp) (fun _=>by omega) (at0 hx) (by omega)) fun y ⟨r2,a2,b2,e,f1,f2,f3,F4,F5,f6⟩ => ?_);subst e;simp only [sW,sB,Zs,wx2,bx2] at f2 f6;exact bC (fun y=>y=true) (b_ rfl (aF rfl)) fun y e=>by subst e;exact iF (fun y=>PW (w+130*1) (m+(20*0+4*1)) g fs lo nu re bl a O P (true,y)) (goT rfl (asg (k1:=1) (by omega) hm f6 f1 f3 F4 F5 (by omega) (by omega) (by omega))) fun y hy=>aF (out hy)
 |store hp hx hz=>
  refine b_ rfl (bC _ (ex _ (fun i=>if i=0 then 2 else 3) (by simp) (fun i=>by split<;>omega) (fun i hi => ?_) (by omega)) fun y ⟨r2,a2,b2,e,f1,f2,f3,F4,F5,f6⟩ => ?_)
  .have:i=0\/i=1:=by simp at hi;omega
   rcases this with rfl | rfl
   .exact hx
   .exact hz
  subst e;have e2:sW (fun i=>if i=0 then 2 else 3) 2=119:=rfl;have e3:sB (fun i=>if i=0 then 2 else 3) 2=20:=rfl;simp only [Wg,Jn,Wm,e2,e3] at f2 f6;have hr2:RG r2 (dJ ((lo.length:Int)+1)):=by rw [aH (by omega)];exact ⟨by omega,by omega⟩
  exact bC (fun y=>y=false) (b_ rfl (aF rfl)) fun y e=>by subst e;exact iF (fun y=>PW (w+130*1) (m+(20*1+4*1)) g fs lo nu re bl a O P (true,y)) (b_ rfl (iF (fun y=>PW (w+130*1) (m+(20*1+4*1)) g fs lo nu re bl a O P (true,y)) (goT rfl (bC _ (H9 hS.gn hp) fun y hy=>bC _ (put (r2:=r2) f6 f1 f3 F4 F5 (by omega) (by omega) (.set ⟨by omega,by omega⟩ hr2 hy (by simp))) fun y hy=>aF hy)) fun y hy=>aF hy)) fun y hy=>aF (out hy)
 |@plain k0 i nm x hk hx=>
  have hk' :∀j:Int,j=5\/j=1\/j=2\/j=3\/j=4->k0≠j:=fun j hj e=>by rcases hk with h | h | h<;>omega
  refine b_ (decide_eq_false (hk' 5 (by simp))) (bC _ (ex _ (fun _=>3) (by simp) (fun _=>Z1 _) (at0 hx) (by omega)) fun y ⟨r2,a2,b2,e,f1,f2,f3,F4,F5,f6⟩ => ?_);subst e;simp only [sW,sB,Zs,wx3,bx3] at f2 f6;refine bC (fun y=>y=false) (b_ (decide_eq_false (hk' 1 (by simp))) (aF (decide_eq_false (hk' 2 (by simp))))) fun y e => ?_;subst e;refine iF (fun y=>PW (w+130*1) (m+(20*1+4*1)) g fs lo nu re bl a O P (true,y)) (b_ rfl (iF (fun y=>PW (w+130*1) (m+(20*1+4*1)) g fs lo nu re bl a O P (true,y)) (b_ (decide_eq_false (hk' 3 (by simp))) ?_) fun y hy=>aF hy)) fun y hy=>aF (out hy);have u:=f6.lt;refine dG (fun _ => ?_) fun _=>iF (fun y=>PW (w+130*1) (m+(20*1+4*1)) g fs lo nu re bl a O P (true,y)) (dG (fun _=>bC _ (put (r2:=r2) f6 f1 f3 F4 F5 (by omega) (by omega) (.print ⟨by omega,by omega⟩ (by simp))) fun y hy=>aF hy) fun _=>b_ (decide_eq_false (hk' 4 (by simp))) (aF ⟨true,r2,a2,b2,rfl,f1,f3,F4,F5,(f6.inv.up (WK _) (by omega) (by omega)).cast (fun x=>by simp) fun x y=>Iff.rfl⟩)) fun y hy=>aF hy;refine qV (bl:=b2) (re:=r2) (b0:=a2) f6.inv (.inl rfl) ⟨by omega,fun _=>⟨by omega,by omega⟩,fun x hx=>by unfold succs at hx;rw [if_neg (by omega),if_neg (by omega)] at hx;cases hx⟩ (fun y hp=>absurd hp (f6.np y)) fun b l i=>aF ⟨false,r2,a2,b,rfl,f1,f3,by omega,F5,(i.up (WK _) (by omega) (by omega)).cast (fun z=>⟨fun hh => ?_,fun hh => ?_⟩) fun z y=>⟨fun hh=>hh.1,fun hh=>⟨hh,(u.2.2 _ _ hh).2.1⟩⟩⟩
  .exact hh.1.elim (fun e=>absurd e hh.2) .inr
  .rcases hh with hh | hh
   .exact absurd hh.1 (by simp)
   .exact ⟨.inr hh,(u.2.1 _ hh).2⟩
 |qU hx ht hc=>
  exact goT rfl (bC _ (h5 _ _ _ _ _ rfl rfl hx ht hc (by omega)) fun y hy=>aF hy)
 |@if' i nm x th el l3 l4 c1 c2 k1 k2 hx ht he hc1 hc2=>
  refine b_ rfl (bC _ (ex _ (fun _=>3) (by simp) (fun _=>Z1 _) (at0 hx) (by omega)) fun y ⟨r2,a2,b2,e,f1,f2,f3,F4,F5,f6⟩ => ?_);subst e;simp only [sW,sB,Zs,wx3,bx3] at f2 f6;refine bC (fun y=>y=false) (b_ rfl (aF rfl)) fun y e => ?_;subst e;refine iF (fun y=>PW (w+130*(1+k1+k2)) (m+(20*(1+c1+c2)+4*(1+k1+k2))) g fs lo nu re bl a O P (true,y)) (b_ rfl (iF (fun y=>PW (w+130*(1+k1+k2)) (m+(20*(1+c1+c2)+4*(1+k1+k2))) g fs lo nu re bl a O P (true,y)) (b_ rfl (b_ rfl (iF (fun y=>PW (w+130*(1+k1+k2)) (m+(20*(1+c1+c2)+4*(1+k1+k2))) g fs lo nu re bl a O P (true,y)) (b_ rfl (goT rfl (bC _ (h4 _ _ _ _ _ _ ht he hc1 hc2 r2 a2 b2 _ _ f6 (by omega) (by omega)) fun y ⟨on,r3,a3,b3,e,g1,g2,g3,g4,g5⟩ => ?_))) fun y hy=>aF hy))) fun y hy=>aF hy)) fun y hy=>aF (out hy);subst e;exact aF ⟨on,r3,a3,b3,rfl,by omega,by omega,by omega,by omega,g5.up (WK _) (by omega) (by omega)⟩
theorem Gs {rec:T75} {rec':T95} {Ua:Ll} {Ub:Lm} {n c k:Nat} {ss:List cO} {l1 l2:List (List UInt8)} (hs:ss.length<=10) (hc:Ch (QS g (iY fs) lo n) l1 ss l2 c k)
  (hr :∀x∈ss,∀l3 l4 c1 k1,QS g (iY fs) lo n l3 x l4 c1 k1->∀(re:Int) (a:Nat) bl w m O P,Pre g fs lo re w m bl a O P->w+130*k1<=700000->Ok (rec' x.kind x.line x.name x.exprs x.then' x.else' g fs lo nu re a bl) (PW (w+130*k1) (m+(20*c1+4*k1)) g fs lo nu re bl a O P))
  {re:Int} {a w m:Nat} {bl:List aJ} {O:Nat->Prop} {P:Nat->Nat->Prop} (h:Pre g fs lo re w m bl a O P) (hw:w+130*k<=700000) :
  Ok (agJ rec rec' Ua Ub ss g fs lo nu re a bl) (PW (w+130*k) (m+(20*c+4*k)) g fs lo nu re bl a O P):=by
 obtain ⟨q1,q2,q3⟩:=h.lt;unfold agJ;refine iF (fun y=>PW (w+130*k) (m+(20*c+4*k)) g fs lo nu re bl a O P (true,y)) ?_ fun y hy=>aF hy;refine bJ (fun s:Int×List aB×List aA×List (List UInt8)×Int×Int×Int×List aJ =>∃q c1 k1 c2 k2:Nat,∃l3 re' a' b,s=((q:Int),g,fs,lo,nu,re',((a':Nat):Int),b)/\q<=ss.length/\Ch (QS g (iY fs) lo n) l3 (ss.drop q) l2 c2 k2/\c=c1+c2/\k=k1+k2/\re<=re'/\(re'<=re\/re'<=lo.length+10)/\bl.length<=b.length/\(a'=a\/bl.length<=a')/\Pre g fs lo re' (w+130*k1) (m+(20*c1+4*k1)) b a' O P) (fun s=>(ss.length-s.1).toNat)
  ⟨0,0,0,c,k,l1,re,a,bl,rfl,by omega,hc,by omega,by omega,by omega,by omega,by omega,.inl rfl,h⟩ fun s ⟨q,c1,k1,c2,k2,l3,re',a',b,e,d1,d2,d3,d4,d5,d6,d7,d8,d9⟩ => ?_
 subst e;refine dG (fun hc => ?_) fun hc => ?_
 rotate_left
 .have hc:¬ (q:Int)<ss.length:=by simpa using hc
  obtain ⟨e1,e2,e3⟩:=d2.fin (by omega);subst e2;subst e3;exact aF ⟨true,re',a',b,rfl,d5,d6,d7,d8,(d9.inv.up (WK _) (by omega) (by omega)).cast (fun x=>by simp) fun x y=>Iff.rfl⟩
 have hc:(q:Int)<ss.length:=by simpa using hc
 obtain ⟨l4,c3,c4,k3,k4,hx,hr2,e1,e2⟩:=d2.at (by omega);refine bT (aG.2 ⟨by simp only;omega,hc⟩) ?_;simp only [Q6];refine bC _ (hr _ (by rw [getD_at _ (by omega:q<ss.length)];exact QR _) _ _ _ _ hx re' a' b _ _ O P d9 (by omega)) fun y ⟨on,r2,a2,b2,e,f1,f2,f3,F4,F5⟩ => ?_;subst e;refine dG (fun ho => ?_) fun ho => ?_
 .have ho:on=false:=by simpa using ho
  exact aF ⟨false,r2,a2,b2,rfl,by omega,by omega,by omega,by omega,(F5.up (WK _) (by omega) (by omega)).cast (fun x=>by rw [ho]) fun x y=>Iff.rfl⟩
 .have ho:on=true:=by simpa using ho
  subst ho;have u:=d9.lt;refine aF ⟨⟨q+1,c1+c3,k1+k3,c4,k4,l4,r2,a2,b2,?_,by omega,hr2,by omega,by omega,by omega,by omega,by omega,by omega,⟨(F5.up (WK _) (by omega) (by omega)).cast (fun x=>by simp) fun x y=>Iff.rfl,fun hh => ?_,fun y hh => ?_,by have:=d9.re;omega⟩⟩,?_⟩
  .show (dJ ((q:Int)+1),_)=_;rw [aH (by omega)];rfl
  .have:=u.2.1 _ hh;omega
  .have:=u.2.2 _ _ hh;omega
  .show ((ss.length:Int)-dJ ((q:Int)+1)).toNat<((ss.length:Int)-q).toNat;rw [aH (by omega)];omega
theorem Ud (n:Nat):(gG (n+1)).1=agJ (aaq n) (agL n) (Yn n) (Yo n):=rfl
theorem aeA (n:Nat):(gG (n+1)).2.1=agK (aaq n) (agL n) (Yn n) (Yo n):=rfl
theorem aeB (n:Nat):(gG (n+1)).2.2.1=Yl (aaq n) (agL n) (Yn n) (Yo n):=rfl
theorem aeC (n:Nat):(gG (n+1)).2.2.2=Ym (aaq n) (agL n) (Yn n) (Yo n):=rfl
theorem YR (hS:Lw g fs lo) :∀n k:Nat,3*n+1<=k->∀ss:List cO,ss.length<=10->∀l1 l2 c q,Ch (QS g (iY fs) lo n) l1 ss l2 c q->SS g fs lo nu (aaq k) ss c q
 |_,0,hk=>by omega
 |0,k+1,hk=>fun ss hs l1 l2 c q hc re a bl w m O P h hw=>by
  show Ok ((gG (k+1)).1 ss g fs lo nu re a bl) _;rw [Ud];exact Gs hs hc (fun x hx l3 l4 c1 k1 hq=>hq.elim) h hw
 |n+1,1,hk=>by omega
 |n+1,2,hk=>by omega
 |n+1,k+3,hk=>fun ss hs l1 l2 c q hc re a bl w m O P h hw=>by
  have ih:=YR hS n k (by omega);show Ok ((gG (k+3)).1 ss g fs lo nu re a bl) _;rw [Ud];refine Gs hs hc (fun x hx l3 l4 c1 k1 hq re a bl w m O P h hw => ?_) h hw;show Ok ((gG (k+2)).2.1 x.kind x.line x.name x.exprs x.then' x.else' g fs lo nu re a bl) _;rw [aeA];refine Wx hS hq h hw (fun z th c1 k1 l3 e1 e2 hz ht hch hw => ?_) fun c1 c2 k1 k2 l3 l4 ht he hc1 hc2 re' a' b w' m' hp hre hw => ?_
  .show Ok ((gG (k+1)).2.2.1 x.kind x.line x.name x.exprs x.then' x.else' (lo.length:Int) g fs lo nu re a bl) _;rw [aeB,e1,e2];exact Wv hS hz (ih th ht _ _ _ _ hch) h hw
  .show Ok ((gG (k+1)).2.2.2 x.kind x.line x.name x.exprs x.then' x.else' (lo.length:Int) g fs lo nu re' a' b) _;rw [aeC];exact Uc hS (ih _ ht _ _ _ _ hc1) (ih _ he _ _ _ _ hc2) hp hre hw
end
structure Rt (g:List aB) (sg:List (List UInt8×Nat)) (cl:Int) (f:aY):Prop where
 good:Good f
 len:f.blocks.length<=256
 wt:zu f.blocks<=2048
 reg:0<=f.regs/\f.regs<=250
 par:0<=f.params/\f.params<=f.regs
 ins :∀b∈f.blocks,∀i∈b.instrs,IV g sg cl f.regs i
 trm :∀b,b<f.blocks.length->tvB f.regs f.blocks.length (f.blocks.getD b ah)
structure RtP (g:List aB) (sg:List (List UInt8×Nat)) (cl:Int) (fs:List aY):Prop where
 gl:g.length<=32
 gs :∀x∈g,0<=x.size/\x.size<=1024
 f0:0<fs.length
 f1:fs.length<=64
 sgl:sg.length=fs.length
 cll:0<=cl/\cl<=fs.length
 par :∀i,i<fs.length->(fs.getD i aC).params=((sg.getD i ([],0)).2:Int)
 p0:(fs.getD 0 aC).params=0
 rt :∀f∈fs,Rt g sg cl f
section
variable {g:List aB} {fs:List aY} {sg:List (List UInt8×Nat)} {cl re:Int}
theorem r_ {l:List Int} {n:Int} {R:Type} {Q:R->Prop} {er:R} (hl:l.length<=1000) (h :∀x∈l,0<=x/\x<n) :
  Ok (bF (fun (s:Int)=>bif (decide (s<(l.length:Int))) then OB (ck (inB s l.length) <| bif (decide ((List.getD l s.toNat 0)<0)) then some true else ck (inB s l.length) <| some (decide (n<=(List.getD l s.toNat 0)))) fun s52=>bif s52 then some (.inr (.inr er)) else some (.inl (dJ (s+1))) else some (.inr (.inl ()))) (0:Int)) (J7 (fun _:Unit=>True) Q):=by
 refine iL l.length (fun _=>True) (by omega) (fun i hi _ => ?_) fun _=>b_ (decide_eq_false (by omega)) (aF trivial);have hx:=h _ (QR hi);refine goT (decide_eq_true (by omega)) (bC (fun y=>y=false) (bT (aG.2 (by omega)) ?_) fun y e=>by subst e;exact b_ rfl (aF ⟨rfl,trivial⟩));simp only [Q6,getD_at _ hi];exact b_ (decide_eq_false (by omega)) (bT (aG.2 (by omega)) (aF (decide_eq_false (by omega))))
theorem H_ {a:Bool} {v c1 c2:Int} (h:GI a g v):f123 g fs c1 c2 v a=some true:=by
 apply ok_eq;obtain ⟨⟨h1,h2⟩,h3⟩:=h;unfold f123;refine bC (fun y=>y=true) (goT (decide_eq_true h1) (goT (decide_eq_true h2) (bT (aG.2 ⟨h1,h2⟩) (aF ?_)))) fun y hy=>aF hy;rw [h3];simp
theorem rg2 {x y:Int} (h1:RG re x) (h2:RG re y) :∀z∈[x,y],0<=z/\z<re:=fun z hz=>by
 rcases QQ.1 hz with e | e
 .rw [e];exact h1
 .rw [QP] at e;rw [e];exact h2
theorem rg1 {x:Int} (h1:RG re x) :∀z∈[x],0<=z/\z<re:=o_ h1
theorem rg3 {x y w:Int} (h1:RG re x) (h2:RG re y) (h3:RG re w) :∀z∈[x,y,w],0<=z/\z<re:=fun z hz=>by
 rcases QQ.1 hz with e | e
 .rw [e];exact h1
 .exact rg2 h2 h3 z e
theorem instrC_ok {nm:List UInt8} {pa:Int} {bl:List aJ} {i:dA} (hf:sg.length=fs.length) (hp :∀i,i<fs.length->(fs.getD i aC).params=((sg.getD i ([],0)).2:Int)) (h:IV g sg cl re i):Ok (f112 g fs cl 0 nm pa re bl i.kind i.op i.dst i.a i.b i.value i.args) fun y=>y=0:=by
 unfold f112;cases h with
 |const hd ha=>exact fA rfl (b_ rfl (fA rfl (fA rfl (fA rfl (iF (fun _=>True) (r_ (by simp) (rg1 hd)) fun _ _=>⟨0,rfl,rfl⟩)))))
 |move hd h1 ha=>exact fA rfl (b_ rfl (fA rfl (fA rfl (fA rfl (iF (fun _=>True) (r_ (by simp) (rg2 h1 hd)) fun _ _=>⟨0,rfl,rfl⟩)))))
 |un hd h1 ho ha=>rcases ho with rfl | rfl<;>exact fA rfl (b_ rfl (fA rfl (fA rfl (fA rfl (iF (fun _=>True) (r_ (by simp) (rg2 h1 hd)) fun _ _=>⟨0,rfl,rfl⟩)))))
 |bin hd h1 h2 ho ha=>
  refine bC (fun y=>y=false) (b_ rfl (b_ rfl (b_ rfl (b_ rfl (goT rfl (b_ (decide_eq_false (by simp only;omega)) (aF (decide_eq_false (by simp only;omega))))))))) fun y e => ?_;subst e;exact b_ rfl (fA rfl (fA rfl (fA rfl (iF (fun _=>True) (r_ (by simp) (rg3 h1 h2 hd)) fun _ _=>⟨0,rfl,rfl⟩))))
 |load hd hv ha=>exact fA rfl (b_ rfl (fA rfl (fA rfl (fA rfl (iF (fun _=>True) (r_ (by simp) (rg1 hd)) fun _ _=>fA rfl (iF (fun _=>True) (goT rfl (fA (H_ hv) (b_ rfl (aF trivial)))) fun _ _=>aF rfl))))))
 |store h1 hv ha=>exact fA rfl (b_ rfl (fA rfl (fA rfl (fA rfl (iF (fun _=>True) (r_ (by simp) (rg1 h1)) fun _ _=>fA rfl (iF (fun _=>True) (goT rfl (fA (H_ hv) (b_ rfl (aF trivial)))) fun _ _=>aF rfl))))))
 |elem hd h1 hv ha=>exact fA rfl (b_ rfl (fA rfl (fA rfl (fA rfl (iF (fun _=>True) (r_ (by simp) (rg2 h1 hd)) fun _ _=>fA rfl (iF (fun _=>True) (b_ rfl (fA rfl (iF (fun _=>True) (goT rfl (fA (H_ hv) (b_ rfl (aF trivial)))) fun _ _=>aF trivial))) fun _ _=>aF rfl))))))
 |set h1 h2 hv ha=>exact fA rfl (b_ rfl (fA rfl (fA rfl (fA rfl (iF (fun _=>True) (r_ (by simp) (rg2 h1 h2)) fun _ _=>fA rfl (iF (fun _=>True) (b_ rfl (fA rfl (iF (fun _=>True) (goT rfl (fA (H_ hv) (b_ rfl (aF trivial)))) fun _ _=>aF trivial))) fun _ _=>aF rfl))))))
 |read hd ha=>exact fA rfl (b_ rfl (fA rfl (fA rfl (fA rfl (iF (fun _=>True) (r_ (by simp) (rg1 hd)) fun _ _=>⟨0,rfl,rfl⟩)))))
 |print h1 ha=>exact fA rfl (b_ rfl (fA rfl (fA rfl (fA rfl (iF (fun _=>True) (r_ (by simp) (rg1 h1)) fun _ _=>⟨0,rfl,rfl⟩)))))
 |@call o d a b v ar hd hv hpar hr ha=>
  have hpv:=hp v.toNat (by omega);rw [hpar] at hpv;refine fA rfl (b_ rfl (bC (fun y=>y=ar) (by unfold f121;exact fA rfl (b_ rfl (fA rfl (b_ rfl (goT rfl (bT (by unfold aX;simp;omega) (aF (by simp)))))))) fun ar e => ?_));subst e;refine fA rfl (bC (fun l=>l=ar++[d]) (goT rfl (bT (by unfold aX;simp;omega) (aF rfl))) fun l e => ?_);subst e;refine iF (fun _=>True) (r_ (by simp;omega) fun x hx => ?_) fun _ _=>fA rfl (iF (fun _=>True) (b_ rfl (fA rfl (iF (fun _=>True) (b_ rfl (iF (fun _=>True) (goT rfl (bC (fun y=>y=false) (b_ (decide_eq_false (by simp only;omega)) (aF (decide_eq_false (by simp only;omega)))) fun y e=>by subst e;exact b_ rfl (bT (aG.2 (by simp only;omega)) (b_ (by rw [qb];exact decide_eq_true hpv) (aF trivial))))) fun _ _=>aF trivial)) fun _ _=>aF trivial))) fun _ _=>aF rfl);rcases X2.1 hx with hx | hx
  .exact hr x hx
  .exact rg1 hd x hx
 |@Nv o d a b v ar hd h1 hr ha=>
  refine fA rfl (b_ rfl (bC (fun y=>y=a::ar) (by unfold f121;exact fA rfl (b_ rfl (fA rfl (b_ rfl (b_ rfl (goT rfl (bT (by unfold aX;simp;omega) (aF rfl)))))))) fun y e => ?_));subst e;refine fA rfl (bC (fun l=>l=(a::ar)++[d]) (goT rfl (bT (by unfold aX;simp;omega) (aF rfl))) fun l e => ?_);subst e;refine iF (fun _=>True) (r_ (by simp;omega) fun x hx => ?_) fun _ _=>fA rfl (iF (fun _=>True) (b_ rfl (fA rfl (iF (fun _=>True) (b_ rfl (iF (fun _=>True) (b_ rfl (iF (fun _=>True) (goT rfl (b_ (decide_eq_false (by simp only;omega)) (aF trivial))) fun _ _=>aF trivial)) fun _ _=>aF trivial)) fun _ _=>aF trivial))) fun _ _=>aF rfl);rcases X2.1 hx with hx | hx
  .rcases QQ.1 hx with hx | hx
   .rw [hx];exact h1
   .exact hr x hx
  .exact rg1 hd x hx
 |func hd hv ha=>
  exact fA rfl (b_ rfl (fA rfl (fA rfl (fA rfl (iF (fun _=>True) (r_ (by simp) (rg1 hd)) fun _ _=>fA rfl (iF (fun _=>True) (b_ rfl (fA rfl (iF (fun _=>True) (b_ rfl (iF (fun _=>True) (b_ rfl (iF (fun _=>True) (b_ rfl (iF (fun _=>True) (goT rfl (bC (fun y=>y=false) (b_ (decide_eq_false (by simp only;omega)) (aF (decide_eq_false (by simp only;omega)))) fun y e=>by subst e;exact b_ rfl (aF trivial))) fun _ _=>aF trivial)) fun _ _=>aF trivial)) fun _ _=>aF trivial)) fun _ _=>aF trivial))) fun _ _=>aF rfl))))))
theorem ahm {nm:List UInt8} {pa re:Int} {bl:List aJ} {k a t e:Int} (h:TV re bl.length k a t e):Ok (f113 nm pa re bl k a t e) fun y=>y=0:=by
 have hk:=h.kind;unfold f113;refine bC (fun y=>y=false) (b_ (decide_eq_false (by omega)) (aF (decide_eq_false (by omega)))) fun y e1 => ?_;subst e1;refine b_ rfl (bC (fun y=>y=false) ?_ fun y e1 => ?_)
 .refine dG (fun hn => ?_) fun _=>aF rfl;have hn:k≠1:=by simpa using hn
  obtain ⟨r1,r2⟩:=h.reg hn;exact b_ (decide_eq_false (by omega)) (aF (decide_eq_false (by omega)))
 subst e1;have hl:(succs k t e).length<=2:=by
  unfold succs;split
  .simp
  .split<;>simp
 exact b_ rfl (fA (TL k a t e) (iF (fun _=>True) (r_ (by omega) h.suc) fun _ _=>aF rfl))
theorem aaT {nm:List UInt8} {pa re:Int} {bl:List aJ} (h:zu bl<=1000000):f111 nm pa re bl=some (zu bl:Int):=by
 apply ok_eq;have hl:=aex bl;unfold f111;refine bC (fun y=>y=(zu bl:Int)) ?_ fun y hy=>aF hy;have key :∀i,i<=bl.length->zu (bl.take i)<=zu bl:=fun i _=>by
  have:zu (bl.take i)+zu (bl.drop i)=zu bl:=by unfold zu;rw [<-qu,<-Xs,J2]
  omega
 refine bJ (fun s:Int×Int =>∃i:Nat,s.2=i/\i<=bl.length/\s.1=(zu (bl.take i):Int)) (fun s=>(bl.length-s.2).toNat) ⟨0,rfl,by omega,rfl⟩ fun ⟨n,i'⟩ ⟨i,e1,e2,e3⟩ => ?_;simp only at e1 e3;subst e1;subst e3;refine dG (fun hi => ?_) (fun hi => ?_)
 .have hi:i<bl.length:=by simpa using hi
  have hs:zu (bl.take (i+1))=zu (bl.take i)+(bl[i].instrs.length+1):=by unfold zu;rw [take_snoc hi];simp only [Xs,qu,Qf,Vn,K9,List.sum_nil];omega
  have:=key (i+1) (by omega);refine bT (aG.2 (by simp only;omega)) (aF ⟨⟨i+1,?_,by omega,?_⟩,?_⟩)
  .simp only;rw [aH (by omega)];rfl
  .simp only [Q6,getD_at _ hi];rw [aH (x:=(bl[i].instrs.length:Int)+1) (by omega),aH (by omega),hs];simp
  .simp only;rw [aH (by omega)];omega
 .have:i=bl.length:=by simp at hi;omega
  subst this;rw [JN];exact aF rfl
theorem Ue {f:aY} (hf:sg.length=fs.length) (hp :∀i,i<fs.length->(fs.getD i aC).params=((sg.getD i ([],0)).2:Int)) (h:Rt g sg cl f):Ok (f96 g fs cl 0 f.name f.params f.regs f.blocks) fun y=>y=0:=by
 obtain ⟨⟨_,g1,g2,g3⟩,hl,hw,hr,hpa,hi,ht⟩:=h;unfold f96;refine bC (fun y=>y=false) (b_ (decide_eq_false (by omega)) (b_ (decide_eq_false (by omega)) (fA (aaT (by omega)) (aF (decide_eq_false (by omega)))))) fun y e => ?_;subst e;refine b_ rfl (bC (fun y=>y=false) (b_ (decide_eq_false (by omega)) (b_ (decide_eq_false (by omega)) (b_ (decide_eq_false (by omega)) (aF (decide_eq_false (by omega)))))) fun y e => ?_);subst e;refine b_ rfl (iF (fun _=>True) (iL f.blocks.length (fun _=>True) (by omega) (fun b hb _ => ?_) fun _=>b_ (decide_eq_false (by omega)) (aF trivial)) fun _ _ => ?_)
 .have hin:=aG.2 (show 0<=(b:Int)/\(b:Int)<f.blocks.length by omega);have hbm:f.blocks.getD b ah∈f.blocks:=by rw [getD_at _ hb];exact QR _
  have hbl:=Wq _ hbm;refine goT (decide_eq_true (by omega)) (iF (fun _=>True) (iL (f.blocks.getD b ah).instrs.length (fun _=>True) (by omega) (fun j hj _ => ?_) fun _=>bT hin (b_ (decide_eq_false (by simp only [Q6];omega)) (aF trivial))) fun _ _ => ?_)
  .refine bT hin ?_;simp only [Q6];refine goT (decide_eq_true (by omega)) (bT hin (bT (aG.2 (by omega)) (bC _ (instrC_ok hf hp (hi _ hbm _ (by rw [getD_at _ hj];exact QR _))) fun y e=>by subst e;exact b_ rfl (aF ⟨rfl,trivial⟩))))
  .refine bT hin ?_;simp only [Q6];exact bC _ (ahm (ht b hb)) fun y e=>by subst e;exact b_ rfl (aF ⟨rfl,trivial⟩)
 refine bC _ (TN g2 g1 (by omega)) fun m ⟨hM,hc⟩ => ?_;have hml:=hM.len;have hall :∀b,b<f.blocks.length->m.getD b false=true:=by
  refine fun b hb=>(g3 (fun b=>b<f.blocks.length/\m.getD b false=true) ⟨g1,hM.zero⟩ (fun b hb hs => ?_) b hb).2;obtain ⟨e1,e2⟩:=g2.1 b hb;have hk:=g2.2 b hb;refine ⟨fun hn => ?_,fun hn => ?_⟩
  .have h1:=e1 hn;exact ⟨by omega,hc b hb hs.2 _ (Dw.1 (by omega))⟩
  .have h1:=e2 hn;exact ⟨by omega,hc b hb hs.2 _ (Dw.2 hn)⟩
 refine iF (fun _=>True) (iL m.length (fun _=>True) (by omega) (fun b hb _ => ?_) fun _=>b_ (decide_eq_false (by omega)) (aF trivial)) fun _ _=>aF rfl;refine goT (decide_eq_true (by omega)) (bT (aG.2 (by omega)) (b_ ?_ (aF ⟨rfl,trivial⟩)));rw [Q6,hall b (by omega)];rfl
theorem aeD (h:RtP g sg cl fs):Ok (f78 g fs cl 0) fun y=>y=0:=by
 have h1:=h.gl;have h2:=h.f0;have h3:=h.f1;have h4:=h.cll;unfold f78;refine bC (fun y=>y=false) (b_ (decide_eq_false (by omega)) (b_ (decide_eq_false (by omega)) (b_ (decide_eq_false (by omega)) (b_ rfl (aF rfl))))) fun y e => ?_;subst e;refine b_ rfl (iF (fun _=>True) (iL g.length (fun _=>True) (by omega) (fun i hi _ => ?_) fun _=>b_ (decide_eq_false (by omega)) (aF trivial)) fun _ _ => ?_)
 .have hx:=h.gs _ (by rw [getD_at _ hi];exact QR _:g.getD i (aB.mk bH 0)∈g);have hin:=aG.2 (show 0<=(i:Int)/\(i:Int)<g.length by omega);refine goT (decide_eq_true (by omega)) (bC (fun y=>y=false) (bT hin ?_) fun y e=>by subst e;exact b_ rfl (aF ⟨rfl,trivial⟩));simp only [Q6];exact b_ (decide_eq_false (by omega)) (bT hin (aF (decide_eq_false (by omega))))
 refine bC (fun y=>y=false) (b_ (decide_eq_false (by omega)) (aF (decide_eq_false (by omega)))) fun y e => ?_;subst e;refine b_ rfl (bT (aG.2 (by omega)) (b_ ?_ (iF (fun _=>True) (iL fs.length (fun _=>True) (by omega) (fun i hi _ => ?_) fun _=>b_ (decide_eq_false (by omega)) (aF trivial)) fun _ _=>aF rfl)))
 .rw [qb];exact decide_eq_true h.p0
 .refine goT (decide_eq_true (by omega)) (bT (aG.2 (by omega)) ?_);simp only [Q6];exact bC _ (Ue h.sgl h.par (h.rt _ (by rw [getD_at _ hi];exact QR _))) fun y e=>by subst e;exact b_ rfl (aF ⟨rfl,trivial⟩)
end
variable {g:List aB} {fs:List aY} {sg:List (List UInt8×Nat)} {ca re:Int}
def DI (g:List aB) (sg:List (List UInt8×Nat)) (ca re:Int) (l:List Int) (s:List Int×Int×Int×Int×Int×Int×Int×Int×List Int):Prop:=
 s.1=l/\0<=s.2.1/\RG re s.2.2.2.2.1/\IV g sg ca re (dA.mk s.2.2.1 s.2.2.2.1 s.2.2.2.2.1 s.2.2.2.2.2.1 s.2.2.2.2.2.2.1 s.2.2.2.2.2.2.2.1 s.2.2.2.2.2.2.2.2)
theorem instr_ok {ct:Int} {nm:List UInt8} {pa:Int} {bl:List aJ} {l:List Int} {i:Int} (hb:Bytes l) (hi:0<=i) (hre:1<=re/\re<=65536) (hca:0<=ca/\ca<=65536)
  (hg0:GI false g 0) (hg1:GI true g 1) (hfs:0<fs.length/\fs.length<=65536) (hsg:sg.length=fs.length) (hpa :∀i,i<fs.length->(fs.getD i aC).params=((sg.getD i ([],0)).2:Int)/\(sg.getD i ([],0)).2<=10) :
  Ok (f53 g fs ca ct nm pa re bl l i) fun y=>y.2.2.2.2.2.2.1=l/\0<=y.2.2.2.2.2.2.2.1/\IV g sg ca re (dA.mk y.1 y.2.1 y.2.2.1 y.2.2.2.1 y.2.2.2.2.1 y.2.2.2.2.2.1 y.2.2.2.2.2.2.2.2):=by
 unfold f53;refine goN hb hi (by omega) fun x0 j0 h0 a0 b0=>goN hb h0 (by omega) fun x1 j1 h1 a1 b1=>goN hb h1 (by omega) fun x2 j2 h2 a2 b2=>goN hb h2 (by omega) fun x3 j3 h3 a3 b3 => ?_;have b0:=b0 (by omega);have r1:RG re x1:=⟨a1,b1 (by omega)⟩;have r2:RG re x2:=⟨a2,b2 (by omega)⟩;have r3:RG re x3:=⟨a3,b3 (by omega)⟩;obtain ⟨n,hn,n1,n2⟩ :∃n:Int,dJ (1+x0)=n/\1<=n/\n<=12:=⟨_,rfl,by rw [aH (by omega)];omega,by rw [aH (by omega)];omega⟩;simp only [hn];clear hn;have hnil:(eInt:List Int).length<=10:=by simp
 refine bC (DI g sg ca re l) ?_ fun s ⟨e1,e2,e3,e4⟩ => ?_
 .refine dG (fun e=>goN hb h3 (by omega) fun x j hj _ _ => ?_) (fun m1=>bC (DI g sg ca re l) ?_ fun s hs=>aF hs)
  .have e:n=1:=by simpa using e
   subst e;exact aF ⟨rfl,hj,r1,.const r1 hnil⟩
  refine dG (fun e=>goN hb h3 (by omega) fun x j hj ax bx => ?_) (fun m3=>bC (DI g sg ca re l) ?_ fun s hs=>aF hs)
  .have e:n=3:=by simpa using e
   have bx:=bx (by omega);subst e;exact aF ⟨rfl,hj,r1,.un r1 r2 (by simp only;rw [aH (by omega)];omega) hnil⟩
  refine dG (fun e=>goN hb h3 (by omega) fun x j hj ax bx => ?_) (fun m4=>bC (fun y=>y=decide (n=7\/n=8)) ?_ fun y hy=>bC (DI g sg ca re l) ?_ fun s hs=>aF hs)
  .have e:n=4:=by simpa using e
   have bx:=bx (by omega);subst e;exact aF ⟨rfl,hj,r1,.bin r1 r2 r3 (by simp only;rw [aH (by omega)];omega) hnil⟩
  .refine dG (fun e=>aF ?_) fun e=>aF ?_
   .have e:n=7:=by simpa using e
    exact (decide_eq_true (Or.inl e)).symm
   .have e:¬ n=7:=by simpa using e
    exact decide_eq_decide.2 (by omega)
  refine dG (fun e => ?_) (fun e=>bC (DI g sg ca re l) ?_ fun s hs=>aF hs)
  .rw [hy] at e;have e:n=7\/n=8:=of_decide_eq_true e;rcases e with e | e
   .subst e;exact aF ⟨rfl,h3,r1,.elem r1 r2 hg1 hnil⟩
   .subst e;exact aF ⟨rfl,h3,r1,.set r2 r3 hg1 hnil⟩
  rw [hy] at e;have m78:¬ (n=7\/n=8):=of_decide_eq_false e;have m1:¬ n=1:=by simpa using m1
  have m3:¬ n=3:=by simpa using m3
  have m4:¬ n=4:=by simpa using m4
  refine dG (fun e=>goN hb h3 (by omega) fun x j hj ax bx=>bC (DI g sg ca re l) ?_ fun s hs=>aF hs) (fun m11=>bC (DI g sg ca re l) ?_ fun s hs=>aF hs)
  .have e:n=11:=by simpa using e
   have bx:=bx (by omega);subst e;obtain ⟨p1,p2⟩:=hpa x.toNat (by omega);refine bJ (fun s:Int×List Int×Int×Int×Int×Int×Int×Int×Int×List Int =>∃(j:Int) (ar:List Int),s=((ar.length:Int),l,j,11,0,x1,x2,x3,x,ar)/\0<=j/\ar.length<=(sg.getD x.toNat ([],0)).2/\∀y∈ar,RG re y) (fun s=>(10-s.1).toNat)
    ⟨j,[],rfl,hj,by simp,fun y hy=>by cases hy⟩ fun s ⟨j,ar,e,q1,q2,q3⟩ => ?_
   subst e;refine bT (aG.2 ⟨ax,bx⟩) ?_;simp only;refine dG (fun hc => ?_) (fun hc=>aF ⟨rfl,q1,r1,.call r1 ⟨ax,by simp only;omega⟩ ?_ q3 (by simp only;omega)⟩)
   .have hc:(ar.length:Int)<(fs.getD x.toNat aC).params:=of_decide_eq_true hc;rw [p1] at hc;refine goN hb q1 hre.2 fun y k hk ay bY=>bT (by unfold aX;simp;omega) (aF ⟨⟨k,ar++[y],?_,hk,by rw [Ys,Zs];omega,fun z hz => ?_⟩,?_⟩)
    .simp only [Ys,Wg,Jn];rw [aH (by omega)];rfl
    .rcases X2.1 hz with hz | hz
     .exact q3 z hz
     .rw [QP] at hz;rw [hz];exact ⟨ay,bY (by omega)⟩
    .simp only [aH (x:=(ar.length:Int)+1) (by omega)];omega
   .have hc:¬ (ar.length:Int)<(fs.getD x.toNat aC).params:=of_decide_eq_false hc;rw [p1] at hc;simp only;omega
  have m11:¬ n=11:=by simpa using m11
  refine dG (fun e=>goN hb h3 (by omega) fun x j hj ax bx=>bC (DI g sg ca re l) ?_ fun s hs=>aF hs) (fun m12=>aF ?_)
  .have e:n=12:=by simpa using e
   have bx:=bx (by omega);subst e;refine bJ (fun s:Int×List Int×Int×Int×Int×Int×Int×Int×Int×List Int =>∃(q j:Int) (ar:List Int),s=(q,l,j,12,0,x1,x2,x3,0,ar)/\0<=j/\0<=q/\(ar.length:Int)+q<=3/\∀y∈ar,RG re y) (fun s=>s.1.toNat)
    ⟨x,j,[],rfl,hj,ax,by simp only [Jn];omega,fun y hy=>by cases hy⟩ fun s ⟨q,j,ar,e,q1,q0,q2,q3⟩ => ?_
   subst e;simp only;refine dG (fun hc => ?_) (fun hc=>aF ⟨rfl,q1,r1,.Nv r1 r2 q3 (by simp only;omega)⟩);have hc:0<q:=by simpa using hc
   refine goN hb q1 hre.2 fun y k hk ay bY=>bT (by unfold aX;simp;omega) (aF ⟨⟨q-1,k,ar++[y],?_,hk,by omega,by simp;omega,fun z hz => ?_⟩,?_⟩)
   .rw [aH (by omega)]
   .rcases X2.1 hz with hz | hz
    .exact q3 z hz
    .rw [QP] at hz;rw [hz];exact ⟨ay,bY (by omega)⟩
   .simp only [aH (x:=q-1) (by omega)];omega
  have m12:¬ n=12:=by simpa using m12
  have:n=2\/n=5\/n=6\/n=9\/n=10:=by omega
  rcases this with e | e | e | e | e<;>subst e
  .exact ⟨rfl,h3,r1,.move r1 r2 hnil⟩
  .exact ⟨rfl,h3,r1,.load r1 hg0 hnil⟩
  .exact ⟨rfl,h3,r1,.store r2 hg0 hnil⟩
  .exact ⟨rfl,h3,r1,.read r1 hnil⟩
  .exact ⟨rfl,h3,r1,.print r2 hnil⟩
 obtain ⟨t1,t2,s⟩:=s;simp only at e1 e2 e3 e4;subst e1;refine bC (fun s=>s.2.1=t1/\0<=s.2.2/\(s.1=true->0<ca)) ?_ fun ⟨s1,s2,s3⟩ ⟨e5,e6,e7⟩ => ?_
 .refine dG (fun _=>dG (fun hc=>goN hb e2 (by omega) fun x j hj _ _=>aF ⟨rfl,hj,fun _=>by simpa using hc⟩) fun _=>aF ⟨rfl,e2,fun h=>by cases h⟩) fun _=>aF ⟨rfl,e2,fun h=>by cases h⟩
 simp only at e5 e6 e7;subst e5;refine dG (fun hs=>goN hb e6 hca.2 fun x j hj ax bx=>aF ⟨rfl,hj,.func e3 ⟨ax,bx (by have:=e7 hs;omega)⟩ hnil⟩) fun _=>aF ⟨rfl,e6,e4⟩
theorem aaA.of {bl:List aJ} (h :∀S:Nat->Prop,S 0->(∀b,b<bl.length->S b->∀x∈oq bl b,S x.toNat)->∀b,b<bl.length->S b):aaA bl:=fun S h0 hs b hb=>h S h0 (fun b hb hS x hx=>by
 obtain ⟨e1,e2⟩:=hs b hb hS;unfold oq succs at hx;split at hx
 .rename_i hc;rcases QQ.1 hx with e | e
  .rw [e];exact e1 (by omega)
  .rw [QP] at e;rw [e];exact e2 hc.1
 .split at hx
  .rw [QP] at hx;rw [hx];exact e1 (by omega)
  .cases hx) b hb
theorem Uf :∀{bl:List aJ},(∀b∈bl,b.instrs.length<=3)->zu bl<=4*bl.length
 | [],_=>by simp [zu]
 |b::bl,h=>by
  have:=Uf (bl:=bl) fun x hx=>h x (VM _ hx);have:=h b Kg;unfold zu at *;simp only [Qf,K9,Wg];omega
theorem akG {re:Int} {bl:List aJ} {b:Nat} (hE:wU bl) (hb:b<bl.length) (h:RG re (bl.getD b ah).j_):tvB re bl.length (bl.getD b ah):=
 ⟨hE.2 b hb,fun _=>h,V7 hE hb⟩
def HG (g:List aB) (sg:List (List UInt8×Nat)) (ca:Int) (N i:Nat) (P:aY->Prop) (fs:List aY):Prop:=
 fs.length=N/\∀k,k<N->((fs.getD k aC).params=((sg.getD k ([],0)).2:Int)/\(sg.getD k ([],0)).2<=10)/\(0<=(fs.getD k aC).params/\(fs.getD k aC).params<=(fs.getD k aC).regs)/\(1<=(fs.getD k aC).regs/\(fs.getD k aC).regs<=4)/\(k<i->Rt g sg ca (fs.getD k aC))/\(k=i->P (fs.getD k aC))/\(i<k->(fs.getD k aC).blocks=[])
theorem HG.put {N i:Nat} {P Q:aY->Prop} {fs:List aY} {nm:List UInt8} {pa re:Int} {bl:List aJ} (h:HG g sg ca N i P fs) (hi:i<N) (hp:pa=(fs.getD i aC).params) (hr:re=(fs.getD i aC).regs) (hq:Q (aY.mk nm pa re bl)):HG g sg ca N i Q (fs.set i (aY.mk nm pa re bl)):=by
 refine ⟨by simp [h.1],fun k hk => ?_⟩;rw [jg (by rw [h.1];exact hi)];obtain ⟨a1,a2,a3,a4,a5,a6⟩:=h.2 k hk;split
 .rename_i e;subst e;exact ⟨by simp only [hp];exact a1,by simp only [hp,hr];exact a2,by simp only [hr];exact a3,fun e=>absurd e (Kj _),fun _=>hq,fun e=>absurd e (Kj _)⟩
 .rename_i e;exact ⟨a1,a2,a3,a4,fun e'=>absurd e' e,a6⟩
theorem HG.mono {N i:Nat} {P Q:aY->Prop} (h:HG g sg ca N i P fs) (hq :∀f,P f->Q f):HG g sg ca N i Q fs:=
 ⟨h.1,fun k hk=>have ⟨a1,a2,a3,a4,a5,a6⟩:=h.2 k hk;⟨a1,a2,a3,a4,fun e=>hq _ (a5 e),a6⟩⟩
theorem HG.next {N i:Nat} (h:HG g sg ca N i (Rt g sg ca) fs):HG g sg ca N (i+1) (fun f=>f.blocks=[]) fs:=
 ⟨h.1,fun k hk=>have ⟨a1,a2,a3,a4,a5,a6⟩:=h.2 k hk;⟨a1,a2,a3,fun e=>(by rcases qD k i with e' | e';exact a4 e';exact a5 (by omega)),fun e=>a6 (by omega),fun e=>a6 (by omega)⟩⟩
theorem set_self {fs:List aY} {i:Nat} (hi:i<fs.length):fs.set i (aY.mk (fs.getD i aC).name (fs.getD i aC).params (fs.getD i aC).regs (fs.getD i aC).blocks)=fs:=by
 have:aY.mk (fs.getD i aC).name (fs.getD i aC).params (fs.getD i aC).regs (fs.getD i aC).blocks=fs[i]:=by rw [getD_at _ hi]
 rw [this,List.set_getElem_self]
def BI (g:List aB) (sg:List (List UInt8×Nat)) (ca:Int) (f:aY):Prop :=∀b∈f.blocks,b.instrs.length<=3/\∀i∈b.instrs,IV g sg ca f.regs i
def P6 (g:List aB) (sg:List (List UInt8×Nat)) (ca:Int) (m b:Nat) (f:aY):Prop:=f.blocks.length=m/\BI g sg ca f/\∀k,k<b->((f.blocks.getD k ah).bG=1\/(f.blocks.getD k ah).bG=2\/(f.blocks.getD k ah).bG=3)/\RG f.regs (f.blocks.getD k ah).j_/\(0<=(f.blocks.getD k ah).fB/\(f.blocks.getD k ah).fB<m)/\0<=(f.blocks.getD k ah).bV/\(f.blocks.getD k ah).bV<m
theorem P6.ends {m:Nat} {f:aY} (h:P6 g sg ca m m f):wU f.blocks:=
 ⟨fun b hb=>have:=(h.2.2 b (h.1▸hb)).2.2;h.1▸⟨fun _=>this.1,fun _=>this.2⟩,fun b hb=>(h.2.2 b (h.1▸hb)).1⟩
theorem aeE {l:List Int} {i:Int} (hb:Bytes l) (hi:0<=i):Ok (f39 l i) fun y=>(∃sg,RtP y.2.2.2.2.1 sg y.1 y.2.2.2.2.2)/\y.2.1=0/\y.2.2.1=l/\0<=y.2.2.2.1:=by
 unfold f39;refine goN hb hi (by omega) fun x0 j0 h0 a0 b0=>goN hb h0 (by omega) fun x1 j1 h1 a1 b1 => ?_;have b0:=b0 (by omega);have b1:=b1 (by omega);obtain ⟨N,hN'⟩ :∃N:Nat,1+x1=N:=⟨(1+x1).toNat,by omega⟩;obtain ⟨g,hg⟩ :∃g,[(aB.mk [(103:UInt8),(48:UInt8)] 0),(aB.mk [(103:UInt8),(49:UInt8)] (dJ (1+x0)))]=g:=⟨_,rfl⟩;simp only [show dJ (1+x1)=N from (aH (by omega)).trans hN',hg];have hg0:GI false g 0:=by subst hg;exact ⟨⟨by simp,by simp⟩,rfl⟩
 have hg1:GI true g 1:=by
  subst hg;refine ⟨⟨by simp,by simp⟩,decide_eq_true ?_⟩;show 0<dJ (1+x0);rw [aH (by omega)];omega
 have hgl:g.length=2:=by subst hg;rfl
 have hgs :∀x∈g,0<=x.size/\x.size<=1024:=by
  subst hg;intro x hx;rcases QQ.1 hx with e | e
  .subst e;simp
  .rw [QP] at e;subst e;simp only;rw [aH (by omega)];omega
 clear hg;refine bC (fun s=>s.1=l/\0<=s.2.1/\s.2.2.2.1=0/\s.2.2.2.2.length=N/\(∀f∈s.2.2.2.2,(0<=f.params/\f.params<=f.regs)/\f.params<=10/\(1<=f.regs/\f.regs<=4)/\f.blocks=[])/\(s.2.2.2.2.getD 0 aC).params=0) ?_ fun s ⟨e1,e2,e0,e3,e4,e5⟩ => ?_
 .refine bJ (fun s:Int×List Int×Int×Int×Int×List aY=>s.2.1=l/\0<=s.2.2.1/\s.2.2.2.2.1=0/\(s.2.2.2.2.2.length:Int)=s.1/\s.1<=N/\(∀f∈s.2.2.2.2.2,(0<=f.params/\f.params<=f.regs)/\f.params<=10/\(1<=f.regs/\f.regs<=4)/\f.blocks=[])/\(s.2.2.2.2.2.getD 0 aC).params=0) (fun s=>(N-s.1).toNat)
   ⟨rfl,h1,rfl,rfl,by simp,(fun f hf=>by cases hf),rfl⟩ fun ⟨q,l',j,z1,z2,fs⟩ ⟨e1,e2,e0,e3,e4,e5,e6⟩ => ?_
  simp only at e1 e2 e0 e3 e4 e5 e6;subst e1;subst e3;subst e0;refine dG (fun hc => ?_) (fun hc=>aF ⟨rfl,e2,rfl,?_,e5,e6⟩)
  .have hc:(fs.length:Int)<N:=by simpa using hc
   refine bC _ (aaD (by omega) (by omega)) fun nm hnm=>bT (oL.2 (by simp;omega)) (goN hb e2 (by omega) fun x2 j2 h2 a2 b2 => ?_);have b2:=b2 (by omega);have hw:dJ (1+x2)=1+x2:=aH (by omega);refine bC (fun s=>s.1=l'/\0<=s.2.1/\((0<=s.2.2.2.1/\s.2.2.2.1<=s.2.2.2.2)/\s.2.2.2.1<=10/\(1<=s.2.2.2.2/\s.2.2.2.2<=4))/\(fs.length=0->s.2.2.2.1=0)) ?_ fun ⟨s1,s2,s3,s4,s5⟩ ⟨g1,g2,⟨g3,g4,g5⟩,g6⟩=>bT (by unfold aX;simp;omega) (aF ⟨⟨g1,g2,rfl,?_,?_,fun f hf => ?_,?_⟩,?_⟩)
   .refine dG (fun hl => ?_) (fun _=>aF ⟨rfl,h2,⟨by simp only [hw];omega,by simp,by simp only [hw];omega⟩,fun _=>rfl⟩);have hl:(0:Int)<fs.length:=by simpa using hl
    have hm:dJ (min (1+x2) 2+1)=min (1+x2) 2+1:=aH (by omega);rw [afW,hw,hm];exact goN hb h2 (by omega) fun x3 j3 h3 a3 b3=>aF ⟨rfl,h3,⟨by have:=b3 (by omega);simp only;omega,by have:=b3 (by omega);simp only;omega,by simp only;omega⟩,fun h=>by omega⟩
   all_goals try simp only [aH (x:=(fs.length:Int)+1) (by omega)]
   .simp
   .omega
   .rcases X2.1 hf with hf | hf
    .exact e5 f hf
    .rw [QP] at hf;subst hf;exact ⟨g3,g4,g5,rfl⟩
   .rcases KV fs.length with h | h
    .rw [Wb] at h;subst h;exact g6 rfl
    .rw [getD_at _ h] at e6;rw [getD_at _ (by simp),List.getElem_append_left h];exact e6
   .omega
  .have hc:¬ (fs.length:Int)<N:=by simpa using hc
   simp only at e4 ⊢;omega
 obtain ⟨s1,s2,s3,s4,fs0⟩:=s;simp only at e1 e2 e0 e3 e4 e5;subst e1;subst e0;obtain ⟨sg,hsg⟩ :∃sg:List (List UInt8×Nat),fs0.map (fun f=>(f.name,f.params.toNat))=sg:=⟨_,rfl⟩;have hsl:sg.length=N:=by subst hsg;simpa using e3
 have hsp :∀k,k<N->(fs0.getD k aC).params=((sg.getD k ([],0)).2:Int)/\(sg.getD k ([],0)).2<=10:=by
  intro k hk;have h:=e4 (fs0.getD k aC) (by rw [getD_at _ (by omega)];exact QR _);have:(sg.getD k ([],0)).2=(fs0.getD k aC).params.toNat:=by
   subst hsg;rw [getD_at _ (by simpa using e3▸hk),Ke,getD_at _ (by omega)]
  omega
 clear hsg;rw [show dJ ((N:Int)+1)=N+1 from aH (by omega)];refine goN hb e2 (by omega) fun ca jc hjc ac bc => ?_;have bc:=bc (by omega);have p00:((sg.getD 0 ([],0)).2:Int)=0:=by rw [<-(hsp 0 (by omega)).1];exact e5
 have e6:HG g sg ca N 0 (fun f=>f.blocks=[]) fs0:=⟨e3,fun k hk=>by
  obtain ⟨z1,z2,z3,z4⟩:=e4 (fs0.getD k aC) (by rw [getD_at _ (by omega)];exact QR _);exact ⟨hsp k hk,z1,z3,fun h=>absurd h (qv _),fun _=>z4,fun _=>z4⟩⟩
 refine bC (fun s=>s.1=s1/\0<=s.2.1/\RtP g sg ca s.2.2) ?_ fun s ⟨k1,k2,k3⟩=>aF ⟨⟨sg,k3⟩,rfl,k1,k2⟩;clear e4 e5 hsp;refine bJ (fun s:Int×List Int×Int×List aY =>∃i:Nat,s.1=i/\i<=N/\s.2.1=s1/\0<=s.2.2.1/\HG g sg ca N i (fun f=>f.blocks=[]) s.2.2.2) (fun s=>(N-s.1).toNat)
  ⟨0,rfl,by omega,rfl,hjc,e6⟩ fun ⟨q,l',j,fs⟩ ⟨i,g1,g2,g3,g4,g5⟩ => ?_
 simp only at g1 g3 g4 g5;subst g1;subst g3;refine dG (fun hc => ?_) (fun hc=>aF ⟨rfl,g4,?_⟩)
 rotate_left
 .have hc:¬ (i:Int)<N:=by simpa using hc
  have hl:=g5.1;refine ⟨by omega,hgs,by simp only;omega,by simp only;omega,by simp only;omega,⟨ac,by simp only;omega⟩,fun k hk=>(g5.2 k (by simp only at hk;omega)).1.1,?_,fun f hf => ?_⟩
  .rw [(g5.2 0 (by omega)).1.1];exact p00
  .obtain ⟨k,hk,e⟩:=Wt hf;have hk2:k<N:=by simp only at hk;omega
   have:=(g5.2 k hk2).2.2.2.1 (by omega);rw [getD_at _ hk,e] at this;exact this
 have hi:i<N:=by simp at hc;omega
 refine bT (aG.2 ⟨by simp only;omega,by have:=g5.1;simp only;omega⟩) (goN hb g4 (by omega) fun x2 j2 h2 a2 b2 => ?_);have b2:=b2 (by omega);obtain ⟨M,hM⟩ :∃M:Nat,1+x2=M:=⟨(1+x2).toNat,by omega⟩;simp only [Q6,show dJ (1+x2)=M from (aH (by omega)).trans hM];refine bC (fun s=>s.1=l'/\0<=s.2.1/\HG g sg ca N i (fun f=>f.blocks.length=M/\BI g sg ca f) s.2.2) ?_ fun ⟨s1,s2,s3⟩ ⟨k1,k2,k3⟩ => ?_
 .refine bJ (fun s:Int×List Int×Int×List aY=>s.2.1=l'/\0<=s.2.2.1/\(0<=s.1/\s.1<=M)/\HG g sg ca N i (fun f=>(f.blocks.length:Int)=M-s.1/\BI g sg ca f) s.2.2.2) (fun s=>s.1.toNat)
   ⟨rfl,h2,⟨by simp,by simp⟩,g5.mono fun f hf=>⟨by rw [hf];simp,fun b hb=>by rw [hf] at hb;cases hb⟩⟩ fun ⟨c,l2,j,fs⟩ ⟨r1,r2,r3,r4⟩ => ?_
  simp only at r1 r2 r3 r4;subst r1;have hfl:i<fs.length:=by rw [r4.1];exact hi
  obtain ⟨y1,y2,y3,y4,y5,y6⟩:=r4.2 i hi;have y5:=y5 rfl;refine dG (fun hp => ?_) (fun hp=>aF ⟨rfl,r2,?_⟩)
  rotate_left
  .have hp:¬ 0<c:=by simpa using hp
   exact r4.mono fun f hf=>⟨by have:=hf.1;omega,hf.2⟩
  have hp:0<c:=by simpa using hp
  refine goN hb r2 (by omega) fun x3 j3 h3 a3 b3=>goN hb h3 (by omega) fun x4 j4 h4 a4 b4 => ?_;have b4:=b4 (by omega);refine bC (fun s=>s.1=l2/\0<=s.2.1/\s.2.2.1=fs/\s.2.2.2.2.2.2.2.2.2.2.length<=3/\∀i'∈s.2.2.2.2.2.2.2.2.2.2,IV g sg ca (fs.getD i aC).regs i') ?_ fun s ⟨k1,k2,k3,k4,k5⟩ => ?_
  .refine bJ (fun s:Int×List Int×Int×List aY×Int×Int×Int×Int×Int×Int×Int×List dA=>s.2.1=l2/\0<=s.2.2.1/\s.2.2.2.1=fs/\(0<=s.1/\s.1<=3)/\(s.2.2.2.2.2.2.2.2.2.2.2.length:Int)<=3-s.1/\∀i'∈s.2.2.2.2.2.2.2.2.2.2.2,IV g sg ca (fs.getD i aC).regs i') (fun s=>s.1.toNat)
    ⟨rfl,h4,rfl,⟨a4,by simp only;omega⟩,by simp only [Jn];omega,fun i' h=>by cases h⟩ fun ⟨c',l3,j3,fs',v1,v2,v3,v4,v5,v6,v7,is⟩ ⟨u1,u2,u3,u4,u5,u6⟩ => ?_
   simp only at u1 u2 u3 u4 u5 u6;subst u1;subst u3;refine dG (fun hp' => ?_) (fun _=>aF ⟨rfl,u2,rfl,by simp only;omega,u6⟩);have hp':0<c':=by simpa using hp'
   simp only [set_self hfl];refine bC _ (instr_ok hb u2 ⟨y3.1,by omega⟩ ⟨ac,by omega⟩ hg0 hg1 ⟨by omega,by have:=r4.1;omega⟩ (by rw [hsl,r4.1]) fun k hk=>(r4.2 k (by rw [<-r4.1];exact hk)).1) fun y ⟨y1,y2,y3⟩=>bT (by unfold aX;simp;omega) (aF ⟨⟨y1,y2,rfl,?_,?_,fun i' hi' => ?_⟩,?_⟩)
   all_goals try simp only [aH (x:=c'-1) (by omega)]
   .omega
   .simp;omega
   .rcases X2.1 hi' with h | h
    .exact u6 i' h
    .rw [QP] at h;rw [h];exact y3
   .omega
  obtain ⟨s1,s2,s3,s4,s5,s6,s7,s8,s9,s10,s11⟩:=s;simp only at k1 k2 k3 k4 k5;subst k1;subst k3;refine bT (by simp [-List.getD_eq_getElem?_getD];omega) (bT (by simp) (aF ⟨⟨rfl,k2,?_,r4.put hi rfl rfl ⟨?_,fun b hb => ?_⟩⟩,?_⟩))
  all_goals try simp only [aH (x:=c-1) (by omega)]
  .omega
  .simp [-List.getD_eq_getElem?_getD];omega
  .rcases X2.1 hb with h | h
   .exact y5.2 b h
   .rw [QP] at h;rw [h];exact ⟨k4,k5⟩
  .omega
 simp only at k1 k2 k3;subst k1;refine bC (fun s=>s.1=s1/\0<=s.2.1/\HG g sg ca N i (P6 g sg ca M M) s.2.2) ?_ fun ⟨t1,t2,t3⟩ ⟨k4,k5,k6⟩ => ?_
 .refine bJ (fun s:Int×List Int×Int×List aY =>∃b:Nat,s.1=b/\b<=M/\s.2.1=s1/\0<=s.2.2.1/\HG g sg ca N i (P6 g sg ca M b) s.2.2.2) (fun s=>(M-s.1).toNat)
   ⟨0,rfl,by omega,rfl,k2,k3.mono fun f hf=>⟨hf.1,hf.2,fun _ h=>absurd h (qv _)⟩⟩ fun ⟨c,l2,j,fs⟩ ⟨b,r0,r1,r2,r3,r4⟩ => ?_
  simp only at r0 r2 r3 r4;subst r0;subst r2;have hfl:i<fs.length:=by rw [r4.1];exact hi
  obtain ⟨y1,y2,y3,y4,y5,y6⟩:=r4.2 i hi;have y5:=y5 rfl;simp only [UP,y5.1];refine dG (fun hp => ?_) (fun hp=>aF ⟨rfl,r3,?_⟩)
  rotate_left
  .have hp:¬ (b:Int)<M:=by simpa using hp
   have:b=M:=by omega
   subst this;exact r4
  have hp:b<M:=by simp at hp;omega
  refine goN hb r3 (by omega) fun x3 j3 h3 a3 b3=>bT (aG.2 ⟨a3,by have:=b3 (by omega);simp;omega⟩) (goN hb h3 (by omega) fun x4 j4 h4 a4 b4=>goN hb h4 (by omega) fun x5 j5 h5 a5 b5=>goN hb h5 (by omega) fun x6 j6 h6 a6 b6=>bT (aG.2 ⟨by omega,by omega⟩) (aF ⟨⟨b+1,?_,by omega,rfl,h6,?_⟩,?_⟩))
  .simp only [aH (x:=(b:Int)+1) (by omega)];simp
  .refine r4.put hi rfl rfl ⟨by simp only;rw [UB];exact y5.1,fun b' hb' => ?_,fun k hk => ?_⟩
   .simp only [Q6] at hb' ⊢;rcases Kn hb' with h | h
    .exact y5.2.1 b' h
    .rw [h];exact y5.2.1 ((fs.getD i aC).blocks.getD b ah) (by rw [getD_at (l:=(fs.getD i aC).blocks) ah (by rw [y5.1];exact hp)];exact QR _)
   .simp only [Q6];rw [jg (by rw [y5.1];exact hp)];split
    .refine ⟨?_,⟨a4,b4 (by omega)⟩,⟨a5,b5 (by omega)⟩,a6,b6 (by omega)⟩;have:=b3 (by omega);have:x3=0\/x3=1\/x3=2\/x3=3:=by omega
     rcases this with e | e | e | e<;>subst e<;>simp
    .exact y5.2.2 k (by omega)
  .simp only [aH (x:=(b:Int)+1) (by omega)];omega
 simp only at k4 k5 k6;subst k4;obtain ⟨y1,y2,y3,y4,y5,y6⟩:=k6.2 i hi;have y5:=y5 rfl;refine bC _ (Kw (bs:=(t3.getD i aC).blocks) y5.ends (by have:=y5.1;omega) (by have:=y5.1;omega)) fun ⟨c1,c2,c3,c4⟩ ⟨p1,p2,p3,p4,p5,p6,p7,p8⟩=>bT (by simp) (aF ⟨⟨i+1,?_,by omega,rfl,k5,HG.next (k6.put hi p2 p3 ?_)⟩,?_⟩)
 .show dJ ((i:Int)+1)=_;rw [aH (by omega)];rfl
 .simp only at p2 p3 p4 p5 p6 p7 p8;have hM5:=y5.1;have hin :∀b∈c4,b.instrs.length<=3/\∀i'∈b.instrs,IV g sg ca c3 i':=fun b hb=>by
   obtain ⟨t,ht,e,_⟩:=p8 b hb;rw [e,p3];exact y5.2.1 t ht
  have hw:=Uf fun b hb=>(hin b hb).1;refine ⟨⟨by simp only;omega,p4,p6,p7⟩,by simp only;omega,by simp only;omega,by simp only;omega,by simp only;omega,fun b hb=>(hin b hb).2,fun b hb=>akG p6 hb ?_⟩;obtain ⟨t,ht,_,_,e⟩:=p8 (c4.getD b ah) (by rw [getD_at _ hb];exact QR _);simp only;rw [e,p3];obtain ⟨k,hk,e⟩:=Wt ht;have:=(y5.2.2 k (by omega)).2.1;rw [getD_at _ hk,e] at this;exact this
 .show ((N:Int)-dJ ((i:Int)+1)).toNat<((N:Int)-i).toNat;rw [aH (by omega)];omega
theorem Inv.rt {g:List aB} {sg:List (List UInt8×Nat)} {cl re pa:Int} {nm:List UInt8} {bl:List aJ} {O:Nat->Prop} {P:Nat->Nat->Prop} (h:Inv g sg cl re 2048 256 bl O P) (ho :∀x,¬ O x) (h0:0<bl.length) (hr:re<=250) (hp:0<=pa/\pa<=re):Rt g sg cl (aY.mk nm pa re bl):=by
 have hl:=h.len;have ht :∀b,b<bl.length->tvB re bl.length (bl.getD b ah):=fun b hb=>h.trm b hb (ho b);have hE:wU bl:=by
  refine ⟨fun b hb => ?_,fun b hb=>(ht b hb).kind⟩;have hk:=(ht b hb).kind;exact ⟨fun hn=>(ht b hb).suc _ (Dw.1 (by omega)),fun hn=>(ht b hb).suc _ (Dw.2 hn)⟩
 exact ⟨⟨by simp only;omega,h0,hE,aaA.of fun S hS hs=>h.con S hS (fun b hb _=>hs b hb) fun a b hp=>absurd (h.src a b hp).1 (ho a)⟩,hl,h.wt,⟨by simp only;omega,hr⟩,hp,h.ins,ht⟩
theorem aeF {g:List aB} {fs:List aA} (h:akC g fs):Ok (f50 g fs) fun y=>(∃sg,RtP y.2.2.2.1 sg y.1 y.2.2.2.2)/\y.2.1=0:=by
 obtain ⟨hg,hf,hbd⟩:=h;obtain ⟨⟨hf0,hf4⟩,hp0,hfn⟩:=id hf;have hg4:=hg.1;have hsl:(iY fs).length=fs.length:=by unfold iY;simp
 have hsp :∀k,k<fs.length->((iY fs).getD k ([],0)).2=(fs.getD k bI).params.length:=fun k hk=>by
  unfold iY;rw [getD_at _ (by simpa using hk),Ke,getD_at _ hk]
 unfold f50;refine bT (by unfold aX;simp;omega) ?_;have e0:jk++g=g:=by simp
 simp only [e0];refine bC (fun s=>s.1=fs.length/\s.2.1=0/\RtP g (iY fs) fs.length s.2.2) ?_ fun Bj ⟨h1,h2,h3⟩ => ?_
 rotate_left
 .obtain ⟨s1,s2,s3⟩:=Bj;simp only at h1 h2 h3;subst h1;subst h2;exact bC _ (aeD h3) fun y e=>by subst e;exact b_ rfl (aF ⟨⟨_,h3⟩,rfl⟩)
 refine bJ (fun s:Int×Int×Int×List aY =>∃(i:Nat) (rs:List aY),s=((i:Int),(fs.length:Int),0,rs)/\i<=fs.length/\rs.length=i/\∀k,k<i->(rs.getD k aC).params=(((iY fs).getD k ([],0)).2:Int)/\Rt g (iY fs) fs.length (rs.getD k aC)) (fun s=>(fs.length-s.1).toNat) ⟨0,[],rfl,by omega,rfl,fun k hk=>by omega⟩ fun s ⟨i,rs,e,h1,h2,h3⟩ => ?_;subst e;refine dG (fun hi => ?_) (fun hi => ?_)
 rotate_left
 .have hi:¬ (i:Int)<fs.length:=by simpa using hi
  have:i=fs.length:=by omega
  subst this;refine aF ⟨rfl,rfl,by omega,fun x hx => ?_,by simp only;omega,by simp only;omega,by simp only;omega,⟨by omega,by simp only;omega⟩,fun k hk=>(h3 k (by simp only at hk;omega)).1,?_,fun f hf => ?_⟩
  .obtain ⟨k,hk,e⟩:=Wt hx;have:=(hg.2 k hk).2;rw [getD_at _ hk,e] at this;omega
  .simp only;rw [(h3 0 (by omega)).1,hsp 0 hf0,hp0];rfl
  .obtain ⟨k,hk,e⟩:=Wt hf;have:=(h3 k (by simp only at hk;omega)).2;rw [getD_at _ hk,e] at this;exact this
 have hi:i<fs.length:=by simpa using hi
 obtain ⟨hb,L,c,q,hch,hc7,aon,hLN,asJ⟩:=hbd i hi;obtain ⟨_,hpn⟩:=hfn i hi;have aoq:=hsp i hi;obtain ⟨f,hfe⟩ :∃f,fs.getD i bI=f:=⟨_,rfl⟩;rw [hfe] at hb hch aoq;simp only [Q6,hfe];have hlen:=(hch.len (Wn 3)).1;have hS:Lw g fs L:=⟨hg,hf,hLN,asJ⟩;refine bT (aG.2 ⟨by omega,by omega⟩) (bC (fun y=>y=(g,fs,L,(i:Int),(0:Int),(0:Int),([]:List aJ))) ?_ fun s7 e => ?_)
 .refine fA (y:=L) ?_ (aF rfl);apply ok_eq;unfold f73;refine bT (by simp;omega) ?_;have he:jS++f.params=f.params:=by simp
  rw [he];exact fA (H8 (fun _ _ _ _ _ h=>h) (fun _ _ _ _ _ _=>ahj) 3 1048576 (by omega) _ hb _ _ _ _ hch (by omega) fun n lo s l1 c k h=>(Wn n lo s l1 c k h).1) (aF rfl)
 subst e;refine bC (fun y =>∃b:aJ,y=((0:Int),g,fs,L,(i:Int),(L.length:Int),((0:Nat):Int),[b])/\b.instrs=[]) (by unfold f74;exact bT (by unfold aX;simp) (aF ⟨_,rfl,rfl⟩)) fun c9 ⟨b,e,hbi⟩ => ?_;subst e;have hP:Pre g fs L L.length 1 1 [b] 0 (fun _=>False) (fun _ _=>False):=by
  refine ⟨⟨by unfold zu;simp [hbi],by simp,fun b' hb' => ?_,fun b' hb' ho => ?_,fun b' hb' => ?_,fun _ _ h=>h.elim,fun S hS _ _ b' hb' => ?_⟩,fun h=>h,fun _ h=>h,WK _⟩
  .rw [QP] at hb';subst hb';rw [hbi];intro i hi;cases hi
  .simp only [Zs] at hb';exact absurd (Or.inl (by omega)) ho
  .rcases hb' with h | h
   .subst h;simp
   .exact h.elim
  .simp only [Zs] at hb';have:b'=0:=by omega
   subst this;exact hS
 refine bC _ (YR (nu:=(i:Int)) hS 3 1048576 (by omega) f.body hb _ _ _ _ hch _ _ _ _ _ _ _ hP (by omega)) fun c10 ⟨on,re,a,bl,e,r1,r2,r3,r4,hI⟩ => ?_;subst e;simp only at r1 r2 r3 ⊢;refine bC (fun y =>∃re' a' jw,y=(g,fs,L,(i:Int),re',a',jw)/\Rt g (iY fs) fs.length (aY.mk f.name (f.params.length:Int) re' jw)) ?_ fun s16 ⟨re',a',jw,e,hR⟩ => ?_
 .have hl1:=hI.len;refine dG (fun hon => ?_) (fun hon => ?_)
  .subst hon;have hm:Eb re (dJ ((L.length:Int)+1))=max re (L.length+1):=by rw [Hg,aH (by omega)]
   obtain ⟨r5,hr5⟩ :∃r5,Eb re (dJ ((L.length:Int)+1))=r5:=⟨_,rfl⟩;rw [hr5] at hm;simp only [hr5];have hI5:=hI.up (re':=r5) (by omega) (Z1 _) (Z1 _);have aor:RG r5 L.length:=⟨by omega,by omega⟩;refine TY (a:=a) (bl:=bl) (re:=r5) hI5 (.inl ⟨rfl,rfl⟩) (by omega) (.const aor (by simp)) fun b2 l2 i2=>qV (bl:=b2) (re:=r5) (b0:=a) i2 (.inl ⟨rfl,rfl⟩) ⟨.inr (.inr rfl),fun _=>aor,fun x hx => ?_⟩ (fun y hp=>hp.elim) fun b3 l3 i3=>aF ⟨r5,a,b3,rfl,(i3.up (WK _) (by omega) (by omega)).rt (fun x hx => ?_) ?_ (by omega) ⟨by omega,by omega⟩⟩
   .unfold succs at hx;rw [if_neg (by omega),if_neg (by omega)] at hx;cases hx
   .rcases hx.1 with h | h
    .exact hx.2 h.2
    .exact h
   .simp only [Zs] at r3;omega
  .subst hon;exact aF ⟨re,a,bl,rfl,(hI.up (WK _) (by omega) (by omega)).rt (fun x hx=>by rcases hx with h | h;exact absurd h.1 (by simp);exact h) (by simp only [Zs] at r3;omega) (by omega) ⟨by omega,by omega⟩⟩
 subst e;refine bT (by unfold aX;simp;omega) (aF ⟨⟨i+1,rs++[aY.mk f.name (f.params.length:Int) re' jw],?_,by omega,by rw [Ys,Zs,h2],fun k hk => ?_⟩,?_⟩)
 .rw [aH (by omega)];rfl
 .rw [lM];split
  .exact h3 k (by omega)
  .have:k=i:=by omega
   subst this;rw [if_pos h2.symm];exact ⟨by rw [aoq],hR⟩
 .simp only [aH (x:=(i:Int)+1) (by omega)];omega
theorem ahn {l:List Int} {i:Int} (hb:Bytes l) (hi:0<=i):Ok (f25 l i) fun y=>(∃sg,RtP y.2.2.2.2.2 sg y.2.1 y.1)/\y.2.2.1=0/\y.2.2.2.1=l/\0<=y.2.2.2.2.1:=by
 unfold f25;refine goN hb hi (by omega) fun c j hj _ _=>dG (fun _=>bC (fun y=>(∃sg,RtP y.2.2.2.2.1 sg y.1 y.2.2.2.2.2)/\y.2.1=0/\y.2.2.1=l/\0<=y.2.2.2.1) ?_ fun y hy=>aF hy) fun _=>bC _ (aeE hb hj) fun y hy=>aF hy;unfold f38;refine bC (fun y=>akC y.2.2.1 y.2.2.2/\y.1=l/\0<=y.2.1) ?_ fun y ⟨h1,h2,h3⟩=>bC _ (aeF h1) fun z ⟨z1,z2⟩=>aF ⟨z1,z2,h2,h3⟩;unfold f51;exact bC _ (aaL hb hj) fun y hy=>bC _ (Wp hy.2.2) fun z hz=>aF ⟨hz,hy.1,hy.2.1⟩
def Ascii (s:List UInt8):Prop :=∀x∈s,x.toNat<128
theorem YS (s:List UInt8) (i:Nat):RF s (i:Int)=decide (i<s.length):=by unfold RF;rw [Q6]
theorem decode_at {s:List UInt8} (h:Ascii s) {i:Nat} (hi:i<s.length):Utf8.decode ⟨s.toArray⟩ i=(s[i].toNat,1):=
 Go.decode_ascii ⟨s.toArray⟩ i (by simpa [ByteArray.size] using hi) (h _ (QR _))
theorem Nw {s:List UInt8} (h:Ascii s) {i:Nat} (hi:i<s.length):nT s (i:Int)=(s[i].toNat:Int):=by
 unfold nT;rw [Q6,decode_at h hi]
theorem Dx {s:List UInt8} (h:Ascii s) {i:Nat} (hi:i<s.length):uH s (i:Int)=(i:Int)+1:=by
 unfold uH;rw [Q6,decode_at h hi];simp
theorem Ny (x lo hi:Int):f85 x lo hi=some (decide (lo<=x)&&decide (x<=hi)):=by
 unfold f85;cases decide (lo<=x)<;>rfl
def uV (op v:Int) (wd:Bool):Bool:=
 if 5<=op/\op<=8 then decide (0<=v)&&decide (v<=31) else if op=11 then decide (0<=v)&&decide (v<=1048576) else if op=17 then decide (0<=v)&&decide (v<=4095)
 else if op=18 then decide (0<=v)&&decide (v<=63) else if 13<=op/\op<=15 then (if wd then decide (-2147483648<=v)&&decide (v<=2147483647) else decide (-128<=v)&&decide (v<=127)) else true
theorem ops {op:Int} (h:1<=op/\op<=18):op=1\/op=2\/op=3\/op=4\/op=5\/op=6\/op=7\/op=8\/op=9\/op=10\/op=11\/op=12\/op=13\/op=14\/op=15\/op=16\/op=17\/op=18:=by omega
theorem aos {op ar d a b v:Int} {wd:Bool} {args:List Int} (h:1<=op/\op<=18):f86 op ar d a b v wd args=some (uV op v wd):=by
 unfold f86 uV;rcases ops h with rfl | rfl | rfl | rfl | rfl | rfl | rfl | rfl | rfl | rfl | rfl | rfl | rfl | rfl | rfl | rfl | rfl | rfl<;>(cases wd<;>simp [Ny,dM])
theorem aot {a b:Bool}:(bif a then some b else some false)=some (a&&b):=by cases a<;>rfl
theorem aou {op ar d a b v:Int} {wd:Bool} {args:List Int} (h:1<=op/\op<=18):f71 op ar d a b v wd args=some (uV op v wd):=by
 unfold f71 uV;rcases ops h with rfl | rfl | rfl | rfl | rfl | rfl | rfl | rfl | rfl | rfl | rfl | rfl | rfl | rfl | rfl | rfl | rfl | rfl<;>(cases wd<;>simp [aot,dM])
structure VC (op ar d a b v:Int) (wd:Bool) (args:List Int):Prop where
 o:1<=op/\op<=18
 w:wd=true->13<=op/\op<=15
 a3:op=3->1<=ar/\ar<=2
 a4:op=4->3<=ar/\ar<=11
 d:0<=d/\d<=249
 a:0<=a/\a<=249
 b:0<=b/\b<=249
 s :∀x∈args,0<=x/\x<=249
 n:args.length<=250
 v:uV op v wd=true
def IsLetter (x:UInt8):Prop:=x.toNat=111\/x.toNat=100\/x.toNat=97\/x.toNat=98\/x.toNat=106\/x.toNat=110\/x.toNat=49\/x.toNat=50\/x.toNat=52\/x.toNat=56
instance (x:UInt8):Decidable (IsLetter x):=by unfold IsLetter;infer_instance
def rowOf (op:Int):List UInt8:=Lj.getD op.toNat bH
theorem P7 (op:Int):(rowOf op).length<=4/\∀x∈rowOf op,IsLetter x:=by
 have h1 :∀r∈Lj,r.length<=4/\∀x∈r,IsLetter x:=by decide
 unfold rowOf;by_cases h:op.toNat<Lj.length
 .rw [getD_at _ h];exact h1 _ (QR _)
 .rw [List.getD_eq_getElem?_getD,WD (by omega)];exact ⟨by simp,fun x hx=>by cases hx⟩
theorem Nz (op:Int):Ascii (rowOf op):=fun x hx=>by have:=(P7 op).2 x hx;unfold IsLetter at this;omega
def Kz (wd:Bool) (n:Nat) (x:UInt8):Nat:=if x.toNat=106 then (if wd then 4 else 1) else if x.toNat=110 then 1+n else if x.toNat=49 then 1 else if x.toNat=50 then 2 else if x.toNat=52 then 4 else if x.toNat=56 then 8 else 1
def szc (op:Int) (wd:Bool) (n:Nat):Nat:=1+((rowOf op).map (Kz wd n)).sum
section
variable {op ar d a b v:Int} {wd:Bool} {args:List Int}
theorem akH (h:VC op ar d a b v wd args):Ok (f82 op ar d a b v wd args) fun y=>(∀x∈y,0<=x/\x<=249)/\y.length<=1004:=by
 have ho:=h.o;have hn:=h.n;obtain ⟨hl,hL⟩:=P7 op;have hA:=Nz op;unfold f82;refine bT (aG.2 (by omega)) (bC (fun y=>(∀x∈y,0<=x/\x<=249)/\y.length<=1004) ?_ fun y hy=>aF hy);show Ok (bF _ (eInt,rowOf op,(0:Int))) _;refine bJ (fun s:List Int×List UInt8×Int =>∃i:Nat,s.2=(rowOf op,(i:Int))/\i<=(rowOf op).length/\(∀x∈s.1,0<=x/\x<=249)/\s.1.length<=i*251) (fun s=>(rowOf op).length-s.2.2.toNat) ⟨0,rfl,by omega,fun x hx=>(by cases hx),by simp⟩ fun ⟨l,s⟩ ⟨i,e,h1,h2,h3⟩ => ?_;simp only at e h2 h3;subst e;rw [YS];refine dG (fun hi => ?_) fun _=>aF ⟨h2,by simp only;omega⟩;have hi:i<(rowOf op).length:=by simpa using hi
 rw [Nw hA hi,Dx hA hi];refine bC (fun y=>(∀x∈y,0<=x/\x<=249)/\y.length<=l.length+251) ?_ fun y ⟨y1,y2⟩=>aF ⟨⟨i+1,by simp,hi,y1,by simp only;omega⟩,by simp only;omega⟩;have one :∀z:Int,0<=z/\z<=249->((∀x∈l++[z],0<=x/\x<=249)/\(l++[z]).length<=l.length+251):=fun z hz=>⟨fun x hx=>by
  rcases X2.1 hx with hx | hx
  .exact h2 x hx
  .rw [QP] at hx;rw [hx];exact hz,by simp⟩
 refine dG (fun _=>bT (by unfold aX;simp;omega) (aF (one _ h.d))) fun _=>bC _ ?_ fun y hy=>aF hy;refine dG (fun _=>bT (by unfold aX;simp;omega) (aF (one _ h.a))) fun _=>bC _ ?_ fun y hy=>aF hy;refine dG (fun _=>bT (by unfold aX;simp;omega) (aF (one _ h.b))) fun _=>bC _ ?_ fun y hy=>aF hy;refine dG (fun _=>bT (by unfold aX;simp;omega) (aF ⟨fun x hx => ?_,by show (l++args).length<=l.length+251;rw [Ys];omega⟩)) fun _=>aF ⟨h2,Nat.le_add_right _ _⟩;rcases X2.1 hx with hx | hx
 .exact h2 x hx
 .exact h.s x hx
theorem akI {l:List Int} (h :∀x∈l,0<=x/\x<=249) (hl:l.length<=100000):f83 l=some false:=by
 apply ok_eq;unfold f83;refine bC (fun y=>y=-1) ?_ fun y e=>aF (decide_eq_false (by omega));unfold f105;refine iF (fun _=>True) (iL l.length (fun _=>True) (by omega) (fun i hi _=>goT (decide_eq_true (by omega)) (bT (aG.2 (by omega)) (fA (y:=false) ?_ (b_ rfl (aF ⟨rfl,trivial⟩))))) fun _=>b_ (decide_eq_false (by omega)) (aF trivial)) fun _ _=>aF rfl;have:=h _ (QR hi);simp only [Q6,getD_at _ hi];apply ok_eq;unfold f84;exact fA (Ny _ _ _) (aF (by simp;omega))
theorem aov (h:VC op ar d a b v wd args):f54 op ar d a b v wd args=some 0:=by
 apply ok_eq;have ho:=h.o;have hn:=h.n;unfold f54;refine fA (y:=true) ?_ (b_ rfl (bC _ (akH h) fun l ⟨h1,h2⟩=>bC (fun y=>y=false) (fA (akI h1 (by omega)) (b_ rfl (b_ (decide_eq_false (by omega)) (aF rfl)))) fun y e=>by subst e;exact b_ rfl (fA (aos ho) (b_ (by rw [h.v];rfl) (aF rfl)))));apply ok_eq;unfold f81;refine fA (Ny _ _ _) (bC (fun y=>y=false) (b_ (by simp;omega) (bC (fun y=>y=false) (dG (fun hw=>fA (y:=true) ?_ (aF rfl)) fun _=>aF rfl) fun y e=>aF e)) fun y e => ?_)
 .have:=h.w hw;apply ok_eq;unfold f104;exact fA (Ny _ _ _) (aF (by simp;omega))
 subst e;refine b_ rfl (dG (fun h3=>fA (Ny _ _ _) (aF ?_)) fun _=>dG (fun h4=>fA (Ny _ _ _) (aF ?_)) fun _=>aF rfl)
 .have:=h.a3 (by simpa using h3);simp;omega
 .have:=h.a4 (by simpa using h4);simp;omega
theorem NC {v n:Int} {l:List Int} (hn:0<=n/\n<=8) (hl:l.length<=1000000):Ok (f55 v n l) fun y=>(y.length:Int)=l.length+n:=by
 unfold f55;refine bC (fun y=>(y.length:Int)=l.length+n) ?_ fun y hy=>aF hy;refine bJ (fun s:Int×List Int=>(0<=s.1/\s.1<=n)/\(s.2.length:Int)=l.length+s.1) (fun s=>(n-s.1).toNat) ⟨⟨by simp,by simp only;omega⟩,by simp⟩ fun ⟨i,y⟩ ⟨⟨h1,h1'⟩,h2⟩ => ?_;simp only at h1 h1' h2;refine dG (fun hi => ?_) fun hi => ?_
 .have hi:i<n:=by simpa using hi
  refine bT (decide_eq_true (by simp only;rw [aH (by omega)];omega)) (bT (by unfold aX;simp;omega) (aF ⟨⟨⟨?_,?_⟩,?_⟩,?_⟩))
  all_goals simp only [aH (x:=i+1) (by omega)]
  .omega
  .omega
  .simp;omega
  .omega
 .have hi:¬ i<n:=by simpa using hi
  exact aF (show (y.length:Int)=l.length+n by omega)
theorem aow {v n:Int} {l:List Int} (hn:0<=n/\n<=8) (hl:l.length<=1000000):Ok (f47 v n l) fun y=>(y.length:Int)=l.length+n:=NC hn hl
theorem Ug {l:List UInt8} {f:UInt8->Nat} {i:Nat} (hi:i<l.length):((l.take (i+1)).map f).sum=((l.take i).map f).sum+f l[i]:=by
 rw [take_snoc hi,Xs,qu];simp
theorem aiJ (h:VC op ar d a b v wd args):Ok (f42 op ar d a b v wd args) fun y=>y.1=0/\y.2.length=szc op wd args.length:=by
 have ho:=h.o;have hn:=h.n;obtain ⟨hl,hL⟩:=P7 op;have hA:=Nz op;unfold f42;refine fA (aov h) (b_ rfl (bC (fun y=>y.length=1) (dG (fun _=>bT rfl (bT rfl (aF (by simp)))) fun _=>aF rfl) fun l0 hl0=>bT (aG.2 (by omega)) (bC (fun y=>y.length=szc op wd args.length) ?_ fun y hy=>aF ⟨rfl,hy⟩)));show Ok (bF _ (l0,rowOf op,(0:Int))) _;have hsz :∀x,Kz wd args.length x<=251:=fun x=>by
  unfold Kz
  repeat' split
  all_goals omega
 refine bJ (fun s:List Int×List UInt8×Int =>∃i:Nat,s.2=(rowOf op,(i:Int))/\i<=(rowOf op).length/\s.1.length=1+(((rowOf op).take i).map (Kz wd args.length)).sum/\s.1.length<=1+i*251) (fun s=>(rowOf op).length-s.2.2.toNat) ⟨0,rfl,by omega,by simp [hl0],by simp only;omega⟩ fun ⟨l,s⟩ ⟨i,e,h1,h2,h3⟩ => ?_;simp only at e h2 h3;subst e;rw [YS];refine dG (fun hi => ?_) fun hi=>aF ?_
 rotate_left
 .have hi:¬ i<(rowOf op).length:=by simpa using hi
  have:i=(rowOf op).length:=by omega
  subst this;rw [JN] at h2;exact h2
 have hi:i<(rowOf op).length:=by simpa using hi
 rw [Nw hA hi,Dx hA hi];refine bC (fun y=>y.length=l.length+Kz wd args.length (rowOf op)[i]) ?_ fun y hy=>aF ⟨⟨i+1,by simp,hi,by simp only;rw [Ug hi];omega,by simp only;have:=hsz (rowOf op)[i];omega⟩,by simp only;omega⟩;have hx:=hL _ (QR hi);obtain ⟨x,hxe⟩ :∃x,(rowOf op)[i]=x:=⟨_,rfl⟩;simp only [hxe] at hx ⊢;have key :∀n:Int,0<=n->decide ((x.toNat:Int)=n)=true->x.toNat=n.toNat:=fun n _ h=>by have:=of_decide_eq_true h;omega
 have neg :∀n:Int,0<=n->decide ((x.toNat:Int)=n)=false->¬ x.toNat=n.toNat:=fun n _ h=>by have:=of_decide_eq_false h;omega
 have one :∀z k:Int,k=1->Kz wd args.length x=1->Ok (f55 z k l) fun y=>y.length=l.length+Kz wd args.length x:=fun z k hk hs=>jR (NC (by omega) (by omega)) fun y hy=>by omega
 refine dG (fun hc=>bC _ (one _ _ rfl (by simp [Kz,key _ (by omega) hc])) fun y hy=>aF hy) fun n1=>bC _ ?_ fun y hy=>aF hy;refine dG (fun hc=>bC _ (one _ _ rfl (by simp [Kz,key _ (by omega) hc])) fun y hy=>aF hy) fun n2=>bC _ ?_ fun y hy=>aF hy;refine dG (fun hc=>bC _ (one _ _ rfl (by simp [Kz,key _ (by omega) hc])) fun y hy=>aF hy) fun n3=>bC _ ?_ fun y hy=>aF hy;refine dG (fun hc=>bC _ (one _ _ rfl (by simp [Kz,key _ (by omega) hc])) fun y hy=>aF hy) fun n4=>bC _ ?_ fun y hy=>aF hy;refine dG (fun hc=>bC (fun y=>y=if wd then 4 else 1) (by unfold f56;cases wd<;>exact aF rfl) fun y e => ?_) fun n5=>bC _ ?_ fun y hy=>aF hy
 .subst e;refine bC _ (NC (by split<;>omega) (by omega)) fun y hy=>aF ?_;have:Kz wd args.length x=if wd then 4 else 1:=by simp [Kz,key _ (by omega) hc]
  rw [this];cases wd<;>simp at hy ⊢ <;> omega
 refine dG (fun hc=>bC _ (NC (by omega) (by omega)) fun l2 hl2=>bC (fun y=>(y.length:Int)=l2.length+args.length) ?_ fun y hy=>aF ?_) fun n6=>bC (fun y=>y.length=l.length+Kz wd args.length x) ?_ fun y hy=>aF hy
 .refine bJ (fun s:Int×List Int =>∃j:Nat,s.1=j/\j<=args.length/\(s.2.length:Int)=l2.length+j) (fun s=>args.length-s.1.toNat) ⟨0,rfl,by omega,by simp⟩ fun ⟨j',l3⟩ ⟨j,e,g1,g2⟩ => ?_;simp only at e g2;subst e;refine dG (fun hj => ?_) fun hj => ?_
  .have hj:j<args.length:=by simpa using hj
   refine bT (aG.2 (by simp only;omega)) (bC _ (NC (by omega) (by simp only;omega)) fun l4 hl4=>aF ⟨⟨j+1,?_,by omega,?_⟩,?_⟩)
   all_goals simp only [aH (x:=(j:Int)+1) (by omega)]
   .rfl
   .simp only at hl4;omega
   .omega
  .have hj:¬ j<args.length:=by simpa using hj
   exact aF (show (l3.length:Int)=l2.length+args.length by omega)
 .have:Kz wd args.length x=1+args.length:=by simp [Kz,key _ (by omega) hc]
  omega
 .have n1:=neg _ (by omega) n1;have n2:=neg _ (by omega) n2;have n3:=neg _ (by omega) n3;have n4:=neg _ (by omega) n4;have n5:=neg _ (by omega) n5;have n6:=neg _ (by omega) n6;have hw:dJ (Go.IntKind.wrap .i32 ((x.toNat:Int)-48))=Kz wd args.length x/\Kz wd args.length x<=8:=by
   unfold IsLetter at hx;have:x.toNat=49\/x.toNat=50\/x.toNat=52\/x.toNat=56:=by
    simp only [Int.reduceToNat] at n1 n2 n3 n4 n5 n6;omega
   unfold Kz;rcases this with e | e | e | e<;>rw [e]<;>exact ⟨rfl,by simp⟩
  rw [hw.1];exact jR (NC (by omega) (by omega)) fun y hy=>by omega
def szr (wd:Bool) (n:Nat) (x:UInt8):Nat:=if x.toNat=110 then 1+n else if x.toNat=119 then 2 else if x.toNat=99 then 4 else if x.toNat=107 then 8 else if x.toNat=106/\wd=true then 4 else 1
theorem aiK (h:1<=op/\op<=18) :∃r,f46 op=some r/\(r==bH)=false/\r.length<=4/\∀wd n,1+(r.map (szr wd n)).sum=szc op wd n:=by
 rcases ops h with rfl | rfl | rfl | rfl | rfl | rfl | rfl | rfl | rfl | rfl | rfl | rfl | rfl | rfl | rfl | rfl | rfl | rfl<;>exact ⟨_,rfl,rfl,by decide,fun wd n=>by cases wd<;>simp [szc,szr,Kz,rowOf,Lj]⟩
theorem YT {x:Int} (h:0<=x/\x<=249):f93 x=some true:=by
 apply ok_eq;unfold f93;exact bC (fun y=>y=true) (goT (decide_eq_true h.1) (aF (decide_eq_true (by omega)))) fun y e=>aF e
theorem aox (h:VC op ar d a b v wd args):f45 op ar d a b v wd args=some 0:=by
 apply ok_eq;have ho:=h.o;have hn:=h.n;obtain ⟨r,hr,h1,h2,_⟩:=aiK ho;unfold f45;refine bC (fun y=>y=false) (fA hr (b_ h1 (fA (y:=true) ?_ (b_ rfl (dG (fun hw=>fA (y:=true) ?_ (aF rfl)) fun _=>aF rfl))))) fun y e => ?_
 .apply ok_eq;unfold f68;refine dG (fun h3=>bC (fun y=>y=true) ?_ fun y e=>aF e) fun _=>dG (fun h4=>bC (fun y=>y=true) ?_ fun y e=>aF e) fun _=>aF rfl
  .have:=h.a3 (by simpa using h3);exact dG (fun _=>aF rfl) fun hn=>aF (decide_eq_true (by have:=of_decide_eq_false hn;omega))
  .have:=h.a4 (by simpa using h4);exact goT (decide_eq_true (by omega)) (aF (decide_eq_true (by omega)))
 .have:=h.w hw;apply ok_eq;unfold f69;exact bC (fun y=>y=true) (dG (fun _=>aF rfl) fun n1=>dG (fun _=>aF rfl) fun n2=>aF (decide_eq_true (by have:=of_decide_eq_false n1;have:=of_decide_eq_false n2;omega))) fun y e=>aF e
 subst e;refine b_ rfl (fA (y:=true) ?_ (b_ rfl (fA (aou ho) (b_ (by rw [h.v];rfl) (aF rfl)))));apply ok_eq;unfold f70;refine fA hr (iF (fun _=>True) (iL r.length (fun _=>True) (by omega) (fun i hi _=>goT (decide_eq_true (by omega)) (bT (aG.2 (by omega)) (iF (fun _=>True) ?_ fun _ _=>aF ⟨rfl,trivial⟩))) fun _=>b_ (decide_eq_false (by omega)) (aF trivial)) fun _ _=>aF rfl);refine dG (fun _=>fA (YT h.d) (b_ rfl (aF trivial))) fun _=>iF (fun _=>True) ?_ fun _ _=>aF trivial;refine dG (fun _=>fA (YT h.a) (b_ rfl (aF trivial))) fun _=>iF (fun _=>True) ?_ fun _ _=>aF trivial;refine dG (fun _=>fA (YT h.b) (b_ rfl (aF trivial))) fun _=>iF (fun _=>True) ?_ fun _ _=>aF trivial;refine dG (fun _=>iF (fun _=>True) (iL args.length (fun _=>True) (by omega) (fun j hj _=>goT (decide_eq_true (by omega)) (bT (aG.2 (by omega)) (fA (YT ?_) (b_ rfl (aF ⟨rfl,trivial⟩))))) fun _=>b_ (decide_eq_false (by omega)) (aF trivial)) fun _ _=>b_ (decide_eq_false (by omega)) (aF trivial)) fun _=>aF trivial;rw [Q6,getD_at _ hj];exact h.s _ (QR hj)
theorem aoy (h:VC op ar d a b v wd args):Ok (f36 op ar d a b v wd args) fun y=>y.1=0/\y.2.length=szc op wd args.length:=by
 have ho:=h.o;have hn:=h.n;obtain ⟨r,hr,h1,h2,h3⟩:=aiK ho;have h3:=h3 wd args.length;unfold f36;refine fA (aox h) (b_ rfl (bC (fun _=>True) (dG (fun _=>aF trivial) fun _=>aF trivial) fun s3 _=>fA hr (bC (fun y=>y.length=szc op wd args.length) ?_ fun y hy=>aF ⟨rfl,hy⟩)));have hsz :∀x,szr wd args.length x<=251:=fun x=>by
  unfold szr
  repeat' split
  all_goals omega
 refine bJ (fun s:Int×List Int =>∃i:Nat,s.1=i/\i<=r.length/\s.2.length=1+((r.take i).map (szr wd args.length)).sum/\s.2.length<=1+i*251) (fun s=>r.length-s.1.toNat) ⟨0,rfl,by omega,by simp,by simp⟩ fun ⟨i',l⟩ ⟨i,e,q1,q2,q3⟩ => ?_;simp only at e q2 q3;subst e;refine dG (fun hi => ?_) fun hi=>aF ?_
 rotate_left
 .have hi:¬ i<r.length:=by simpa using hi
  have:i=r.length:=by omega
  subst this;rw [JN] at q2;exact q2.trans h3
 have hi:i<r.length:=by simpa using hi
 have hin:inB ((i:Int),l).1 r.length=true:=aG.2 (by simp only;omega);refine bT hin ?_;simp only [Q6,getD_at _ hi];refine bC (fun y=>y.length=l.length+szr wd args.length r[i]) ?_ fun y hy=>aF ⟨⟨i+1,?_,hi,by simp only;rw [Ug hi];omega,by simp only;have:=hsz r[i];omega⟩,?_⟩
 rotate_left
 .simp only [aH (x:=(i:Int)+1) (by omega)];rfl
 .simp only [aH (x:=(i:Int)+1) (by omega)];omega
 obtain ⟨x,hxe⟩ :∃x,r[i]=x:=⟨_,rfl⟩;simp only [hxe];have key :∀n:Int,0<=n->decide ((x.toNat:Int)=n)=true->x.toNat=n.toNat:=fun n _ h=>by have:=of_decide_eq_true h;omega
 have neg :∀n:Int,0<=n->decide ((x.toNat:Int)=n)=false->¬ x.toNat=n.toNat:=fun n _ h=>by have:=of_decide_eq_false h;omega
 have one :∀z:Int,szr wd args.length x=1->(l++[z]).length=l.length+szr wd args.length x:=fun z hs=>by simp [hs]
 refine dG (fun hc=>bT (by unfold aX;simp;omega) (aF (one _ (by simp [szr,key _ (by omega) hc])))) fun n1=>bC _ ?_ fun y hy=>aF hy;refine dG (fun hc=>bT (by unfold aX;simp;omega) (aF (one _ (by simp [szr,key _ (by omega) hc])))) fun n2=>bC _ ?_ fun y hy=>aF hy;refine dG (fun hc=>bT (by unfold aX;simp;omega) (aF (one _ (by simp [szr,key _ (by omega) hc])))) fun n3=>bC _ ?_ fun y hy=>aF hy;refine dG (fun hc=>bT (by unfold aX;simp;omega) (aF (one _ (by simp [szr,key _ (by omega) hc])))) fun n4=>bC _ ?_ fun y hy=>aF hy;refine dG (fun hc=>bT (by unfold aX;simp;omega) (bC (fun y=>y.length=l.length+szr wd args.length x) ?_ fun y hy=>aF hy)) fun n5=>bT hin ?_
 .have hz:szr wd args.length x=1+args.length:=by simp [szr,key _ (by omega) hc]
  refine bJ (fun s:Int×List Int =>∃j:Nat,s.1=j/\j<=args.length/\s.2.length=l.length+1+j) (fun s=>args.length-s.1.toNat) ⟨0,rfl,by omega,by simp⟩ fun ⟨j',l3⟩ ⟨j,e,g1,g2⟩ => ?_;simp only at e g2;subst e;refine dG (fun hj => ?_) fun hj => ?_
  .have hj:j<args.length:=by simpa using hj
   refine bT (aG.2 (by simp only;omega)) (bT (by unfold aX;simp;omega) (aF ⟨⟨j+1,?_,by omega,?_⟩,?_⟩))
   all_goals simp only [aH (x:=(j:Int)+1) (by omega)]
   .rfl
   .simp;omega
   .omega
  .have hj:¬ j<args.length:=by simpa using hj
   exact aF (show l3.length=l.length+szr wd args.length x by omega)
 .have n5:=neg _ (by omega) n5;simp only [Int.reduceToNat] at n5;have hx :∀(n:Nat),(decide ((x.toNat:Int)=(n:Int))=true->x.toNat=n)/\(decide ((x.toNat:Int)=(n:Int))=false->¬ x.toNat=n):=fun n=>⟨fun h=>by have:=of_decide_eq_true h;omega,fun h=>by have:=of_decide_eq_false h;omega⟩;refine bC (fun y=>y=(szr wd args.length x:Int)/\szr wd args.length x<=8) ?_ fun y ⟨e,hy8⟩ => ?_
  .unfold f48;refine dG (fun hc=>aF ?_) fun m1=>dG (fun hc=>aF ?_) fun m2=>dG (fun hc=>aF ?_) fun m3 => ?_
   .have:=(hx 119).1 hc;simp [szr,this]
   .have:=(hx 99).1 hc;simp [szr,this]
   .have:=(hx 107).1 hc;simp [szr,this]
   .have m1:=(hx 119).2 m1;have m2:=(hx 99).2 m2;have m3:=(hx 107).2 m3;have hz:szr wd args.length x=if x.toNat=106/\wd=true then 4 else 1:=by
     unfold szr;rw [if_neg n5,if_neg m1,if_neg m2,if_neg m3]
    rw [hz];refine iF (fun _=>¬ (x.toNat=106/\wd=true)) (dG (fun hc=>dG (fun hw=>aF ?_) fun hw=>aF ?_) fun hc=>aF ?_) fun _ hn=>aF ?_
    .have:=(hx 106).1 hc;rw [if_pos ⟨this,hw⟩];exact ⟨rfl,by omega⟩
    .exact fun h=>by rw [h.2] at hw;cases hw
    .have:=(hx 106).2 hc;exact fun h=>this h.1
    .rw [if_neg hn];exact ⟨rfl,by omega⟩
  .subst e;exact bC _ (aow (by omega) (by omega)) fun y hy=>aF (by omega)
end
theorem KA {l:List Int} (h:l.length<=1000000000):f33 l=some l:=by
 apply ok_eq;unfold f33;have hc:aX (List.length eInt) l.length 8=true:=by unfold aX;simp [eInt];omega
 cases l with
 |nil=>exact goT rfl ⟨[],by simp [both,eInt,ck,aX],rfl⟩
 |cons a l=>exact b_ rfl (bT hc (aF (by simp [eInt])))
theorem akJ {l:List Int} (h:l.length<=1000000):f34 l=some (l.mergeSort fun x y=>decide (x<=y)):=by
 show Z9 l=_;unfold Z9;have:decide (l.length<4611686018427387904)=true:=decide_eq_true (by omega);rw [this]
abbrev C8:=Int×Int×Int×Int×Int×Int×Bool×List Int
def VT (v:Int) (t:C8):Prop:=VC t.1 t.2.1 t.2.2.1 t.2.2.2.1 t.2.2.2.2.1 v t.2.2.2.2.2.2.1 t.2.2.2.2.2.2.2
noncomputable def jq (i:dA):C8:=(f28 i.kind i.op i.dst i.a i.b i.value i.args).getD (0,0,0,0,0,0,false,[])
def CG (t:C8):Prop:=t.2.2.2.2.2.2.1=false/\¬ (13<=t.1/\t.1<=15)/\VT t.2.2.2.2.2.1 t/\VT 0 t
section
variable {g:List aB} {sg:List (List UInt8×Nat)} {cl re:Int} {i:dA}
theorem lN {t:C8} (h1:f28 i.kind i.op i.dst i.a i.b i.value i.args=some t) (h2:f40 i.kind i.op i.dst i.a i.b i.value i.args=some t) (h:CG t) :
  f28 i.kind i.op i.dst i.a i.b i.value i.args=some (jq i)/\f40 i.kind i.op i.dst i.a i.b i.value i.args=some (jq i)/\CG (jq i):=by
 have:jq i=t:=by unfold jq;rw [h1];rfl
 rw [this];exact ⟨h1,h2,h⟩
theorem uX {op ar d a b v:Int} {args:List Int} (ho:1<=op/\op<=18/\¬ (13<=op/\op<=15)) (h3:op=3->1<=ar/\ar<=2) (h4:op=4->3<=ar/\ar<=11) (hd:0<=d/\d<=249) (ha:0<=a/\a<=249) (hb:0<=b/\b<=249) (hs :∀x∈args,0<=x/\x<=249) (hn:args.length<=250) (hv:uV op v false=true) (h0:uV op 0 false=true):CG (op,ar,d,a,b,v,false,args):=
 ⟨rfl,ho.2.2,⟨⟨ho.1,ho.2.1⟩,(fun h=>by cases h),h3,h4,hd,ha,hb,hs,hn,hv⟩,⟨⟨ho.1,ho.2.1⟩,(fun h=>by cases h),h3,h4,hd,ha,hb,hs,hn,h0⟩⟩
theorem YU (h:IV g sg cl re i) (hg:g.length<=32) (hs:sg.length<=64) (hc:cl<=64) (hr:re<=250) :
  f28 i.kind i.op i.dst i.a i.b i.value i.args=some (jq i)/\f40 i.kind i.op i.dst i.a i.b i.value i.args=some (jq i)/\CG (jq i):=by
 have z:(0:Int)<=0/\(0:Int)<=249:=by omega
 have e :∀x∈(eInt:List Int),0<=x/\x<=249:=fun x hx=>by cases hx
 have e0:(eInt:List Int).length<=250:=by simp
 have w :∀{x:Int},RG re x->0<=x/\x<=249:=fun h=>⟨h.1,by have:=h.2;omega⟩;have gv :∀{a:Bool} {v:Int},GI a g v->0<=v/\v<=31:=fun h=>by have:=h.1;omega
 cases h with
 |@const o d a b v ar hd ha=>exact lN (t:=(1,0,d,0,0,v,false,eInt)) rfl rfl (uX (by omega) (by omega) (by omega) (w hd) z z e e0 rfl rfl)
 |@move o d a b v ar hd h1 ha=>exact lN (t:=(2,0,d,a,0,0,false,eInt)) rfl rfl (uX (by omega) (by omega) (by omega) (w hd) (w h1) z e e0 rfl rfl)
 |@un o d a b v ar hd h1 ho ha=>exact lN (t:=(3,o,d,a,0,0,false,eInt)) rfl rfl (uX (by omega) (fun _=>by omega) (by omega) (w hd) (w h1) z e e0 rfl rfl)
 |@bin o d a b v ar hd h1 h2 ho ha=>exact lN (t:=(4,o,d,a,b,0,false,eInt)) rfl rfl (uX (by omega) (by omega) (fun _=>ho) (w hd) (w h1) (w h2) e e0 rfl rfl)
 |@load o d a b v ar hd hv ha=>exact lN (t:=(5,0,d,0,0,v,false,eInt)) rfl rfl (uX (by omega) (by omega) (by omega) (w hd) z z e e0 (by have:=gv hv;simp [uV];omega) rfl)
 |@store o d a b v ar h1 hv ha=>exact lN (t:=(6,0,0,a,0,v,false,eInt)) rfl rfl (uX (by omega) (by omega) (by omega) z (w h1) z e e0 (by have:=gv hv;simp [uV];omega) rfl)
 |@elem o d a b v ar hd h1 hv ha=>exact lN (t:=(7,0,d,a,0,v,false,eInt)) rfl rfl (uX (by omega) (by omega) (by omega) (w hd) (w h1) z e e0 (by have:=gv hv;simp [uV];omega) rfl)
 |@set o d a b v ar h1 h2 hv ha=>exact lN (t:=(8,0,0,a,b,v,false,eInt)) rfl rfl (uX (by omega) (by omega) (by omega) z (w h1) (w h2) e e0 (by have:=gv hv;simp [uV];omega) rfl)
 |@read o d a b v ar hd ha=>exact lN (t:=(9,0,d,0,0,0,false,eInt)) rfl rfl (uX (by omega) (by omega) (by omega) (w hd) z z e e0 rfl rfl)
 |@print o d a b v ar h1 ha=>exact lN (t:=(10,0,0,a,0,0,false,eInt)) rfl rfl (uX (by omega) (by omega) (by omega) z (w h1) z e e0 rfl rfl)
 |@call o d a b v ar hd hv hpar hr' ha=>
  have hcap:aX (List.length eInt) ar.length 8=true:=by unfold aX;simp;omega
  refine lN (t:=(11,0,d,0,0,v,false,ar)) ?_ ?_ (uX (by omega) (by omega) (by omega) (w hd) z z (fun x hx=>w (hr' x hx)) (by omega) (by simp [uV];omega) rfl)
  .show f28 11 o d a b v ar=_;unfold f28;rw [hcap];rfl
  .show f40 11 o d a b v ar=_;unfold f40;rw [KA (by omega)];rfl
 |@Nv o d a b v ar hd h1 hr' ha=>
  have hcap:aX (List.length eInt) ar.length 8=true:=by unfold aX;simp;omega
  refine lN (t:=(12,0,d,a,0,0,false,ar)) ?_ ?_ (uX (by omega) (by omega) (by omega) (w hd) (w h1) z (fun x hx=>w (hr' x hx)) (by omega) rfl rfl)
  .show f28 12 o d a b v ar=_;unfold f28;rw [hcap];rfl
  .show f40 12 o d a b v ar=_;unfold f40;rw [KA (by omega)];rfl
 |@func o d a b v ar hd hv ha=>exact lN (t:=(18,0,d,0,0,v,false,eInt)) rfl rfl (uX (by omega) (by omega) (by omega) (w hd) z z e e0 (by simp [uV];omega) rfl)
end
def jU (op a to:Int):dw:=dw.mk op 0 0 a 0 0 false eInt to
def Lr (k a t e n:Int):List dw:=
 if k=3 then [jU 16 a (-1)] else if k=1\/t=e then (if t=n then [] else [jU 13 0 t])
 else if e=n then [jU 14 a t] else if t=n then [jU 15 a e] else [jU 14 a t,jU 13 0 e]
theorem akK {k a t e n:Int}:f41 k a t e n=some (Lr k a t e n):=by
 apply ok_eq;unfold f41 Lr;refine dG (fun h => ?_) fun h => ?_
 .rw [if_pos (of_decide_eq_true h)];exact aF rfl
 rw [if_neg (of_decide_eq_false h)];refine bC (fun y=>y=decide (k=1\/t=e)) (dG (fun h=>aF ?_) fun h=>aF ?_) fun y hy => ?_
 .exact (decide_eq_true (.inl (of_decide_eq_true h))).symm
 .exact decide_eq_decide.2 (by have:=of_decide_eq_false h;simp [this])
 subst hy;refine dG (fun h => ?_) fun h => ?_
 .rw [if_pos (of_decide_eq_true h)];refine dG (fun h => ?_) fun h => ?_
  .rw [if_pos (of_decide_eq_true h)];exact aF rfl
  .rw [if_neg (of_decide_eq_false h)];exact aF rfl
 rw [if_neg (of_decide_eq_false h)];refine dG (fun h => ?_) fun h => ?_
 .rw [if_pos (of_decide_eq_true h)];exact aF rfl
 rw [if_neg (of_decide_eq_false h)];refine dG (fun h => ?_) fun h => ?_
 .rw [if_pos (of_decide_eq_true h)];exact aF rfl
 .rw [if_neg (of_decide_eq_false h)];exact aF rfl
def nat (n:Nat):List Int:=(List.range n).map Int.ofNat
theorem Uh (n:Nat):nat (n+1)=nat n++[(n:Int)]:=by unfold nat;rw [JS,Xs];rfl
theorem Dy (n:Nat):(nat n).length=n:=by simp [nat]
theorem akL {n i:Nat} (h:i<n):(nat n).getD i 0=i:=by
 rw [getD_at _ (by simpa [Dy] using h)];simp [nat]
theorem ahp {n:Nat} {x:Int}:x∈nat n↔0<=x/\x<n:=by
 unfold nat;rw [X1];constructor
 .rintro ⟨a,ha,e⟩;have:=Wz.1 ha;subst e;simp;omega
 .intro ⟨h1,h2⟩;exact ⟨x.toNat,Wz.2 (by omega),by simp;omega⟩
theorem zl {nm:List UInt8} {pa re:Int} {bl:List aJ} (h:bl.length<=1000000):f13 nm pa re bl=some (nat bl.length):=by
 apply ok_eq;unfold f13;refine bC (fun y=>y=nat bl.length) ?_ fun y hy=>aF hy;refine bJ (fun s:Int×List Int =>∃i:Nat,s=((i:Int),nat i)/\i<=bl.length) (fun s=>bl.length-s.1.toNat) ⟨0,rfl,by omega⟩ fun s ⟨i,e,hi⟩ => ?_;subst e;refine dG (fun hc => ?_) fun hc => ?_
 .have hc:i<bl.length:=by simpa using hc
  refine bT (by unfold aX;simp [Dy];omega) (aF ⟨⟨i+1,?_,by omega⟩,?_⟩)
  .rw [Uh];simp only [aH (x:=(i:Int)+1) (by omega)];rfl
  .simp only [aH (x:=(i:Int)+1) (by omega)];omega
 .have hc:¬ i<bl.length:=by simpa using hc
  exact aF (show nat i=nat bl.length by rw [show i=bl.length by omega])
theorem ND {nm:List UInt8} {pa re:Int} {bl:List aJ} (h:bl.length<=1000000):f21 nm pa re bl=some (nat bl.length):=zl (nm:=nm) (pa:=pa) (re:=re) h
structure Ord (n:Nat) (od:List Int):Prop where
 perm:od.Perm (nat n)
 zero:od.getD 0 0=0
 pos:0<n
theorem Ord.len {n:Nat} {od:List Int} (h:Ord n od):od.length=n:=by rw [h.perm.length_eq,Dy]
theorem Ord.mem {n:Nat} {od:List Int} (h:Ord n od) {x:Int}:x∈od↔0<=x/\x<n:=h.perm.mem_iff.trans ahp
theorem Ord.at {n:Nat} {od:List Int} (h:Ord n od) {i:Nat} (hi:i<n):0<=od.getD i 0/\od.getD i 0<n:=by
 rw [getD_at _ (by rw [h.len];exact hi)];exact h.mem.1 (QR _)
theorem Wy (n:Nat):(nat n).Pairwise fun x y=>x<=y:=by
 unfold nat;rw [List.pairwise_map];exact List.pairwise_le_range.imp fun h=>by simp;omega
theorem aeG {od:List Int} {n:Nat}:(od.mergeSort fun x y=>decide (x<=y))=nat n↔od.Perm (nat n):=by
 constructor
 .intro h;rw [<-h];exact (List.mergeSort_perm od _).symm
 .intro h;refine List.Perm.eq_of_pairwise (le:=fun x y=>x<=y) (fun a b _ _ h1 h2=>Int.le_antisymm h1 h2) ?_ (Wy n) ((List.mergeSort_perm od _).trans h);exact (List.pairwise_mergeSort (le:=fun x y:Int=>decide (x<=y)) (fun a b c h1 h2=>by simp at *;omega) (fun a b=>by simp;omega) od).imp fun h=>by simpa using h
theorem aeH {a b:List Int} (hl:a.length<=1000000):f35 a b=some (decide (a=b)):=by
 apply ok_eq;unfold f35;refine dG (fun h=>aF ?_) fun h => ?_
 .have h:¬ (a.length:Int)=b.length:=by simpa using h
  exact (decide_eq_false fun e=>h (by rw [e])).symm
 have h:a.length=b.length:=by simp at h;omega
 refine iF (fun _=>a=b) (iL a.length (fun i=>a.getD i 0=b.getD i 0) (by omega) (fun i hi _=>goT (decide_eq_true (by omega)) (bT (aG.2 (by omega)) (bT (aG.2 (by omega)) (dG (fun hc=>aF ?_) fun hc=>aF ⟨rfl,by simpa using hc⟩)))) fun hall=>b_ (decide_eq_false (by omega)) (aF ?_)) fun _ hab=>aF (decide_eq_true hab).symm
 .have hc:¬ a.getD i 0=b.getD i 0:=by simpa using hc
  exact (decide_eq_false fun e=>hc (by rw [e])).symm
 .refine Kd h fun i h1 h2 => ?_;have:=hall i h1
  rwa [getD_at _ h1,getD_at _ h2] at this
theorem NG {nm:List UInt8} {pa re:Int} {bl:List aJ} {od:List Int} (h:bl.length<=1000000) (h0:0<bl.length) (hl:od.length<=1000000):Ok (f19 nm pa re bl od) fun y=>y=true↔Ord bl.length od:=by
 unfold f19;refine bC (fun y=>y=true↔od=[]\/od.getD 0 0≠0) (dG (fun hc=>aF ?_) fun hc => ?_) fun y hy=>dG (fun hc=>aF ?_) fun hc => ?_
 .have:od.length=0:=by simpa using hc
  simp [Wb.1 this]
 .have hc:¬ od.length=0:=by simpa using hc
  refine bT (aG.2 (by omega)) (aF ?_);have:od≠[]:=fun e=>hc (by rw [e];rfl);simp only [vb,Wf,decide_eq_false_iff_not];exact ⟨fun h=>.inr h,fun h=>h.resolve_left this⟩
 .refine ⟨(fun h=>by cases h),fun ho => ?_⟩;rcases hy.1 hc with e | e
  .have:=ho.len;rw [e] at this;simp at this;omega
  .exact absurd ho.zero e
 .have hc:¬ (od=[]\/od.getD 0 0≠0):=fun h=>by rw [hy.2 h] at hc;cases hc
  refine fA (KA (by omega)) (fA (akJ hl) (fA (ND h) (fA (aeH (by simpa using hl)) (aF ?_))));rw [decide_eq_true_iff,aeG];exact ⟨fun hp=>⟨hp,qz fun hz=>hc (.inr hz),h0⟩,fun ho=>ho.perm⟩
theorem WA {nm:List UInt8} {pa re:Int} {bl:List aJ} {l:List Int} {j:Int} (hb:Bytes l) (hj:0<=j) (h:bl.length<=60000) (h0:0<bl.length):Ok (f10 nm pa re bl l j) fun y=>y.1=l/\0<=y.2.1/\Ord bl.length y.2.2:=by
 unfold f10;refine fA (zl (by omega)) (bC (fun y=>y.1=l/\0<=y.2.1/\Ord bl.length y.2.2) ?_ fun y hy=>aF hy);refine bJ (fun s:Int×List Int×Int×List Int =>∃i:Nat,s.1=i/\1<=i/\i<=bl.length/\s.2.1=l/\0<=s.2.2.1/\Ord bl.length s.2.2.2) (fun s=>bl.length-s.1.toNat) ⟨1,rfl,by omega,by omega,rfl,hj,List.Perm.refl _,akL h0,h0⟩ fun ⟨i',l',j,od⟩ ⟨i,e,h1,h2,e2,h3,ho⟩ => ?_;simp only at e e2 h3 ho;subst e;subst e2;have hl:=ho.len;refine dG (fun hc => ?_) fun hc=>aF ⟨rfl,h3,ho⟩;have hc:i<od.length:=by simpa using hc
 refine goN hb h3 (by omega) fun x k hk ax bx => ?_;have bx:=bx (by omega);obtain ⟨q,hq⟩ :∃q:Nat,1+x=q:=⟨(1+x).toNat,by omega⟩;have hw:dJ (1+x)=(q:Int):=(aH (by omega)).trans hq;simp only [hw,Q6];have hi1:=aG.2 (show 0<=(i:Int)/\(i:Int)<od.length by omega);refine bT (aG.2 (by omega)) (bT hi1 (bT hi1 (bT (aG.2 (by rw [UB];omega)) (aF ⟨⟨i+1,?_,by omega,by omega,rfl,hk,?_,?_,h0⟩,?_⟩))))
 .simp only [aH (x:=(i:Int)+1) (by omega)];rfl
 .simp only;rw [getD_at _ (show q<od.length by omega),getD_at _ hc];exact (List.set_set_perm hc (by omega)).trans ho.perm
 .have hz:=ho.zero;simp only;rw [jg (by rw [UB];omega),if_neg (by omega),jg hc,if_neg (by omega)];exact hz
 .simp only [aH (x:=(i:Int)+1) (by omega)];omega
structure FO (bl:List aJ):Prop where
 len:0<bl.length/\bl.length<=256
 wt:zu bl<=2048
 ins :∀b∈bl,∀i∈b.instrs,f28 i.kind i.op i.dst i.a i.b i.value i.args=some (jq i)/\f40 i.kind i.op i.dst i.a i.b i.value i.args=some (jq i)/\CG (jq i)
 trm:wU bl
 ta :∀b,b<bl.length->(bl.getD b ah).bG≠1->0<=(bl.getD b ah).j_/\(bl.getD b ah).j_<=249
theorem Rt.fo {g:List aB} {sg:List (List UInt8×Nat)} {cl:Int} {f:aY} (h:Rt g sg cl f) (hg:g.length<=32) (hs:sg.length<=64) (hc:cl<=64):FO f.blocks:=
 ⟨⟨h.good.2.1,h.len⟩,h.wt,fun b hb i hi=>YU (h.ins b hb i hi) hg hs hc h.reg.2,h.good.2.2.1,fun b hb hk=>by
  have:=(h.trm b hb).reg hk;have hr:=h.reg.2;exact ⟨this.1,by have:=this.2;omega⟩⟩
structure GU (n:Nat) (u:dw):Prop where
 z:VC u.gX u.eY u.gZ u.lG u.lH 0 u.dn u.fG
 c:VC u.gX u.eY u.gZ u.lG u.lH u.fU u.dn u.fG
 j:0<=u.to↔13<=u.gX/\u.gX<=15
 t:u.to<n
def uT (t:C8):dw:=dw.mk t.1 t.2.1 t.2.2.1 t.2.2.2.1 t.2.2.2.2.1 t.2.2.2.2.2.1 t.2.2.2.2.2.2.1 t.2.2.2.2.2.2.2 (-1)
theorem aoz {t:C8} {n:Nat} (h:CG t):GU n (uT t):=⟨h.2.2.2,h.2.2.1,⟨fun h'=>absurd h' (show ¬ (0:Int)<=-1 by omega),fun h'=>absurd h' h.2.1⟩,by show (-1:Int)<n;omega⟩
theorem Ui {op a to:Int} {n:Nat} (ho:13<=op/\op<=15) (ha:0<=a/\a<=249) (ht:0<=to/\to<n):GU n (jU op a to):=by
 have:VC op 0 0 a 0 0 false eInt:=⟨by omega,(fun h=>by cases h),by omega,by omega,by omega,ha,by omega,(fun x hx=>by cases hx),by simp,by unfold uV;rw [if_neg (by omega),if_neg (by omega),if_neg (by omega),if_neg (by omega),if_pos ho];rfl⟩;exact ⟨this,this,⟨fun _=>ho,fun _=>ht.1⟩,ht.2⟩
theorem aoA {a:Int} {n:Nat} (ha:0<=a/\a<=249):GU n (jU 16 a (-1)):=by
 have:VC 16 0 0 a 0 0 false eInt:=⟨by omega,(fun h=>by cases h),by omega,by omega,by omega,ha,by omega,(fun x hx=>by cases hx),by simp,rfl⟩;exact ⟨this,this,⟨fun h=>absurd h (by show ¬ (0:Int)<=-1;omega),fun h=>absurd h.2 (by show ¬ (16:Int)<=15;omega)⟩,by show (-1:Int)<n;omega⟩
theorem akM {k a t e n:Int} {m:Nat} (hk:k=1\/k=2\/k=3) (ha:k≠1->0<=a/\a<=249) (ht:k≠3->0<=t/\t<m) (he:k=2->0<=e/\e<m) :∀u∈Lr k a t e n,GU m u:=by
 unfold Lr;split
 .intro u hu;rw [QP] at hu;subst hu;exact aoA (ha (by omega))
 rename_i h3;have ht:=ht h3;split
 .split
  .intro u hu;cases hu
  .intro u hu;rw [QP] at hu;subst hu;exact Ui (by omega) (by omega) ht
 rename_i h1;have h2:k=2:=by omega
 have ha:=ha (by omega);have he:=he h2;split
 .intro u hu;rw [QP] at hu;subst hu;exact Ui (by omega) ha ht
 split
 .intro u hu;rw [QP] at hu;subst hu;exact Ui (by omega) ha he
 .intro u hu;rcases QQ.1 hu with e1 | hu
  .subst e1;exact Ui (by omega) ha ht
  .rw [QP] at hu;subst hu;exact Ui (by omega) (by omega) he
theorem P8 (k a t e n:Int):(Lr k a t e n).length<=2:=by
 unfold Lr;repeat' split
 all_goals simp
noncomputable def Uj (b:aJ) (n:Int):List dw:=(b.instrs.map fun i=>uT (jq i))++Lr b.bG b.j_ b.fB b.bV n
def nxt (od:List Int) (i:Nat):Int:=if i+1<od.length then od.getD (i+1) 0 else -1
noncomputable def uY (bl:List aJ) (od:List Int):Nat->List dw
 |0=>[]
 |i+1=>uY bl od i++Uj (bl.getD (od.getD i 0).toNat ah) (nxt od i)
noncomputable def st (bl:List aJ) (od:List Int) (i:Nat):Int:=(uY bl od i).length
section
variable {bl:List aJ} {od:List Int} {nm:List UInt8} {pa re:Int}
theorem FO.blk (h:FO bl) {b:Nat} (hb:b<bl.length):(bl.getD b ah).instrs.length<=2047/\bl.getD b ah∈bl:=by
 have hm:bl.getD b ah∈bl:=by rw [getD_at _ hb];exact QR _
 have:=Wq _ hm;have:=h.wt;exact ⟨by omega,hm⟩
theorem ahq {b:aJ} {n:Int}:(Uj b n).length<=b.instrs.length+2:=by
 unfold Uj;have:=P8 b.bG b.j_ b.fB b.bV n;simp only [Ys,ZD];omega
theorem Ia (h:FO bl) (ho:Ord bl.length od) :∀i,i<=bl.length->(uY bl od i).length<=2049*i
 |0,_=>by simp [uY]
 |i+1,hi=>by
  have:=Ia h ho i (by omega);have ha:=ho.at (i:=i) (by omega);have:=(h.blk (b:=(od.getD i 0).toNat) (by omega)).1;have:=ahq (b:=bl.getD (od.getD i 0).toNat ah) (n:=nxt od i);simp only [uY,Ys];omega
theorem Dz (bl:List aJ) (od:List Int) :∀k i,(uY bl od i).length<=(uY bl od (i+k)).length
 |0,i=>Z1 _
 |k+1,i=>by
  have:=Dz bl od k i;show _<=(uY bl od (i+k)++_).length;rw [Ys];omega
theorem aeJ (h:FO bl) (ho:Ord bl.length od) :∀i,i<=bl.length->∀u∈uY bl od i,GU bl.length u
 |0,_=>fun u hu=>by cases hu
 |i+1,hi=>fun u hu=>by
  have ha:=ho.at (i:=i) (by omega);have hb:(od.getD i 0).toNat<bl.length:=by omega
  rcases X2.1 hu with hu | hu
  .exact aeJ h ho i (by omega) u hu
  .rcases X2.1 hu with hu | hu
   .obtain ⟨i',hi',e⟩:=X1.1 hu;subst e;exact aoz (h.ins _ (h.blk hb).2 i' hi').2.2
   .obtain ⟨e1,e2⟩:=h.trm.1 _ hb;exact akM (h.trm.2 _ hb) (h.ta _ hb) e1 e2 u hu
theorem aeK (h:FO bl) (ho:Ord bl.length od):f26 nm pa re bl od=some (uY bl od bl.length,(List.range bl.length).map (st bl od)):=by
 apply ok_eq;have hlen:=h.len;have hol:=ho.len;unfold f26;refine bC (fun y=>y=(uY bl od bl.length,(List.range bl.length).map (st bl od))) ?_ fun y hy=>aF hy;refine bJ (fun s:Int×List dw×List Int =>∃i:Nat,s=((i:Int),uY bl od i,(List.range i).map (st bl od))/\i<=bl.length) (fun s=>bl.length-s.1.toNat) ⟨0,rfl,by omega⟩ fun s ⟨i,e,hi⟩ => ?_;subst e;refine dG (fun hc => ?_) fun hc => ?_
 rotate_left
 .have hc:¬ i<od.length:=by simpa using hc
  have:i=bl.length:=by omega
  subst this;exact aF rfl
 have hc:i<od.length:=by simpa using hc
 have ha:=ho.at (i:=i) (by omega);have hb:(od.getD i 0).toNat<bl.length:=by omega
 have Io:=Ia h ho i hi;have hx:=(h.blk hb).1;have hin:=aG.2 (show 0<=od.getD i 0/\od.getD i 0<bl.length by omega);obtain ⟨b,hbe⟩ :∃b,bl.getD (od.getD i 0).toNat ah=b:=⟨_,rfl⟩;have hins:=h.ins b (hbe▸(h.blk hb).2);rw [hbe] at hx;refine bT (aG.2 (by omega)) (bT (by unfold aX;simp;omega) (bT hin ?_));simp only [Q6,hbe];refine bC (fun y=>y=uY bl od i++b.instrs.map fun i=>uT (jq i)) ?_ fun s16 e => ?_
 .refine bJ (fun s:Int×List dw =>∃k:Nat,s=((k:Int),uY bl od i++(b.instrs.take k).map fun i=>uT (jq i))/\k<=b.instrs.length) (fun s=>b.instrs.length-s.1.toNat) ⟨0,by simp,by omega⟩ fun s ⟨k,e,hk⟩ => ?_;subst e;refine dG (fun hc => ?_) fun hc => ?_
  .have hc:k<b.instrs.length:=by simpa using hc
   refine bT (aG.2 (by simp only;omega)) ?_;simp only [Q6,getD_at _ hc];refine fA (hins _ (QR hc)).2.1 (bT (by unfold aX;simp;omega) (aF ⟨⟨k+1,?_,by omega⟩,?_⟩))
   .rw [aH (by omega),take_snoc hc,Xs,<-Wa];rfl
   .simp only [aH (x:=(k:Int)+1) (by omega)];omega
  .have hc:¬ k<b.instrs.length:=by simpa using hc
   refine aF (show uY bl od i++(b.instrs.take k).map (fun i=>uT (jq i))=_ from ?_);rw [Kf (by omega)]
 subst e;have hw:dJ ((i:Int)+1)=(i+1:Nat):=(aH (by omega)).trans rfl;refine bC (fun y=>y=nxt od i) ?_ fun y e => ?_
 .simp only [hw];unfold nxt;refine dG (fun hc => ?_) fun hc => ?_
  .have hc:i+1<od.length:=by have:=of_decide_eq_true hc;omega
   rw [if_pos hc];exact bT (aG.2 (by omega)) (aF rfl)
  .rw [if_neg (by have:=of_decide_eq_false hc;omega)];exact aF rfl
 subst e;have hel:=P8 b.bG b.j_ b.fB b.bV (nxt od i);refine bT hin ?_;refine fA akK (bT (by unfold aX;simp;omega) (aF ⟨⟨i+1,?_,by omega⟩,?_⟩))
 .rw [hw,JS,Xs];show _=(_,uY bl od i++Uj (bl.getD (od.getD i 0).toNat ah) (nxt od i),_);rw [hbe];unfold Uj;rw [Wa];rfl
 .simp only [hw,Q6];omega
end
noncomputable def szU (u:dw):Nat:=szc u.gX u.dn u.fG.length
noncomputable def Bd (us:List dw) (k:Nat):Nat:=((us.take k).map szU).sum
noncomputable def WB (us:List dw):List Int:=(List.range (us.length+1)).map fun k=>(Bd us k:Int)
theorem nZ (us:List dw):(WB us).length=us.length+1:=by simp [WB]
theorem tH {us:List dw} {k:Nat} (h:k<=us.length):(WB us).getD k 0=Bd us k:=by
 rw [getD_at _ (by rw [nZ];omega)];simp [WB]
theorem yR {us:List dw} {k:Nat} (h:k<us.length):Bd us (k+1)=Bd us k+szU (us.getD k aQ):=by
 unfold Bd;rw [take_snoc h,Xs,qu,getD_at _ h];simp
theorem akN {op:Int} {wd:Bool} {n:Nat} (hn:n<=250):szc op wd n<=1005:=by
 unfold szc;have hz :∀x,Kz wd n x<=251:=fun x=>by
  unfold Kz
  repeat' split
  all_goals omega
 have :∀l:List UInt8,(l.map (Kz wd n)).sum<=251*l.length:=fun l=>by
  induction l with
  |nil=>simp
  |cons x l ih=>have:=hz x;simp only [Qf,K9,Wg];omega
 have:=this (rowOf op);have:=(P7 op).1;omega
def GL (n:Nat) (us:List dw):Prop:=us.length<=600000/\∀u∈us,GU n u
section
variable {n:Nat} {us:List dw} {fi:List Int}
theorem GL.at (h:GL n us) {k:Nat} (hk:k<us.length):GU n (us.getD k aQ):=h.2 _ (by rw [getD_at _ hk];exact QR _)
theorem Bf (h:GL n us) (k:Nat):Bd us k<=603000000:=by
 have key :∀l:List dw,(∀u∈l,GU n u)->(l.map szU).sum<=1005*l.length:=fun l=>by
  induction l with
  |nil=>intro _;simp
  |cons u l ih=>
   intro hl;have:=ih fun u hu=>hl u (VM _ hu);have:=akN (op:=u.gX) (wd:=u.dn) (hl u Kg).z.n;simp only [Qf,K9,Wg];unfold szU at *;omega
 have:=key (us.take k) fun u hu=>h.2 u (W7 hu);have h1:=h.1;have:(us.take k).length<=us.length:=by rw [UI];omega
 unfold Bd;omega
theorem Uk (h:GL n us):f27 us=some (WB us):=by
 apply ok_eq;have h1:=h.1;unfold f27;refine bC (fun y=>y=WB us) ?_ fun y hy=>aF hy;refine bJ (fun s:Int×List Int =>∃k:Nat,s=((k:Int),(List.range (k+1)).map fun k=>(Bd us k:Int))/\k<=us.length) (fun s=>us.length-s.1.toNat) ⟨0,by simp [Bd],by omega⟩ fun s ⟨k,e,hk⟩ => ?_;subst e;refine dG (fun hc => ?_) fun hc => ?_
 rotate_left
 .have hc:¬ k<us.length:=by simpa using hc
  have:k=us.length:=by omega
  subst this;exact aF rfl
 have hc:k<us.length:=by simpa using hc
 have ha:=Bf h k;have ha':=Bf h (k+1);have hs:=yR hc;refine bT (aG.2 (by simp only;omega)) (bT (aG.2 (by simp;omega)) ?_);have hg:=h.at hc;simp only [Q6];refine bC (fun y=>y=(szU (us.getD k aQ):Int)) ?_ fun y e => ?_
 .unfold f32;exact bC _ (aiJ hg.c) fun y hy=>aF (by rw [hy.2];rfl)
 subst e;have hl:((List.range (k+1)).map fun k=>(Bd us k:Int)).getD k 0=Bd us k:=by rw [getD_at _ (by simp)];simp
 rw [hl];refine bT (by unfold aX;simp;omega) (aF ⟨⟨k+1,?_,by omega⟩,?_⟩)
 .rw [aH (by omega),aH (by omega),JS (n:=k+1),Xs,Qf,Vn,hs,Int.natCast_add];rfl
 .simp only [aH (x:=(k:Int)+1) (by omega)];omega
noncomputable def dst (fi:List Int) (us:List dw) (j:Nat):Int:=(Bd us (fi.getD (us.getD j aQ).to.toNat 0).toNat:Int)-(Bd us (j+1):Int)
noncomputable def far (fi:List Int) (us:List dw) (j:Nat):Bool:=decide (0<=(us.getD j aQ).to)&&!(us.getD j aQ).dn&&(decide (dst fi us j < -128)||decide (127<dst fi us j))
def wid (u:dw):dw:=dw.mk u.gX u.eY u.gZ u.lG u.lH u.fU true u.fG u.to
noncomputable def Ls (fi:List Int) (us:List dw):List dw:=(List.range us.length).map fun j=>if far fi us j=true then wid (us.getD j aQ) else us.getD j aQ
theorem n_:(Ls fi us).length=us.length:=by simp [Ls]
theorem Bg {j:Nat} (h:j<us.length):(Ls fi us).getD j aQ=if far fi us j=true then wid (us.getD j aQ) else us.getD j aQ:=by
 rw [getD_at _ (by rw [n_];exact h)];simp [Ls]
theorem DC (h :∀j,j<us.length->far fi us j=false):Ls fi us=us:=by
 refine Kd n_ fun j h1 h2 => ?_;have:=Bg (fi:=fi) h2;rw [getD_at _ h1,h j h2,getD_at _ h2] at this;simpa using this
theorem akO {u:dw} (h:GU n u) (ht:0<=u.to):GU n (wid u):=by
 obtain ⟨z,c,j,t⟩:=h;have hj:=j.1 ht;have hv :∀v:Int,uV u.gX v u.dn=true->u.dn=false->uV u.gX v true=true:=fun v hv hw=>by
  rw [hw] at hv;unfold uV at hv ⊢;rw [if_neg (by omega),if_neg (by omega),if_neg (by omega),if_neg (by omega),if_pos hj] at hv ⊢;simp at hv ⊢;omega
 have hv' :∀v:Int,uV u.gX v u.dn=true->uV u.gX v true=true:=fun v h=>by
  cases hw:u.dn
  .exact hv v h hw
  .rw [hw] at h;exact h
 exact ⟨⟨z.o,fun _=>hj,z.a3,z.a4,z.d,z.a,z.b,z.s,z.n,hv' _ z.v⟩,⟨c.o,fun _=>hj,c.a3,c.a4,c.d,c.a,c.b,c.s,c.n,hv' _ c.v⟩,j,t⟩
theorem P9 (h:GL n us):GL n (Ls fi us):=by
 refine ⟨by rw [n_];exact h.1,fun u hu => ?_⟩;obtain ⟨j,hj,e⟩:=Wt hu;have hj':j<us.length:=by rw [n_] at hj;exact hj
 have:=Bg (fi:=fi) hj';rw [getD_at _ hj,e] at this;rw [this];split
 .rename_i hf;unfold far at hf;simp only [Qt,decide_eq_true_eq] at hf;exact akO (h.at hj') hf.1.1
 .exact h.at hj'
def cnt (us:List dw):Nat:=((List.range us.length).map fun j=>if (us.getD j aQ).dn then 0 else 1).sum
theorem sum_lt {f g:Nat->Nat} :∀{n:Nat},(∀j,j<n->g j<=f j)->((List.range n).map g).sum<=((List.range n).map f).sum/\((∃j,j<n/\g j<f j)->((List.range n).map g).sum<((List.range n).map f).sum)
 |0,_=>⟨Z1 _,fun ⟨j,h,_⟩=>absurd h (qv _)⟩
 |n+1,h=>by
  obtain ⟨h1,h2⟩:=sum_lt (f:=f) (g:=g) (n:=n) fun j hj=>h j (by omega);have hn:=h n (by omega);simp only [JS,Xs,qu,Qf,Vn,K9,List.sum_nil];refine ⟨by omega,fun ⟨j,hj,hlt⟩ => ?_⟩;by_cases e:j=n
  .subst e;omega
  .have:=h2 ⟨j,by omega,hlt⟩;omega
theorem YV (h :∃j,j<us.length/\far fi us j=true):cnt (Ls fi us)<cnt us:=by
 unfold cnt;rw [n_];refine (sum_lt fun j hj => ?_).2 ?_
 .rw [Bg hj];split
  .exact vh _
  .exact Z1 _
 .obtain ⟨j,hj,hf⟩:=h;refine ⟨j,hj,?_⟩;rw [Bg hj,if_pos hf];unfold far at hf;simp only [Qt,Wf] at hf;rw [hf.1.2];exact Nat.one_pos
inductive Rn (fi:List Int):List dw->List dw->Prop
 |done {us:List dw}:(∀j,j<us.length->far fi us j=false)->Rn fi us us
 |step {us uf:List dw}:(∃j,j<us.length/\far fi us j=true)->Rn fi (Ls fi us) uf->Rn fi us uf
theorem Rn.det {us a b:List dw} (h1:Rn fi us a) (h2:Rn fi us b):a=b:=by
 induction h1 with
 |done h=>
  cases h2 with
  |done _=>rfl
  |step h' _=>obtain ⟨j,hj,e⟩:=h';rw [h j hj] at e;cases e
 |step h _ ih=>
  cases h2 with
  |done h'=>obtain ⟨j,hj,e⟩:=h;rw [h' j hj] at e;cases e
  |step _ h'=>exact ih h'
structure FI (n m:Nat) (fi:List Int):Prop where
 len:fi.length=n
 rng :∀x∈fi,0<=x/\x<=m
theorem FI.at {m:Nat} (h:FI n m fi) {t:Int} (ht:0<=t/\t<n):inB t fi.length=true/\0<=fi.getD t.toNat 0/\fi.getD t.toNat 0<=m:=by
 refine ⟨aG.2 (by rw [h.len];omega),?_⟩;have hl:=h.len;rw [getD_at _ (by omega)];exact h.rng _ (QR _)
end
end Go.Fg.YtapemkmlinejmaaGreatDoor

