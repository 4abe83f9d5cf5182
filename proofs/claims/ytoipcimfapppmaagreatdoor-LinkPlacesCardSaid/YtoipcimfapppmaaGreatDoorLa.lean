/-
  The plain proofs: what the functions compute answers as the law says.
-/
import Derived.Test.YtoipcimfapppmaaGreatDoorFgB
import Derived.Test.YtoipcimfapppmaaGreatDoorZd
import Derived.Laws.RangeString
set_option linter.unusedSimpArgs false
set_option linter.unusedVariables false
set_option linter.unusedSectionVars false
namespace Go.Fg.YtoipcimfapppmaaGreatDoor
open Go.Fw
theorem afp{l:List Int}{a z:Nat}{v:Int}(ha:a<l.length):(l.set a v).getD z 0=if z=a then v else l.getD z 0:=by
 rw [List.getD_eq_getElem?_getD,List.getD_eq_getElem?_getD];by_cases h:z=a
 .subst h;rw [vl ha,if_pos rfl];rfl
 .rw [List.getElem?_set_ne (λe=>h e.symm),if_neg h]
def Ends(bs:List aK):Prop :=∀b,b<bs.length->((bs.getD b au).bT≠3->0<=(bs.getD b au).f_/\(bs.getD b au).f_<bs.length)/\((bs.getD b au).bT=2->0<=(bs.getD b au).dF/\(bs.getD b au).dF<bs.length)
def abL(bs:List aK):Prop :=∀S:Nat->Prop,S 0->(∀b,b<bs.length->S b->((bs.getD b au).bT≠3->S (bs.getD b au).f_.toNat)/\((bs.getD b au).bT=2->S (bs.getD b au).dF.toNat))->∀b,b<bs.length->S b
def succs(k t e:Int):List Int:=if k=2/\e≠t then [t,e] else if k=1\/k=2 then [t] else []
theorem U1(k a t e:Int):f104 k a t e=some (succs k t e):=by
 apply ok_eq;unfold f104 succs;refine bD (λy=>y=decide (k=2/\e≠t)) ?_ λy hy=>?_
 .refine dX (λh=>aI ?_) (λh=>aI ?_)
  .have h:k=2:=by simpa using h
   by_cases h2:e=t<;>simp [h,h2]
  .have h:¬ k=2:=by simpa using h
   simp [h]
 subst hy;refine dX (λh=>aI ?_) (λh=>?_)
 .rw [if_pos (by simpa using h)]
 .rw [if_neg (by simpa using h)];refine bD (λy=>y=decide (k=1\/k=2)) ?_ λy hy=>?_
  .refine dX (λh=>aI ?_) (λh=>aI ?_)
   .have h:k=1:=by simpa using h
    simp [h]
   .have h:¬ k=1:=by simpa using h
    simp [h]
  .subst hy;refine dX (λh=>aI ?_) (λh=>aI ?_)
   .rw [if_pos (by simpa using h)]
   .rw [if_neg (by simpa using h)]
def n_(bs:List aK)(b:Nat):List Int:=succs (bs.getD b au).bT (bs.getD b au).f_ (bs.getD b au).dF
def y9(bs:List aK):Prop:=Ends bs/\∀b,b<bs.length->(bs.getD b au).bT=1\/(bs.getD b au).bT=2\/(bs.getD b au).bT=3
theorem Xu{bs:List aK}(h:y9 bs){b:Nat}(hb:b<bs.length) :∀x∈n_ bs b,0<=x/\x<bs.length:=by
 obtain ⟨h1,h2⟩:=h;obtain ⟨e1,e2⟩:=h1 b hb;have hk:=h2 b hb;intro x hx;unfold n_ succs at hx;split at hx
 .rename_i hc;rcases QQ.1 hx with rfl | hx
  .exact e1 (by omega)
  .rw [QP] at hx;rw [hx];exact e2 hc.1
 .split at hx
  .rename_i hc;rw [QP] at hx;rw [hx];exact e1 (by omega)
  .cases hx
def cntF(l:List Bool):Nat:=l.count false
theorem U2{l:List Bool}{k:Nat}(hk:k<l.length)(hf:l.getD k false=false):cntF (l.set k true)+1=cntF l:=by
 unfold cntF;rw [getD_at _ hk] at hf;have hp:0<l.count false:=List.count_pos_iff.2 (hf▸X1 hk);rw [List.count_set hk,hf];simp;omega
theorem uY{l:List Bool}{a z:Nat}{v:Bool}(ha:a<l.length):(l.set a v).getD z false=if z=a then v else l.getD z false:=by
 rw [List.getD_eq_getElem?_getD,List.getD_eq_getElem?_getD];by_cases h:z=a
 .subst h;rw [vl ha,if_pos rfl];rfl
 .rw [List.getElem?_set_ne (λe=>h e.symm),if_neg h]
structure Mk(bs:List aK)(m:List Bool)(st:List Int):Prop where
 len:m.length=bs.length
 zero:m.getD 0 false=true
 stk :∀x∈st,(0<=x/\x<bs.length)/\m.getD x.toNat false=true
 all :∀S:Nat->Prop,S 0->(∀b,b<bs.length->S b->∀x∈n_ bs b,S x.toNat)->∀b,b<bs.length->m.getD b false=true->S b
theorem U3{nm:List UInt8}{a b:Int}{bs:List aK}(hE:y9 bs)(h0:0<bs.length)(hl:bs.length<=1000000) :
  Ok (f82 nm a b bs) λm=>Mk bs m []/\∀b,b<bs.length->m.getD b false=true->∀x∈n_ bs b,m.getD x.toNat false=true:=by
 unfold f82;refine bW (DF.2 (by omega)) ?_;refine b_ (decide_eq_false (by simp only [Jn,Qt];omega)) (bW (aF.2 (by simp only [Jn,Qt];omega)) ?_);refine bD (λm=>Mk bs m []/\∀b,b<bs.length->m.getD b false=true->∀x∈n_ bs b,m.getD x.toNat false=true) ?_ λy hy=>aI hy;have hz:(List.replicate ((bs.length:Int)).toNat false).length=bs.length:=by simp
 refine bQ (λs:List Bool×List Int=>Mk bs s.1 s.2/\s.2.length+cntF s.1<=bs.length/\∀b,b<bs.length->s.1.getD b false=true->(b:Int)∈s.2\/∀x∈n_ bs b,s.1.getD x.toNat false=true) (λs=>2*cntF s.1+s.2.length)
  ⟨⟨by simp,by rw [uY (by rw [hz];exact h0)];simp,λx hx=>?_,λS s0 _ b hb hm=>?_⟩,?_,λb hb hm=>.inl ?_⟩ λs ⟨h1,hsz,h2⟩=>?_
 .rw [QP] at hx;subst hx;refine ⟨by omega,?_⟩;rw [uY (by rw [hz];exact h0)];simp
 .simp only at hm;rw [uY (by rw [hz];exact h0)] at hm;split at hm
  .rename_i e;rw [e];exact s0
  .rw [getD_at _ (by rw [hz];exact hb)] at hm;simp at hm
 .have hc:=U2 (l:=List.replicate ((bs.length:Int)).toNat false) (k:=0) (by rw [hz];exact h0) (by rw [getD_at _ (by rw [hz];exact h0)];simp);have:cntF (List.replicate ((bs.length:Int)).toNat false)=bs.length:=by simp [cntF,List.count_replicate]
  simp only [ZD,Int.toNat_zero];omega
 .simp only at hm;rw [uY (by rw [hz];exact h0)] at hm;split at hm
  .rename_i e;simp [e]
  .rw [getD_at _ (by rw [hz];exact hb)] at hm;simp at hm
 obtain ⟨m,st⟩:=s;simp only at h1 h2 hsz;refine dX (λhne=>?_) (λhe=>aI ?_)
 rotate_left
 .have:st=[]:=by simpa using he
  subst this;exact ⟨h1,λb hb hm=>(h2 b hb hm).resolve_left (by simp)⟩
 have hpos:0<st.length:=by simpa using hne
 have hw:dL ((st.length:Int)-1)=((st.length-1:Nat):Int):=by rw [aG (by omega)];omega
 simp only [hw,Qt];refine bW (aF.2 (by omega)) (bW (by simp) ?_);have hlast:st.getD (st.length-1) 0∈st:=by rw [getD_at _ (by omega)];exact X1 _
 have hst:st=st.take (st.length-1)++[st.getD (st.length-1) 0]:=by
  rw [getD_at _ (by omega),<-take_snoc (by omega),show st.length-1+1=st.length from by omega,K4]
 obtain ⟨hx1,hx2⟩:=h1.stk _ hlast;generalize st.getD (st.length-1) 0=x at hlast hst hx1 hx2 ⊢;obtain ⟨q,rfl⟩ :∃n:Nat,x=n:=⟨x.toNat,by omega⟩;rw [Qt] at hx2;have hq:q<bs.length:=by omega
 have htl:(st.take (st.length-1)).length=st.length-1:=by simp
 generalize st.take (st.length-1)=st' at hst htl ⊢;refine bW (aF.2 (by omega)) ?_;simp only [Qt];refine gy (U1 _ _ _ _) ?_;have atd:=Xu hE hq;have apr:succs (bs.getD q au).bT (bs.getD q au).f_ (bs.getD q au).dF=n_ bs q:=rfl;rw [apr];refine bD (λy=>Mk bs y.1 y.2/\2*cntF y.1+y.2.length<=2*cntF m+st'.length/\y.2.length+cntF y.1<=st'.length+cntF m/\(∀b,b<bs.length->m.getD b false=true->y.1.getD b false=true)/\(∀z∈st',z∈y.2)/\
   (∀b,b<bs.length->y.1.getD b false=true->m.getD b false=false->(b:Int)∈y.2)/\∀x∈n_ bs q,y.1.getD x.toNat false=true) ?_ λy ⟨a1,a2,a3,a4,a5,a6,a7⟩=>aI ⟨⟨a1,?_,λb hb hm=>?_⟩,?_⟩
 .have hm0:Mk bs m st':=⟨h1.len,h1.zero,λx hx=>h1.stk x (by rw [hst];exact Zs _ hx),h1.all⟩;refine akX (n_ bs q) (λi s=>(i,s.1,s.2)) (λs x=>if s.1.getD x.toNat false then s else (s.1.set x.toNat true,s.2++[x]))
   (λi s=>Mk bs s.1 s.2/\2*cntF s.1+s.2.length<=2*cntF m+st'.length/\s.2.length+cntF s.1<=st'.length+cntF m/\(∀b,b<bs.length->m.getD b false=true->s.1.getD b false=true)/\(∀z∈st',z∈s.2)/\
    (∀b,b<bs.length->s.1.getD b false=true->m.getD b false=false->(b:Int)∈s.2)/\∀j,(hj:j<(n_ bs q).length)->j<i->s.1.getD ((n_ bs q)[j]).toNat false=true)
   (s0:=(m,st')) rfl ⟨hm0,XS _,XS _,λ_ _ h=>h,λ_ h=>h,λb _ h h'=>(by rw [h] at h';cases h'),λj _ h=>by omega⟩ (λi h s ⟨b1,b2,b3,b4,b5,b6,b7⟩ _=>?_) (λs ⟨b1,b2,b3,b4,b5,b6,b7⟩ _=>?_)
  rotate_left
  .refine b_ (decide_eq_false (by simp only;omega)) (aI ⟨b1,b2,b3,b4,b5,b6,λx hx=>?_⟩);obtain ⟨j,hj,e⟩:=W8 hx;rw [<-e];exact b7 j hj hj
  obtain ⟨mk,sk⟩:=s;simp only at b1 b2 b3 b4 b5 b6 b7;have hs2:(n_ bs q).length<=2:=by unfold n_ succs;(repeat' split)<;>simp
  have hmem:=X1 h;have hxr:=atd _ hmem;have hlen:=b1.len;refine goT (decide_eq_true (by simp only;omega)) (bW (aF.2 ⟨by simp only;omega,by simp only;omega⟩) ?_);have e:(n_ bs q).getD i 0=(n_ bs q)[i]:=getD_at _ h;simp only [Qt,e];have hnew :∀(mk':List Bool) (b':Nat),b'<bs.length->mk'.getD b' false=true->True:=λ_ _ _ _=>trivial;refine bW (aF.2 (by omega)) ?_;generalize hgx:(n_ bs q)[i]=x at hmem hxr ⊢;have hxl:x.toNat<mk.length:=by omega
  refine bD (λy=>y=if mk.getD x.toNat false then (mk,sk) else (mk.set x.toNat true,sk++[x])) ?_ λy hy=>?_
  .refine dX (λhc=>?_) (λhc=>aI ?_)
   .have hc:mk.getD x.toNat false=false:=by simpa using hc
    refine bW (aF.2 ⟨by omega,by omega⟩) ?_;refine bW (aF.2 (by omega)) (bW (aF.2 ⟨by omega,by omega⟩) (bW (by unfold aX;simp;omega) (aI ?_)));rw [if_neg (by rw [hc];simp)]
   .have hc:mk.getD x.toNat false=true:=by simpa using hc
    rw [if_pos hc]
  .subst hy;refine aI ⟨by rw [aG (x:=(i:Int)+1) (by omega)],?_⟩;by_cases hc:mk.getD x.toNat false=true
   .simp only [if_pos hc];refine ⟨b1,b2,b3,b4,b5,b6,λj hj hji=>?_⟩;by_cases e2:j=i
    .subst e2;rw [hgx];exact hc
    .exact b7 j hj (by omega)
   .simp only [if_neg hc];have hcf:mk.getD x.toNat false=false:=by simpa using hc
    have hcnt:=U2 hxl hcf;have hset :∀z,(mk.set x.toNat true).getD z false=if z=x.toNat then true else mk.getD z false:=λz=>uY hxl
    refine ⟨⟨by simp [hlen],?_,λz hz=>?_,λS s0 hcl z hz hm=>?_⟩,by simp;omega,by simp;omega,λz hz hm=>?_,λz hz=>Zs _ (b5 z hz),λz hz hm hf=>?_,λj hj hji=>?_⟩
    .rw [hset];split
     .rfl
     .exact b1.zero
    .rcases Xs.1 hz with hz | hz
     .obtain ⟨r1,r2⟩:=b1.stk z hz;refine ⟨r1,?_⟩;rw [hset];split
      .rfl
      .exact r2
     .rw [QP] at hz;subst hz;refine ⟨hxr,?_⟩;rw [hset,if_pos rfl]
    .rw [hset] at hm;split at hm
     .rename_i e2;rw [e2];exact hcl q hq (h1.all S s0 hcl q hq hx2) x hmem
     .exact b1.all S s0 hcl z hz hm
    .rw [hset];split
     .rfl
     .exact b4 z hz hm
    .rw [hset] at hm;split at hm
     .rename_i e2;refine Vn _ ?_;rw [QP];omega
     .exact Zs _ (b6 z hz hm hf)
    .rw [hset];by_cases e2:j=i
     .subst e2;rw [hgx,if_pos rfl]
     .split
      .rfl
      .exact b7 j hj (by omega)
 .have:st.length=st'.length+1:=by rw [hst];simp
  (try simp only);omega
 .try simp only at hm ⊢
  cases hmb:m.getD b false with
  |false=>exact .inl (a6 b hb hm hmb)
  |true=>
   by_cases e:b=q
   .subst e;exact .inr a7
   .rcases h2 b hb hmb with h | h
    .rw [hst] at h;rcases Xs.1 h with h | h
     .exact .inl (a5 _ h)
     .rw [QP] at h;omega
    .refine .inr λx hx=>?_;have:=Xu hE hb x hx;exact a4 x.toNat (by omega) (h x hx)
 .have:st.length=st'.length+1:=by rw [hst];simp
  (try simp only);omega
def Good(f:aO):Prop:=f.blocks.length<=1000/\0<f.blocks.length/\y9 f.blocks/\abL f.blocks
def idx(m:List Bool):Nat->List Nat
 |0=>[]
 |i+1=>idx m i++if m.getD i false then [i] else []
def rk(m:List Bool)(i:Nat):Nat:=(idx m i).length
theorem ZH(m:List Bool)(i:Nat):rk m (i+1)=rk m i+if m.getD i false then 1 else 0:=by
 show (idx m i++if m.getD i false then [i] else []).length=(idx m i).length+_;rw [XN];split<;>rfl
theorem DY{m:List Bool} :∀{n j:Nat},j∈idx m n->j<n/\m.getD j false=true
 |n+1,j,h=>by
  rcases Xs.1 h with h | h
  .have:=DY h;exact ⟨by omega,this.2⟩
  .split at h
   .rename_i e;rw [QP] at h;subst h;exact ⟨by omega,e⟩
   .cases h
theorem Le{m:List Bool} :∀{n j:Nat},j<n->m.getD j false=true->(idx m n)[rk m j]?=some j
 |n+1,j,h,hm=>by
  unfold idx;by_cases e:j=n
  .subst e;show (idx m j++if m.getD j false then [j] else [])[(idx m j).length]?=_;rw [W6 (XS _),if_pos hm,Nat.sub_self];rfl
  .have:=Le (n:=n) (by omega) hm;rw [Wa (Q3.1 this).1];exact this
theorem afq(m:List Bool)(i:Nat):rk m i<=i:=by
 induction i with
 |zero=>exact XS _
 |succ i ih=>rw [ZH];split<;>omega
def ren(m:List Bool)(t:aK):aK:=
 { t with f_:=if t.bT=3 then t.f_ else (rk m t.f_.toNat:Int),dF:=if t.bT=2 then (rk m t.dF.toNat:Int) else t.dF }
def xB(m:List Bool)(bs:List aK):List aK:=(idx m bs.length).map λj=>ren m (bs.getD j au)
theorem DZ{bs:List aK}{b:Nat}:((bs.getD b au).bT=1\/(bs.getD b au).bT=2->(bs.getD b au).f_∈n_ bs b)/\((bs.getD b au).bT=2->(bs.getD b au).dF∈n_ bs b):=by
 unfold n_ succs;constructor
 .intro h;split
  .simp
  .first
   |(rw [if_pos h];simp)
   |simp
 .intro h;split
  .simp
  .rename_i hc
   first
    |rw [if_pos (.inr h)]
    |skip
   have:(bs.getD b au).dF=(bs.getD b au).f_:=Decidable.byContradiction λe=>hc ⟨h,e⟩;rw [this];exact QP.2 rfl
theorem abM{bs:List aK}{m:List Bool}(hE:y9 bs)(h0:0<bs.length)(hM:Mk bs m [])(hc :∀b,b<bs.length->m.getD b false=true->∀x∈n_ bs b,m.getD x.toNat false=true) :
  0<(xB m bs).length/\(xB m bs).length<=bs.length/\y9 (xB m bs)/\abL (xB m bs):=by
 have hlen:(xB m bs).length=rk m bs.length:=by unfold xB rk;simp
 have hlt :∀j,j<bs.length->m.getD j false=true->rk m j<(xB m bs).length:=by
  intro j hj hm;have:=(Q3.1 (Le hj hm)).1;rw [hlen];exact this
 have hget :∀p,p<(xB m bs).length->∃j,j<bs.length/\m.getD j false=true/\rk m j=p/\(xB m bs).getD p au=ren m (bs.getD j au):=by
  intro p hp;have hp':p<(idx m bs.length).length:=by unfold xB at hp;simpa using hp
  have hm:=DY (X1 hp');refine ⟨(idx m bs.length)[p],hm.1,hm.2,?_,?_⟩
  .have h1:=Le hm.1 hm.2;have key :∀n,∀a b:Nat,(idx m n)[a]?=(idx m n)[b]?->a<(idx m n).length->a=b:=by
    intro n
    induction n with
    |zero=>intro a b _ h;simp [idx] at h
    |succ n ih=>
     intro a b hab ha;unfold idx at hab ha;by_cases hn:m.getD n false=true
     .rw [if_pos hn] at hab ha;rw [XN] at ha;by_cases ha2:a<(idx m n).length
      .rw [Wa ha2] at hab;by_cases hb2:b<(idx m n).length
       .rw [Wa hb2] at hab;exact ih a b hab ha2
       .rw [W6 (by omega),Q2 ha2] at hab;have hbb:b-(idx m n).length=0:=by
         have:=(Q3.1 hab.symm).1;simp at this;omega
        rw [hbb] at hab;have:=DY (X1 ha2);simp at hab;omega
      .have haa:a=(idx m n).length:=by simp at ha;omega
       rw [W6 (by omega),haa,Nat.sub_self] at hab;by_cases hb2:b<(idx m n).length
       .rw [Wa hb2,Q2 hb2] at hab;have:=DY (X1 hb2);simp at hab;omega
       .rw [W6 (by omega)] at hab;have:=(Q3.1 hab.symm).1;simp at this;omega
     .rw [if_neg hn,K7] at hab ha;exact ih a b hab ha
   refine (key bs.length p _ ?_ hp').symm;rw [h1,Q2 hp']
  .unfold xB;rw [List.getD_eq_getElem?_getD,Ys,Q2 hp'];rfl
 have hz:rk m 0=0:=rfl;refine ⟨by have:=hlt 0 h0 hM.zero;omega,by rw [hlen];exact afq _ _,⟨λp hp=>?_,λp hp=>?_⟩,λS s0 hS p hp=>?_⟩
 .obtain ⟨j,hj,hm,_,e⟩:=hget p hp;obtain ⟨e1,e2⟩:=hE.1 j hj;have hk:=hE.2 j hj;have hs:=DZ (bs:=bs) (b:=j);rw [e];unfold ren;simp only;refine ⟨λhk3=>?_,λhk2=>?_⟩
  .rw [if_neg hk3];have:=hlt _ (by have:=e1 hk3;omega) (hc j hj hm _ (hs.1 (by omega)));omega
  .rw [if_pos hk2];have:=hlt _ (by have:=e2 hk2;omega) (hc j hj hm _ (hs.2 hk2));omega
 .obtain ⟨j,hj,hm,_,e⟩:=hget p hp;rw [e];exact hE.2 j hj
 .obtain ⟨j,hj,hm,hr,_⟩:=hget p hp;have:=hM.all (λb=>m.getD b false=true/\S (rk m b)) ⟨hM.zero,s0⟩ (λb hb ⟨hbm,hbS⟩ x hx=>⟨hc b hb hbm x hx,?_⟩) j hj hm
  .rw [<-hr];exact this.2
  .have hbl:=hlt b hb hbm;obtain ⟨j',hj',hm',hr',e'⟩:=hget _ hbl;have hjb:j'=b:=by
    have h1:=Le hj' hm';have h2:=Le hb hbm;rw [hr',h2] at h1;exact (Wc h1).symm
   subst hjb;obtain ⟨c1,c2⟩:=hS _ hbl hbS;rw [e'] at c1 c2;unfold ren at c1 c2;simp only at c1 c2;unfold n_ succs at hx;split at hx
   .rename_i hk;rcases QQ.1 hx with rfl | hx
    .have:=c1 (by omega);rw [if_neg (by omega)] at this;simpa using this
    .rw [QP] at hx;subst hx;have:=c2 hk.1;rw [if_pos hk.1] at this;simpa using this
   .split at hx
    .rename_i hk;rw [QP] at hx;subst hx;have:=c1 (by omega);rw [if_neg (by omega)] at this;simpa using this
    .cases hx
theorem afr(m:List Bool)(i:Nat):idx m (i+1)=idx m i++if m.getD i false then [i] else []:=rfl
theorem Xv{nm:List UInt8}{a b:Int}{bs:List aK}(hE:y9 bs)(h0:0<bs.length)(hl:bs.length<=1000000) :
  Ok (f49 nm a b bs) λy=>y.1=nm/\y.2.1=a/\y.2.2.1=b/\0<y.2.2.2.length/\y.2.2.2.length<=bs.length/\y9 y.2.2.2/\abL y.2.2.2/\∀x∈y.2.2.2,∃t∈bs,x.instrs=t.instrs/\x.bT=t.bT/\x.lY=t.lY:=by
 unfold f49;refine bD _ (U3 hE h0 hl) λm ⟨hM,hc⟩=>?_;have hml:=hM.len;refine bW (DF.2 (by omega)) ?_;refine bD (λy=>y.length=bs.length/\∀j,j<bs.length->y.getD j 0=(rk m j:Int)) ?_ λnums ⟨hn1,hn2⟩=>?_
 .refine bQ (λs:Int×Int×List Int =>∃i:Nat,s.2.1=i/\i<=bs.length/\s.1=(rk m i:Int)/\s.2.2.length=bs.length/\∀j,j<i->s.2.2.getD j 0=(rk m j:Int)) (λs=>bs.length-s.2.1.toNat)
   ⟨0,rfl,by omega,rfl,by simp [hml],λj h=>by omega⟩ λs ⟨i,e1,e2,e3,e4,e5⟩=>?_
  obtain ⟨k,i',l⟩:=s;simp only at e1 e3 e4 e5;subst e1;subst e3;refine dX (λhi=>?_) (λhi=>aI ⟨e4,λj hj=>e5 j ?_⟩)
  rotate_left
  .simp at hi;omega
  have hi:i<bs.length:=by simp at hi;omega
  have hrk:=afq m i;refine bW (aF.2 ⟨by simp only;omega,by simp only;omega⟩) (bW (aF.2 ⟨by simp only;omega,by simp only;omega⟩) ?_);simp only [Qt];refine bD (λy=>y=(rk m (i+1):Int)) ?_ λy hy=>?_
  .rw [ZH];refine dX (λhm=>aI ?_) (λhm=>aI ?_)
   .rw [if_pos hm,aG (by omega)];simp
   .rw [if_neg (by rw [hm];simp)];simp
  .subst hy;refine aI ⟨⟨i+1,by simp only;rw [aG (x:=(i:Int)+1) (by omega)];simp,by omega,rfl,by simp [e4],λj hj=>?_⟩,by simp only;rw [aG (x:=(i:Int)+1) (by omega)];omega⟩;simp only;rw [afp (by omega)];split
   .rename_i e;rw [e]
   .exact e5 j (by omega)
 refine bD (λy=>y=(nm,a,b,xB m bs)) ?_ λy hy=>?_
 rotate_left
 .subst hy;obtain ⟨c1,c2,c3,c4⟩:=abM hE h0 hM hc;exact aI ⟨rfl,rfl,rfl,c1,c2,c3,c4,λx hx=>by
   obtain ⟨j,hj,e⟩:=QR.1 hx;have hj:=(DY hj).1;exact ⟨bs.getD j au,by rw [getD_at _ hj];exact X1 _,by subst e;exact ⟨rfl,rfl,rfl⟩⟩⟩
 refine bQ (λs:Int×List UInt8×Int×Int×List aK =>∃i:Nat,i<=bs.length/\s=((i:Int),nm,a,b,(idx m i).map λj=>ren m (bs.getD j au))) (λs=>bs.length-s.1.toNat)
  ⟨0,by omega,rfl⟩ λs ⟨i,e2,e⟩=>?_
 subst e;refine dX (λhi=>?_) (λhi=>aI ?_)
 rotate_left
 .have:i=bs.length:=by simp at hi;omega
  subst this;rfl
 have hi:i<bs.length:=by simp at hi;omega
 have hrk:=afq m i;refine bD (λy=>y=(nm,a,b,(idx m (i+1)).map λj=>ren m (bs.getD j au))) ?_ λy hy=>?_
 rotate_left
 .subst hy;refine aI ⟨⟨i+1,by omega,?_⟩,by simp only;rw [aG (x:=(i:Int)+1) (by omega)];omega⟩;simp only;rw [aG (x:=(i:Int)+1) (by omega)];rfl
 refine bW (aF.2 ⟨by simp only;omega,by simp only;omega⟩) ?_;simp only [Qt];rw [afr];refine dX (λhm=>aI ?_) (λhm=>?_)
 .have hm:m.getD i false=false:=by simpa using hm
  rw [if_neg (by rw [hm];simp),K7]
 have hm:m.getD i false=true:=by simpa using hm
 rw [if_pos hm];obtain ⟨t1,t2⟩:=hE.1 i hi;refine bW (aF.2 (by omega)) ?_;have iP:ren m (bs.getD i au)={ bs.getD i au with f_:=if (bs.getD i au).bT=3 then (bs.getD i au).f_ else (rk m (bs.getD i au).f_.toNat:Int),dF:=if (bs.getD i au).bT=2 then (rk m (bs.getD i au).dF.toNat:Int) else (bs.getD i au).dF }:=rfl;have hmap:(idx m i++[i]).map (λj=>ren m (bs.getD j au))=(idx m i).map (λj=>ren m (bs.getD j au))++[ren m (bs.getD i au)]:=by simp
 have hll:((idx m i).map λj=>ren m (bs.getD j au)).length=rk m i:=by unfold rk;simp
 rw [hmap];generalize (idx m i).map (λj=>ren m (bs.getD j au))=acc at hll ⊢;rw [iP];refine bD (λy=>y=((bs.getD i au).instrs,(bs.getD i au).bT,(bs.getD i au).lY,(if (bs.getD i au).bT=3 then (bs.getD i au).f_ else (rk m (bs.getD i au).f_.toNat:Int)),(bs.getD i au).dF,(bs.getD i au).line,(bs.getD i au).gY,(bs.getD i au).gG)) ?_ λy hy=>?_
 .refine dX (λhk=>?_) (λhk=>aI ?_)
  .have hk:¬ (bs.getD i au).bT=3:=by simpa using hk
   have:=t1 hk;refine bW (aF.2 (by omega)) (aI ?_);rw [if_neg hk,hn2 _ (by omega)]
  .have hk:(bs.getD i au).bT=3:=by simpa using hk
   rw [if_pos hk]
 subst hy;refine bD (λy=>y=((bs.getD i au).instrs,(bs.getD i au).bT,(bs.getD i au).lY,(if (bs.getD i au).bT=3 then (bs.getD i au).f_ else (rk m (bs.getD i au).f_.toNat:Int)),(if (bs.getD i au).bT=2 then (rk m (bs.getD i au).dF.toNat:Int) else (bs.getD i au).dF),(bs.getD i au).line,(bs.getD i au).gY,(bs.getD i au).gG)) ?_ λy hy=>?_
 .refine dX (λhk=>?_) (λhk=>aI ?_)
  .have hk:(bs.getD i au).bT=2:=by simpa using hk
   have:=t2 hk;refine bW (aF.2 ⟨by simp only;omega,by simp only;omega⟩) (aI ?_);simp only;rw [if_pos hk,hn2 _ (by omega)]
  .have hk:¬ (bs.getD i au).bT=2:=by simpa using hk
   (try simp only)
   rw [if_neg hk]
 subst hy;refine bW (by unfold aX;simp;omega) (aI rfl)
def Bytes(l:List Int):Prop:=l.length<=9223372036854775807/\∀x∈l,0<=x/\x<=255
theorem bytes_at{l:List Int}(h:Bytes l){n:Int}(h0:0<=n)(h1:n<l.length):0<=l.getD n.toNat 0/\l.getD n.toNat 0<=255:=by
 rw [getD_at 0 (by omega)];exact h.2 _ (X1 _)
def U4(n:Int)(l:List Int)(y:Int×(List Int×Int)):Prop:=y.2.1=l/\0<=y.2.2/\0<=y.1/\(1<=n->y.1<n)/\(n<=1->y.1=0)
theorem Og{rec:Int->List Int->Int->Option (Int×(List Int×Int))}{n:Int}{l:List Int}{i:Int}(hl:Bytes l)(hi:0<=i)(hn:n<=65536)
  (hrec:256<n->∀j,0<=j->Ok (rec 256 l j) (U4 256 l)):Ok (ahz rec n l i) (U4 n l):=by
 unfold ahz;simp only [Ie,W_,zC,aeh,Y0,Uo,aF,not_iff];have tail:(n≥1)->i<l.length->(0<=i/\i<(l.length:Int))/\(256<n->Ok (rec 256 l (dL (i+1))) λy=>¬ n=0/\U4 n l (Int.tmod (dL (dL (256*dL (l.getD i.toNat 0))+y.1)) n,y.2.1,y.2.2))/\(¬ 256<n->¬ n=0/\U4 n l (Int.tmod (dL (l.getD i.toNat 0)) n,l,dL (i+1))):=by
  intro h1 h2;have hb:=bytes_at hl hi h2;have hl':=hl.1;rw [aG (x:=i+1) (by omega),aG (x:=l.getD i.toNat 0) (by omega),aG (x:=256*l.getD i.toNat 0) (by omega)];refine ⟨⟨hi,h2⟩,λh3=>jq (hrec h3 (i+1) (by omega)) λy hy=>?_,λh3=>⟨by omega,?_⟩⟩
  .obtain ⟨q1,q2,q3,q4,q5⟩:=hy;have q4:=q4 (by omega);rw [aG (by omega)];refine ⟨by omega,q1,q2,?_⟩;have:=tmod_lt (a:=256*l.getD i.toNat 0+y.1) (b:=n) (by omega) (by omega);exact ⟨this.1,λ_=>this.2,λ_=>by omega⟩
  .have:=tmod_lt (a:=l.getD i.toNat 0) (b:=n) hb.1 (by omega);refine ⟨rfl,by simp;omega,this.1,λ_=>this.2,λ_=>?_⟩;have e:n=1:=by omega
   subst e;have:=this.2;have:=this;simp only;omega
 refine ⟨λh=>⟨λ_=>⟨rfl,hi,Wz _,λh=>by simp only;omega,λ_=>rfl⟩,λh0=>by cases h0⟩,λh=>⟨λh1=>⟨rfl,hi,Wz _,λh=>by simp only;omega,λ_=>rfl⟩,λh1=>?_⟩⟩;exact tail (by omega) (by omega)
theorem Oh(k:Nat):ahA (k+1)=ahz (ahA k):=rfl
theorem aie{n:Int}{l:List Int}{i:Int}(hl:Bytes l)(hi:0<=i)(hn:n<=65536):Ok (f24 n l i) (U4 n l):=by
 have e:f24 n l i=ahA (1048574+2) n l i:=rfl;rw [e,Oh];refine Og hl hi hn λ_ j hj=>?_;rw [Oh];exact Og hl hj (by omega) λh=>absurd h (by omega)
theorem alU{l:List Int}{n:Int}(hl:Bytes l)(hn:0<=n):Ok (f7 l n) λy=>y.2=0/\Bytes y.1:=by
 unfold f7;simp only [Ie,W_,zC,aeh,Y0,Uo,KR];refine ⟨λh=>⟨⟨⟨by omega,hn⟩,by omega⟩,trivial,?_⟩,λh=>⟨trivial,hl⟩⟩;simp only [Int.toNat_zero,List.drop_zero];exact ⟨by have:=hl.1;simp;omega,λx hx=>hl.2 x (ZZ hx)⟩
theorem abN(k:Nat):Xg (k+1)=ahC (Xg k):=rfl
theorem G7 :∀(k:Nat) (n:Int),0<=n->n<k->k<=1048576->Ok (Xg k n) λs=>s.length<=k
 |0,n,h0,h1,_=>by omega
 |k+1,n,h0,h1,h2=>by
  rw [abN];unfold ahC;refine dX (λhc=>?_) (λhc=>aI (by simp));have hc:10<=n:=by simpa using hc
  have hd:Int.tdiv n 10=n/10:=Int.tdiv_eq_ediv_of_nonneg h0;have hw:dL (Int.tdiv n 10)=n/10:=by rw [hd];exact aG (by omega)
  rw [hw];refine bD _ (G7 k (n/10) (by omega) (by omega) (by omega)) λy hy=>bW (oK.2 (by simp;omega)) (aI (by simp;omega))
theorem abO{n:Int}(h0:0<=n)(h1:n<1048576):Ok (f47 n) λs=>s.length<=1048576:=G7 _ n h0 h1 (XS _)
theorem goN{β:Type}{n:Int}{l:List Int}{i:Int}{f:Int×List Int×Int->Option β}{Q:β->Prop}(hb:Bytes l)(hi:0<=i)(hn:n<=65536)
  (k :∀x j,0<=j->0<=x->(1<=n->x<n)->Ok (f (x,l,j)) Q):Ok (Option.bind (f24 n l i) f) Q:=
 bD _ (aie hb hi hn) λ⟨x,l',j⟩ ⟨(e:l'=l),h1,h2,h3,_⟩=>by subst e;exact k x j h1 h2 h3
theorem jC{α:Type}{l:List α}{a z:Nat}{v d:α}(ha:a<l.length):(l.set a v).getD z d=if z=a then v else l.getD z d:=by
 rw [List.getD_eq_getElem?_getD,List.getD_eq_getElem?_getD];by_cases h:z=a
 .subst h;rw [vl ha,if_pos rfl];rfl
 .rw [List.getElem?_set_ne (λe=>h e.symm),if_neg h]
theorem alV{A α:Type}{a b:A}{x:Option α}{Q:α->Prop}:Ok (yH a b x) Q↔a=b/\Ok x Q:=by
 unfold yH;split
 .rename_i e;exact ⟨λh=>⟨e,h⟩,λh=>h.2⟩
 .rename_i e;exact ⟨λ⟨_,h,_⟩=>(by cases h),λh=>absurd h.1 e⟩
theorem goK{A α:Type}{a b:A}{x:Option α}{Q:α->Prop}(e:a=b)(h:Ok x Q):Ok (yH a b x) Q:=alV.2 ⟨e,h⟩
def iW(fs:List aB):List (List UInt8×Nat):=fs.map λf=>(f.name,f.params.length)
def PG(a:Bool)(g:List aA)(nm:List UInt8):Prop :=∃x∈g,x.name=nm/\decide (0<x.size)=a
def NV(g:List aA)(lo:List (List UInt8))(nm:List UInt8):Prop:=nm∈lo\/PG false g nm
inductive RX(g:List aA)(sg:List (List UInt8×Nat))(lo:List (List UInt8)):Nat->aQ->Prop
 |leaf {n:Nat} {k o v i:Int} {nm:List UInt8}:k=1\/k=12->RX g sg lo (n+1) (aQ.mk k o v i nm [])
 |name {n:Nat} {o v i:Int} {nm:List UInt8}:NV g lo nm->RX g sg lo (n+1) (aQ.mk 13 o v i nm [])
 |func {n:Nat} {o v i:Int} {nm:List UInt8} {q:Nat}:(nm,q)∈sg->RX g sg lo (n+1) (aQ.mk 11 o v i nm [])
 |elem {n:Nat} {o v i:Int} {nm:List UInt8} {a:aQ}:PG true g nm->RX g sg lo n a->RX g sg lo (n+1) (aQ.mk 4 o v i nm [a])
 |un {n:Nat} {o v i:Int} {nm:List UInt8} {a:aQ}:o=1\/o=2->RX g sg lo n a->RX g sg lo (n+1) (aQ.mk 5 o v i nm [a])
 |bin {n:Nat} {o v i:Int} {nm:List UInt8} {a b:aQ}:3<=o/\o<=11->RX g sg lo n a->RX g sg lo n b->RX g sg lo (n+1) (aQ.mk 6 o v i nm [a,b])
 |lazy {n:Nat} {k o v i:Int} {nm:List UInt8} {a b:aQ}:k=7\/k=8->RX g sg lo n a->RX g sg lo n b->RX g sg lo (n+1) (aQ.mk k o v i nm [a,b])
 |call {n:Nat} {o v i:Int} {nm:List UInt8} {ar:List aQ}:1<=n->(nm,ar.length)∈sg\/NV g lo nm->ar.length<=2->(∀y∈ar,RX g sg lo n y)->RX g sg lo (n+1) (aQ.mk 9 o v i nm ar)
 |value {n:Nat} {o v i:Int} {nm:List UInt8} {f:aQ} {ar:List aQ}:ar.length<=2->RX g sg lo n f->(∀y∈ar,RX g sg lo n y)->RX g sg lo (n+1) (aQ.mk 10 o v i nm (f::ar))
theorem NV.mono{g:List aA}{lo lo':List (List UInt8)}{nm:List UInt8}(hl :∀x∈lo,x∈lo')(h:NV g lo nm):NV g lo' nm:=h.imp (hl nm) id
theorem RX.up{g:List aA}{sg:List (List UInt8×Nat)}{lo:List (List UInt8)}{n:Nat}{x:aQ}(h:RX g sg lo n x):RX g sg lo (n+1) x:=by
 induction h with
 |leaf h=>exact .leaf h
 |name h=>exact .name h
 |func h=>exact .func h
 |elem h _ ih=>exact .elem h ih
 |un h _ ih=>exact .un h ih
 |bin h _ _ i1 i2=>exact .bin h i1 i2
 |lazy h _ _ i1 i2=>exact .lazy h i1 i2
 |call h1 h2 h3 _ ih=>exact .call (by omega) h2 h3 ih
 |value h1 _ _ i1 i2=>exact .value h1 i1 i2
structure Env(l:List Int)(g:List aA)(fs:List aB)(lo:List (List UInt8)):Prop where
 b:Bytes l
 g:g.length<=100
 f0:0<fs.length
 f1:fs.length<=100
 fp :∀f∈fs,f.params.length<=2
 lo:lo.length<=100
section
variable {l:List Int} {g:List aA} {fs:List aB} {lo:List (List UInt8)}
theorem aif{a:Bool}{b i:Int}(h:Env l g fs lo)(hi:0<=i):Ok (Zh a b l i g fs lo) λy =>∃nm t j,0<=j/\(t=true->PG a g nm)/\y=(nm,t,b,l,j,g,fs,lo):=by
 unfold Zh;refine bD (λy =>∃nm t j,0<=j/\(t=true->PG a g nm)/\y=(nm,t,b,l,j,g,fs,lo)) ?_ λy ⟨nm,t,j,hj,hn,e⟩=>by subst e;exact bW (by simp) (bW (by simp) (bW (by simp) (aI ⟨nm,t,j,hj,hn,rfl⟩)))
 have hg:=h.g;refine bD (λs=>s.length<=100/\∀x∈s,PG a g x) ?_ λs ⟨hs,hn⟩=>?_
 .refine bQ (λs:Int×List (List UInt8)=>(0<=s.1/\s.1<=g.length/\s.2.length<=s.1)/\∀x∈s.2,PG a g x) (λs=>(g.length-s.1).toNat) ⟨⟨by simp,by simp,by simp⟩,λx hx=>by cases hx⟩ λ⟨q,s⟩ ⟨⟨e1,e2,e3⟩,e4⟩=>?_;simp only at e1 e2 e3 e4;refine dX (λhc=>?_) (λhc=>aI ⟨by simp only;omega,e4⟩);have hc:q<g.length:=by simpa using hc
  have hgm:g.getD q.toNat (aA.mk bI 0)∈g:=by rw [getD_at _ (by omega:q.toNat<g.length)];exact X1 _
  refine bW (aF.2 ⟨e1,hc⟩) (bD (λs'=>s'.length<=s.length+1/\∀x∈s',PG a g x) ?_ λs' ⟨hs',hn'⟩=>aI ⟨⟨⟨?_,?_,?_⟩,hn'⟩,?_⟩)
  .refine dX (λhz=>bW (aF.2 ⟨e1,hc⟩) (bW (by unfold aX;simp;omega) (aI ⟨by simp,λx hx=>?_⟩))) λ_=>aI ⟨by simp,e4⟩;rcases Xs.1 hx with hx | hx
   .exact e4 x hx
   .rw [QP] at hx;subst hx;exact ⟨_,hgm,rfl,by simpa using hz⟩
  all_goals simp only [aG (x:=q+1) (by omega)];omega
 refine dX (λ_=>aI ⟨_,_,_,hi,λh=>(by cases h),rfl⟩) λhc=>?_;have hpos:0<s.length:=by
  simp at hc;cases s with
  |nil=>exact absurd rfl hc
  |cons a s=>simp
 refine goN h.b hi (by omega) λx j hj h0 h1=>bW (aF.2 ⟨h0,h1 (by omega)⟩) (aI ⟨_,_,_,hj,λ_=>?_,rfl⟩);have h1:=h1 (by omega);exact hn _ (by rw [getD_at _ (by omega:x.toNat<s.length)];exact X1 _)
theorem goP{β:Type}{a:Bool}{b i:Int}{f:List UInt8×Bool×Int×List Int×Int×List aA×List aB×List (List UInt8)->Option β}{Q:β->Prop}(h:Env l g fs lo)(hi:0<=i)
  (k :∀nm t j,0<=j->(t=true->PG a g nm)->Ok (f (nm,t,b,l,j,g,fs,lo)) Q):Ok (Option.bind (f146 a b l i g fs lo) f) Q:=by
 refine bD (λy =>∃nm t j,0<=j/\(t=true->PG a g nm)/\y=(nm,t,b,l,j,g,fs,lo)) ?_ λy ⟨nm,t,j,hj,hn,e⟩=>by subst e;exact k nm t j hj hn
 exact bD _ (aif h hi) λy ⟨nm,t,j,hj,hn,e⟩=>by subst e;exact goK rfl (goK rfl (goK rfl (aI ⟨nm,t,j,hj,hn,rfl⟩)))
theorem aii{b i:Int}(h:Env l g fs lo)(hi:0<=i):Ok (Zi b l i g fs lo) λy =>∃k v nm j,0<=j/\RX g (iW fs) lo 1 (aQ.mk k 0 v 0 nm [])/\y=(k,0,v,0,nm,b,l,j,g,fs,lo):=by
 unfold Zi;refine bD (λy =>∃k v nm j,0<=j/\RX g (iW fs) lo 1 (aQ.mk k 0 v 0 nm [])/\y=(k,0,v,0,nm,b,l,j,g,fs,lo)) ?_ λy ⟨k,v,nm,j,hj,hk,e⟩=>by subst e;exact bW (by simp) (bW (by simp) (bW (by simp) (aI ⟨k,v,nm,j,hj,hk,rfl⟩)))
 refine goN h.b hi (by omega) λx0 j0 h0 _ _=>dX (λ_=>aI ⟨12,_,_,_,h0,.leaf (.inr rfl),rfl⟩) λ_=>iU (λy =>∃j,0<=j/\y=(b,l,j)) ?_ λy ⟨j,hj,e⟩=>?_
 .refine dX (λ_=>goP h h0 λnm t j hj hn=>dX (λht=>aI ⟨13,_,_,_,hj,.name (.inr (hn ht)),rfl⟩) λ_=>aI ⟨_,hj,rfl⟩) λ_=>bD (λ_=>True) ?_ λs _=>iU (λ_=>True) ?_ λ_ _=>aI ⟨_,h0,rfl⟩
  .exact dX (λ_=>aI trivial) λ_=>aI trivial
  .refine dX (λ_=>dX (λ_=>goN h.b h0 (by have:=h.lo;omega) λx j hj a1 a2=>?_) λ_=>aI trivial) λ_=>aI trivial;rename_i hc;have hc:0<lo.length:=by simpa using hc
   have a2:=a2 (by omega);exact bW (aF.2 ⟨a1,a2⟩) (aI ⟨13,_,_,_,hj,.name (.inl (by rw [getD_at _ (by omega:x.toNat<lo.length)];exact X1 _)),rfl⟩)
 subst e;refine goN h.b hj (by omega) λx1 j1 h1 _ _=>goN h.b h1 (by omega) λx2 j2 h2 _ _=>bD (λy =>∃v j,0<=j/\y=(v,l,j)) ?_ λy ⟨v,j,hj,e⟩=>by subst e;exact aI ⟨1,_,_,_,hj,.leaf (.inl rfl),rfl⟩
 exact dX (λ_=>goN h.b h2 (by omega) λx3 j3 h3 a3 b3=>bW (aF.2 ⟨a3,by have:=b3 (by omega);simp;omega⟩) (aI ⟨_,_,h3,rfl⟩)) λ_=>aI ⟨_,_,h2,rfl⟩
theorem goL{β:Type}{b i:Int}{f:Int×Int×Int×Int×List UInt8×Int×List Int×Int×List aA×List aB×List (List UInt8)->Option β}{Q:β->Prop}(h:Env l g fs lo)(hi:0<=i)
  (k :∀q v nm j,0<=j->RX g (iW fs) lo 1 (aQ.mk q 0 v 0 nm [])->Ok (f (q,0,v,0,nm,b,l,j,g,fs,lo)) Q):Ok (Option.bind (f151 b l i g fs lo) f) Q:=by
 refine bD (λy =>∃k v nm j,0<=j/\RX g (iW fs) lo 1 (aQ.mk k 0 v 0 nm [])/\y=(k,0,v,0,nm,b,l,j,g,fs,lo)) ?_ λy ⟨q,v,nm,j,hj,hk,e⟩=>by subst e;exact k q v nm j hj hk
 exact bD _ (aii h hi) λy ⟨q,v,nm,j,hj,hk,e⟩=>by subst e;exact goK rfl (goK rfl (goK rfl (aI ⟨q,v,nm,j,hj,hk,rfl⟩)))
theorem RX.afs{g:List aA}{sg:List (List UInt8×Nat)}{lo:List (List UInt8)}{x:aQ}(h:RX g sg lo 1 x) :∀n,RX g sg lo (n+1) x
 |0=>h
 |n+1=>(h.afs n).up
def PE(n:Nat)(b:Int)(l:List Int)(g:List aA)(fs:List aB)(lo:List (List UInt8))(y:Int×Int×Int×Int×List UInt8×List aQ×Int×List Int×Int×List aA×List aB×List (List UInt8)):Prop:=
 ∃x j,y=(x.kind,x.op,x.value,x.line,x.name,x.args,b,l,j,g,fs,lo)/\0<=j/\RX g (iW fs) lo n x
def PC(n:Nat)(b:Int)(l:List Int)(g:List aA)(fs:List aB)(lo:List (List UInt8))(y:Int×Int×Int×Int×List UInt8×Int×List Int×Int×List aA×List aB×List (List UInt8)×List aQ):Prop:=
 ∃x j,y=(x.kind,x.op,x.value,x.line,x.name,b,l,j,g,fs,lo,x.args)/\0<=j/\RX g (iW fs) lo n x
theorem ZI{n:Nat}{p b i:Int}{r}(h:Ok r (PE n b l g fs lo)):Ok (ahZ p b l i g fs lo r) (PE n b l g fs lo):=
 bD _ h λy ⟨x,j,e,h⟩=>by subst e;exact goK rfl (goK rfl (goK rfl (aI ⟨x,j,rfl,h⟩)))
theorem ZJ{n:Nat}{p b i:Int}{r}(h:Ok r (PC n b l g fs lo)):Ok (ah0 p b l i g fs lo r) (PC n b l g fs lo):=
 bD _ h λy ⟨x,j,e,h⟩=>by subst e;exact goK rfl (goK rfl (goK rfl (aI ⟨x,j,rfl,h⟩)))
theorem goX{β:Type}{rec:Qw}{d n:Nat}(h :∀b i,0<=i->Ok (rec d b l i g fs lo) (PE n b l g fs lo)){q b i:Int}{f}{Q:β->Prop}(hq:q=d)(hi:0<=i)
  (k :∀k o v i nm ar j,0<=j->RX g (iW fs) lo n (aQ.mk k o v i nm ar)->Ok (f (k,o,v,i,nm,ar,b,l,j,g,fs,lo)) Q):Ok (Option.bind (rec q b l i g fs lo) f) Q:=by
 subst hq;exact bD _ (h b i hi) λy ⟨⟨a1,a2,a3,a4,a5,a6⟩,j,e,h1,h2⟩=>by subst e;exact k _ _ _ _ _ _ j h1 h2
theorem apt{β:Type}{rec:Qx}{d n:Nat}(h :∀b i,0<=i->Ok (rec d b l i g fs lo) (PC n b l g fs lo)){q b i:Int}{f}{Q:β->Prop}(hq:q=d)(hi:0<=i)
  (k :∀k o v i nm ar j,0<=j->RX g (iW fs) lo n (aQ.mk k o v i nm ar)->Ok (f (k,o,v,i,nm,b,l,j,g,fs,lo,ar)) Q):Ok (Option.bind (rec q b l i g fs lo) f) Q:=by
 subst hq;exact bD _ (h b i hi) λy ⟨⟨a1,a2,a3,a4,a5,a6⟩,j,e,h1,h2⟩=>by subst e;exact k _ _ _ _ _ _ j h1 h2
theorem Oi{rec:Qw}{rec':Qx}{d:Nat}(h:Env l g fs lo)(hd:d<=100)(hr :∀b i,0<=i->Ok (rec d b l i g fs lo) (PE (d+1) b l g fs lo)){b i:Int}(hi:0<=i) :
  Ok (Zt rec rec' (d+1:Nat) b l i g fs lo) (PC (d+2) b l g fs lo):=by
 have hw:dL (((d+1:Nat):Int)-1)=d:=by rw [aG (by omega)];omega
 have hf0:=h.f0;have hf1:=h.f1;unfold Zt;refine bD (PC (d+2) b l g fs lo) ?_ λy ⟨x,j,e,h⟩=>by subst e;exact bW (by simp) (bW (by simp) (bW (by simp) (aI ⟨x,j,rfl,h⟩)))
 refine goN h.b hi (by omega) λx0 j0 h0 a0 b0=>bW (aF.2 ⟨a0,b0 (by omega)⟩) (goN h.b h0 (by omega) λx1 j1 h1 a1 b1=>?_);have b0:=b0 (by omega);have hfm:fs.getD x0.toNat bC∈fs:=by rw [getD_at _ (by omega:x0.toNat<fs.length)];exact X1 _
 have hsg:((fs.getD x0.toNat bC).name,(fs.getD x0.toNat bC).params.length)∈iW fs:=QR.2 ⟨_,hfm,rfl⟩;have hp2:=h.fp _ hfm;refine bD (λy =>∃t j,0<=j/\(decide (x1=2)=false->t=false)/\y=(t,l,j)) ?_ λy ⟨t,j2,h2,ht,e⟩=>?_
 .exact dX (λhc=>goN h.b h1 (by omega) λx j hj _ _=>aI ⟨_,_,hj,λh=>Bool.noConfusion (h.symm.trans hc),rfl⟩) λ_=>aI ⟨_,_,h1,λ_=>rfl,rfl⟩
 subst e;refine bD (λy =>∃(q:Int) (j:Int),0<=j/\(0<=q/\q<=2)/\(t=false->q=(fs.getD x0.toNat bC).params.length)/\y=(q,l,j)) ?_ λy ⟨q,j3,h3,hq2,hqt,e⟩=>?_
 .refine dX (λhc=>goN h.b h2 (by omega) λx j hj c0 c=>aI ⟨x,_,hj,⟨c0,by have:=c (by omega);omega⟩,λh=>Bool.noConfusion (h.symm.trans hc),rfl⟩) λ_=>aI ⟨_,_,h2,?_,λ_=>rfl,rfl⟩;show 0<=((fs.getD x0.toNat bC).params.length:Int)/\((fs.getD x0.toNat bC).params.length:Int)<=2;omega
 subst e;refine bD (λy =>∃j ar,0<=j/\(ar.length:Int)=q/\(∀x∈ar,RX g (iW fs) lo (d+1) x)/\y=(b,l,j,ar)) ?_ λy ⟨j4,ar,h4,l1,l2,e⟩=>?_
 .refine bQ (λs:Int×Int×List Int×Int×List aQ =>∃j,0<=j/\0<=s.1/\s.1<=q/\(s.2.2.2.2.length:Int)=s.1/\(∀x∈s.2.2.2.2,RX g (iW fs) lo (d+1) x)/\s=(s.1,b,l,j,s.2.2.2.2)) (λs=>(q-s.1).toNat)
   ⟨j3,h3,by simp,hq2.1,by simp,λx hx=>(by cases hx),rfl⟩ λ⟨c,b',l',j',ar⟩ ⟨j,hj,e1,e2,e3,e4,e⟩=>?_
  simp only at e1 e2 e3 e4;injection e with _ e;injection e with f1 e;injection e with f2 e;injection e with f3 e
  subst f1;subst f2;subst f3;refine dX (λhc=>?_) (λhc=>aI ⟨j',ar,hj,by have:¬ c<q:=(by simpa using hc);omega,e4,rfl⟩);have hc:c<q:=by simpa using hc
  refine goX hr hw hj λ_ _ _ _ _ _ j hj hx=>bW (by unfold aX;simp;omega) (aI ⟨⟨j,hj,?_,?_,?_,λz hz=>?_,rfl⟩,?_⟩)
  all_goals try simp only [aG (x:=c+1) (by omega)]
  .omega
  .omega
  .simp;omega
  .rcases Xs.1 hz with hz | hz
   .exact e4 z hz
   .rw [QP] at hz;subst hz;exact hx
  .omega
 subst e;refine dX (λhn=>aI ⟨aQ.mk 9 0 0 0 _ ar,j4,rfl,h4,.call (by omega) (.inl ?_) (by omega) l2⟩) λ_=>goN h.b h4 (by omega) λx5 j5 h5 _ _=>?_
 .have hn:decide (x1=2)=false:=by simpa using hn
  have:=hqt (ht hn);rw [show ar.length=(fs.getD x0.toNat bC).params.length from by omega];exact hsg
 refine bD (λy =>∃x j,0<=j/\RX g (iW fs) lo (d+1) x/\y=(b,l,j,x.kind,x.op,x.value,x.line,x.name,x.args)) ?_ λy ⟨⟨x1,x2,x3,x4,x5,x6⟩,j6,h6,hx,e⟩=>?_
 .refine dX (λ_=>goX hr hw h5 λ_ _ _ _ _ _ j hj hx=>aI ⟨aQ.mk _ _ _ _ _ _,j,hj,hx,rfl⟩) λ_=>aI ⟨aQ.mk 11 0 0 0 _ qh,j5,h5,.func hsg,rfl⟩
 subst e;refine dX (λhk=>aI ⟨aQ.mk 9 0 0 0 x5 ar,j6,rfl,h6,.call (by omega) (.inr ?_) (by omega) l2⟩) λ_=>bW (by unfold aX;simp;omega) (aI ⟨aQ.mk 10 0 0 0 bI (aQ.mk x1 x2 x3 x4 x5 x6::ar),j6,rfl,h6,.value (by omega) hx l2⟩);have hk:x1=13:=by simpa using hk
 subst hk;cases hx with
 |leaf h=>omega
 |name h=>exact h
 |lazy h _ _=>omega
theorem abP{rec:Qw}{rec':Qx}{d:Nat}(h:Env l g fs lo)(hd:d<=100)(hr :∀b i,0<=i->Ok (rec d b l i g fs lo) (PE (d+1) b l g fs lo))
  (hc :∀b i,0<=i->Ok (rec' (d+1:Nat) b l i g fs lo) (PC (d+2) b l g fs lo)) {b i:Int} (hi:0<=i) :
  Ok (Oe rec rec' (d+1:Nat) b l i g fs lo) (PE (d+2) b l g fs lo):=by
 have hw:dL (((d+1:Nat):Int)-1)=d:=by rw [aG (by omega)];omega
 unfold Oe;refine bD (PE (d+2) b l g fs lo) ?_ λy ⟨x,j,e,h⟩=>by subst e;exact bW (by simp) (bW (by simp) (bW (by simp) (aI ⟨x,j,rfl,h⟩)))
 refine bD (λy =>∃t j,0<=j/\y=(t,l,j)) ?_ λy ⟨t,j2,h2,e⟩=>?_
 .exact dX (λ_=>aI ⟨_,_,hi,rfl⟩) λ_=>goN h.b hi (by omega) λx j hj _ _=>aI ⟨_,_,hj,rfl⟩
 subst e;refine dX (λ_=>goL h h2 λq v nm j hj hq=>aI ⟨aQ.mk q 0 v 0 nm [],j,rfl,hj,hq.afs _⟩) λ_=>goN h.b h2 (by omega) λx3 j3 h3 _ _=>?_;refine dX (λ_=>goN h.b h3 (by omega) λx4 j4 h4 a4 b4=>goX hr hw h4 λ_ _ _ _ _ _ j hj hx=>gy rfl (aI ⟨aQ.mk 5 _ 0 0 bI [_],j,rfl,hj,.un (by have:=b4 (by omega);rw [aG (by omega)];omega) hx⟩)) λ_=>?_;refine dX (λ_=>goX hr hw h3 λ_ _ _ _ _ _ j hj hx=>goX hr hw hj λ_ _ _ _ _ _ j hj hz=>gy rfl (aI ⟨aQ.mk 7 _ 0 0 bI [_,_],j,rfl,hj,.lazy (.inl rfl) hx hz⟩)) λ_=>?_;refine dX (λ_=>goX hr hw h3 λ_ _ _ _ _ _ j hj hx=>goX hr hw hj λ_ _ _ _ _ _ j hj hz=>gy rfl (aI ⟨aQ.mk 8 _ 0 0 bI [_,_],j,rfl,hj,.lazy (.inr rfl) hx hz⟩)) λ_=>?_;refine bD (λ_=>True) ?_ λs _=>?_
 .exact dX (λ_=>aI trivial) λ_=>aI trivial
 refine dX (λ_=>apt hc rfl h3 λ_ _ _ _ _ _ j hj hx=>aI ⟨aQ.mk _ _ _ _ _ _,j,rfl,hj,hx⟩) λ_=>iU (λy =>∃j,0<=j/\y=(b,l,j)) ?_ λy ⟨j,hj,e⟩=>?_
 .exact dX (λ_=>goP h h3 λnm t j hj hn=>dX (λht=>goX hr hw hj λ_ _ _ _ _ _ j hj hx=>aI ⟨aQ.mk 4 0 0 0 nm [_],j,rfl,hj,.elem (hn ht) hx⟩) λ_=>aI ⟨_,hj,rfl⟩) λ_=>aI ⟨_,h3,rfl⟩
 subst e;exact goN h.b hj (by omega) λx5 j5 h5 a5 b5=>goX hr hw h5 λ_ _ _ _ _ _ j hj hx=>goX hr hw hj λ_ _ _ _ _ _ j hj hz=>gy rfl (aI ⟨aQ.mk 6 _ 0 0 bI [_,_],j,rfl,hj,.bin (by have:=b5 (by omega);rw [aG (by omega)];omega) hx hz⟩)
theorem abQ{rec:Qw}{rec':Qx}(h:Env l g fs lo){b i:Int}(hi:0<=i):Ok (Oe rec rec' (0:Nat) b l i g fs lo) (PE 1 b l g fs lo):=by
 unfold Oe;refine bD (PE 1 b l g fs lo) ?_ λy ⟨x,j,e,h⟩=>by subst e;exact bW (by simp) (bW (by simp) (bW (by simp) (aI ⟨x,j,rfl,h⟩)))
 refine bD (λy=>y=(true,l,i)) ?_ λy e=>?_
 .exact goT (decide_eq_true (by simp)) (aI rfl)
 subst e;exact goT rfl (goL h hi λq v nm j hj hq=>aI ⟨aQ.mk q 0 v 0 nm [],j,rfl,hj,hq⟩)
theorem Oj(n:Nat):(o8 (n+1)).1=Oe (Zu n) (Zv n):=rfl
theorem Ol(n:Nat):(o8 (n+1)).2=Zt (Zu n) (Zv n):=rfl
theorem zf(h:Env l g fs lo) :∀d:Nat,d<=100->∀n,2*d+1<=n->(∀b i,0<=i->Ok (Zu n d b l i g fs lo) (PE (d+1) b l g fs lo))/\∀e,e+1=d->∀b i,0<=i->Ok (Zv n d b l i g fs lo) (PC (d+1) b l g fs lo)
 |_,_,0,hn=>by omega
 |0,_,n+1,hn=>⟨λb i hi=>ZI (by rw [Oj];exact abQ h hi),λe he=>by omega⟩
 |d+1,hd,n+1,hn=>by
  have ih:=zf h d (by omega) n (by omega);obtain ⟨m,rfl⟩ :∃m,n=m+1:=⟨n-1,by omega⟩;have ih':=zf h d (by omega) m (by omega);refine ⟨λb i hi=>ZI (by rw [Oj];exact abP h (by omega) ih.1 (λb i hi=>ZJ (by rw [Ol];exact Oi h (by omega) ih'.1 hi)) hi),λe he b i hi=>ZJ (by rw [Ol];exact Oi h (by omega) ih.1 hi)⟩
end
def frN:List (List UInt8):=[[97],[98],[99],[100],[101],[102],[105],[107]]
inductive Ch{S:Type}(P:List (List UInt8)->S->List (List UInt8)->Nat->Nat->Prop):List (List UInt8)->List S->List (List UInt8)->Nat->Nat->Prop
 |nil {lo:List (List UInt8)}:Ch P lo [] lo 0 0
 |cons {lo l1 l2:List (List UInt8)} {s:S} {ss:List S} {c1 c2 k1 k2:Nat}:P lo s l1 c1 k1->Ch P l1 ss l2 c2 k2->Ch P lo (s::ss) l2 (c1+c2) (k1+k2)
theorem Ch.snoc{S:Type}{P:List (List UInt8)->S->List (List UInt8)->Nat->Nat->Prop}{lo l1 l2:List (List UInt8)}{ss:List S}{s:S}{c1 c2 k1 k2:Nat}(h:Ch P lo ss l1 c1 k1)(hs:P l1 s l2 c2 k2):Ch P lo (ss++[s]) l2 (c1+c2) (k1+k2):=by
 induction h with
 |nil=>have:=Ch.cons hs (Ch.nil (P:=P));simpa using this
 |cons a _ ih=>rw [US,US];exact .cons a (ih hs)
inductive RS1(g:List aA)(sg:List (List UInt8×Nat))(P:List (List UInt8)->bZ->List (List UInt8)->Nat->Nat->Prop)(lo:List (List UInt8)):bZ->List (List UInt8)->Nat->Nat->Prop
 |var {i:Int} {nm:List UInt8} {x:aQ}:nm∈frN->¬ nm∈lo->RX g sg lo 3 x->RS1 g sg P lo (bZ.mk 1 i nm [x] [] []) (lo++[nm]) 1 1
 |assign {i:Int} {nm:List UInt8} {x:aQ}:NV g lo nm->RX g sg lo 3 x->RS1 g sg P lo (bZ.mk 2 i nm [x] [] []) lo 1 1
 |step {i o v w u i2 i3:Int} {nm n2 n3:List UInt8}:NV g lo nm->RS1 g sg P lo (bZ.mk 2 i nm [aQ.mk 6 3 o v n2 [aQ.mk 13 w u i2 nm [],aQ.mk 1 0 1 i3 n3 []]] [] []) lo 0 1
 |store {i:Int} {nm:List UInt8} {x z:aQ}:PG true g nm->RX g sg lo 2 x->RX g sg lo 3 z->RS1 g sg P lo (bZ.mk 3 i nm [x,z] [] []) lo 1 1
 |if' {i:Int} {nm:List UInt8} {x:aQ} {th el:List bZ} {l1 l2:List (List UInt8)} {c1 c2 k1 k2:Nat}:RX g sg lo 3 x->th.length<=10->el.length<=10->Ch P lo th l1 c1 k1->Ch P l1 el l2 c2 k2->RS1 g sg P lo (bZ.mk 4 i nm [x] th el) l2 (1+c1+c2) (1+k1+k2)
 |rC {i:Int} {nm:List UInt8} {x:aQ} {th:List bZ} {l1:List (List UInt8)} {c1 k1:Nat}:RX g sg lo 3 x->th.length<=10->Ch P lo th l1 c1 k1->RS1 g sg P lo (bZ.mk 5 i nm [x] th []) l1 (1+c1) (1+k1)
 |plain {k i:Int} {nm:List UInt8} {x:aQ}:k=6\/k=7\/k=8->RX g sg lo 3 x->RS1 g sg P lo (bZ.mk k i nm [x] [] []) lo 1 1
def RS(g:List aA)(sg:List (List UInt8×Nat)):Nat->List (List UInt8)->bZ->List (List UInt8)->Nat->Nat->Prop
 |0=>λ_ _ _ _ _=>False
 |n+1=>λlo s lo' c k=>RS1 g sg (RS g sg n) lo s lo' c k
theorem Ch.mono{S:Type}{P:List (List UInt8)->S->List (List UInt8)->Nat->Nat->Prop}(hP :∀lo s l1 c k,P lo s l1 c k->∀x∈lo,x∈l1){lo l1:List (List UInt8)}{ss:List S}{c k:Nat}(h:Ch P lo ss l1 c k) :∀x∈lo,x∈l1:=by
 induction h with
 |nil=>exact λx hx=>hx
 |cons a _ ih=>exact λx hx=>ih x (hP _ _ _ _ _ a x hx)
theorem Iq{g:List aA}{sg:List (List UInt8×Nat)} :∀n lo s l1 c k,RS g sg n lo s l1 c k->∀x∈lo,x∈l1
 |0,_,_,_,_,_,h=>h.elim
 |n+1,lo,s,l1,c,k,h=>by
  have ih:=Iq (g:=g) (sg:=sg) n;cases (show RS1 g sg (RS g sg n) lo s l1 c k from h) with
  |var _ _ _=>exact λx hx=>Zs _ hx
  |assign _ _=>exact λx hx=>hx
  |step _=>exact λx hx=>hx
  |store _ _ _=>exact λx hx=>hx
  |if' _ _ _ a b=>exact λx hx=>b.mono ih x (a.mono ih x hx)
  |rC _ _ a=>exact λx hx=>a.mono ih x hx
  |plain _ _=>exact λx hx=>hx
theorem QE{g:List aA}{sg:List (List UInt8×Nat)}{n:Nat}{lo l1:List (List UInt8)}{ss:List bZ}{c k:Nat}(h:Ch (RS g sg n) lo ss l1 c k) :∀x∈lo,x∈l1:=h.mono (Iq n)
theorem o9{α:Type}{P:α->Prop}{x:α}(h:P x) :∀y∈[x],P y:=λy hy=>by rw [QP] at hy;subst hy;exact h
structure Xw(k:Int)(l:List Int)(g:List aA)(fs:List aB):Prop where
 b:Bytes l
 g:g.length<=100
 f0:0<fs.length
 f1:fs.length<=100
 fp :∀f∈fs,f.params.length<=2
 k:k<=100
section
variable {kk:Int} {l:List Int} {g:List aA} {fs:List aB}
theorem Xw.env(h:Xw kk l g fs){lo:List (List UInt8)}(hl:(lo.length:Int)<=kk):Env l g fs lo:=⟨h.b,h.g,h.f0,h.f1,h.fp,by have:=h.k;omega⟩
def PS(n:Nat)(kk:Int)(l:List Int)(g:List aA)(fs:List aB)(ZK:List (List UInt8))(b0:Int)(y:Int×Int×List UInt8×Int×List Int×Int×List aA×List aB×List aQ×List bZ×List bZ×List (List UInt8)):Prop:=
 ∃k i nm es th el b j lo,y=(k,i,nm,b,l,j,g,fs,es,th,el,lo)/\0<=j/\(0<=b/\lo.length+b<=kk)/\∃c q:Nat,RS g (iW fs) n ZK (bZ.mk k i nm es th el) lo c q/\(c:Int)+b<=b0+1/\(q:Int)+2*b<=2*b0+2
def PL(n:Nat)(kk:Int)(l:List Int)(g:List aA)(fs:List aB)(ZK:List (List UInt8))(b0:Int)(y:Int×Int×List UInt8×Int×List Int×Int×List aA×List aB×List aQ×List bZ×List (List UInt8)):Prop:=
 ∃k i nm es th b j lo,y=(k,i,nm,b,l,j,g,fs,es,th,lo)/\0<=j/\(0<=b/\lo.length+b<=kk)/\∃c q:Nat,RS g (iW fs) n ZK (bZ.mk k i nm es th []) lo c q/\(c:Int)+b<=b0+1/\(q:Int)+2*b<=2*b0+2
def PB(n:Nat)(m kk:Int)(l:List Int)(g:List aA)(fs:List aB)(ZK:List (List UInt8))(b0:Int)(y:Int×List Int×Int×List aA×List aB×List bZ×List (List UInt8)):Prop:=
 ∃ss b j lo,y=(b,l,j,g,fs,ss,lo)/\0<=j/\(0<=b/\lo.length+b<=kk)/\(ss.length<=10/\ss.length<=m)/\∃c q:Nat,Ch (RS g (iW fs) n) ZK ss lo c q/\(c:Int)+b<=b0/\(q:Int)+2*b<=2*b0
theorem aij{n:Nat}{p m m' b i b0:Int}{lo ZK r}(h:Ok r (PB n m kk l g fs ZK b0)):Ok (afi p m' b l i g fs lo r) (PB n m kk l g fs ZK b0):=
 bD _ h λy ⟨ss,b,j,lo,e,h⟩=>by subst e;exact goK rfl (goK rfl (aI ⟨ss,b,j,lo,rfl,h⟩))
theorem aik{n:Nat}{p b i b0:Int}{lo ZK r}(h:Ok r (PS n kk l g fs ZK b0)):Ok (afk p b l i g fs lo r) (PS n kk l g fs ZK b0):=
 bD _ h λy ⟨k,i,nm,es,th,el,b,j,lo,e,h⟩=>by subst e;exact goK rfl (goK rfl (aI ⟨k,i,nm,es,th,el,b,j,lo,rfl,h⟩))
theorem ail{n:Nat}{p b i b0:Int}{lo ZK r}(h:Ok r (PL n kk l g fs ZK b0)):Ok (afl p b l i g fs lo r) (PL n kk l g fs ZK b0):=
 bD _ h λy ⟨k,i,nm,es,th,b,j,lo,e,h⟩=>by subst e;exact goK rfl (goK rfl (aI ⟨k,i,nm,es,th,b,j,lo,rfl,h⟩))
theorem ain{β:Type}{rec:MO}{d n:Nat}(h :∀m b i lo,m<=4->0<=b->lo.length+b<=kk->0<=i->Ok (rec d m b l i g fs lo) (PB n (max m 0) kk l g fs lo b)){q m b i:Int}{lo f}{Q:β->Prop}(hq:q=d)(hm:m<=4)(hb:0<=b)(hl:lo.length+b<=kk)(hi:0<=i)
  (k :∀ss b' j lo' (c q:Nat),0<=j->0<=b'->lo'.length+b'<=kk->ss.length<=4->Ch (RS g (iW fs) n) lo ss lo' c q->(c:Int)+b'<=b->(q:Int)+2*b'<=2*b->Ok (f (b',l,j,g,fs,ss,lo')) Q):Ok (Option.bind (rec q m b l i g fs lo) f) Q:=by
 subst hq;exact bD _ (h m b i lo hm hb hl hi) λy ⟨ss,b,j,lo,e,h1,h2,h3,c,q,h4,h5,h6⟩=>by subst e;exact k ss b j lo c q h1 h2.1 h2.2 (by omega) h4 h5 h6
theorem U5{β:Type}{lo:List (List UInt8)}(h:Env l g fs lo){b i:Int}{f}{Q:β->Prop}(hi:0<=i)
  (k :∀k o v i nm ar j,0<=j->RX g (iW fs) lo 3 (aQ.mk k o v i nm ar)->Ok (f (k,o,v,i,nm,ar,b,l,j,g,fs,lo)) Q):Ok (Option.bind (f145 2 b l i g fs lo) f) Q:=
 goX (rec:=f145) (d:=2) (λb i hi=>(zf h 2 (by omega) 1048576 (by omega)).1 b i hi) rfl hi k
theorem ate{β:Type}{lo:List (List UInt8)}(h:Env l g fs lo){b i:Int}{f}{Q:β->Prop}(hi:0<=i)
  (k :∀k o v i nm ar j,0<=j->RX g (iW fs) lo 2 (aQ.mk k o v i nm ar)->Ok (f (k,o,v,i,nm,ar,b,l,j,g,fs,lo)) Q):Ok (Option.bind (f145 1 b l i g fs lo) f) Q:=
 goX (rec:=f145) (d:=1) (λb i hi=>(zf h 1 (by omega) 1048576 (by omega)).1 b i hi) rfl hi k
theorem atf{β:Type}{lo:List (List UInt8)}(h:Env l g fs lo){b i:Int}{f}{Q:β->Prop}(hi:0<=i)
  (k :∀k o v i nm ar j,0<=j->RX g (iW fs) lo 3 (aQ.mk k o v i nm ar)->Ok (f (k,o,v,i,nm,b,l,j,g,fs,lo,ar)) Q):Ok (Option.bind (f148 2 b l i g fs lo) f) Q:=
 apt (rec:=f148) (d:=2) (λb i hi=>(zf h 2 (by omega) 1048576 (by omega)).2 1 rfl b i hi) rfl hi k
theorem aft{b i:Int}{lo:List (List UInt8)}(hl:lo.length<=100):Ok (f143 b l i g fs lo) λy =>∃nm t,(t=true->nm∈frN/\¬ nm∈lo)/\y=(nm,t,b,l,i,g,fs,lo):=by
 refine bD (λy =>∃nm t,(t=true->nm∈frN/\¬ nm∈lo)/\y=(nm,t,b,l,i,g,fs,lo)) ?_ λy ⟨nm,t,hn,e⟩=>by subst e;exact goK rfl (goK rfl (goK rfl (aI ⟨nm,t,hn,rfl⟩)))
 unfold afd;refine bD (λy =>∃nm t,(t=true->nm∈frN/\¬ nm∈lo)/\y=(nm,t,b,l,i,g,fs,lo)) ?_ λy ⟨nm,t,hn,e⟩=>by subst e;exact bW (by simp) (bW (by simp) (bW (by simp) (aI ⟨nm,t,hn,rfl⟩)))
 refine gy (y:=frN) rfl ?_;refine iU (λ_=>True) ?_ λ_ _=>aI ⟨_,_,λh=>(by cases h),rfl⟩;have h8:frN.length=8:=rfl;refine bQ (λs:Int=>0<=s/\s<=8) (λs=>(8-s).toNat) ⟨by simp,by simp⟩ λs ⟨h1,h2⟩=>?_;refine dX (λhc=>?_) λ_=>aI trivial;have hc:s<8:=by simpa [h8] using hc
 refine bD (λu=>u=false->∀k,k<lo.length->lo.getD k bI≠frN.getD s.toNat bI) ?_ λy hy=>?_
 .refine bQ (λt:Bool×Int=>(0<=t.2/\t.2<=lo.length)/\(t.1=false->∀k:Nat,(k:Int)<t.2->lo.getD k bI≠frN.getD s.toNat bI)) (λt=>(lo.length-t.2).toNat) ⟨⟨by simp,by simp⟩,λ_ k hk=>by simp only at hk;omega⟩ λ⟨u,t⟩ ⟨⟨h1,h2⟩,h3⟩=>?_;simp only at h1 h2 h3;refine dX (λhc'=>?_) λhc'=>aI λhu k hk=>h3 hu k (by have:¬ t<lo.length:=(by simpa using hc');omega);have hc':t<lo.length:=by simpa using hc'
  refine bD (λy=>y=false->u=false/\lo.getD t.toNat bI≠frN.getD s.toNat bI) ?_ λy hy=>aI ⟨⟨⟨?_,?_⟩,λe k hk=>?_⟩,?_⟩
  .exact dX (λhu=>aI λh=>by cases h) λhu=>bW (aF.2 ⟨h1,hc'⟩) (bW (aF.2 ⟨by assumption,by rw [h8];exact hc⟩) (aI λh=>⟨hu,λe=>by simp only [e] at h;simp at h⟩))
  .simp only [aG (x:=t+1) (by omega)];omega
  .simp only [aG (x:=t+1) (by omega)];omega
  .obtain ⟨y1,y2⟩:=hy e;simp only [aG (x:=t+1) (by omega)] at hk;by_cases ek:(k:Int)=t
   .rw [show k=t.toNat from by omega];exact y2
   .exact h3 y1 k (by omega)
  .simp only [aG (x:=t+1) (by omega)];omega
 .refine dX (λhb=>bW (aF.2 ⟨h1,by rw [h8];exact hc⟩) (aI ⟨_,_,λ_=>⟨?_,λhm=>?_⟩,rfl⟩)) λ_=>aI ⟨?_,?_⟩
  .rw [getD_at _ (by rw [h8];omega:s.toNat<frN.length)];exact X1 _
  .obtain ⟨k,hk,e⟩:=W8 hm;have:=hy (by simpa using hb) k hk;rw [getD_at _ hk,e] at this;exact this rfl
  all_goals simp only [aG (x:=s+1) (by omega)];omega
theorem Xx{rec:MO}{rec':UA}{uZ:UC}{d:Int}{n:Nat}(h:Xw kk l g fs)(hr :∀b i lo,0<=b->lo.length+b+1<=kk->0<=i->Ok (rec' d b l i g fs lo) (PS n kk l g fs lo b))
  {m b i:Int} {lo} (hm:m<=4) (hb:0<=b) (hl:lo.length+b<=kk) (hi:0<=i):Ok (Zw rec rec' uZ d m b l i g fs lo) (PB n (max m 0) kk l g fs lo b):=by
 unfold Zw;refine bD (PB n (max m 0) kk l g fs lo b) ?_ λy ⟨ss,b,j,lo,e,h⟩=>by subst e;exact bW (by simp) (bW (by simp) (aI ⟨ss,b,j,lo,rfl,h⟩))
 refine bD (λy =>∃b' j ss lo',y=(b',l,j,ss,lo')/\0<=j/\(0<=b'/\lo'.length+b'<=kk)/\((ss.length:Int)<=max m 0)/\∃c q:Nat,Ch (RS g (iW fs) n) lo ss lo' c q/\(c:Int)+b'<=b/\(q:Int)+2*b'<=2*b) ?_ λy ⟨b',j,ss,lo',e,h1,h2,h3,h4⟩=>by subst e;exact aI ⟨ss,b',j,lo',rfl,h1,h2,⟨by omega,h3⟩,h4⟩
 refine bQ (λs:Int×Int×List Int×Int×List bZ×List (List UInt8) =>∃q b' j ss lo',s=(q,b',l,j,ss,lo')/\0<=j/\(0<=b'/\lo'.length+b'<=kk)/\(ss.length:Int)=q/\q<=max m 0/\∃c q:Nat,Ch (RS g (iW fs) n) lo ss lo' c q/\(c:Int)+b'<=b/\(q:Int)+2*b'<=2*b) (λs=>(max m 0-s.1).toNat)
  ⟨0,b,i,[],lo,rfl,hi,⟨hb,hl⟩,rfl,by omega,0,0,.nil,by omega,by omega⟩ λs ⟨q,b',j,ss,lo',e,h1,⟨h2,h3⟩,h4,h5,c0,q0,h6,h7,h8⟩=>?_
 subst e;refine bD (λt=>t=true->q<m/\0<b') ?_ λt ht=>dX (λe=>?_) λ_=>aI ⟨b',j,ss,lo',rfl,h1,⟨h2,h3⟩,by omega,c0,q0,h6,h7,h8⟩
 .exact dX (λh=>aI λh'=>⟨by simpa using h,by simpa using h'⟩) λ_=>aI λh=>by cases h
 obtain ⟨t1,t2⟩:=ht e;rw [show dL (b'-1)=b'-1 from aG (by have:=h.k;omega)];refine bD _ (hr (b'-1) j lo' (by omega) (by omega) h1) λy ⟨k,i',nm,es,th,el,b2,j',lo2,e,c1,c2,c3,c4,c5,c6,c7⟩=>?_;subst e;have hk:=h.k;refine bW (by unfold aX;simp;omega) (aI ⟨⟨_,b2,j',_,lo2,rfl,c1,c2,?_,?_,_,_,h6.snoc c5,?_,?_⟩,?_⟩)
 all_goals try simp only [aG (x:=q+1) (by omega)]
 .simp;omega
 .omega
 .omega
 .omega
 .omega
theorem abR{rec:MO}{rec':UA}{uZ:UC}{d n:Nat}(h:Xw kk l g fs)(hd:d<=100)(hr :∀m b i lo,m<=4->0<=b->lo.length+b<=kk->0<=i->Ok (rec d m b l i g fs lo) (PB (n+1) (max m 0) kk l g fs lo b))
  {b i:Int} {lo} (hb:0<=b) (hl:lo.length+b<=kk) (hi:0<=i):Ok (Zy rec rec' uZ (d+1:Nat) b l i g fs lo) (PL (n+2) kk l g fs lo b):=by
 have hw:dL (((d+1:Nat):Int)-1)=d:=by rw [aG (by omega)];omega
 have hE:=h.env (lo:=lo) (by omega);have hlo:=hE.lo;unfold Zy;refine bD (PL (n+2) kk l g fs lo b) ?_ λy ⟨k,i,nm,es,th,b,j,lo,e,h⟩=>by subst e;exact bW (by simp) (bW (by simp) (aI ⟨k,i,nm,es,th,b,j,lo,rfl,h⟩))
 refine goP hE hi λnm t j0 h0 hn0=>bD (λy =>∃u j,0<=j/\(u=true->0<lo.length)/\y=(u,l,j)) ?_ λy ⟨u,j,hj,hu,e⟩=>?_
 .refine dX (λhc=>goN h.b h0 (by omega) λx j hj _ _=>aI ⟨_,_,hj,λ_=>by simpa using hc,rfl⟩) λ_=>aI ⟨_,_,h0,λh=>(by cases h),rfl⟩
 subst e;refine bD (λy =>∃nm t j,0<=j/\(t=true->NV g lo nm)/\y=(nm,t,l,j)) ?_ λy ⟨nm,t,j,hj,hn,e⟩=>?_
 .refine dX (λhc=>goN h.b hj (by omega) λx j hj a1 a2=>?_) λ_=>aI ⟨_,_,_,hj,λht=>.inr (hn0 ht),rfl⟩;have a2:=a2 (by have:=hu hc;omega);exact bW (aF.2 ⟨a1,a2⟩) (aI ⟨_,_,_,hj,λ_=>.inl (by rw [getD_at _ (by omega:x.toNat<lo.length)];exact X1 _),rfl⟩)
 subst e;refine bD (λy =>∃t' j,0<=j/\(t'=false->t=true)/\y=(t',l,j)) ?_ λy ⟨t',j,hj,ht,e⟩=>?_
 .exact dX (λ_=>aI ⟨_,_,hj,λh=>(by cases h),rfl⟩) λhc=>goN h.b hj (by omega) λx j hj _ _=>aI ⟨_,_,hj,λ_=>by simpa using hc,rfl⟩
 subst e;refine dX (λ_=>U5 hE hj λ_ _ _ _ _ _ j hj hx=>gy rfl (goN h.b hj (by omega) λx j hj a1 a2=>ain hr hw ?_ hb hl hj λss b' j lo' c q c1 c2 c3 c4 c5 c6 c7=>aI ⟨5,_,_,[_],ss,b',j,lo',rfl,c1,⟨c2,c3⟩,_,_,.rC hx (by omega) c5,by have c6:(c:Int)+b'<=b:=c6;omega,by have c7:(q:Int)+2*b'<=2*b:=c7;omega⟩)) λhf=>?_
 .have a2:=a2 (by omega);show dL (1+x)<=4;rw [aG (by omega)];omega
 have hnv:=hn (ht hf);refine goN h.b hj (by omega) λx j hj _ _=>gy rfl (gy rfl (goN h.b hj (by omega) λx2 j2 h2 _ b2=>ain hr hw (by have:=b2 (by omega);omega) hb hl h2 λss b' j lo' c q c1 c2 c3 c4 c5 c6 c7=>gy rfl (gy rfl (bW (by unfold aX;simp;omega) (aI ⟨5,_,_,[_],ss++[_],b',j,lo',rfl,c1,⟨c2,c3⟩,_,_,.rC (.bin (show 3<=(8:Int)/\(8:Int)<=11 by omega) (.name hnv) (.leaf (.inl rfl))) (by simp;omega) (c5.snoc (show RS g (iW fs) (n+1) lo' _ lo' 0 1 from .step (hnv.mono λx hx=>QE c5 x hx))),by have c6:(c:Int)+b'<=b:=c6;omega,by have c7:(q:Int)+2*b'<=2*b:=c7;omega⟩)))))
end
section
variable {kk:Int} {l:List Int} {g:List aA} {fs:List aB}
theorem abS{rec:MO}{rec':UA}{uZ:UC}{d:Nat}(h:Xw kk l g fs)(hd:d<=100)(hr :∀e:Nat,e+1=d->∀m b i lo,m<=4->0<=b->lo.length+b<=kk->0<=i->Ok (rec e m b l i g fs lo) (PB (e+1) (max m 0) kk l g fs lo b))
  (hp:0<d->∀b i lo,0<=b->lo.length+b<=kk->0<=i->Ok (uZ d b l i g fs lo) (PL (d+1) kk l g fs lo b))
  {b i:Int} {lo} (hb:0<=b) (hl:lo.length+b+1<=kk) (hi:0<=i):Ok (Zx rec rec' uZ d b l i g fs lo) (PS (d+1) kk l g fs lo b):=by
 have hE:=h.env (lo:=lo) (by omega);have hlo:=hE.lo;unfold Zx;refine bD (PS (d+1) kk l g fs lo b) ?_ λy ⟨k,i,nm,es,th,el,b,j,lo,e,h⟩=>by subst e;exact bW (by simp) (bW (by simp) (aI ⟨k,i,nm,es,th,el,b,j,lo,rfl,h⟩))
 refine goN h.b hi (by omega) λx0 j0 h0 _ _=>bD (λ_=>True) ?_ λs3 _=>?_
 .exact dX (λ_=>aI trivial) λ_=>aI trivial
 refine iU (λy =>∃j,0<=j/\y=(b,l,j)) ?_ λy ⟨j,hj,e⟩=>?_
 rotate_left
 .subst e;exact U5 hE hj λ_ _ _ _ _ _ j hj hx=>gy rfl (aI ⟨7,_,_,[_],[],[],b,j,lo,rfl,hj,⟨hb,by omega⟩,1,1,.plain (by omega) hx,by omega,by omega⟩)
 refine dX (λ_=>bD _ (aft hlo) λy ⟨nm,t,hn,e⟩=>?_) λ_=>iU (λy =>∃j,0<=j/\y=(b,l,j)) ?_ λy ⟨j,hj,e⟩=>(by subst e;exact aI ⟨j,hj,rfl⟩)
 .subst e;refine dX (λht=>U5 hE h0 λ_ _ _ _ _ _ j hj hx=>gy rfl (bW (by unfold aX;simp;omega) (aI ⟨1,_,_,[_],[],[],b,j,lo++[nm],rfl,hj,⟨hb,by simp;omega⟩,1,1,.var (hn ht).1 (hn ht).2 hx,by omega,by omega⟩))) λ_=>aI ⟨_,h0,rfl⟩
 refine dX (λ_=>dX (λhc=>goN h.b h0 (by omega) λx j hj a1 a2=>?_) λ_=>aI ⟨_,h0,rfl⟩) λ_=>iU (λy =>∃j,0<=j/\y=(b,l,j)) ?_ λy ⟨j,hj,e⟩=>(by subst e;exact aI ⟨j,hj,rfl⟩)
 .have a2:=a2 (by have:0<lo.length:=(by simpa using hc);omega);have hv:NV g lo (lo.getD x.toNat bI):=.inl (by rw [getD_at _ (by omega:x.toNat<lo.length)];exact X1 _);exact bW (aF.2 ⟨a1,a2⟩) (U5 hE hj λ_ _ _ _ _ _ j hj hx=>gy rfl (aI ⟨2,_,_,[_],[],[],b,j,lo,rfl,hj,⟨hb,by omega⟩,1,1,.assign hv hx,by omega,by omega⟩))
 refine dX (λ_=>goP hE h0 λnm t j hj hn=>dX (λht=>U5 hE hj λ_ _ _ _ _ _ j hj hx=>gy rfl (aI ⟨2,_,_,[_],[],[],b,j,lo,rfl,hj,⟨hb,by omega⟩,1,1,.assign (.inr (hn ht)) hx,by omega,by omega⟩)) λ_=>aI ⟨_,hj,rfl⟩) λ_=>iU (λy =>∃j,0<=j/\y=(b,l,j)) ?_ λy ⟨j,hj,e⟩=>(by subst e;exact aI ⟨j,hj,rfl⟩);refine dX (λ_=>goP hE h0 λnm t j hj hn=>dX (λht=>ate hE hj λ_ _ _ _ _ _ j hj hx=>U5 hE hj λ_ _ _ _ _ _ j hj hz=>aI ⟨3,_,_,[_,_],[],[],b,j,lo,rfl,hj,⟨hb,by omega⟩,1,1,.store (hn ht) hx hz,by omega,by omega⟩) λ_=>aI ⟨_,hj,rfl⟩) λ_=>bD (λ_=>True) ?_ λs3 _=>iU (λ_=>True) ?_ λ_ _=>aI ⟨_,h0,rfl⟩
 .exact dX (λ_=>aI trivial) λ_=>aI trivial
 refine dX (λ_=>dX (λhc=>?_) λ_=>aI trivial) λ_=>iU (λ_=>True) ?_ λ_ _=>aI trivial
 .obtain ⟨e,rfl⟩ :∃e,d=e+1:=⟨d-1,by have:0<d:=(by simpa using hc);omega⟩;have hw:dL (((e+1:Nat):Int)-1)=e:=by rw [aG (by omega)];omega
  have hr:=hr e rfl;have hone :∀x:Int,0<=x->(1<=(2:Int)->x<2)->dL (1+x)<=4:=λx h1 h2=>by have:=h2 (by omega);rw [aG (by omega)];omega
  refine U5 hE h0 λ_ _ _ _ _ _ j hj hx=>gy rfl (goN h.b hj (by omega) λx1 j1 h1 a1 b1=>ain hr hw (hone _ a1 b1) hb (show (lo.length:Int)+b<=kk by omega) h1 λss b' j lo' c q c1 c2 c3 c4 c5 c6 c7=>goN h.b c1 (by omega) λx2 j2 h2 a2 b2=>?_);have c6:(c:Int)+b'<=b:=c6;have c7:(q:Int)+2*b'<=2*b:=c7;refine bD (λy =>∃b2 j lo2 el,y=(b2,l,j,4,0,bI,lo2,el)/\0<=j/\(0<=b2/\lo2.length+b2<=kk)/\el.length<=4/\∃c2 q2:Nat,Ch (RS g (iW fs) (e+1)) lo' el lo2 c2 q2/\(c2:Int)+b2<=b'/\(q2:Int)+2*b2<=2*b') ?_ λy ⟨b2,j,lo2,el,e',d1,d2,d3,e2,q2,d4,d5,d6⟩=>by
   subst e';exact aI ⟨4,_,_,[_],ss,el,b2,j,lo2,rfl,d1,d2,_,_,.if' hx (by omega) (by omega) c5 d4,by omega,by omega⟩
  exact dX (λ_=>goN h.b h2 (by omega) λx3 j3 h3 a3 b3=>ain hr hw (hone _ a3 b3) c2 c3 h3 λss b2 j lo2 e2 q2 c1 c2 c3 c4 c5 c6 c7=>aI ⟨b2,j,lo2,ss,rfl,c1,⟨c2,c3⟩,c4,e2,q2,c5,c6,c7⟩) λ_=>aI ⟨b',j2,lo',[],rfl,h2,⟨c2,c3⟩,by simp,0,0,.nil,by omega,by omega⟩
 refine dX (λ_=>dX (λhc=>bD _ (hp (by simpa using hc) b j0 lo hb (by omega) h0) λy ⟨k,i,nm,es,th,b,j,lo,e,h1,h2,h3⟩=>by subst e;exact aI ⟨k,i,nm,es,th,[],b,j,lo,rfl,h1,h2,h3⟩) λ_=>aI trivial) λ_=>dX (λ_=>?_) λ_=>aI trivial;exact goN h.b h0 (by omega) λx j hj _ _=>dX (λ_=>U5 hE hj λ_ _ _ _ _ _ j hj hx=>gy rfl (aI ⟨6,_,_,[_],[],[],b,j,lo,rfl,hj,⟨hb,by omega⟩,1,1,.plain (by omega) hx,by omega,by omega⟩)) λ_=>atf hE hj λ_ _ _ _ _ _ j hj hx=>gy rfl (aI ⟨8,_,_,[_],[],[],b,j,lo,rfl,hj,⟨hb,by omega⟩,1,1,.plain (by omega) hx,by omega,by omega⟩)
theorem abT(n:Nat):(jr (n+1)).1=Zw (U0 n) (Zz n) (ZA n):=rfl
theorem abU(n:Nat):(jr (n+1)).2.1=Zx (U0 n) (Zz n) (ZA n):=rfl
theorem abV(n:Nat):(jr (n+1)).2.2=Zy (U0 n) (Zz n) (ZA n):=rfl
theorem U6(h:Xw kk l g fs) :∀n:Nat,(∀d:Nat,d<=100->3*d+2<=n->∀m b i lo,m<=4->0<=b->lo.length+b<=kk->0<=i->Ok (U0 n d m b l i g fs lo) (PB (d+1) (max m 0) kk l g fs lo b))/\
  (∀d:Nat,d<=100->3*d+1<=n->∀b i lo,0<=b->lo.length+b+1<=kk->0<=i->Ok (Zz n d b l i g fs lo) (PS (d+1) kk l g fs lo b))/\
  (∀d:Nat,d<=100->0<d->3*d<=n->∀b i lo,0<=b->lo.length+b<=kk->0<=i->Ok (ZA n d b l i g fs lo) (PL (d+1) kk l g fs lo b))
 |0=>⟨λd _ h=>by omega,λd _ h=>by omega,λd _ h h'=>by omega⟩
 |n+1=>by
  obtain ⟨i1,i2,i3⟩:=U6 h n;refine ⟨λd h1 h2 m b i lo h3 h4 h5 h6=>aij (by rw [abT];exact Xx h (i2 d h1 (by omega)) h3 h4 h5 h6),
   λd h1 h2 b i lo h3 h4 h5=>aik (by rw [abU];exact abS h h1 (λe he=>i1 e (by omega) (by omega)) (λhd=>i3 d h1 hd (by omega)) h3 h4 h5),λd h1 h2 h3 b i lo h4 h5 h6=>?_⟩
  obtain ⟨e,rfl⟩ :∃e,d=e+1:=⟨d-1,by omega⟩;exact ail (by rw [abV];exact abR h (by omega) (i1 e (by omega) (by omega)) h4 h5 h6)
end
theorem Ir{A R α:Type}{body:A->Option (A ⊕ R)}{Q:R->Prop}{a:A}(ct:A->Int)(ls:A->List α)(I:A->Prop)(m:Nat)(h0:I a)(hm:(ls a).length+ct a<=m)(hc:m<=1000)
  (h :∀a,I a->(ls a).length<=m->0<ct a->(ls a).length+ct a<=m->Ok (body a) (KQ (λa'=>I a'/\ct a'=ct a-1/\(ls a').length=(ls a).length+1) Q))
  (he :∀a,I a->(ls a).length<=m->¬ 0<ct a->Ok (body a) (KQ (λ_=>False) Q)) (hl:(ls a).length<=m):Ok (bF body a) Q:=by
 refine bQ (λa=>I a/\(ls a).length<=m/\(0<ct a->(ls a).length+ct a<=m)) (λa=>(ct a).toNat) ⟨h0,hl,λ_=>hm⟩ λa ⟨h1,h2,h3⟩=>?_;by_cases hp:0<ct a
 .refine jq (h a h1 h2 hp (h3 hp)) λy hy=>?_;cases y with
  |inl a'=>obtain ⟨g1,g2,g3⟩:=hy;exact ⟨⟨g1,by have:=h3 hp;omega,λ_=>by have:=h3 hp;omega⟩,by omega⟩
  |inr r=>exact hy
 .refine jq (he a h1 h2 hp) λy hy=>?_;cases y with
  |inl a'=>exact hy.elim
  |inr r=>exact hy
def digit(i:Nat):UInt8:=UInt8.ofNat (48+i)
theorem zD{n:Nat}(h:n<10):f47 (n:Int)=some [digit n]:=by
 show Xg 1048576 (n:Int)=_;rw [show Xg 1048576=ahC (Xg 1048575) from rfl];have hn:n=0\/n=1\/n=2\/n=3\/n=4\/n=5\/n=6\/n=7\/n=8\/n=9:=by omega
 rcases hn with rfl | rfl | rfl | rfl | rfl | rfl | rfl | rfl | rfl | rfl<;>rfl
def ajJ:List UInt8:=[109,97,105,110]
def PN(ps:List (List UInt8)):Prop:=ps.length<=2/\∀k,k<ps.length->ps.getD k bI=[112,digit k]
def GN(g:List aA):Prop:=g.length<=4/\∀i,i<g.length->(g.getD i (aA.mk bI 0)).name=[103,digit i]/\0<=(g.getD i (aA.mk bI 0)).size/\(g.getD i (aA.mk bI 0)).size<=5
def FN(fs:List aB):Prop:=(0<fs.length/\fs.length<=4)/\(fs.getD 0 bC).params=[]/\∀i,i<fs.length->(fs.getD i bC).name=(if i=0 then ajJ else [102,digit i])/\PN (fs.getD i bC).params
structure Src(g:List aA)(fs:List aB):Prop where
 gn:GN g
 fn:FN fs
 bd :∀i,i<fs.length->(fs.getD i bC).body.length<=10/\∃lo c q,Ch (RS g (iW fs) 3) (fs.getD i bC).params (fs.getD i bC).body lo c q/\c<=7/\q<=14
theorem lW{α:Type}{l:List α}{x d:α}{i:Nat}:(l++[x]).getD i d=if i<l.length then l.getD i d else if i=l.length then x else d:=by
 rw [List.getD_eq_getElem?_getD,List.getD_eq_getElem?_getD];by_cases h:i<l.length
 .rw [if_pos h,Wa h]
 .rw [if_neg h,W6 (by omega)];by_cases e:i=l.length
  .rw [if_pos e,e];simp
  .rw [if_neg e,WK (by simp;omega)];rfl
theorem PN.snoc{ps:List (List UInt8)}(h:PN ps)(hl:ps.length<2):PN (ps++[[112]++[digit ps.length]]):=by
 refine ⟨by simp;omega,λk hk=>?_⟩;rw [lW];simp only [XN,ZD] at hk;by_cases e:k<ps.length
 .rw [if_pos e];exact h.2 k e
 .have:k=ps.length:=by omega
  subst this;rw [if_neg e,if_pos rfl];rfl
theorem GN.snoc{g:List aA}(h:GN g)(hl:g.length<4){z:Int}(h0:0<=z)(h1:z<=5):GN (g++[aA.mk ([103]++[digit g.length]) z]):=by
 refine ⟨by simp;omega,λk hk=>?_⟩;rw [lW];simp only [XN,ZD] at hk;by_cases e:k<g.length
 .rw [if_pos e];exact h.2 k e
 .have:k=g.length:=by omega
  subst this;rw [if_neg e,if_pos rfl];exact ⟨rfl,h0,h1⟩
theorem FN.snoc{fs:List aB}(h:FN fs)(hl:fs.length<4){i:Int}{ps:List (List UInt8)}(hp:PN ps):FN (fs++[aB.mk ([102]++[digit fs.length]) i ps []]):=by
 obtain ⟨⟨h1,h2⟩,h3,h4⟩:=h;refine ⟨⟨by simp,by simp;omega⟩,by rw [lW,if_pos h1];exact h3,λk hk=>?_⟩;rw [lW];simp only [XN,ZD] at hk;by_cases e:k<fs.length
 .rw [if_pos e];exact h4 k e
 .have:k=fs.length:=by omega
  subst this;rw [if_neg e,if_pos rfl,if_neg (by omega)];exact ⟨rfl,hp⟩
theorem FN.mem{fs:List aB}(h:FN fs) :∀f∈fs,f.params.length<=2:=λf hf=>by
 obtain ⟨i,hi,e⟩:=W8 hf;have:=(h.2.2 i hi).2.1;rw [getD_at _ hi,e] at this;exact this
theorem abW{l:List Int}{i:Int}(hb:Bytes l)(hi:0<=i):Ok (f81 l i) λy=>y.1=l/\0<=y.2.1/\Src y.2.2.1 y.2.2.2:=by
 unfold f81;refine gy rfl (goN hb hi (by omega) λx1 j1 h1 a1 b1=>bD (λy=>y.2.length<=2/\GN y.2) ?_ λ⟨z,g0⟩ ⟨hg0,hn0⟩=>?_)
 .have b1:=b1 (by omega);refine Ir (λs:Int×Int×List aA=>s.1) (λs=>s.2.2) (λs=>GN s.2.2) 2 ⟨by simp,λi hi=>by simp at hi⟩ (by simp only [K1];omega) (by omega) (λ⟨q,z,gs⟩ e0 e1 e2 e3=>?_) (λ⟨q,z,gs⟩ e0 e1 e2=>b_ (decide_eq_false e2) (aI ⟨e1,e0⟩)) (by simp);simp only at e0 e1 e2 e3;refine goT (decide_eq_true e2) (gy (zD (by simp only;omega)) (bW (oK.2 (by simp)) (bW (by unfold aX;simp;omega) (aI ⟨e0.snoc (by omega) (Wz _) (by omega),aG (by omega),by simp⟩))))
 simp only at hg0 hn0;refine goN hb h1 (by omega) λx2 j2 h2 a2 b2=>bD (λy=>y.1=l/\0<=y.2.1/\y.2.2.2.length<=4/\GN y.2.2.2) ?_ λ⟨l',j3,z',gs⟩ ⟨e1,e2,e3,e3'⟩=>?_
 .have b2:=b2 (by omega);refine Ir (λs:Int×List Int×Int×Int×List aA=>s.1) (λs=>s.2.2.2.2) (λs=>s.2.1=l/\0<=s.2.2.1/\GN s.2.2.2.2) 4 ⟨rfl,h2,hn0⟩ (by simp only;omega) (by omega) (λ⟨q,l',j,z,gs⟩ ⟨c1,c2,c3⟩ e1 e2 e3=>?_) (λ⟨q,l',j,z,gs⟩ ⟨c1,c2,c3⟩ e1 e2=>b_ (decide_eq_false e2) (aI ⟨c1,c2,e1,c3⟩)) (by simp only;omega);simp only at e1 e2 e3 c1 c2 c3;subst c1;refine goT (decide_eq_true e2) (gy (zD (by simp only;omega)) (bW (oK.2 (by simp)) (goN hb c2 (by omega) λx j hj a4 b4=>?_)));have b4:=b4 (by omega);have hw:dL (1+x)=1+x:=aG (by omega);exact bW (by unfold aX;simp;omega) (aI ⟨⟨rfl,hj,c3.snoc (by omega) (by simp only [hw];omega) (by simp only [hw];omega)⟩,aG (by omega),by simp⟩)
 simp only at e1 e2 e3 e3';subst e1;refine goN hb e2 (by omega) λx4 j4 h4 a4 b4=>bD (λy=>y.1=l'/\0<=y.2.1/\FN y.2.2.2/\∀f∈y.2.2.2,f.body=[]) ?_ λ⟨l2,j5,z2,fs⟩ ⟨e1,e2,e4,e5⟩=>?_
 .have b4:=b4 (by omega);refine Ir (λs:Int×List Int×Int×Int×List aB=>s.1) (λs=>s.2.2.2.2) (λs=>s.2.1=l'/\0<=s.2.2.1/\FN s.2.2.2.2/\∀f∈s.2.2.2.2,f.body=[]) 4 ⟨rfl,h4,⟨⟨by simp,by simp⟩,rfl,λi hi=>by
    simp at hi;subst hi;exact ⟨rfl,by simp,λk hk=>by simp at hk⟩⟩,o9 rfl⟩ (by simp only [ZD];omega) (by omega)
   (λ⟨q,l',j,z,fs⟩ ⟨c1,c2,c3,c4⟩ e1 e2 e3=>?_) (λ⟨q,l',j,z,gs⟩ ⟨c1,c2,c3,c4⟩ e1 e2=>b_ (decide_eq_false e2) (aI ⟨c1,c2,c3,c4⟩)) (by simp)
  simp only at e1 e2 e3 c1 c2 c3 c4;subst c1;refine goT (decide_eq_true e2) (gy (zD (by simp only;omega)) (bW (oK.2 (by simp)) (goN hb c2 (by omega) λx j hj a5 b5=>bD (λy=>y.1=[102]++[digit fs.length]/\PN y.2.2) ?_ λy ⟨hy1,hy2⟩=>bW (by unfold aX;simp;omega) (aI ⟨⟨rfl,hj,by simp only;rw [hy1];exact c3.snoc (by omega) hy2,λf hf=>?_⟩,aG (by omega),by simp⟩))))
  .have b5:=b5 (by omega);refine Ir (λs:Int×List UInt8×Int×List (List UInt8)=>s.1) (λs=>s.2.2.2) (λs=>s.2.1=[102]++[digit fs.length]/\PN s.2.2.2) 2 ⟨rfl,by simp,λk hk=>by simp at hk⟩ (by simp only [K1];omega) (by omega) (λ⟨q,z,z',gs⟩ ⟨e0,e0'⟩ e1 e2 e3=>?_) (λ⟨q,z,z',gs⟩ ⟨e0,e0'⟩ e1 e2=>b_ (decide_eq_false e2) (aI ⟨e0,e0'⟩)) (by simp);simp only at e0 e0' e1 e2 e3;refine goT (decide_eq_true e2) (gy (zD (by simp only;omega)) (bW (oK.2 (by simp)) (bW (by unfold aX;simp;omega) (aI ⟨⟨e0,e0'.snoc (by omega)⟩,aG (by omega),by simp⟩))))
  .rcases Xs.1 hf with hf | hf
   .exact c4 f hf
   .rw [QP] at hf;subst hf;rfl
 simp only at e1 e2 e3 e3' e4 e5;subst e1;refine bD (λy=>y.1=l2/\0<=y.2.1/\Src y.2.2.2.1 y.2.2.2.2.1) ?_ λy hy=>aI hy;refine bQ (λs:Int×List Int×Int×Int×List aA×List aB×List (List UInt8)=>s.2.1=l2/\0<=s.2.2.1/\s.2.2.2.2.1=gs/\FN s.2.2.2.2.2.1/\(0<=s.1/\s.1<=s.2.2.2.2.2.1.length)/\∀i:Nat,(i:Int)<s.1->(s.2.2.2.2.2.1.getD i bC).body.length<=10/\∃lo c q,Ch (RS gs (iW s.2.2.2.2.2.1) 3) (s.2.2.2.2.2.1.getD i bC).params (s.2.2.2.2.2.1.getD i bC).body lo c q/\c<=7/\q<=14) (λs=>(s.2.2.2.2.2.1.length-s.1).toNat)
  ⟨rfl,e2,rfl,e4,⟨by simp,by simp⟩,λi hi=>by simp only at hi;omega⟩ λ⟨q,l3,j,z,gs',fs',lo⟩ ⟨c1,c2,c3,c4,c5,c6⟩=>?_
 simp only at c1 c2 c3 c4 c5 c6;subst c1;subst c3;refine dX (λhc=>?_) (λhc=>?_)
 rotate_left
 .have:¬ q<fs'.length:=by simpa using hc
  exact aI ⟨rfl,c2,⟨e3',c4,λi hi=>c6 i (by simp only at hi ⊢;omega)⟩⟩
 have hc:q<fs'.length:=by simpa using hc
 have hq:q.toNat<fs'.length:=by omega
 obtain ⟨f1,f2,f3⟩:=c4;obtain ⟨n1,n2⟩:=f3 q.toNat hq;generalize hfd:fs'.getD q.toNat bC=fd at n1 n2;have hp2:=n2.1;have hES:Xw 20 l3 gs' fs':=⟨hb,by omega,by omega,by omega,FN.mem ⟨f1,f2,f3⟩,by omega⟩;refine bW (aF.2 ⟨c5.1,hc⟩) (bW ?_ (goN hb c2 (by omega) λx6 j6 h6 a6 b6=>?_))
 .show (true&&decide _)=true;simp [hfd];omega
 simp only [hfd];have b6:=b6 (by omega);rw [show dL (1+x6)=1+x6 from aG (by omega)];refine bD _ ((U6 hES 1048576).1 2 (by omega) (by omega) (1+x6) 7 j6 (jX++fd.params) (by omega) (by omega) (by simp;omega) h6) λy ⟨ss,b,j,lo,e,d1,d2,d3,c,k,d4,d5,d6⟩=>?_;subst e;have hset :∀i,(fs'.set q.toNat (aB.mk fd.name fd.line fd.params ss)).getD i bC=if i=q.toNat then aB.mk fd.name fd.line fd.params ss else fs'.getD i bC:=λi=>jC hq
 have hsg:iW (fs'.set q.toNat (aB.mk fd.name fd.line fd.params ss))=iW fs':=by
  unfold iW;rw [List.map_set];have:fs'[q.toNat]=fd:=by rw [<-hfd,getD_at _ hq]
  rw [show ((aB.mk fd.name fd.line fd.params ss).name,(aB.mk fd.name fd.line fd.params ss).params.length)=(fs'.map λf=>(f.name,f.params.length))[q.toNat]'(by simpa using hq) from by simp [this]];exact List.set_getElem_self _
 refine bW (aF.2 ⟨c5.1,hc⟩) (aI ⟨⟨rfl,d1,rfl,⟨by simpa using f1,?_,λi hi=>?_⟩,?_,λi hi=>?_⟩,?_⟩)
 .simp only;rw [hset];split
  .rename_i e;rw [<-e] at hfd;rw [hfd] at f2;exact f2
  .exact f2
 .simp only [Up] at hi ⊢;rw [hset];split
  .rename_i e;subst e;exact ⟨n1,n2⟩
  .exact f3 i hi
 .simp only [aG (x:=q+1) (by omega),Up];omega
 .simp only [aG (x:=q+1) (by omega)] at hi ⊢;rw [hset,hsg];split
  .rename_i e;exact ⟨d3.1,lo,c,k,by simpa using d4,by omega,by omega⟩
  .exact c6 i (by omega)
 .simp only [aG (x:=q+1) (by omega),Up];omega
theorem jv{R:Type}{body:Int->Option (Int ⊕ R)}{Q:R->Prop}(n:Nat)(P:Nat->Prop)(hn:n<=4000000000)(h :∀i:Nat,i<n->(∀j,j<i->P j)->Ok (body i) (KQ (λj=>j=dL (i+1)/\P i) Q))(he:(∀j,j<n->P j)->Ok (body n) (KQ (λ_=>False) Q)):Ok (bF body 0) Q:=by
 refine bQ (λi:Int =>∃k:Nat,i=k/\k<=n/\∀j,j<k->P j) (λi=>(n-i).toNat) ⟨0,rfl,by omega,λj hj=>by omega⟩ λi ⟨k,e,h1,h2⟩=>?_;subst e;by_cases hi:k<n
 .refine jq (h k hi h2) λy hy=>?_;cases y with
  |inl j=>
   obtain ⟨e,hp⟩:j=dL ((k:Int)+1)/\P k:=hy;rw [aG (by omega)] at e;exact ⟨⟨k+1,by omega,by omega,λj hj=>by
    by_cases e:j=k
    .rw [e];exact hp
    .exact h2 j (by omega)⟩,by omega⟩
  |inr r=>exact hy
 .have e:k=n:=by omega
  subst e;refine jq (he h2) λy hy=>?_;cases y with
  |inl j=>exact hy.elim
  |inr r=>exact hy
def cls:List UInt8->Nat
 | [_]=>1
 | [a,_]=>if a=112 then 1 else if a=103 then 2 else 3
 |_=>3
def LN(lo:List (List UInt8)):Prop :=∀x∈lo,cls x=1
theorem GN.cls{g:List aA}(h:GN g) :∀x∈g,YtoipcimfapppmaaGreatDoor.cls x.name=2:=λx hx=>by
 obtain ⟨i,hi,e⟩:=W8 hx;have:=(h.2 i hi).1;rw [getD_at _ hi,e] at this;rw [this];rfl
theorem FN.cls{fs:List aB}(h:FN fs) :∀i,i<fs.length->YtoipcimfapppmaaGreatDoor.cls (fs.getD i bC).name=3:=λi hi=>by
 rw [(h.2.2 i hi).1];split<;>rfl
theorem Fh{i j:Nat}(hi:i<4)(hj:j<4)(h:digit i=digit j):i=j:=by
 have:i=0\/i=1\/i=2\/i=3:=by omega
 have:j=0\/j=1\/j=2\/j=3:=by omega
 rcases ‹i=0\/_› with rfl | rfl | rfl | rfl<;>rcases ‹j=0\/_› with rfl | rfl | rfl | rfl<;>first | rfl | (revert h;decide)
theorem GN.inj{g:List aA}(h:GN g){i j:Nat}(hi:i<g.length)(hj:j<g.length)(e:(g.getD i (aA.mk bI 0)).name=(g.getD j (aA.mk bI 0)).name):i=j:=by
 rw [(h.2 i hi).1,(h.2 j hj).1] at e;have h4:=h.1;injection e with _ e;injection e with e _
 exact Fh (by omega) (by omega) e
theorem FN.inj{fs:List aB}(h:FN fs){i j:Nat}(hi:i<fs.length)(hj:j<fs.length)(e:(fs.getD i bC).name=(fs.getD j bC).name):i=j:=by
 rw [(h.2.2 i hi).1,(h.2.2 j hj).1] at e;have h4:=h.1.2;unfold ajJ at e;split at e<;>split at e
 .omega
 .injection e with e _;exact absurd e (by decide)
 .injection e with e _;exact absurd e (by decide)
 .injection e with _ e;injection e with e _
  exact Fh (by omega) (by omega) e
section
variable {g:List aA} {fs:List aB} {lo:List (List UInt8)}
theorem Iu{nm:List UInt8}(hg:g.length<=1000000):Ok (f97 g fs nm) λy=>(y=-1/\∀i,i<g.length->(g.getD i (aA.mk bI 0)).name≠nm)\/∃i:Nat,y=i/\i<g.length/\(g.getD i (aA.mk bI 0)).name=nm:=by
 unfold f97;refine iU (λ_ =>∀i,i<g.length->(g.getD i (aA.mk bI 0)).name≠nm) (jv g.length (λi=>(g.getD i (aA.mk bI 0)).name≠nm) (by omega) (λi h1 _=>goT (decide_eq_true (by omega)) (bW (aF.2 ⟨by omega,by omega⟩) (dX (λh=>aI (.inr ⟨i,rfl,h1,by simpa using h⟩)) λh=>aI ⟨rfl,by simpa using h⟩))) λh=>b_ (decide_eq_false (by omega)) (aI h)) λ_ h=>aI (.inl ⟨rfl,h⟩)
theorem Iw{nm:List UInt8}(hg:fs.length<=1000000):Ok (f98 g fs nm) λy=>(y=-1/\∀i,i<fs.length->(fs.getD i bC).name≠nm)\/∃i:Nat,y=i/\i<fs.length/\(fs.getD i bC).name=nm:=by
 unfold f98;refine iU (λ_ =>∀i,i<fs.length->(fs.getD i bC).name≠nm) (jv fs.length (λi=>(fs.getD i bC).name≠nm) (by omega) (λi h1 _=>goT (decide_eq_true (by omega)) (bW (aF.2 ⟨by omega,by omega⟩) (dX (λh=>aI (.inr ⟨i,rfl,h1,by simpa using h⟩)) λh=>aI ⟨rfl,by simpa using h⟩))) λh=>b_ (decide_eq_false (by omega)) (aI h)) λ_ h=>aI (.inl ⟨rfl,h⟩)
theorem afu{nm:List UInt8}(hg:lo.length<=1000000):f100 lo nm=some (decide (nm∈lo)):=by
 apply ok_eq;unfold f100;refine iU (λ_ =>∀i,i<lo.length->lo.getD i bI≠nm) (jv lo.length (λi=>lo.getD i bI≠nm) (by omega) (λi h1 _=>goT (decide_eq_true (by omega)) (bW (aF.2 ⟨by omega,by omega⟩) (dX (λh=>aI ?_) λh=>aI ⟨rfl,by simpa using h⟩))) λh=>b_ (decide_eq_false (by omega)) (aI h)) λ_ h=>aI ?_
 .have h:lo.getD i bI=nm:=by simpa using h
  refine (decide_eq_true ?_).symm;rw [<-h,getD_at _ h1];exact X1 _
 .refine (decide_eq_false λhm=>?_).symm;obtain ⟨i,hi,e⟩:=W8 hm;have:=h i hi;rw [getD_at _ hi] at this;exact this e
structure Sc(g:List aA)(fs:List aB)(lo:List (List UInt8)):Prop where
 gn:GN g
 fn:FN fs
 ln:LN lo
 lo:lo.length<=1000000
theorem ZL(hg:GN g){nm:List UInt8}{a:Bool}(h:PG a g nm):Ok (f97 g fs nm) λy =>∃i:Nat,y=i/\i<g.length/\(g.getD i (aA.mk bI 0)).name=nm/\decide (0<(g.getD i (aA.mk bI 0)).size)=a:=by
 have h4:=hg.1;refine jq (Iu (by omega)) λy hy=>?_;obtain ⟨x,hx,e,hs⟩:=h;obtain ⟨j,hj,e2⟩:=W8 hx;have e3:g.getD j (aA.mk bI 0)=x:=by rw [getD_at _ hj,e2]
 rcases hy with ⟨_,hn⟩ | ⟨i,e4,h1,h2⟩
 .exact absurd (by rw [e3,e]) (hn j hj)
 .have:=hg.inj h1 hj (by rw [h2,e3,e]);subst this;exact ⟨i,e4,h1,h2,by rw [e3];exact hs⟩
theorem QF{nm:List UInt8}(hg:GN g)(h:cls nm≠2):f97 g fs nm=some (-1):=by
 have h4:=hg.1;obtain ⟨y,hy,hq⟩:=Iu (g:=g) (fs:=fs) (nm:=nm) (by omega);rcases hq with ⟨e,_⟩ | ⟨i,_,h1,h2⟩
 .rw [hy,e]
 .have:=hg.cls _ (by rw [getD_at _ h1];exact X1 _:g.getD i (aA.mk bI 0)∈g);rw [h2] at this;exact absurd this h
theorem afv{nm:List UInt8}{q:Nat}(h:(nm,q)∈iW fs) :∃i,i<fs.length/\(fs.getD i bC).name=nm/\(fs.getD i bC).params.length=q:=by
 obtain ⟨f,hf,e⟩:=QR.1 h;obtain ⟨i,hi,e2⟩:=W8 hf;injection e with e3 e4
 exact ⟨i,hi,by rw [getD_at _ hi,e2];exact e3,by rw [getD_at _ hi,e2];exact e4⟩
theorem QG(hf:FN fs){nm:List UInt8}{q:Nat}(h:(nm,q)∈iW fs):Ok (f98 g fs nm) λy =>∃i:Nat,y=i/\i<fs.length/\(fs.getD i bC).params.length=q:=by
 have h4:=hf.1.2;refine jq (Iw (by omega)) λy hy=>?_;obtain ⟨j,hj,e1,e2⟩:=afv h;rcases hy with ⟨_,hn⟩ | ⟨i,e4,h1,h2⟩
 .exact absurd e1 (hn j hj)
 .have:=hf.inj h1 hj (by rw [h2,e1]);subst this;exact ⟨i,e4,h1,e2⟩
theorem afw(hf:FN fs){nm:List UInt8}{q:Nat}(h:(nm,q)∈iW fs):cls nm=3:=by
 obtain ⟨j,hj,e1,_⟩:=afv h;rw [<-e1];exact hf.cls j hj
theorem afx(hg:GN g){a:Bool}{nm:List UInt8}(h:PG a g nm):cls nm=2:=by
 obtain ⟨x,hx,e,_⟩:=h;rw [<-e];exact hg.cls x hx
theorem Iy(hg:GN g){nm:List UInt8}{a:Bool}(h:PG a g nm):f101 g fs nm=some (if a then 3 else 2):=by
 apply ok_eq;unfold f101;refine bD _ (ZL hg h) λc ⟨i,e,h1,_,h2⟩=>?_;subst e;refine goT (decide_eq_true (by omega)) (bW (aF.2 ⟨by omega,by omega⟩) (dX (λhc=>aI ?_) λhc=>aI ?_))
 .simp only [Qt] at hc;rw [<-h2,hc];rfl
 .simp only [Qt] at hc;rw [<-h2,hc];rfl
theorem aio(hg:GN g)(hf:FN fs){nm:List UInt8}{q:Nat}(h:(nm,q)∈iW fs):f101 g fs nm=some 4:=by
 apply ok_eq;unfold f101;refine gy (QF hg (by rw [afw hf h];omega)) (b_ rfl (bD _ (QG hf h) λc ⟨i,e,_⟩=>?_));subst e;exact goT (decide_eq_true (by omega)) (aI rfl)
theorem ZM(hg:GN g)(hf:FN fs){nm:List UInt8}(h:cls nm=1):f101 g fs nm=some 0:=by
 apply ok_eq;unfold f101;have h4:=hf.1.2;refine gy (QF hg (by omega)) (b_ rfl (bD _ (Iw (by omega)) λc hc=>?_));rcases hc with ⟨e,_⟩ | ⟨i,_,h1,h2⟩
 .subst e;exact b_ rfl (aI rfl)
 .have:=hf.cls i h1;rw [h2] at this;omega
theorem afy{nm:List UInt8}(hg:GN g)(hf:FN fs):Ok (f101 g fs nm) λ_=>True:=by
 unfold f101;have h4:=hf.1.2;have h5:=hg.1;refine bD _ (Iu (by omega)) λc hc=>dX (λh=>?_) λ_=>bD _ (Iw (by omega)) λ_ _=>dX (λ_=>aI trivial) λ_=>aI trivial;rcases hc with ⟨e,_⟩ | ⟨i,e,h1,_⟩
 .rw [e] at h;cases h
 .exact bW (aF.2 ⟨by omega,by omega⟩) (dX (λ_=>aI trivial) λ_=>aI trivial)
theorem aip{nm:List UInt8}(h:Sc g fs lo){a b:Int}{P:Int->Prop}(h1:nm∈lo->P 1)(h2:¬ nm∈lo->Ok (f101 g fs nm) P):Ok (f127 nm g fs a b lo) λy =>∃k,y=(k,g,fs,a,b,lo)/\P k:=by
 refine bD (λy =>∃k,y=(k,g,fs,a,b,lo)/\P k) ?_ λy ⟨k,e,h⟩=>by subst e;exact goK rfl (aI ⟨k,rfl,h⟩)
 unfold aeN;refine bD (λy =>∃k,y=(k,g,fs,a,b,lo)/\P k) ?_ λy ⟨k,e,h⟩=>by subst e;exact bW (by simp) (aI ⟨k,rfl,h⟩)
 refine gy (afu h.lo) (dX (λhc=>aI ⟨1,rfl,h1 (by simpa using hc)⟩) λhc=>bD _ (h2 (by simpa using hc)) λc hc=>aI ⟨c,rfl,hc⟩)
theorem afz{β:Type}{nm:List UInt8}(h:Sc g fs lo){a b:Int}{f}{Q:β->Prop}{P:Int->Prop}(h1:nm∈lo->P 1)(h2:¬ nm∈lo->Ok (f101 g fs nm) P)(k :∀q,P q->Ok (f (q,g,fs,a,b,lo)) Q):Ok (Option.bind (f127 nm g fs a b lo) f) Q:=
 bD _ (aip h h1 h2) λy ⟨q,e,h⟩=>by subst e;exact k q h
theorem Xy(h:Sc g fs lo){nm:List UInt8}(hc:cls nm≠1):¬ nm∈lo:=λhm=>hc (h.ln nm hm)
inductive Wh(g:List aA)(fs:List aB)(lo:List (List UInt8))(nm:List UInt8):Int->Prop
 |loc:nm∈lo->Wh g fs lo nm 1
 |glo:¬ nm∈lo->PG false g nm->Wh g fs lo nm 2
 |arr:¬ nm∈lo->PG true g nm->Wh g fs lo nm 3
 |fn {q:Nat}:¬ nm∈lo->(nm,q)∈iW fs->Wh g fs lo nm 4
theorem alW(h:Sc g fs lo){nm:List UInt8}(hv:NV g lo nm) :∃k,Wh g fs lo nm k/\(k=1\/k=2):=by
 by_cases hm:nm∈lo
 .exact ⟨1,.loc hm,.inl rfl⟩
 .exact ⟨2,.glo hm (hv.resolve_left hm),.inr rfl⟩
theorem atg(h:Sc g fs lo){nm:List UInt8}(hv:PG true g nm):Wh g fs lo nm 3:=.arr (Xy h (by rw [afx h.gn hv];omega)) hv
theorem apu(h:Sc g fs lo){nm:List UInt8}{q:Nat}(hv:(nm,q)∈iW fs):Wh g fs lo nm 4:=.fn (Xy h (by rw [afw h.fn hv];omega)) hv
theorem aiq{β:Type}{nm:List UInt8}{q:Int}(h:Sc g fs lo)(hw:Wh g fs lo nm q){a b:Int}{f}{Q:β->Prop}(k:Ok (f (q,g,fs,a,b,lo)) Q):Ok (Option.bind (f127 nm g fs a b lo) f) Q:=by
 refine afz h (P:=λz=>z=q) (λhm=>?_) (λhm=>?_) λz hz=>by subst hz;exact k
 .cases hw with
  |loc _=>rfl
  |glo h _=>exact absurd hm h
  |arr h _=>exact absurd hm h
  |fn h _=>exact absurd hm h
 .cases hw with
  |loc h=>exact absurd h hm
  |glo _ h'=>exact ⟨2,Iy h.gn h',rfl⟩
  |arr _ h'=>exact ⟨3,Iy h.gn h',rfl⟩
  |fn _ h'=>exact ⟨4,aio h.gn h.fn h',rfl⟩
theorem Xz{β:Type}(h:Sc g fs lo){k o v i:Int}{nm:List UInt8}{ar:List aQ}{p q z a b:Int}(hw:Wh g fs lo nm z)(hz:z=p\/z=q){f}{Q:β->Prop}(k':Ok (f (g,fs,a,b,lo)) Q):Ok (Option.bind (f140 k o v i nm ar p q g fs a b lo) f) Q:=by
 have hz0:z≠0:=by cases hw<;>omega
 refine bD (λy=>y=(g,fs,a,b,lo)) ?_ λy e=>by subst e;exact k'
 refine bD (λy=>y=(g,fs,a,b,lo)) ?_ λy e=>by subst e;exact goK rfl (aI rfl)
 unfold aeX;refine bD (λy=>y=(g,fs,a,b,lo)) ?_ λy e=>by subst e;exact bW (by simp) (aI rfl)
 refine aiq h hw (bD (λy=>y=(g,fs,a,b)) ?_ λy e=>by subst e;exact aI rfl);refine b_ (decide_eq_false hz0) (bD (λy=>y=false) ?_ λy e=>by subst e;exact bD (λy=>y=(g,fs,a,b)) (b_ rfl (aI rfl)) λy e=>by subst e;exact aI rfl);refine dX (λhp=>aI ?_) λ_=>aI rfl;have hp:z≠p:=by simpa using hp
 have:z=q:=hz.resolve_left hp;simp [this]
inductive QX(g:List aA)(sg:List (List UInt8×Nat))(lo:List (List UInt8)):Nat->aQ->Prop
 |leaf {n:Nat} {k o v i:Int} {nm:List UInt8}:k=1\/k=12->QX g sg lo (n+1) (aQ.mk k o v i nm [])
 |loc {n:Nat} {o v i:Int} {nm:List UInt8}:nm∈lo->QX g sg lo (n+1) (aQ.mk 2 o v i nm [])
 |glo {n:Nat} {o v i:Int} {nm:List UInt8}:PG false g nm->QX g sg lo (n+1) (aQ.mk 3 o v i nm [])
 |func {n:Nat} {o v i:Int} {nm:List UInt8} {q:Nat}:(nm,q)∈sg->QX g sg lo (n+1) (aQ.mk 11 o v i nm [])
 |elem {n:Nat} {o v i:Int} {nm:List UInt8} {a:aQ}:PG true g nm->QX g sg lo n a->QX g sg lo (n+1) (aQ.mk 4 o v i nm [a])
 |un {n:Nat} {o v i:Int} {nm:List UInt8} {a:aQ}:o=1\/o=2->QX g sg lo n a->QX g sg lo (n+1) (aQ.mk 5 o v i nm [a])
 |bin {n:Nat} {o v i:Int} {nm:List UInt8} {a b:aQ}:3<=o/\o<=11->QX g sg lo n a->QX g sg lo n b->QX g sg lo (n+1) (aQ.mk 6 o v i nm [a,b])
 |lazy {n:Nat} {k o v i:Int} {nm:List UInt8} {a b:aQ}:k=7\/k=8->QX g sg lo n a->QX g sg lo n b->QX g sg lo (n+1) (aQ.mk k o v i nm [a,b])
 |call {n:Nat} {o v i:Int} {nm:List UInt8} {ar:List aQ}:(nm,ar.length)∈sg->ar.length<=2->(∀y∈ar,QX g sg lo n y)->QX g sg lo (n+1) (aQ.mk 9 o v i nm ar)
 |value {n:Nat} {o v i:Int} {nm:List UInt8} {f:aQ} {ar:List aQ}:ar.length<=2->QX g sg lo n f->(∀y∈ar,QX g sg lo n y)->QX g sg lo (n+1) (aQ.mk 10 o v i nm (f::ar))
theorem QX.mono{sg:List (List UInt8×Nat)}{lo':List (List UInt8)}(hl :∀x∈lo,x∈lo'){n:Nat}{x:aQ}(h:QX g sg lo n x):QX g sg lo' n x:=by
 induction h with
 |leaf h=>exact .leaf h
 |loc h=>exact .loc (hl _ h)
 |glo h=>exact .glo h
 |func h=>exact .func h
 |elem h _ ih=>exact .elem h ih
 |un h _ ih=>exact .un h ih
 |bin h _ _ i1 i2=>exact .bin h i1 i2
 |lazy h _ _ i1 i2=>exact .lazy h i1 i2
 |call h2 h3 _ ih=>exact .call h2 h3 ih
 |value h1 _ _ i1 i2=>exact .value h1 i1 i2
def vk(lo:List (List UInt8))(nm:List UInt8):Int:=if nm∈lo then 2 else 3
theorem apv{sg:List (List UInt8×Nat)}{nm:List UInt8}(hv:NV g lo nm){n:Nat}{o v i:Int}:QX g sg lo (n+1) (aQ.mk (vk lo nm) o v i nm []):=by
 unfold vk;split
 .rename_i h;exact .loc h
 .rename_i h;exact .glo (hv.resolve_left h)
def ath(lo:List (List UInt8))(nm:List UInt8)(i:Int):aQ:=aQ.mk (vk lo nm) 0 0 i nm []
theorem ZN{β:Type}(h:Sc g fs lo){i a b:Int}{nm:List UInt8}(hv:NV g lo nm){f}{Q:β->Prop}(k':Ok (f (vk lo nm,0,0,i,nm,g,fs,a,b,lo)) Q):Ok (Option.bind (f141 nm i g fs a b lo) f) Q:=by
 refine bD (λy=>y=(vk lo nm,0,0,i,nm,g,fs,a,b,lo)) ?_ λy e=>by subst e;exact k'
 refine bD (λy=>y=(vk lo nm,0,0,i,nm,g,fs,a,b,lo)) ?_ λy e=>by subst e;exact goK rfl (aI rfl)
 unfold aeZ;refine bD (λy=>y=(vk lo nm,0,0,i,nm,g,fs,a,b,lo)) ?_ λy e=>by subst e;exact bW (by simp) (aI rfl)
 obtain ⟨k,hw,hk⟩:=alW h hv;refine aiq h hw (bD (λy=>y=vk lo nm) ?_ λy e=>by subst e;exact aI rfl);unfold vk;cases hw with
 |loc hm=>rw [if_pos hm];exact b_ rfl (aI rfl)
 |glo hm _=>rw [if_neg hm];exact goT rfl (aI rfl)
 |arr _ _=>omega
 |fn _ _=>omega
def PX(n:Nat)(g:List aA)(fs:List aB)(lo:List (List UInt8))(a b:Int)(y:Int×Int×Int×Int×List UInt8×List aA×List aB×Int×Int×List (List UInt8)×List aQ):Prop:=
 ∃k o v i nm ar,y=(k,o,v,i,nm,g,fs,a,b,lo,ar)/\QX g (iW fs) lo n (aQ.mk k o v i nm ar)
def PXs(n m:Nat)(g:List aA)(fs:List aB)(lo:List (List UInt8))(a b:Int)(y:List aA×List aB×Int×Int×List (List UInt8)×List aQ):Prop:=
 ∃ar,y=(g,fs,a,b,lo,ar)/\ar.length=m/\∀x∈ar,QX g (iW fs) lo n x
theorem XA{rec:Xd}{rec':abr}{n:Nat}{a b:Int}{ls:List aQ}(hl:ls.length<=10)(hr :∀x∈ls,Ok (rec x.kind x.op x.value x.line x.name x.args g fs a b lo) (PX n g fs lo a b)) :
  Ok (Zf rec rec' ls g fs a b lo) (PXs n ls.length g fs lo a b):=by
 unfold Zf;refine bD (PXs n ls.length g fs lo a b) ?_ λy ⟨ar,e,h⟩=>by subst e;exact bW (by simp) (aI ⟨ar,rfl,h⟩)
 refine bD (λy =>∃ar,y=(g,fs,a,b,ar)/\ar.length=ls.length/\∀x∈ar,QX g (iW fs) lo n x) ?_ λy ⟨ar,e,h⟩=>by subst e;exact aI ⟨ar,rfl,h⟩
 refine bQ (λs:Int×List aA×List aB×Int×Int×List aQ =>∃q ar,s=(q,g,fs,a,b,ar)/\(ar.length:Int)=q/\ar.length<=ls.length/\∀x∈ar,QX g (iW fs) lo n x) (λs=>(ls.length-s.1).toNat) ⟨0,[],rfl,rfl,by simp,λx h=>by cases h⟩ λs ⟨q,ar,e,h1,h2,h3⟩=>?_;subst e;subst h1;refine dX (λhc=>?_) λhc=>aI ⟨ar,rfl,?_,h3⟩
 .have hc:ar.length<ls.length:=by simp at hc;omega
  refine bW (aF.2 ⟨by simp only;omega,by simp only;omega⟩) (bD _ (hr _ (by rw [getD_at _ (by simpa using hc)];exact X1 _)) λy ⟨k,o,v,i,nm,Lh,e,hx⟩=>?_);subst e;refine bW (by unfold aX;simp;omega) (aI ⟨⟨_,_,rfl,?_,?_,λx hx'=>?_⟩,?_⟩)
  all_goals try simp only [aG (x:=(ar.length:Int)+1) (by omega)]
  .simp
  .simp;omega
  .rcases Xs.1 hx' with h | h
   .exact h3 x h
   .rw [QP] at h;subst h;exact hx
  .omega
 .have hc:¬ (ar.length:Int)<ls.length:=by simpa using hc
  omega
theorem wC{n:Nat}{sg:List (List UInt8×Nat)}{ar:List aQ}(h:ar.length=1)(hq :∀x∈ar,QX g sg lo n x) :∃x,ar=[x]/\QX g sg lo n x:=by
 obtain ⟨x,e⟩:=List.length_eq_one_iff.1 h;subst e;exact ⟨x,rfl,hq x (by simp)⟩
theorem afB{n:Nat}{sg:List (List UInt8×Nat)}{ar:List aQ}(h:ar.length=2)(hq :∀x∈ar,QX g sg lo n x) :∃x z,ar=[x,z]/\QX g sg lo n x/\QX g sg lo n z:=by
 match ar,h with
 | [x,z],_=>exact ⟨x,z,rfl,hq x (by simp),hq z (by simp)⟩
theorem RX.args{sg:List (List UInt8×Nat)}{n:Nat}{x:aQ}(h:RX g sg lo (n+1) x):x.args.length<=3/\∀y∈x.args,RX g sg lo n y:=by
 cases h with
 |leaf _=>exact ⟨by simp,λy h=>by cases h⟩
 |name _=>exact ⟨by simp,λy h=>by cases h⟩
 |func _=>exact ⟨by simp,λy h=>by cases h⟩
 |elem _ h=>exact ⟨by simp,o9 h⟩
 |un _ h=>exact ⟨by simp,o9 h⟩
 |bin _ h1 h2=>exact ⟨by simp,λy hy=>by rcases QQ.1 hy with e | e;(· subst e;exact h1);exact o9 h2 y e⟩
 |lazy _ h1 h2=>exact ⟨by simp,λy hy=>by rcases QQ.1 hy with e | e;(· subst e;exact h1);exact o9 h2 y e⟩
 |call _ _ h1 h2=>exact ⟨by simp only;omega,h2⟩
 |value h1 h2 h3=>exact ⟨by simp only [Wl];omega,λy hy=>by rcases QQ.1 hy with e | e;(· subst e;exact h2);exact h3 y e⟩
theorem afC{rec:Xd}{rec':abr}{n:Nat}(h:Sc g fs lo){k o v i a b:Int}{nm:List UInt8}{ar:List aQ}(hx:RX g (iW fs) lo (n+1) (aQ.mk k o v i nm ar))(hr:Ok (rec' ar g fs a b lo) (PXs n ar.length g fs lo a b)) :
  Ok (Ze rec rec' k o v i nm ar g fs a b lo) (PX (n+1) g fs lo a b):=by
 have h3:=hx.args.1;simp only at h3;unfold Ze;refine bD (PX (n+1) g fs lo a b) ?_ λy ⟨k,o,v,i,nm,ar,e,h⟩=>by subst e;exact bW (by simp) (aI ⟨k,o,v,i,nm,ar,rfl,h⟩)
 have fin:(∀Lh,Lh.length=ar.length->(∀z∈Lh,QX g (iW fs) lo n z)->QX g (iW fs) lo (n+1) (aQ.mk k o v i nm Lh))->∀y:List aA×List aB×Int×Int,y=(g,fs,a,b)->Ok (Option.bind (rec' ar y.1 y.2.1 y.2.2.1 y.2.2.2 lo) λc40=>some (k,o,v,i,nm,c40.1,c40.2.1,c40.2.2.1,c40.2.2.2.1,lo,c40.2.2.2.2.2)) (PX (n+1) g fs lo a b):=λhq y e=>by
  subst e;refine bD _ hr λy ⟨Lh,e,h1,h2⟩=>?_;subst e;exact aI ⟨k,o,v,i,nm,Lh,rfl,hq Lh h1 h2⟩
 have pass:¬ k=13->¬ k=4->¬ k=11->¬ k=9->∀{P:Int×Int×Int×Int×List UInt8×List aA×List aB×Int×Int×List (List UInt8)×List aQ->Prop} (fn:List aA×List aB×Int×Int->Option _),(∀y,y=(g,fs,a,b)->Ok (fn y) P)->True:=λ_ _ _ _ _ _ _=>trivial;clear pass;cases hx with
 |name hv=>
  obtain ⟨z,hw,hz⟩:=alW h hv;exact goT rfl (Xz h hw hz (ZN h hv (aI ⟨_,_,_,_,_,_,rfl,apv hv⟩)))
 |elem hp hy=>
  refine b_ rfl (iU (λy=>y=(g,fs,a,b)) (goT rfl (Xz h (atg h hp) (.inl rfl) (aI rfl))) (fin λLh h1 h2=>?_));obtain ⟨x,e,hx⟩:=wC h1 h2;subst e;exact .elem hp hx
 |func hs=>
  refine b_ rfl (iU (λy=>y=(g,fs,a,b)) (b_ rfl (iU (λy=>y=(g,fs,a,b)) (goT rfl (Xz h (apu h hs) (.inl rfl) (aI rfl))) λy e=>by subst e;exact aI rfl)) (fin λLh h1 h2=>?_));have:Lh=[]:=Wf.1 h1;subst this;exact .func hs
 |call h1 h2 h3' h4=>
  rcases h2 with hs | hv
  .refine b_ rfl (iU (λy=>y=(g,fs,a,b)) (b_ rfl (iU (λy=>y=(g,fs,a,b)) (b_ rfl (iU (λy=>y=(g,fs,a,b)) (goT rfl (aiq h (apu h hs) (iU (λy=>y=(g,fs,a,b)) (b_ rfl (iU (λy=>y=(g,fs,a,b)) (b_ rfl (goT rfl (bD _ (QG h.fn hs) λc ⟨j,e,j1,j2⟩=>?_))) λy e=>by subst e;exact aI rfl)) λy e=>by subst e;exact aI rfl))) λy e=>by subst e;exact aI rfl)) λy e=>by subst e;exact aI rfl)) (fin λLh h5 h6=>.call (by rw [h5];exact hs) (by omega) h6));subst e;refine bW (aF.2 ⟨by omega,by simp only;omega⟩) (bD (λy=>y=(g,fs,a,b)) (b_ ?_ (aI rfl)) λy e=>by subst e;exact aI rfl);rw [qn];refine decide_eq_true ?_;simp only [Qt];omega
  .obtain ⟨m,rfl⟩ :∃m,n=m+1:=⟨n-1,by omega⟩;obtain ⟨z,hw,hz⟩:=alW h hv;refine b_ rfl (iU (λy=>False) (b_ rfl (iU (λy=>False) (b_ rfl (iU (λy=>False) (goT rfl (aiq h hw (iU (λy=>False) (b_ (decide_eq_false (by simp only;omega)) (iU (λy=>False) (b_ (decide_eq_false (by simp only;omega)) (b_ (decide_eq_false (by simp only;omega)) (bD (λy=>y=(g,fs,a,b)) (b_ (decide_eq_false (by omega)) (aI rfl)) λy e=>?_))) λy e=>e.elim)) λy e=>e.elim))) λy e=>e.elim)) λy e=>e.elim)) λy e=>e.elim);subst e;refine ZN h hv (bD _ hr λy ⟨Lh,e,h5,h6⟩=>?_);subst e;exact bW (by unfold aX;simp;omega) (aI ⟨_,_,_,_,_,ath lo nm i::Lh,rfl,.value (by omega) (apv hv) h6⟩)
 |value h1 h2 h4=>
  refine b_ rfl (iU (λy=>y=(g,fs,a,b)) (b_ rfl (iU (λy=>y=(g,fs,a,b)) (b_ rfl (iU (λy=>y=(g,fs,a,b)) (b_ rfl (bD (λy=>y=(g,fs,a,b)) (goT rfl (bD (λy=>y=(g,fs,a,b)) (b_ (decide_eq_false (by omega)) (aI rfl)) λy e=>by subst e;exact aI rfl)) λy e=>by subst e;exact aI rfl)) λy e=>by subst e;exact aI rfl)) λy e=>by subst e;exact aI rfl)) (fin λLh h5 h6=>?_))
  match Lh,h5 with
  |f::Lh,h5=>exact .value (by simp at h5;omega) (h6 _ (by simp)) λy hy=>h6 y (by simp [hy])
 |leaf hk=>
  refine b_ (decide_eq_false (by omega)) (iU (λy=>y=(g,fs,a,b)) (b_ (decide_eq_false (by omega)) (iU (λy=>y=(g,fs,a,b)) (b_ (decide_eq_false (by omega)) (iU (λy=>y=(g,fs,a,b)) (b_ (decide_eq_false (by omega)) (bD (λy=>y=(g,fs,a,b)) (b_ (decide_eq_false (by omega)) (aI rfl)) λy e=>by subst e;exact aI rfl)) λy e=>by subst e;exact aI rfl)) λy e=>by subst e;exact aI rfl)) (fin λLh h5 h6=>?_));have:Lh=[]:=Wf.1 h5;subst this;exact .leaf hk
 |un ho hy=>
  refine b_ rfl (iU (λy=>y=(g,fs,a,b)) (b_ rfl (iU (λy=>y=(g,fs,a,b)) (b_ rfl (iU (λy=>y=(g,fs,a,b)) (b_ rfl (bD (λy=>y=(g,fs,a,b)) (b_ rfl (aI rfl)) λy e=>by subst e;exact aI rfl)) λy e=>by subst e;exact aI rfl)) λy e=>by subst e;exact aI rfl)) (fin λLh h5 h6=>?_));obtain ⟨x,e,hx⟩:=wC h5 h6;subst e;exact .un ho hx
 |bin ho hy hz=>
  refine b_ rfl (iU (λy=>y=(g,fs,a,b)) (b_ rfl (iU (λy=>y=(g,fs,a,b)) (b_ rfl (iU (λy=>y=(g,fs,a,b)) (b_ rfl (bD (λy=>y=(g,fs,a,b)) (b_ rfl (aI rfl)) λy e=>by subst e;exact aI rfl)) λy e=>by subst e;exact aI rfl)) λy e=>by subst e;exact aI rfl)) (fin λLh h5 h6=>?_));obtain ⟨x,z,e,hx,hz⟩:=afB h5 h6;subst e;exact .bin ho hx hz
 |lazy hk hy hz=>
  refine b_ (decide_eq_false (by omega)) (iU (λy=>y=(g,fs,a,b)) (b_ (decide_eq_false (by omega)) (iU (λy=>y=(g,fs,a,b)) (b_ (decide_eq_false (by omega)) (iU (λy=>y=(g,fs,a,b)) (b_ (decide_eq_false (by omega)) (bD (λy=>y=(g,fs,a,b)) (b_ (decide_eq_false (by omega)) (aI rfl)) λy e=>by subst e;exact aI rfl)) λy e=>by subst e;exact aI rfl)) λy e=>by subst e;exact aI rfl)) (fin λLh h5 h6=>?_));obtain ⟨x,z,e,hx,hz⟩:=afB h5 h6;subst e;exact .lazy hk hx hz
theorem abX(n:Nat):(o7 (n+1)).1=Ze (Zg n) (ajz n):=rfl
theorem abY(n:Nat):(o7 (n+1)).2=Zf (Zg n) (ajz n):=rfl
theorem Om(h:Sc g fs lo){a b:Int} :∀n:Nat,∀k,2*n<=k->∀x,RX g (iW fs) lo n x->Ok (Zg k x.kind x.op x.value x.line x.name x.args g fs a b lo) (PX n g fs lo a b)
 |0,_,_=>λ_ h=>by cases h
 |n+1,0,hk=>by omega
 |n+1,1,hk=>by omega
 |n+1,k+2,hk=>λx hx=>by
  have ih:=Om h (a:=a) (b:=b) n k (by omega);obtain ⟨w1,w2⟩:=hx.args;obtain ⟨x1,x2,x3,x4,x5,x6⟩:=x;refine bD (PX (n+1) g fs lo a b) ?_ λy ⟨k,o,v,i,nm,ar,e,h⟩=>by subst e;exact goK rfl (aI ⟨k,o,v,i,nm,ar,rfl,h⟩)
  rw [abX];refine afC h hx ?_;refine bD (PXs n x6.length g fs lo a b) ?_ λy ⟨ar,e,h⟩=>by subst e;exact goK rfl (aI ⟨ar,rfl,h⟩)
  rw [abY];exact XA (J2 w1 (by omega)) λz hz=>ih z (w2 z hz)
theorem Oo{sg:List (List UInt8×Nat)} :∀n k:Nat,n<=k->n<=1000->∀x,RX g sg lo n x->Ok (Y9 k x.kind x.op x.value x.line x.name x.args) λy=>0<=y/\y<=n
 |0,_,_,_,_,h=>by cases h
 |n+1,0,hk,_,_,_=>by omega
 |n+1,k+1,hk,hn,x,h=>by
  have ih :∀x,RX g sg lo n x->Ok (Y9 k x.kind x.op x.value x.line x.name x.args) λy=>0<=y/\y<=n:=Oo n k (by omega) (by omega);show Ok (aeL (Y9 k) x.kind x.op x.value x.line x.name x.args) _;obtain ⟨hl,hr⟩:=h.args;unfold aeL;refine bD (λy=>0<=y/\y<=n) ?_ λy hy=>aI (by rw [aG (by omega)];omega);refine bQ (λs:Int×Int=>(0<=s.2/\s.2<=x.args.length)/\0<=s.1/\s.1<=n) (λs=>(x.args.length-s.2).toNat) ⟨⟨by simp,by simp⟩,by simp,by simp only;omega⟩ λ⟨z,q⟩ ⟨⟨h1,h2⟩,h3⟩=>dX (λhc=>?_) λ_=>aI h3;have hc:q<x.args.length:=by simpa using hc
  simp only at h1 h2 h3;refine bW (aF.2 ⟨h1,hc⟩) (bD _ (ih _ (hr _ (by rw [getD_at _ (by simp only;omega)];exact X1 _))) λy hy=>aI ⟨⟨⟨?_,?_⟩,?_⟩,?_⟩)
  .simp only [aG (x:=q+1) (by omega)];omega
  .simp only [aG (x:=q+1) (by omega)];omega
  .rw [Ig];omega
  .simp only [aG (x:=q+1) (by omega)];omega
end
theorem afD{α:Type}{l:List α}{q:Int}(d:α)(h0:0<=q)(h1:q<l.length):l.getD q.toNat d∈l:=by
 rw [getD_at _ (by omega)];exact X1 _
inductive QS1(g:List aA)(sg:List (List UInt8×Nat))(L:List (List UInt8))(P:List (List UInt8)->bZ->List (List UInt8)->Nat->Nat->Prop)(lo:List (List UInt8)):bZ->List (List UInt8)->Nat->Nat->Prop
 |var {i:Int} {nm:List UInt8} {x:aQ}:nm∈L->QX g sg L 3 x->QS1 g sg L P lo (bZ.mk 1 i nm [x] [] []) (lo++[nm]) 1 1
 |assign {i:Int} {nm:List UInt8} {x:aQ}:NV g L nm->QX g sg L 3 x->QS1 g sg L P lo (bZ.mk 2 i nm [x] [] []) lo 1 1
 |step {i:Int} {nm:List UInt8} {x:aQ}:NV g L nm->QX g sg L 2 x->QS1 g sg L P lo (bZ.mk 2 i nm [x] [] []) lo 0 1
 |store {i:Int} {nm:List UInt8} {x z:aQ}:PG true g nm->QX g sg L 2 x->QX g sg L 3 z->QS1 g sg L P lo (bZ.mk 3 i nm [x,z] [] []) lo 1 1
 |if' {i:Int} {nm:List UInt8} {x:aQ} {th el:List bZ} {l1 l2:List (List UInt8)} {c1 c2 k1 k2:Nat}:QX g sg L 3 x->th.length<=10->el.length<=10->Ch P lo th l1 c1 k1->Ch P l1 el l2 c2 k2->QS1 g sg L P lo (bZ.mk 4 i nm [x] th el) l2 (1+c1+c2) (1+k1+k2)
 |rC {i:Int} {nm:List UInt8} {x:aQ} {th:List bZ} {l1:List (List UInt8)} {c1 k1:Nat}:QX g sg L 3 x->th.length<=10->Ch P lo th l1 c1 k1->QS1 g sg L P lo (bZ.mk 5 i nm [x] th []) l1 (1+c1) (1+k1)
 |plain {k i:Int} {nm:List UInt8} {x:aQ}:k=6\/k=7\/k=8->QX g sg L 3 x->QS1 g sg L P lo (bZ.mk k i nm [x] [] []) lo 1 1
def QS(g:List aA)(sg:List (List UInt8×Nat))(L:List (List UInt8)):Nat->List (List UInt8)->bZ->List (List UInt8)->Nat->Nat->Prop
 |0=>λ_ _ _ _ _=>False
 |n+1=>λlo s lo' c k=>QS1 g sg L (QS g sg L n) lo s lo' c k
abbrev Rel:=Nat->List (List UInt8)->bZ->List (List UInt8)->Nat->Nat->Prop
def View(P:Rel)(n:Nat)(lo:List (List UInt8))(s:bZ)(lo':List (List UInt8)):Prop:=
 ∃l1 l2 c1 c2 k1 k2,(s.kind=1->l1=lo++[s.name])/\(s.kind≠1->l1=lo)/\Ch (P n) l1 s.then' l2 c1 k1/\Ch (P n) l2 s.else' lo' c2 k2/\s.then'.length<=10/\s.else'.length<=10
theorem ZO{g:List aA}{sg:List (List UInt8×Nat)}{n:Nat}{lo lo':List (List UInt8)}{s:bZ}{c k:Nat}(h:RS g sg (n+1) lo s lo' c k):View (RS g sg) n lo s lo':=by
 cases (show RS1 g sg (RS g sg n) lo s lo' c k from h) with
 |var _ _ _=>exact ⟨_,_,0,0,0,0,λ_=>rfl,λh=>absurd rfl h,.nil,.nil,by simp,by simp⟩
 |assign _ _=>exact ⟨_,_,0,0,0,0,λh=>absurd h (by simp),λ_=>rfl,.nil,.nil,by simp,by simp⟩
 |step _=>exact ⟨_,_,0,0,0,0,λh=>absurd h (by simp),λ_=>rfl,.nil,.nil,by simp,by simp⟩
 |store _ _ _=>exact ⟨_,_,0,0,0,0,λh=>absurd h (by simp),λ_=>rfl,.nil,.nil,by simp,by simp⟩
 |if' _ h1 h2 a b=>exact ⟨_,_,_,_,_,_,λh=>absurd h (by simp),λ_=>rfl,a,b,h1,h2⟩
 |rC _ h1 a=>exact ⟨_,_,_,0,_,0,λh=>absurd h (by simp),λ_=>rfl,a,.nil,h1,by simp⟩
 |plain hk _=>exact ⟨_,_,0,0,0,0,λh=>by simp only at h;omega,λ_=>rfl,.nil,.nil,by simp,by simp⟩
theorem air{g:List aA}{sg:List (List UInt8×Nat)}{L:List (List UInt8)}{n:Nat}{lo lo':List (List UInt8)}{s:bZ}{c k:Nat}(h:QS g sg L (n+1) lo s lo' c k):View (QS g sg L) n lo s lo':=by
 cases (show QS1 g sg L (QS g sg L n) lo s lo' c k from h) with
 |var _ _=>exact ⟨_,_,0,0,0,0,λ_=>rfl,λh=>absurd rfl h,.nil,.nil,by simp,by simp⟩
 |assign _ _=>exact ⟨_,_,0,0,0,0,λh=>absurd h (by simp),λ_=>rfl,.nil,.nil,by simp,by simp⟩
 |step _ _=>exact ⟨_,_,0,0,0,0,λh=>absurd h (by simp),λ_=>rfl,.nil,.nil,by simp,by simp⟩
 |store _ _ _=>exact ⟨_,_,0,0,0,0,λh=>absurd h (by simp),λ_=>rfl,.nil,.nil,by simp,by simp⟩
 |if' _ h1 h2 a b=>exact ⟨_,_,_,_,_,_,λh=>absurd h (by simp),λ_=>rfl,a,b,h1,h2⟩
 |rC _ h1 a=>exact ⟨_,_,_,0,_,0,λh=>absurd h (by simp),λ_=>rfl,a,.nil,h1,by simp⟩
 |plain hk _=>exact ⟨_,_,0,0,0,0,λh=>by simp only at h;omega,λ_=>rfl,.nil,.nil,by simp,by simp⟩
theorem Ch.at{P:List (List UInt8)->bZ->List (List UInt8)->Nat->Nat->Prop}{lo l1:List (List UInt8)}{ss:List bZ}{c k i:Nat}(h:Ch P lo (ss.drop i) l1 c k)(hi:i<ss.length) :∃l2 c1 c2 k1 k2,P lo (ss.getD i oW) l2 c1 k1/\Ch P l2 (ss.drop (i+1)) l1 c2 k2/\c=c1+c2/\k=k1+k2:=by
 rw [v8 hi] at h;cases h with
 |cons a b=>rw [getD_at _ hi];exact ⟨_,_,_,_,_,a,b,rfl,rfl⟩
theorem Ch.fin{P:List (List UInt8)->bZ->List (List UInt8)->Nat->Nat->Prop}{lo l1:List (List UInt8)}{ss:List bZ}{c k i:Nat}(h:Ch P lo (ss.drop i) l1 c k)(hi:ss.length<=i):lo=l1/\c=0/\k=0:=by
 rw [List.drop_eq_nil_of_le hi] at h;cases h with
 |nil=>exact ⟨rfl,rfl,rfl⟩
theorem Ch.len{P:List (List UInt8)->bZ->List (List UInt8)->Nat->Nat->Prop}(hP :∀lo s l1 c k,P lo s l1 c k->lo.length<=l1.length/\l1.length<=lo.length+k){lo l1:List (List UInt8)}{ss:List bZ}{c k:Nat}(h:Ch P lo ss l1 c k):lo.length<=l1.length/\l1.length<=lo.length+k:=by
 induction h with
 |nil=>omega
 |cons a _ ih=>have:=hP _ _ _ _ _ a;omega
theorem Fj{g:List aA}{sg:List (List UInt8×Nat)} :∀n lo s l1 c k,RS g sg n lo s l1 c k->lo.length<=l1.length/\l1.length<=lo.length+k
 |0,_,_,_,_,_,h=>h.elim
 |n+1,lo,s,l1,c,k,h=>by
  have ih:=Fj (g:=g) (sg:=sg) n;cases (show RS1 g sg (RS g sg n) lo s l1 c k from h) with
  |var _ _ _=>simp
  |assign _ _=>omega
  |step _=>omega
  |store _ _ _=>omega
  |if' _ _ _ a b=>have:=a.len ih;have:=b.len ih;omega
  |rC _ _ a=>have:=a.len ih;omega
  |plain _ _=>omega
theorem Iz{P:Rel}(h0 :∀lo s l1 c k,¬ P 0 lo s l1 c k)(hv :∀n lo s l1 c k,P (n+1) lo s l1 c k->View P n lo s l1) :∀n k:Nat,n+1<=k->∀ss:List bZ,ss.length<=10->∀l l' c q,Ch (P n) l ss l' c q->l'.length<=1000->(∀n lo s l1 c k,P n lo s l1 c k->lo.length<=l1.length)->alu k ss l=some l'
 |_,0,hk,_,_,_,_,_,_,_,_,_=>by omega
 |n,k+1,hk,ss,hs,l,l',c,q,hc,hl,hm=>by
  apply ok_eq;show Ok (alr (alu k) ss l) _;have hmC :∀{n:Nat} {a b:List (List UInt8)} {ss:List bZ} {c q:Nat},Ch (P n) a ss b c q->a.length<=b.length:=λh=>by
   induction h with
   |nil=>exact XS _
   |cons a _ ih=>exact J2 (hm _ _ _ _ _ _ a) ih
  unfold alr;refine bD (λy=>y=l') ?_ λy hy=>aI hy;refine bQ (λs:Int×List (List UInt8) =>∃i c q:Nat,s.1=i/\i<=ss.length/\Ch (P n) s.2 (ss.drop i) l' c q) (λs=>(ss.length-s.1).toNat) ⟨0,c,q,rfl,by omega,hc⟩ λ⟨i',acc⟩ ⟨i,c,q,e1,e2,e3⟩=>?_;simp only at e1 e3;subst e1;refine dX (λhc=>?_) λhc=>aI (e3.fin (by simpa using hc)).1;have hc:(i:Int)<ss.length:=by simpa using hc
  have hin:=aF.2 (show 0<=(i:Int)/\(i:Int)<ss.length from ⟨by omega,hc⟩);obtain ⟨l2,c1,c2,k1,k2,hx,hr,_,_⟩:=e3.at (by omega);cases n with
  |zero=>exact absurd hx (h0 _ _ _ _ _)
  |succ n=>
   obtain ⟨m1,m2,d1,d2,q1,q2,v1,v2,v3,v4,v5,v6⟩:=hv _ _ _ _ _ _ hx;have b1:=hmC hr;have b2:=hmC v4;have b3:=hmC v3;refine bW hin (bD (λy=>y=m1) ?_ λy hy=>?_)
   .refine dX (λhk=>bW hin (bW ?_ (aI ?_))) λhk=>aI ?_
    .have:=v1 (by simpa using hk);have b4:m1.length=acc.length+1:=by rw [this];simp
     unfold aX;simp;omega
    .exact (v1 (by simpa using hk)).symm
    .exact (v2 (by simpa using hk)).symm
   subst hy;refine bW hin (gy (Iz h0 hv n k (by omega) _ v5 _ _ _ _ v3 (by omega) hm) (bW hin (gy (Iz h0 hv n k (by omega) _ v6 _ _ _ _ v4 (by omega) hm) (aI ⟨⟨i+1,c2,k2,?_,by omega,hr⟩,?_⟩))))
   .show dL ((i:Int)+1)=_;rw [aG (by omega)];rfl
   .show ((ss.length:Int)-dL ((i:Int)+1)).toNat<((ss.length:Int)-i).toNat;rw [aG (by omega)];omega
theorem QH{P:Rel}(h0 :∀lo s l1 c k,¬ P 0 lo s l1 c k)(hv :∀n lo s l1 c k,P (n+1) lo s l1 c k->View P n lo s l1) :∀n k:Nat,n+1<=k->n<=1000->∀ss:List bZ,ss.length<=10->∀l l' c q,Ch (P n) l ss l' c q->Ok (alx k ss) λy=>0<=y/\y<=n
 |_,0,hk,_,_,_,_,_,_,_,_=>by omega
 |n,k+1,hk,hn,ss,hs,l,l',c,q,hc=>by
  show Ok (alv (alx k) ss) _;unfold alv;refine bD (λy=>0<=y/\y<=n) ?_ λy hy=>aI hy;refine bQ (λs:Int×Int=>(0<=s.1/\s.1<=n)/\∃i c q:Nat,∃l,s.2=i/\i<=ss.length/\Ch (P n) l (ss.drop i) l' c q) (λs=>(ss.length-s.2).toNat) ⟨⟨by simp,by simp only;omega⟩,0,c,q,l,rfl,by omega,hc⟩ λ⟨z,i'⟩ ⟨hz,i,c,q,l,e1,e2,e3⟩=>?_;simp only at e1 hz;subst e1;refine dX (λhc=>?_) λhc=>aI hz;have hc:(i:Int)<ss.length:=by simpa using hc
  have hin:=aF.2 (show 0<=(i:Int)/\(i:Int)<ss.length from ⟨by omega,hc⟩);obtain ⟨l2,c1,c2,k1,k2,hx,hr,_,_⟩:=e3.at (by omega);cases n with
  |zero=>exact absurd hx (h0 _ _ _ _ _)
  |succ n=>
   obtain ⟨m1,m2,d1,d2,q1,q2,v1,v2,v3,v4,v5,v6⟩:=hv _ _ _ _ _ _ hx;refine bW hin (bD _ (QH h0 hv n k (by omega) (by omega) _ v5 _ _ _ _ v3) λy1 hy1=>bW hin (bD _ (QH h0 hv n k (by omega) (by omega) _ v6 _ _ _ _ v4) λy2 hy2=>aI ⟨⟨?_,i+1,c2,k2,l2,?_,by omega,hr⟩,?_⟩))
   .simp only [Ig];rw [aG (x:=1+y1) (by omega),aG (x:=1+y2) (by omega)];omega
   .show dL ((i:Int)+1)=_;rw [aG (by omega)];rfl
   .show ((ss.length:Int)-dL ((i:Int)+1)).toNat<((ss.length:Int)-i).toNat;rw [aG (by omega)];omega
section
variable {g:List aA} {fs:List aB}
theorem ZP :∀x∈frN,cls x=1:=by decide
def BL(g:List aA)(sg:List (List UInt8×Nat))(L:List (List UInt8))(n:Nat)(lo:List (List UInt8))(s:bZ)(lo':List (List UInt8))(c k:Nat):Prop:=
 ∃l1 l2 c1 c2 k1 k2,∃ht:Nat->Nat,(s.kind=1->l1=lo++[s.name]/\s.name∈frN/\¬ s.name∈lo)/\(s.kind≠1->l1=lo)/\(s.kind=2->NV g lo s.name)/\(s.kind=3->PG true g s.name)/\
  Ch (RS g sg n) l1 s.then' l2 c1 k1/\Ch (RS g sg n) l2 s.else' lo' c2 k2/\(s.then'.length<=10/\s.else'.length<=10/\s.exprs.length<=2)/\(∀i,i<s.exprs.length->ht i<=3/\RX g sg lo (ht i) (s.exprs.getD i eF))/\
  ∀es th el,es.length=s.exprs.length->(∀i,i<s.exprs.length->QX g sg L (ht i) (es.getD i eF))->th.length<=10->el.length<=10->Ch (QS g sg L n) l1 th l2 c1 k1->Ch (QS g sg L n) l2 el lo' c2 k2->(th.length=s.then'.length/\el.length=s.else'.length)->QS g sg L (n+1) lo (bZ.mk s.kind s.line s.name es th el) lo' c k
theorem zF{es:List aQ}(h:es.length=1):es=[es.getD 0 eF]:=by
 match es,h with
 | [x],_=>rfl
theorem ais{es:List aQ}(h:es.length=2):es=[es.getD 0 eF,es.getD 1 eF]:=by
 match es,h with
 | [x,z],_=>rfl
theorem alX{sg:List (List UInt8×Nat)}{L:List (List UInt8)}{n:Nat}{lo lo':List (List UInt8)}{s:bZ}{c k:Nat}(hL :∀x∈lo',x∈L)(h:RS g sg (n+1) lo s lo' c k):BL g sg L n lo s lo' c k:=by
 have hLo :∀x∈lo,x∈L:=λx hx=>hL x (Iq _ _ _ _ _ _ h x hx);have one :∀{x:aQ} {m:Nat},m<=3->RX g sg lo m x->∀i,i<([x]:List aQ).length->m<=3/\RX g sg lo m (([x]:List aQ).getD i eF):=λhm hx i hi=>by
  have:i=0:=by simpa using hi
  subst this;exact ⟨hm,hx⟩
 cases (show RS1 g sg (RS g sg n) lo s lo' c k from h) with
 |var h1 h2 hx=>
  refine ⟨_,_,0,0,0,0,λ_=>3,λ_=>⟨rfl,h1,h2⟩,λh=>absurd rfl h,λh=>absurd h (by simp),λh=>absurd h (by simp),.nil,.nil,by simp,one (by omega) hx,λes th el e1 e2 _ _ _ _ ⟨e5,e6⟩=>?_⟩;rw [zF e1,Wf.1 e5,Wf.1 e6];exact .var (hL _ (by simp)) (e2 0 (by simp))
 |assign h1 hx=>
  refine ⟨_,_,0,0,0,0,λ_=>3,λh=>absurd h (by simp),λ_=>rfl,λ_=>h1,λh=>absurd h (by simp),.nil,.nil,by simp,one (by omega) hx,λes th el e1 e2 _ _ _ _ ⟨e5,e6⟩=>?_⟩;rw [zF e1,Wf.1 e5,Wf.1 e6];exact .assign (h1.mono hLo) (e2 0 (by simp))
 |step h1=>
  refine ⟨_,_,0,0,0,0,λ_=>2,λh=>absurd h (by simp),λ_=>rfl,λ_=>h1,λh=>absurd h (by simp),.nil,.nil,by simp,one (by omega) (.bin (by omega) (.name h1) (.leaf (.inl rfl))),λes th el e1 e2 _ _ _ _ ⟨e5,e6⟩=>?_⟩;rw [zF e1,Wf.1 e5,Wf.1 e6];exact .step (h1.mono hLo) (e2 0 (by simp))
 |store h1 hx hz=>
  refine ⟨_,_,0,0,0,0,λi=>if i=0 then 2 else 3,λh=>absurd h (by simp),λ_=>rfl,λh=>absurd h (by simp),λ_=>h1,.nil,.nil,by simp,λi hi=>?_,λes th el e1 e2 _ _ _ _ ⟨e5,e6⟩=>?_⟩
  .have:i=0\/i=1:=by simp at hi;omega
   rcases this with rfl | rfl
   .exact ⟨by simp,hx⟩
   .exact ⟨by simp,hz⟩
  .rw [ais e1,Wf.1 e5,Wf.1 e6];exact .store h1 (e2 0 (by simp)) (e2 1 (by simp))
 |if' hx h1 h2 a b=>
  refine ⟨_,_,_,_,_,_,λ_=>3,λh=>absurd h (by simp),λ_=>rfl,λh=>absurd h (by simp),λh=>absurd h (by simp),a,b,⟨h1,h2,by simp⟩,one (by omega) hx,λes th el e1 e2 e3 e4 ha hb _=>?_⟩;rw [zF e1];exact .if' (e2 0 (by simp)) e3 e4 ha hb
 |rC hx h1 a=>
  refine ⟨_,_,_,0,_,0,λ_=>3,λh=>absurd h (by simp),λ_=>rfl,λh=>absurd h (by simp),λh=>absurd h (by simp),a,.nil,⟨h1,by simp,by simp⟩,one (by omega) hx,λes th el e1 e2 e3 e4 ha hb ⟨_,e6⟩=>?_⟩;rw [zF e1,Wf.1 e6];exact .rC (e2 0 (by simp)) e3 ha
 |plain hk hx=>
  refine ⟨_,_,0,0,0,0,λ_=>3,λh=>by simp only at h;omega,λ_=>rfl,λh=>by simp only at h;omega,λh=>by simp only at h;omega,.nil,.nil,by simp,one (by omega) hx,λes th el e1 e2 _ _ _ _ ⟨e5,e6⟩=>?_⟩;rw [zF e1,Wf.1 e5,Wf.1 e6];exact .plain hk (e2 0 (by simp))
def PR(n m:Nat)(g:List aA)(fs:List aB)(L lo:List (List UInt8))(a:Int)(lo':List (List UInt8))(c q:Nat)(y:List aA×List aB×Int×Int×List bZ×List (List UInt8)):Prop:=
 ∃ss,y=(g,fs,a,0,ss,lo')/\ss.length=m/\Ch (QS g (iW fs) L n) lo ss lo' c q
theorem Fp(hg:GN g)(hf:FN fs){L:List (List UInt8)}{a:Int} :∀n k:Nat,n+1<=k->∀ss:List bZ,ss.length<=10->∀lo lo' c q,Ch (RS g (iW fs) n) lo ss lo' c q->LN lo->lo'.length<=1000->(∀x∈lo',x∈L)->Ok (afa k ss g fs a 0 lo) λy=>PR n ss.length g fs L lo a lo' c q y/\LN lo'
 |_,0,hk,_,_,_,_,_,_,_,_,_,_=>by omega
 |n,k+1,hk,ss,hs,lo,lo',c,q,hch,hln,hl,hL=>by
  show Ok (ae9 (afa k) ss g fs a 0 lo) _;unfold ae9;refine bD (λy=>PR n ss.length g fs L lo a lo' c q y/\LN lo') ?_ λy ⟨⟨ss,e,h⟩,h2⟩=>by subst e;exact aI ⟨⟨ss,rfl,h⟩,h2⟩
  refine bQ (λs:Int×List aA×List aB×Int×Int×List bZ×List (List UInt8) =>∃i c1 q1 c2 q2:Nat,∃rs l1,s=((i:Int),g,fs,a,0,rs,l1)/\i<=ss.length/\rs.length=i/\Ch (QS g (iW fs) L n) lo rs l1 c1 q1/\Ch (RS g (iW fs) n) l1 (ss.drop i) lo' c2 q2/\c=c1+c2/\q=q1+q2/\LN l1) (λs=>(ss.length-s.1).toNat)
   ⟨0,0,0,c,q,[],lo,rfl,by omega,rfl,.nil,hch,by omega,by omega,hln⟩ λs ⟨i,c1,q1,c2,q2,rs,l1,e,e1,e2,e3,e4,e5,e6,e7⟩=>?_
  subst e;refine dX (λhc=>?_) λhc=>?_
  rotate_left
  .have hc:¬ (i:Int)<ss.length:=by simpa using hc
   obtain ⟨f1,f2,f3⟩:=e4.fin (by omega);subst f1;subst f2;subst f3;have:i=ss.length:=by omega
   subst this;subst e5;subst e6;exact aI ⟨⟨rs,rfl,e2,e3⟩,e7⟩
  have hc:(i:Int)<ss.length:=by simpa using hc
  have hin:=aF.2 (show 0<=(i:Int)/\(i:Int)<ss.length from ⟨by omega,hc⟩);obtain ⟨l2,c3,c4,k3,k4,hx,hr,d1,d2⟩:=e4.at (by omega);obtain ⟨x,hxe⟩ :∃x,ss.getD (i:Int).toNat oW=x:=⟨_,rfl⟩;rw [Qt] at hxe;rw [hxe] at hx;simp only [Qt,hxe];cases n with
  |zero=>exact hx.elim
  |succ n=>
   have hl2:l2.length<=1000:=by have:=(hr.len (Fj _)).1;omega
   have hl1:l1.length<=1000:=by have:=(Fj _ _ _ _ _ _ hx).1;omega
   have hLr :∀z∈l2,z∈L:=λz hz=>hL z (QE hr z hz);obtain ⟨m1,m2,p1,p2,r1,r2,ht,w1,w2,w3,w4,w5,w6,⟨w7,w8,w9⟩,w10,w11⟩:=alX hLr hx;have hSc:Sc g fs l1:=⟨hg,hf,e7,by omega⟩;have atl :∀z∈l1,z∈L:=λz hz=>hLr z (Iq _ _ _ _ _ _ hx z hz);refine bW hin (bD (λy =>∃ar,y=(g,fs,a,0,ar)/\ar.length=x.exprs.length/\∀i,i<x.exprs.length->QX g (iW fs) L (ht i) (ar.getD i eF)) ?_ λy ⟨ar,e,f1,f2⟩=>?_)
   .refine bQ (λs:Int×List aA×List aB×Int×Int×List aQ =>∃ar,s=((ar.length:Int),g,fs,a,0,ar)/\ar.length<=x.exprs.length/\∀i,i<ar.length->QX g (iW fs) L (ht i) (ar.getD i eF)) (λs=>(x.exprs.length-s.1).toNat) ⟨[],rfl,by simp,λi h=>by simp at h⟩ λs ⟨ar,e,f1,f2⟩=>?_;subst e;refine dX (λhc=>?_) λhc=>?_
    rotate_left
    .have hc:¬ (ar.length:Int)<x.exprs.length:=by simpa using hc
     exact aI ⟨ar,rfl,by omega,λi hi=>f2 i (by omega)⟩
    have hc:(ar.length:Int)<x.exprs.length:=by simpa using hc
    have hin:=aF.2 (show 0<=(ar.length:Int)/\(ar.length:Int)<x.exprs.length from ⟨by omega,hc⟩);obtain ⟨hh,hz⟩:=w10 ar.length (by omega);simp only [Qt];refine bW hin (bD _ (Oo (ht ar.length) 1048576 (by omega) (by omega) _ hz) λy hy=>bD (λy=>y=(g,fs,a,0)) (b_ (decide_eq_false (by omega)) (aI rfl)) λy e=>?_);subst e;refine bW hin (bD _ (Om hSc (ht ar.length) 1048576 (by omega) _ hz) λy ⟨k,o,v,i,nm,Lh,e,hr⟩=>?_);subst e;refine bW (by unfold aX;simp;omega) (aI ⟨⟨ar++[aQ.mk k o v i nm Lh],?_,by simp;omega,λi hi=>?_⟩,?_⟩)
    .simp only [aG (x:=(ar.length:Int)+1) (by omega)];simp
    .rw [lW];simp only [XN,ZD] at hi;by_cases e:i<ar.length
     .rw [if_pos e];exact f2 i e
     .have:i=ar.length:=by omega
      subst this;rw [if_neg e,if_pos rfl];exact hr.mono atl
    .simp only [aG (x:=(ar.length:Int)+1) (by omega)];omega
   subst e;refine afz hSc (P:=λz=>(x.kind=1->z=0)/\(x.kind=2->z=1\/z=2)/\(x.kind=3->z=3)) (λhm=>⟨λhk=>absurd hm (w1 hk).2.2,λ_=>.inl rfl,λhk=>absurd hm (Xy hSc (by rw [afx hg (w4 hk)];omega))⟩) (λhm=>?_) λz ⟨z1,z2,z3⟩=>?_
   .by_cases hk1:x.kind=1
    .exact ⟨0,ZM hg hf (ZP _ (w1 hk1).2.1),λ_=>rfl,λh=>by omega,λh=>by omega⟩
    .by_cases hk2:x.kind=2
     .exact ⟨2,Iy hg ((w3 hk2).resolve_left hm),λh=>by omega,λ_=>.inr rfl,λh=>by omega⟩
     .by_cases hk3:x.kind=3
      .exact ⟨3,Iy hg (w4 hk3),λh=>by omega,λh=>by omega,λ_=>rfl⟩
      .exact jq (afy hg hf) λy _=>⟨λh=>absurd h hk1,λh=>absurd h hk2,λh=>absurd h hk3⟩
   refine bD (λy=>y=(g,fs,a,0,m1)) ?_ λy e=>?_
   .refine dX (λhk=>?_) λhk=>?_
    .have hk:x.kind=1:=by simpa using hk
     refine bD (λy=>y=(g,fs,a,0)) (b_ (by rw [z1 hk];rfl) (aI rfl)) λy e=>?_;subst e;exact bW (by unfold aX;simp;omega) (aI (by rw [(w1 hk).1]))
    .have hk:x.kind≠1:=by simpa using hk
     rw [w2 hk];refine bD (λu=>u=decide (x.kind=2\/x.kind=3)) ?_ λu hu=>?_
     .refine dX (λh=>aI ?_) λh=>aI ?_
      .have h:x.kind=2:=by simpa using h
       simp [h]
      .have h:¬ x.kind=2:=by simpa using h
       simp [h]
     subst hu;refine bD (λy=>y=(g,fs,a,0)) ?_ λy e=>by subst e;exact aI rfl
     refine dX (λh23=>?_) λ_=>aI rfl;have h23:x.kind=2\/x.kind=3:=by simpa using h23
     refine bD (λy=>y=(g,fs,a,0)) ?_ λy e=>by subst e;exact aI rfl
     refine b_ (decide_eq_false (by rcases h23 with h | h;(· have:=z2 h;omega);(· have:=z3 h;omega))) (bD (λu=>u=false) ?_ λu hu=>?_)
     .refine dX (λh=>?_) λh=>?_
      .have h:x.kind=2:=by simpa using h
       have h3:¬ x.kind=3:=by omega
       refine dX (λhz1=>?_) λ_=>b_ (decide_eq_false h3) (aI rfl);have hz1:¬ z=1:=by simpa using hz1
       exact b_ (by have:=(z2 h).resolve_left hz1;rw [this];rfl) (b_ (decide_eq_false h3) (aI rfl))
      .have h:¬ x.kind=2:=by simpa using h
       have h3:=h23.resolve_left h;exact goT (decide_eq_true h3) (aI (by rw [z3 h3];rfl))
     subst hu;exact bD (λy=>y=(g,fs,a,0)) (b_ rfl (aI rfl)) λy e=>by subst e;exact aI rfl
   subst e;have hm1:LN m1:=by
    by_cases hk1:x.kind=1
    .rw [(w1 hk1).1];intro z hz;rcases Xs.1 hz with hz | hz
     .exact e7 z hz
     .rw [QP] at hz;subst hz;exact ZP _ (w1 hk1).2.1
    .rw [w2 hk1];exact e7
   have hl3:=(w6.len (Fj _)).1;refine bD _ (Fp hg hf (L:=L) (a:=a) n k (by omega) _ w7 _ _ _ _ w5 hm1 (by omega) λz hz=>hLr z (QE w6 z hz)) λy ⟨⟨s1,e,g1,g2⟩,g3⟩=>?_;subst e;refine bD _ (Fp hg hf (L:=L) (a:=a) n k (by omega) _ w8 _ _ _ _ w6 g3 hl2 hLr) λy ⟨⟨s2,e,g4,g5⟩,g6⟩=>?_;subst e;refine bW (by unfold aX;simp;omega) (aI ⟨⟨i+1,_,_,_,_,rs++[bZ.mk x.kind x.line x.name ar s1 s2],l2,?_,by omega,?_,e3.snoc (w11 ar s1 s2 f1 f2 (by omega) (by omega) g2 g5 ⟨g1,g4⟩),hr,by omega,by omega,g6⟩,?_⟩)
   .show (dL ((i:Int)+1),_)=_;rw [aG (by omega)];rfl
   .simp;exact e2
   .show ((ss.length:Int)-dL ((i:Int)+1)).toNat<((ss.length:Int)-i).toNat;rw [aG (by omega)];omega
end
structure alY(g:List aA)(fs:List aB):Prop where
 gn:GN g
 fn:FN fs
 bd :∀i,i<fs.length->(fs.getD i bC).body.length<=10/\∃L c q,Ch (QS g (iW fs) L 3) (fs.getD i bC).params (fs.getD i bC).body L c q/\c<=7/\q<=14/\LN L/\L.length<=16
theorem PN.cls{ps:List (List UInt8)}(h:PN ps):LN ps:=λx hx=>by
 obtain ⟨k,hk,e⟩:=W8 hx;have:=h.2 k hk;rw [getD_at _ hk,e] at this;rw [this];rfl
theorem XB{g:List aA}{sg:List (List UInt8×Nat)}{L:List (List UInt8)} :∀n lo s l1 c k,QS g sg L n lo s l1 c k->lo.length<=l1.length/\l1.length<=lo.length+k
 |0,_,_,_,_,_,h=>h.elim
 |n+1,lo,s,l1,c,k,h=>by
  have ih:=XB (g:=g) (sg:=sg) (L:=L) n;cases (show QS1 g sg L (QS g sg L n) lo s l1 c k from h) with
  |var _ _=>simp
  |assign _ _=>omega
  |step _ _=>omega
  |store _ _ _=>omega
  |if' _ _ _ a b=>have:=a.len ih;have:=b.len ih;omega
  |rC _ _ a=>have:=a.len ih;omega
  |plain _ _=>omega
theorem afF{α:Type}{l m:List α}{d:α}(hl:l.length=m.length)(h :∀i,i<m.length->l.getD i d=m.getD i d):l=m:=by
 refine KS hl λi h1 h2=>?_;have:=h i h2;rw [getD_at _ h1,getD_at _ h2] at this;exact this
theorem XC{g:List aA}{fs:List aB}(h:Src g fs):Ok (f80 g fs) λy=>alY y.2.2.1 y.2.2.2:=by
 have hg:=h.gn;have hf:=h.fn;have hg4:=hg.1;obtain ⟨⟨hf0,hf4⟩,hp0,hfn⟩:=id hf;have hin0:inB (0:Int) fs.length=true:=aF.2 ⟨by omega,by omega⟩;unfold f80;refine bD (λy=>y=false) (b_ (decide_eq_false (by omega)) (aI (decide_eq_false (by omega)))) λs5 e=>?_;subst e;refine b_ rfl (bD (λy=>y=false) (b_ (decide_eq_false (by omega)) (bW hin0 (b_ ?_ (bW hin0 (aI ?_))))) λs15 e=>?_)
 .have:=(hfn 0 hf0).1;rw [if_pos rfl] at this;rw [show Int.toNat 0=0 from rfl,this];rfl
 .rw [show Int.toNat 0=0 from rfl,hp0];rfl
 subst e;refine b_ rfl (iU (λ_=>True) (jv g.length (λ_=>True) (by omega) (λi h1 _=>goT (decide_eq_true (by omega)) (bW (aF.2 ⟨by omega,by omega⟩) (bD (λy=>y=(i:Int)) ?_ λy e=>by subst e;exact b_ (by simp) (aI ⟨rfl,trivial⟩)))) λ_=>b_ (decide_eq_false (by omega)) (aI trivial)) λ_ _=>?_)
 .refine jq (Iu (by omega)) λy hy=>?_;simp only [Qt] at hy;rcases hy with ⟨_,hn⟩ | ⟨j,e,h2,h3⟩
  .exact absurd rfl (hn i h1)
  .rw [e,hg.inj h2 h1 h3]
 refine iU (λ_=>True) (jv fs.length (λ_=>True) (by omega) (λi h1 _=>goT (decide_eq_true (by omega)) (bD (λy=>y=false) ?_ λy e=>by subst e;exact b_ rfl (aI ⟨rfl,trivial⟩))) λ_=>b_ (decide_eq_false (by omega)) (aI trivial)) λ_ _=>?_
 .refine bW (aF.2 ⟨by omega,by omega⟩) ?_;simp only [Qt];refine gy (QF hg (by rw [hf.cls i h1];omega)) (b_ rfl (bW (aF.2 ⟨by omega,by omega⟩) (bD _ (Iw (by omega)) λy hy=>aI ?_)));rcases hy with ⟨_,hn⟩ | ⟨j,e,h2,h3⟩
  .exact absurd rfl (hn i h1)
  .rw [e,hf.inj h2 h1 h3];simp
 refine bW (by unfold aX;simp;omega) (iU (λrs=>(rs.length=fs.length/\∀i,i<fs.length->(rs.getD i bC).name=(fs.getD i bC).name/\(rs.getD i bC).params=(fs.getD i bC).params)/\∀i,i<fs.length->(rs.getD i bC).body.length<=10/\∃L c q,Ch (QS g (iW fs) L 3) (fs.getD i bC).params (rs.getD i bC).body L c q/\c<=7/\q<=14/\LN L/\L.length<=16) ?_ λrs ⟨⟨r1,r2⟩,r3⟩=>aI ?_)
 rotate_left
 .have hsg:iW rs=iW fs:=by
   refine afF (d:=([],0)) (by unfold iW;simp [r1]) λi hi=>?_;have hi:i<fs.length:=by simpa [iW] using hi
   unfold iW;rw [getD_at _ (by simpa using r1▸hi),getD_at _ (by simpa using hi)];simp only [Kg];have:=r2 i hi;rw [getD_at _ (by omega),getD_at _ hi] at this;rw [this.1,this.2]
  have e0:eG++g=g:=by simp
  simp only [e0];refine ⟨hg,⟨⟨by omega,by omega⟩,by rw [(r2 0 hf0).2];exact hp0,λi hi=>?_⟩,λi hi=>?_⟩
  .rw [(r2 i (by omega)).1,(r2 i (by omega)).2];exact hfn i (by omega)
  .rw [hsg,(r2 i (by omega)).2];exact r3 i (by omega)
 refine bQ (λs:Int×List aB =>∃n:Nat,s.1=n/\n<=fs.length/\(s.2.length=n/\∀i,i<n->(s.2.getD i bC).name=(fs.getD i bC).name/\(s.2.getD i bC).params=(fs.getD i bC).params)/\∀i,i<n->(s.2.getD i bC).body.length<=10/\∃L c q,Ch (QS g (iW fs) L 3) (fs.getD i bC).params (s.2.getD i bC).body L c q/\c<=7/\q<=14/\LN L/\L.length<=16) (λs=>(fs.length-s.1).toNat) ⟨0,rfl,by omega,⟨rfl,λi hi=>by omega⟩,λi hi=>by omega⟩ λ⟨q,rs⟩ ⟨n,e1,e2,⟨e3,e4⟩,e5⟩=>?_;simp only at e1 e3 e4 e5;subst e1;refine dX (λhc=>?_) (λhc=>?_)
 rotate_left
 .have:¬ (n:Int)<fs.length:=by simpa using hc
  have:n=fs.length:=by omega
  subst this;exact aI ⟨⟨e3,e4⟩,e5⟩
 have hc:n<fs.length:=by simpa using hc
 obtain ⟨hb,lo,c,q,hch,hc7,apw⟩:=h.bd n hc;obtain ⟨_,hpn⟩:=hfn n hc;obtain ⟨f,hfe⟩ :∃f,fs.getD n bC=f:=⟨_,rfl⟩;rw [hfe] at hb hch hpn;simp only [Qt,hfe];have hp2:=hpn.1;have hlen:=(hch.len (Fj 3)).2;have hcap:(true&&decide ((List.length jX+f.params.length)*16<=140737488355328))=true:=by simp;omega
 have he:jX++f.params=f.params:=by simp
 have hR0 :∀lo s l1 c k,¬ RS g (iW fs) 0 lo s l1 c k:=λ_ _ _ _ _ h=>h;refine bW (aF.2 ⟨by omega,by omega⟩) (bD (λy=>y=false) ?_ λy e=>?_)
 .refine b_ (decide_eq_false (by omega)) ?_;refine gy (y:=lo) ?_ (b_ (decide_eq_false (by omega)) (bD _ (QH hR0 (λ_ _ _ _ _ _=>ZO) 3 1048576 (by omega) (by omega) _ hb _ _ _ _ hch) λy hy=>aI (decide_eq_false (by omega))));apply ok_eq;unfold f74;refine bW hcap ?_;rw [he];exact gy (Iz hR0 (λ_ _ _ _ _ _=>ZO) 3 1048576 (by omega) _ hb _ _ _ _ hch (by omega) λn lo s l1 c k h=>(Fj n lo s l1 c k h).1) (aI rfl)
 subst e;refine b_ rfl (iU (λ_=>True) (jv f.params.length (λ_=>True) (by omega) (λi h1 _=>goT (decide_eq_true (by omega)) (bD (λy=>y=false) ?_ λy e=>by subst e;exact b_ rfl (aI ⟨rfl,trivial⟩))) λ_=>b_ (decide_eq_false (by omega)) (aI trivial)) λ_ _=>?_)
 .refine bW (KR.2 ⟨⟨by omega,by omega⟩,by omega⟩) (bW (aF.2 ⟨by omega,by omega⟩) ?_);simp only [Qt,Int.toNat_zero,List.drop_zero];refine gy (afu (by simp;omega)) (b_ (decide_eq_false λhm=>?_) (bW (aF.2 ⟨by omega,by omega⟩) (gy (ZM hg hf (hpn.cls _ (by rw [getD_at _ h1];exact X1 _))) (aI rfl))));obtain ⟨k,hk,e⟩:=W8 hm;have hk':k<i:=by rw [Vc] at hk;omega
  rw [List.getElem_take] at e;have a1:=hpn.2 k (by omega);have a2:=hpn.2 i h1;rw [getD_at _ (by omega:k<f.params.length),e,a2] at a1;injection a1 with _ a1;injection a1 with a1 _
  have:=Fh (by omega) (by omega) a1;omega
 refine bW hcap ?_;rw [he];refine bD _ (Fp hg hf (L:=lo) (a:=0) 3 1048576 (by omega) _ hb _ _ _ _ hch hpn.cls (by omega) λx hx=>hx) λy ⟨⟨ss,e,c1,c2⟩,c3⟩=>?_;subst e;refine b_ rfl (bW hcap (bW (by unfold aX;simp;omega) (aI ⟨⟨n+1,?_,by omega,⟨by simp [e3],λi hi=>?_⟩,λi hi=>?_⟩,?_⟩)))
 .simp only;rw [aG (by omega)];rfl
 .simp only;rw [lW];by_cases e:i<rs.length
  .rw [if_pos e];exact e4 i (by omega)
  .have:i=n:=by omega
   subst this;rw [if_neg e,if_pos e3.symm,hfe];exact ⟨rfl,rfl⟩
 .simp only;rw [lW];by_cases e:i<rs.length
  .rw [if_pos e];exact e5 i (by omega)
  .have:i=n:=by omega
   subst this;rw [if_neg e,if_pos e3.symm,hfe];exact ⟨by simp only;omega,lo,c,q,c2,hc7,apw,c3,by omega⟩
 .simp only;rw [aG (by omega)];omega
def RG(re x:Int):Prop:=0<=x/\x<re
def GI(a:Bool)(g:List aA)(v:Int):Prop:=(0<=v/\v<g.length)/\decide (0<(g.getD v.toNat (aA.mk bI 0)).size)=a
inductive IV(g:List aA)(sg:List (List UInt8×Nat))(cl re:Int):dB->Prop
 |const {o d a b v:Int} {ar:List Int}:RG re d->ar.length<=10->IV g sg cl re (dB.mk 1 o d a b v ar)
 |move {o d a b v:Int} {ar:List Int}:RG re d->RG re a->ar.length<=10->IV g sg cl re (dB.mk 2 o d a b v ar)
 |un {o d a b v:Int} {ar:List Int}:RG re d->RG re a->o=1\/o=2->ar.length<=10->IV g sg cl re (dB.mk 3 o d a b v ar)
 |bin {o d a b v:Int} {ar:List Int}:RG re d->RG re a->RG re b->3<=o/\o<=11->ar.length<=10->IV g sg cl re (dB.mk 4 o d a b v ar)
 |load {o d a b v:Int} {ar:List Int}:RG re d->GI false g v->ar.length<=10->IV g sg cl re (dB.mk 5 o d a b v ar)
 |store {o d a b v:Int} {ar:List Int}:RG re a->GI false g v->ar.length<=10->IV g sg cl re (dB.mk 6 o d a b v ar)
 |elem {o d a b v:Int} {ar:List Int}:RG re d->RG re a->GI true g v->ar.length<=10->IV g sg cl re (dB.mk 7 o d a b v ar)
 |set {o d a b v:Int} {ar:List Int}:RG re a->RG re b->GI true g v->ar.length<=10->IV g sg cl re (dB.mk 8 o d a b v ar)
 |read {o d a b v:Int} {ar:List Int}:RG re d->ar.length<=10->IV g sg cl re (dB.mk 9 o d a b v ar)
 |print {o d a b v:Int} {ar:List Int}:RG re a->ar.length<=10->IV g sg cl re (dB.mk 10 o d a b v ar)
 |call {o d a b v:Int} {ar:List Int}:RG re d->(0<=v/\v<sg.length)->(sg.getD v.toNat ([],0)).2=ar.length->(∀x∈ar,RG re x)->ar.length<=10->IV g sg cl re (dB.mk 11 o d a b v ar)
 |Lj {o d a b v:Int} {ar:List Int}:RG re d->RG re a->(∀x∈ar,RG re x)->ar.length<=10->IV g sg cl re (dB.mk 12 o d a b v ar)
 |func {o d a b v:Int} {ar:List Int}:RG re d->(0<=v/\v<cl)->ar.length<=10->IV g sg cl re (dB.mk 14 o d a b v ar)
variable {g:List aA} {sg:List (List UInt8×Nat)} {cl re re':Int}
theorem RG.mono(hr:re<=re'){x:Int}(h:RG re x):RG re' x:=⟨h.1,by have:=h.2;omega⟩
theorem IV.mono(hr:re<=re'){i:dB}(h:IV g sg cl re i):IV g sg cl re' i:=by
 cases h with
 |const a b=>exact .const (a.mono hr) b
 |move a b c=>exact .move (a.mono hr) (b.mono hr) c
 |un a b c d=>exact .un (a.mono hr) (b.mono hr) c d
 |bin a b c d e=>exact .bin (a.mono hr) (b.mono hr) (c.mono hr) d e
 |load a b c=>exact .load (a.mono hr) b c
 |store a b c=>exact .store (a.mono hr) b c
 |elem a b c d=>exact .elem (a.mono hr) (b.mono hr) c d
 |set a b c d=>exact .set (a.mono hr) (b.mono hr) c d
 |read a b=>exact .read (a.mono hr) b
 |print a b=>exact .print (a.mono hr) b
 |call a b c d e=>exact .call (a.mono hr) b c (λx hx=>(d x hx).mono hr) e
 |Lj a b c d=>exact .Lj (a.mono hr) (b.mono hr) (λx hx=>(c x hx).mono hr) d
 |func a b c=>exact .func (a.mono hr) b c
structure TV(re:Int)(n:Nat)(k a t e:Int):Prop where
 kind:k=1\/k=2\/k=3
 reg:k≠1->RG re a
 suc :∀x∈succs k t e,0<=x/\x<n
theorem TV.mono{n n':Nat}{k a t e:Int}(hr:re<=re')(hn:n<=n')(h:TV re n k a t e):TV re' n' k a t e:=⟨h.kind,λhk=>(h.reg hk).mono hr,λx hx=>by have:=h.suc x hx;omega⟩
def tvB(re:Int)(n:Nat)(b:aK):Prop:=TV re n b.bT b.lY b.f_ b.dF
def Ag(bl:List aK):Nat:=(bl.map λb=>b.instrs.length+1).sum
structure Inv(g:List aA)(sg:List (List UInt8×Nat))(cl re:Int)(w n:Nat)(bl:List aK)(O:Nat->Prop)(P:Nat->Nat->Prop):Prop where
 wt:Ag bl<=w
 len:bl.length<=n
 ins :∀b∈bl,∀i∈b.instrs,IV g sg cl re i
 trm :∀b,b<bl.length->¬ O b->tvB re bl.length (bl.getD b au)
 opn :∀b,O b->b<bl.length
 src :∀a b,P a b->O a/\b<bl.length
 con :∀S:Nat->Prop,S 0->(∀b,b<bl.length->¬ O b->S b->∀x∈n_ bl b,S x.toNat)->(∀a b,P a b->S a->S b)->∀b,b<bl.length->S b
theorem Inv.up{w n w' n':Nat}{bl:List aK}{O:Nat->Prop}{P:Nat->Nat->Prop}(h:Inv g sg cl re w n bl O P)(hr:re<=re')(hw:w<=w')(hn:n<=n'):Inv g sg cl re' w' n' bl O P:=
 ⟨J2 h.wt hw,J2 h.len hn,λb hb i hi=>(h.ins b hb i hi).mono hr,λb hb ho=>(h.trm b hb ho).mono hr (XS _),h.opn,h.src,h.con⟩
theorem Inv.cast{w n:Nat}{bl:List aK}{O O':Nat->Prop}{P P':Nat->Nat->Prop}(h:Inv g sg cl re w n bl O P)(ho :∀x,O x↔O' x)(hp :∀a b,P a b↔P' a b):Inv g sg cl re w n bl O' P':=by
 have e1:O=O':=funext λx=>propext (ho x);have e2:P=P':=funext λa=>funext λb=>propext (hp a b);rw [<-e1,<-e2];exact h
theorem afG(bl:List aK):bl.length<=Ag bl:=by
 unfold Ag
 induction bl with
 |nil=>simp
 |cons b bl ih=>simp only [Q6,J1,Wl];omega
theorem XD{bl:List aK} :∀b∈bl,b.instrs.length+1<=Ag bl:=by
 unfold Ag
 induction bl with
 |nil=>intro b h;cases h
 |cons c bl ih=>
  intro b hb;simp only [Q6,J1];rcases QQ.1 hb with e | hb
  .subst e;omega
  .have:=ih b hb;omega
theorem XE :∀{bl:List aK} {a:Nat} {b:aK},a<bl.length->Ag (bl.set a b)+((bl.getD a au).instrs.length+1)=Ag bl+(b.instrs.length+1)
 | [],a,b,h=>by simp at h
 |c::bl,0,b,h=>by unfold Ag;simp;omega
 |c::bl,a+1,b,h=>by
  have:=XE (bl:=bl) (a:=a) (b:=b) (by simpa using h);unfold Ag at this ⊢;simp only [List.set_cons_succ,Q6,J1,List.getD_cons_succ];omega
section
variable {fs:List aB} {lo:List (List UInt8)} {nu:Int}
theorem QI{bl jA:List aK}{b:Nat}(h:jA.getD b au=bl.getD b au):n_ jA b=n_ bl b:=by unfold n_;rw [h]
theorem nZ{β:Type}{w n a:Nat}{a' ln:Int}{bl:List aK}{O:Nat->Prop}{P:Nat->Nat->Prop}{f}{Q:β->Prop}(h:Inv g sg cl re w n bl O P)(ha:O a)(hk:w<=1000000)(c :∀jA,jA.length=bl.length+1->Inv g sg cl re (w+1) (n+1) jA (λx=>x=bl.length\/O x) (λx y=>(x=a/\y=bl.length)\/P x y)->Ok (f ((bl.length:Int),g,fs,lo,nu,re,(bl.length:Int),jA)) Q) :
  Ok (Option.bind (f75 ln g fs lo nu re a' bl) f) Q:=by
 have hl:=afG bl;have hw:=h.wt;have hal:=h.opn a ha;have hg :∀(x:aK) b,b<bl.length->(bl++[x]).getD b au=bl.getD b au:=λx b hb=>by rw [lW,if_pos hb]
 refine bD (λy =>∃jA,y=((bl.length:Int),g,fs,lo,nu,re,(bl.length:Int),jA)/\jA.length=bl.length+1/\Inv g sg cl re (w+1) (n+1) jA (λx=>x=bl.length\/O x) (λx y=>(x=a/\y=bl.length)\/P x y)) (bW (by unfold aX;simp;omega) (aI ⟨bl++[_],rfl,by simp,⟨?_,by have:=h.len;simp;omega,λb hb=>?_,λb hb ho=>?_,λb hb=>?_,λx y hp=>?_,λS h0 h1 h2 b hb=>?_⟩⟩)) λy ⟨jA,e,h1,h2⟩=>by subst e;exact c jA h1 h2
 .unfold Ag at hw ⊢;simp;omega
 .rcases Xs.1 hb with hb | hb
  .exact h.ins b hb
  .rw [QP] at hb;subst hb;exact λi hi=>by cases hi
 .simp only [XN,ZD] at hb;have hne:b≠bl.length:=λe=>ho (.inl e);rw [hg _ b (by omega)];exact (h.trm b (by omega) λhb=>ho (.inr hb)).mono (Wz _) (by simp)
 .rcases hb with hb | hb
  .simp;omega
  .have:=h.opn b hb;simp;omega
 .rcases hp with ⟨e1,e2⟩ | hp
  .exact ⟨.inr (e1▸ha),by simp;omega⟩
  .have:=h.src x y hp;exact ⟨.inr this.1,by simp;omega⟩
 .simp only [XN,ZD] at hb;have hold :∀b,b<bl.length->S b:=h.con S h0 (λb hb ho hs x hx=>h1 b (by simp;omega) (λhh=>hh.elim (λe=>by omega) ho) hs x (by rw [QI (hg _ b hb)];exact hx)) λx y hp hs=>h2 x y (.inr hp) hs;by_cases e:b=bl.length
  .rw [e];exact h2 a bl.length (.inl ⟨rfl,rfl⟩) (hold a hal)
  .exact hold b (by omega)
theorem U7{β:Type}{w n a:Nat}{p0 p1 p2 p3 p4 p5:Int}{ar:List Int}{bl:List aK}{O:Nat->Prop}{P:Nat->Nat->Prop}{f}{Q:β->Prop}(h:Inv g sg cl re w n bl O P)(ha:O a)(hk:w<=1000000)(hi:IV g sg cl re (dB.mk p0 p1 p2 p3 p4 p5 ar))(c :∀jA,jA.length=bl.length->Inv g sg cl re (w+1) n jA O P->Ok (f (g,fs,lo,nu,re,(a:Int),jA)) Q) :
  Ok (Option.bind (f77 p0 p1 p2 p3 p4 p5 ar g fs lo nu re a bl) f) Q:=by
 have hal:=h.opn a ha;have hw:=h.wt;have hin:=aF.2 (show 0<=(a:Int)/\(a:Int)<bl.length by omega);have hm:bl.getD a au∈bl:=by rw [getD_at _ hal];exact X1 _
 have hx:=XD _ hm;have hws:=λb=>XE (bl:=bl) (a:=a) (b:=b) hal;refine bD (λy =>∃jA,y=(g,fs,lo,nu,re,(a:Int),jA)/\jA.length=bl.length/\Inv g sg cl re (w+1) n jA O P) ?_ λy ⟨jA,e,h1,h2⟩=>by subst e;exact c jA h1 h2
 unfold f77;refine bD (λy =>∃jA,y=(g,fs,lo,nu,re,(a:Int),jA)/\jA.length=bl.length/\Inv g sg cl re (w+1) n jA O P) ?_ λy ⟨jA,e,h1,h2⟩=>by subst e;exact bW (by simp [h1]) (aI ⟨jA,rfl,h1,h2⟩)
 simp only [Qt];obtain ⟨x,hxe⟩ :∃x,bl.getD a au=x:=⟨_,rfl⟩;simp only [hxe] at hm hx hws ⊢;have hg :∀b,(bl.set a (aK.mk (x.instrs++[dB.mk p0 p1 p2 p3 p4 p5 ar]) x.bT x.lY x.f_ x.dF x.line x.gY x.gG)).getD b au=if b=a then _ else bl.getD b au:=λb=>jC hal
 refine bW hin (bW ?_ (bW hin (bW (by simp) (aI ⟨_,rfl,by simp,⟨?_,by simpa using h.len,λb hb=>?_,λb hb ho=>?_,λb hb=>by simpa using h.opn b hb,λx y hp=>by simpa using h.src x y hp,λS h0 h1 h2 b hb=>?_⟩⟩))))
 .show (true&&decide _)=true;simp only [Bool.true_and,decide_eq_true_eq,ZD];omega
 .have:=hws (aK.mk (x.instrs++[dB.mk p0 p1 p2 p3 p4 p5 ar]) x.bT x.lY x.f_ x.dF x.line x.gY x.gG);simp only [XN,ZD] at this;omega
 .rcases Ks hb with hb | hb
  .exact h.ins b hb
  .subst hb;intro i hi';rcases Xs.1 hi' with hi' | hi'
   .exact h.ins x hm i hi'
   .rw [QP] at hi';subst hi';exact hi
 .rw [hg,if_neg (show ¬ b=a from λe=>ho (e▸ha))];simp only [Up] at hb ⊢;exact h.trm b hb ho
 .simp only [Up] at hb;refine h.con S h0 (λb hb ho hs z hz=>h1 b (by simpa using hb) ho hs z ?_) h2 b hb;rw [QI (bl:=bl) (by rw [hg,if_neg (show ¬ b=a from λe=>ho (e▸ha))])];exact hz
theorem rD{β:Type}{w n b0:Nat}{a p1 p2 p3 p4:Int}{bl:List aK}{O:Nat->Prop}{P:Nat->Nat->Prop}{f}{Q:β->Prop}(h:Inv g sg cl re w n bl O P)(hb0:O b0)(ht:TV re bl.length p1 p2 p3 p4)(hp :∀y,P b0 y->(y:Int)∈succs p1 p3 p4)
  (c :∀jA,jA.length=bl.length->Inv g sg cl re w n jA (λx=>O x/\x≠b0) (λx y=>P x y/\x≠b0)->Ok (f (g,fs,lo,nu,re,a,jA)) Q) :
  Ok (Option.bind (f78 b0 p1 p2 p3 p4 g fs lo nu re a bl) f) Q:=by
 have hal:=h.opn b0 hb0;have hw:=h.wt;refine bD (λy =>∃jA,y=(g,fs,lo,nu,re,a,jA)/\jA.length=bl.length/\Inv g sg cl re w n jA (λx=>O x/\x≠b0) (λx y=>P x y/\x≠b0)) ?_ λy ⟨jA,e,h1,h2⟩=>by subst e;exact c jA h1 h2
 unfold f78;refine bD (λy =>∃jA,y=(g,fs,lo,nu,re,a,jA)/\jA.length=bl.length/\Inv g sg cl re w n jA (λx=>O x/\x≠b0) (λx y=>P x y/\x≠b0)) ?_ λy ⟨jA,e,h1,h2⟩=>by subst e;exact bW (by simp [h1]) (aI ⟨jA,rfl,h1,h2⟩)
 have hm:bl.getD b0 au∈bl:=by rw [getD_at _ hal];exact X1 _
 have hws:=λb=>XE (bl:=bl) (a:=b0) (b:=b) hal;simp only [Qt];obtain ⟨x,hxe⟩ :∃x,bl.getD b0 au=x:=⟨_,rfl⟩;simp only [hxe] at hm hws ⊢;have hg :∀b,(bl.set b0 (aK.mk x.instrs p1 p2 p3 p4 x.line x.gY x.gG)).getD b au=if b=b0 then aK.mk x.instrs p1 p2 p3 p4 x.line x.gY x.gG else bl.getD b au:=λb=>jC hal
 refine bW (aF.2 (by omega)) (aI ⟨_,rfl,by simp,⟨?_,by simpa using h.len,λb hb=>?_,λb hb ho=>?_,λb hb=>by simpa using h.opn b hb.1,λx y hp=>?_,λS h0 h1 h2 b hb=>?_⟩⟩)
 .have:=hws (aK.mk x.instrs p1 p2 p3 p4 x.line x.gY x.gG);simp only at this;omega
 .rcases Ks hb with hb | hb
  .exact h.ins b hb
  .subst hb;exact h.ins x hm
 .rw [hg];simp only [Up] at hb ⊢;by_cases e:b=b0
  .rw [if_pos e];exact ht
  .rw [if_neg e];exact h.trm b hb λhob=>ho ⟨hob,e⟩
 .have:=h.src x y hp.1;exact ⟨⟨this.1,hp.2⟩,by simpa using this.2⟩
 .simp only [Up] at hb;refine h.con S h0 (λb hb ho hs z hz=>h1 b (by simpa using hb) (λhh=>ho hh.1) hs z ?_) (λx y hxy hs=>?_) b hb
  .rw [QI (bl:=bl) (by rw [hg,if_neg (show ¬ b=b0 from λe=>ho (e▸hb0))])];exact hz
  .by_cases e:x=b0
   .subst e;have:=h1 x (by simpa using hal) (λhh=>hh.2 rfl) hs (y:Int) (by unfold n_;rw [hg,if_pos rfl];exact hp y hxy)
    rwa [Qt] at this
   .exact h2 x y ⟨hxy,e⟩ hs
theorem ZQ{β:Type}{nm:List UInt8}{re a:Int}{bl:List aK}{f}{Q:β->Prop}(hl:lo.length<=1000000)(c :∀q:Int,(nm∈lo->0<=q/\q<lo.length)->(¬ nm∈lo->q=-1)->Ok (f (q,g,fs,lo,nu,re,a,bl)) Q):Ok (Option.bind (f119 nm g fs lo nu re a bl) f) Q:=by
 refine bD (λy =>∃q:Int,((nm∈lo->0<=q/\q<lo.length)/\(¬ nm∈lo->q=-1))/\y=(q,g,fs,lo,nu,re,a,bl)) ?_ λy ⟨q,⟨h1,h2⟩,e⟩=>by subst e;exact c q h1 h2
 refine bD (λy =>∃q:Int,((nm∈lo->0<=q/\q<lo.length)/\(¬ nm∈lo->q=-1))/\y=(q,g,fs,lo,nu,re,a,bl)) ?_ λy ⟨q,h,e⟩=>by subst e;exact goK rfl (aI ⟨q,h,rfl⟩)
 unfold aeH;refine bD (λy =>∃q:Int,((nm∈lo->0<=q/\q<lo.length)/\(¬ nm∈lo->q=-1))/\y=(q,g,fs,lo,nu,re,a,bl)) ?_ λy ⟨q,h,e⟩=>by subst e;exact bW (by simp) (aI ⟨q,h,rfl⟩)
 refine iU (λ_=>¬ nm∈lo) (jv lo.length (λi=>lo.getD i bI≠nm) (by omega) (λi h1 _=>goT (decide_eq_true (by omega)) (bW (aF.2 (by omega)) (dX (λhc=>aI ⟨_,⟨λ_=>by omega,λhn=>?_⟩,rfl⟩) λhc=>aI ⟨rfl,by simpa using hc⟩))) λhn=>b_ (decide_eq_false (by omega)) (aI λhm=>?_)) λ_ hn=>aI ⟨-1,⟨λh=>absurd h hn,λ_=>rfl⟩,rfl⟩
 .have hc:lo.getD i bI=nm:=by simpa using hc
  exact absurd (by rw [<-hc,getD_at _ h1];exact X1 _) hn
 .obtain ⟨i,hi,e⟩:=W8 hm;have:=hn i hi;rw [getD_at _ hi] at this;exact this e
end
def BX:Nat->Nat
 |0=>0
 |1=>0
 |n+2=>3*BX (n+1)+4
def WX:Nat->Nat
 |0=>0
 |n+1=>3*WX n+7
def KX(n:Nat):Int:=2*n+1
theorem alZ{q n:Nat}(h:q<=3):q*BX n<=BX (n+1):=by
 cases n with
 |zero=>simp [BX]
 |succ n=>have:=Z1 (BX (n+1)) h;simp only [BX] at this ⊢;omega
theorem ait{n:Nat}(h:1<=n):BX n+BX n+4<=BX (n+1):=by
 cases n with
 |zero=>omega
 |succ n=>simp only [BX];omega
structure Lw(g:List aA)(fs:List aB)(lo:List (List UInt8)):Prop where
 gn:GN g
 fn:FN fs
 ln:LN lo
 lo:lo.length<=16
theorem ZR{g:List aA}{fs:List aB}(hf:FN fs){nm:List UInt8}{q:Nat}(h:(nm,q)∈iW fs):Ok (f98 g fs nm) λy=>(0<=y/\y<(iW fs).length)/\((iW fs).getD y.toNat ([],0)).2=q/\y<fs.length:=by
 refine jq (QG hf h) λy ⟨i,e,h1,h2⟩=>?_;subst e;have hl:(iW fs).length=fs.length:=by unfold iW;simp
 refine ⟨by omega,?_,by omega⟩;rw [Qt,getD_at _ (by omega)];unfold iW;simp only [Kg];rw [getD_at _ h1] at h2;exact h2
theorem IB{g:List aA}{fs:List aB}(hg:GN g){nm:List UInt8}{a:Bool}(h:PG a g nm):Ok (f97 g fs nm) λy=>GI a g y:=by
 refine jq (ZL hg h) λy ⟨i,e,h1,_,h2⟩=>?_;subst e;exact ⟨by omega,by rw [Qt];exact h2⟩
section
variable {g:List aA} {fs:List aB} {lo:List (List UInt8)} {nu:Int}
structure Pre(g:List aA)(fs:List aB)(lo:List (List UInt8))(re:Int)(w m:Nat)(bl:List aK)(a:Nat)(O:Nat->Prop)(P:Nat->Nat->Prop):Prop where
 inv:Inv g (iW fs) fs.length re w m bl (λx=>x=a\/O x) P
 na:¬ O a
 np :∀y,¬ P a y
 re:lo.length<=re
def PV(w m:Nat)(g:List aA)(fs:List aB)(lo:List (List UInt8))(nu re t k:Int)(bl:List aK)(a:Nat)(O:Nat->Prop)(P:Nat->Nat->Prop)(y:List aA×List aB×List (List UInt8)×Int×Int×Int×List aK):Prop:=
 ∃re' a' jA,y=(g,fs,lo,nu,re',((a':Nat):Int),jA)/\re<=re'/\t+1<=re'/\(re'<=re\/re'<=t+k)/\bl.length<=jA.length/\(a'=a\/bl.length<=a')/\Pre g fs lo re' w m jA a' O P
theorem Pre.lt{re:Int}{w m:Nat}{bl:List aK}{a:Nat}{O:Nat->Prop}{P:Nat->Nat->Prop}(h:Pre g fs lo re w m bl a O P):a<bl.length/\(∀x,O x->x<bl.length/\x≠a)/\∀x y,P x y->x<bl.length/\x≠a/\y<bl.length:=
 ⟨h.inv.opn a (.inl rfl),λx hx=>⟨h.inv.opn x (.inr hx),λe=>h.na (e▸hx)⟩,λx y hp=>⟨h.inv.opn x (h.inv.src x y hp).1,λe=>h.np y (e▸hp),(h.inv.src x y hp).2⟩⟩
def VS(g:List aA)(fs:List aB)(lo:List (List UInt8))(nu:Int)(rec:Hq)(n:Nat)(x:aQ)(t:Int):Prop:=
 ∀(re:Int) (a:Nat) bl w m O P,Pre g fs lo re w m bl a O P->w+WX n<=900000->Ok (rec x.kind x.op x.value x.line x.name x.args t g fs lo nu re a bl) (PV (w+WX n) (m+BX n) g fs lo nu re t (KX n) bl a O P)
theorem oU{t e:Int}(h:e≠t):succs 2 t e=[t,e]:=by unfold succs;rw [if_pos ⟨rfl,h⟩]
theorem u_{t e:Int}:succs 1 t e=[t]:=by unfold succs;rw [if_neg (by omega),if_pos (by omega)]
theorem Fq{re a t e:Int}{n:Nat}(ha:RG re a)(ht:0<=t/\t<n)(he:0<=e/\e<n)(hne:e≠t):TV re n 2 a t e:=
 ⟨by omega,λ_=>ha,λx hx=>by
  rw [oU hne] at hx;rcases QQ.1 hx with h | h
  .rw [h];exact ht
  .rw [QP] at h;rw [h];exact he⟩
theorem BD{re a t e:Int}{n:Nat}(ht:0<=t/\t<n):TV re n 1 a t e:=
 ⟨by omega,λh=>absurd rfl h,λx hx=>by rw [u_,QP] at hx;rw [hx];exact ht⟩
theorem abZ{rec:Hq}{rec':abq}{uZ:Uz}{n:Nat}{p0 p1 p2 p3 t re:Int}{p4:List UInt8}{x z:aQ}(hn:1<=n)(hx:VS g fs lo nu rec n x t)(hz:VS g fs lo nu rec n z t)
  {a w m:Nat} {bl:List aK} {O:Nat->Prop} {P:Nat->Nat->Prop} (h:Pre g fs lo re w m bl a O P) (h0:0<=t) (h1:t<=1000) (hw:w+WX (n+1)<=900000) :
  Ok (Zc rec rec' uZ p0 p1 p2 p3 p4 [x,z] t g fs lo nu re a bl) (PV (w+WX (n+1)) (m+BX (n+1)) g fs lo nu re t (KX (n+1)) bl a O P):=by
 have hW:WX (n+1)=3*WX n+7:=rfl;have hB:=ait hn;obtain ⟨q1,q2,q3⟩:=h.lt;unfold Zc;refine bW rfl (bD _ (hx re a bl w m O P h (by omega)) λy ⟨r1,a1,b1,e,d1,d2,d3,d4,d5,d6⟩=>?_);subst e;obtain ⟨u1,u2,u3⟩:=d6.lt;refine nZ (bl:=b1) (re:=r1) d6.inv (.inl rfl) (by omega) λb2 l2 i2=>bW rfl ?_;have hp2:Pre g fs lo r1 (w+WX n+1) (m+BX n+1) b2 b1.length (λx=>x=a1\/O x) (λx y=>(x=a1/\y=b1.length)\/P x y):=
  ⟨i2,λhh=>by rcases hh with hh | hh;(· omega);(· have:=u2 _ hh;omega),λy hh=>by rcases hh with hh | hh;(· omega);(· have:=u3 _ _ hh;omega),d6.re⟩
 refine bD _ (hz r1 b1.length b2 _ _ _ _ hp2 (by omega)) λy ⟨r3,a3,b3,e,e1,e2,e3,e4,e5,e6⟩=>?_;subst e;obtain ⟨v1,v2,v3⟩:=e6.lt;have hrg:RG r3 t:=⟨h0,by omega⟩;have hc :∀{o d a b v},RG r3 d->IV g (iW fs) fs.length r3 (dB.mk 1 o d a b v eInt):=λhd=>.const hd (by simp);refine nZ (bl:=b3) (re:=r3) (a:=a3) e6.inv (.inl rfl) (by omega) λb4 l4 i4=>U7 (bl:=b4) (re:=r3) (a:=b3.length) i4 (.inl rfl) (by omega) (hc hrg) λb5 l5 i5=>nZ (bl:=b5) (re:=r3) (a:=a3) i5 (.inr (.inl rfl)) (by omega) λb6 l6 i6=>U7 (bl:=b6) (re:=r3) (a:=b5.length) i6 (.inl rfl) (by omega) (hc hrg) λb7 l7 i7=>nZ (bl:=b7) (re:=r3) (a:=b3.length) i7 (.inr (.inl rfl)) (by omega) λb8 l8 i8=>?_;have a3n:a1≠a3:=by omega
 have pf :∀x y,P x y->x<bl.length/\x≠a:=λx y hp=>⟨(q3 x y hp).1,(q3 x y hp).2.1⟩;refine rD (bl:=b8) (re:=r3) i8 (b0:=a3) (.inr (.inr (.inr (.inl rfl)))) (Fq hrg (by omega) (by omega) (by omega)) (λy hp=>?_) λb9 l9 i9=>?_
 .rw [oU (by omega)];rcases hp with hp | hp | hp | hp | hp
  .omega
  .simp [hp.2]
  .simp [hp.2]
  .omega
  .have:=pf _ _ hp;omega
 refine bD (λy =>∃jA,y=(g,fs,lo,nu,r3,(b7.length:Int),jA)/\jA.length=b9.length/\Inv g (iW fs) fs.length r3 (w+WX n+1+WX n+1+1+1+1+1) (m+BX n+1+BX n+1+1+1) jA (λx=>((x=b7.length\/x=b5.length\/x=b3.length\/x=a3\/x=a1\/O x)/\x≠a3)/\x≠a1)
   (λx y=>(((x=b3.length/\y=b7.length)\/(x=a3/\y=b5.length)\/(x=a3/\y=b3.length)\/(x=a1/\y=b1.length)\/P x y)/\x≠a3)/\x≠a1)) ?_ λy ⟨b10,e,l10,i10⟩=>?_
 .have hp :∀y,(((a1=b3.length/\y=b7.length)\/(a1=a3/\y=b5.length)\/(a1=a3/\y=b3.length)\/(a1=a1/\y=b1.length)\/P a1 y)/\a1≠a3)->y=b1.length:=λy hp=>by
   rcases hp.1 with hp | hp | hp | hp | hp
   .omega
   .omega
   .omega
   .exact hp.2
   .have:=pf _ _ hp;omega
  refine dX (λ_=>?_) λ_=>?_
  .refine rD (bl:=b9) (re:=r3) i9 (b0:=a1) ⟨.inr (.inr (.inr (.inr (.inl rfl)))),a3n⟩ (Fq hrg (by omega) (by omega) (by omega)) (λy hh=>?_) λb l i=>aI ⟨b,rfl,l,i⟩;rw [oU (by omega),hp y hh];simp
  .refine rD (bl:=b9) (re:=r3) i9 (b0:=a1) ⟨.inr (.inr (.inr (.inr (.inl rfl)))),a3n⟩ (Fq hrg (by omega) (by omega) (by omega)) (λy hh=>?_) λb l i=>aI ⟨b,rfl,l,i⟩;rw [oU (by omega),hp y hh];simp
 subst e;refine rD (bl:=b10) (re:=r3) i10 (b0:=b3.length) ⟨⟨.inr (.inr (.inl rfl)),by omega⟩,by omega⟩ (BD (by omega)) (λy hp=>?_) λb11 l11 i11=>rD (bl:=b11) (re:=r3) i11 (b0:=b5.length) ⟨⟨⟨.inr (.inl rfl),by omega⟩,by omega⟩,by omega⟩ (BD (by omega)) (λy hp=>?_) λb12 l12 i12=>aI ⟨r3,b7.length,b12,rfl,by omega,by omega,?_,by omega,by omega,⟨?_,λhh=>?_,λy hh=>?_,?_⟩⟩
 .rw [u_];rcases hp.1.1 with hp | hp | hp | hp | hp
  .simp [hp.2]
  .omega
  .omega
  .omega
  .have:=pf _ _ hp;omega
 .exfalso;rcases hp.1.1.1 with hp | hp | hp | hp | hp
  .omega
  .omega
  .omega
  .omega
  .have:=pf _ _ hp;omega
 .unfold KX at d3 e3 ⊢;omega
 .refine ((i12.up (Wz _) (by omega) (by omega)).cast (λx=>⟨λhh=>?_,λhh=>?_⟩) λx y=>⟨λhh=>?_,λhh=>?_⟩)
  .rcases hh.1.1.1.1 with e | e | e | e | e | e
   .exact .inl e
   .exact absurd e hh.2
   .exact absurd e hh.1.2
   .exact absurd e hh.1.1.1.2
   .exact absurd e hh.1.1.2
   .exact .inr e
  .rcases hh with e | e
   .subst e;exact ⟨⟨⟨⟨.inl rfl,by omega⟩,by omega⟩,by omega⟩,by omega⟩
   .have:=q2 x e;exact ⟨⟨⟨⟨.inr (.inr (.inr (.inr (.inr e)))),by omega⟩,by omega⟩,by omega⟩,by omega⟩
  .rcases hh.1.1.1.1 with e | e | e | e | e
   .exact absurd e.1 hh.1.2
   .exact absurd e.1 hh.1.1.1.2
   .exact absurd e.1 hh.1.1.1.2
   .exact absurd e.1 hh.1.1.2
   .exact e
  .have:=pf _ _ hh;exact ⟨⟨⟨⟨.inr (.inr (.inr (.inr hh))),by omega⟩,by omega⟩,by omega⟩,by omega⟩
 .have:=q2 _ hh;omega
 .have:=pf _ _ hh;omega
 .have:=h.re;omega
def PVs(w m q:Nat)(g:List aA)(fs:List aB)(lo:List (List UInt8))(nu re t k:Int)(bl:List aK)(a:Nat)(O:Nat->Prop)(P:Nat->Nat->Prop)(y:List aA×List aB×List (List UInt8)×Int×Int×Int×List Int×List aK):Prop:=
 ∃re' a' rs jA,y=(g,fs,lo,nu,re',((a':Nat):Int),rs,jA)/\(rs.length=q/\∀x∈rs,RG re' x)/\re<=re'/\t+q<=re'/\(re'<=re\/re'<=t+2+k)/\bl.length<=jA.length/\(a'=a\/bl.length<=a')/\Pre g fs lo re' w m jA a' O P
theorem U8{rec:Hq}{rec':abq}{uZ:Uz}{n:Nat}{t re:Int}{ar:List aQ}(har:ar.length<=3)(hr :∀x∈ar,∀i:Int,0<=i/\i<=3->VS g fs lo nu rec n x (t+i))
  {a w m:Nat} {bl:List aK} {O:Nat->Prop} {P:Nat->Nat->Prop} (h:Pre g fs lo re w m bl a O P) (h0:0<=t) (h1:t<=990) (hw:w+WX (n+1)<=900000) (ht:t+1<=re) :
  Ok (Zd rec rec' uZ ar t g fs lo nu re a bl) (PVs (w+ar.length*WX n) (m+ar.length*BX n) ar.length g fs lo nu re t (KX n) bl a O P):=by
 have hW:WX (n+1)=3*WX n+7:=rfl;unfold Zd;refine bD (PVs (w+ar.length*WX n) (m+ar.length*BX n) ar.length g fs lo nu re t (KX n) bl a O P) ?_ λy ⟨re',a',rs,jA,e,hh⟩=>by subst e;exact aI ⟨re',a',rs,jA,rfl,hh⟩
 refine bQ (λs:Int×List aA×List aB×List (List UInt8)×Int×Int×Int×List Int×List aK =>∃q:Nat,∃re' a' rs jA,s=((q:Int),g,fs,lo,nu,re',((a':Nat):Int),rs,jA)/\q<=ar.length/\(rs.length=q/\∀x∈rs,RG re' x)/\re<=re'/\t+q<=re'/\(re'<=re\/re'<=t+2+KX n)/\bl.length<=jA.length/\(a'=a\/bl.length<=a')/\Pre g fs lo re' (w+q*WX n) (m+q*BX n) jA a' O P) (λs=>(ar.length-s.1).toNat)
  ⟨0,re,a,[],bl,rfl,by omega,⟨rfl,λx hx=>by cases hx⟩,by omega,by omega,by omega,by omega,.inl rfl,by simpa using h⟩ λs ⟨q,r1,a1,rs,b1,e,c0,⟨c1,c1'⟩,c2,c3,c4,c5,c6,c7⟩=>?_
 subst e;refine dX (λhc=>?_) λhc=>?_
 rotate_left
 .have hc:¬ (q:Int)<ar.length:=by simpa using hc
  have:q=ar.length:=by omega
  subst this;exact aI ⟨r1,a1,rs,b1,rfl,⟨c1,c1'⟩,c2,c3,c4,c5,c6,c7⟩
 have hc:(q:Int)<ar.length:=by simpa using hc
 have hm:=afH (WX n) (show q<3 by omega);have hm2:=afH (BX n) (show q<3 by omega);have hwt:dL (t+q)=t+q:=aG (by omega);refine bW (aF.2 ⟨by simp only;omega,hc⟩) ?_;simp only [hwt];refine bD _ (hr _ (afD eF (by omega) hc) q (by omega) r1 a1 b1 _ _ O P c7 (by omega)) λy ⟨r2,a2,b2,e,d1,d2,d3,d4,d5,d6⟩=>?_;subst e;refine bW (by unfold aX;simp;omega) (aI ⟨⟨q+1,r2,a2,rs++[t+q],b2,?_,by omega,⟨by simp [c1],λx hx=>?_⟩,by omega,by omega,?_,by omega,by omega,?_⟩,?_⟩)
 .show (dL ((q:Int)+1),_)=_;rw [aG (by omega)];rfl
 .rcases Xs.1 hx with hx | hx
  .exact (c1' x hx).mono d1
  .rw [QP] at hx;subst hx;exact ⟨by omega,by omega⟩
 .unfold KX at d3 c4 ⊢;omega
 .exact ⟨d6.inv.up (Wz _) (by omega) (by omega),d6.na,d6.np,d6.re⟩
 .show ((ar.length:Int)-dL ((q:Int)+1)).toNat<((ar.length:Int)-q).toNat;rw [aG (by omega)];omega
where
 afH {q m:Nat} (V:Nat) (h:q<m):(q+1)*V=q*V+V/\q*V+V<=m*V:=by
  have e:(q+1)*V=q*V+V:=Nat.succ_mul q V;exact ⟨e,e▸Z1 V h⟩
theorem gu{x:Option (List aA×List aB×List (List UInt8)×Int×Int×Int×List aK)}{Q:List aA×List aB×List (List UInt8)×Int×Int×Int×List aK->Prop}(h:Ok x Q):Ok (Option.bind x λs=>some (s.1,s.2.1,s.2.2.1,s.2.2.2.1,s.2.2.2.2.1,s.2.2.2.2.2.1,s.2.2.2.2.2.2)) Q:=
 bD _ h λy h=>aI h
theorem QX.args{sg:List (List UInt8×Nat)}{n:Nat}{x:aQ}(h:QX g sg lo (n+1) x):x.args.length<=3/\∀y∈x.args,QX g sg lo n y:=by
 cases h with
 |leaf _=>exact ⟨by simp,λy h=>by cases h⟩
 |loc _=>exact ⟨by simp,λy h=>by cases h⟩
 |glo _=>exact ⟨by simp,λy h=>by cases h⟩
 |func _=>exact ⟨by simp,λy h=>by cases h⟩
 |elem _ h=>exact ⟨by simp,o9 h⟩
 |un _ h=>exact ⟨by simp,o9 h⟩
 |bin _ h1 h2=>exact ⟨by simp,λy hy=>by rcases QQ.1 hy with e | e;(· subst e;exact h1);exact o9 h2 y e⟩
 |lazy _ h1 h2=>exact ⟨by simp,λy hy=>by rcases QQ.1 hy with e | e;(· subst e;exact h1);exact o9 h2 y e⟩
 |call _ h1 h2=>exact ⟨by simp only;omega,h2⟩
 |value h1 h2 h3=>exact ⟨by simp only [Wl];omega,λy hy=>by rcases QQ.1 hy with e | e;(· subst e;exact h2);exact h3 y e⟩
theorem XF{rec:Hq}{rec':abq}{uZ:Uz}{n:Nat}(hS:Lw g fs lo){x:aQ}(hx:QX g (iW fs) lo (n+1) x){t re:Int}{a w m:Nat}{bl:List aK}{O:Nat->Prop}{P:Nat->Nat->Prop}(h:Pre g fs lo re w m bl a O P)(h0:0<=t)(h1:t<=990)(hw:w+WX (n+1)<=900000)
  (hl:x.kind=7\/x.kind=8->∀re,Pre g fs lo re w m bl a O P->Ok (rec' x.kind x.op x.value x.line x.name x.args t g fs lo nu re a bl) (PV (w+WX (n+1)) (m+BX (n+1)) g fs lo nu re t (KX (n+1)) bl a O P))
  (hv :∀re,Pre g fs lo re w m bl a O P->t+1<=re->Ok (uZ x.args t g fs lo nu re a bl) (PVs (w+x.args.length*WX n) (m+x.args.length*BX n) x.args.length g fs lo nu re t (KX n) bl a O P)) :
  Ok (Za rec rec' uZ x.kind x.op x.value x.line x.name x.args t g fs lo nu re a bl) (PV (w+WX (n+1)) (m+BX (n+1)) g fs lo nu re t (KX (n+1)) bl a O P):=by
 have hW:WX (n+1)=3*WX n+7:=rfl;have ha3:=hx.args.1;have hB:=alZ (n:=n) ha3;have hWm:=Z1 (WX n) ha3;obtain ⟨r1,hr1⟩ :∃r1,Eu re (dL (t+1))=r1:=⟨_,rfl⟩;have hr1':r1=max re (t+1):=by rw [<-hr1,Ig,aG (by omega)]
 have hp1:Pre g fs lo r1 w m bl a O P:=⟨h.inv.up (by omega) (XS _) (XS _),h.na,h.np,by have:=h.re;omega⟩;have hout :∀y,PV (w+WX (n+1)) (m+BX (n+1)) g fs lo nu r1 t (KX (n+1)) bl a O P y->PV (w+WX (n+1)) (m+BX (n+1)) g fs lo nu re t (KX (n+1)) bl a O P y:=λy ⟨r,a',b,e,c1,c2,c3,c4⟩=>⟨r,a',b,e,by omega,c2,by unfold KX at c3 ⊢;omega,c4⟩;unfold Za;dsimp only;rw [hr1];refine bD (λs=>s=decide (x.kind=7\/x.kind=8)) ?_ λs hs=>?_
 .refine dX (λe=>aI ?_) λe=>aI ?_
  .have e:x.kind=7:=by simpa using e
   simp [e]
  .have e:¬ x.kind=7:=by simpa using e
   simp [e]
 subst hs;refine dX (λe=>gu (jq (hl (by simpa using e) r1 hp1) hout)) λe=>?_;have e:¬ (x.kind=7\/x.kind=8):=by simpa using e
 refine bD _ (hv r1 hp1 (by omega)) λy ⟨r2,a2,rs,b2,e',⟨c1,c2⟩,c3,c4,c5,c6,c7,c8⟩=>?_;subst e';have hrt:RG r2 t:=⟨h0,by omega⟩;have put :∀{p0 p1 p2 p3 p4 p5:Int} {ar:List Int},IV g (iW fs) fs.length r2 (dB.mk p0 p1 p2 p3 p4 p5 ar)->Ok (f77 p0 p1 p2 p3 p4 p5 ar g fs lo nu r2 a2 b2) (PV (w+WX (n+1)) (m+BX (n+1)) g fs lo nu re t (KX (n+1)) bl a O P):=λ{p0 p1 p2 p3 p4 p5 ar} hi=>by
  have:=U7 (g:=g) (sg:=iW fs) (cl:=fs.length) (fs:=fs) (lo:=lo) (nu:=nu) (re:=r2) (p0:=p0) (p1:=p1) (p2:=p2) (p3:=p3) (p4:=p4) (p5:=p5) (ar:=ar) (f:=some) (Q:=PV (w+WX (n+1)) (m+BX (n+1)) g fs lo nu re t (KX (n+1)) bl a O P) c8.inv (.inl rfl) (by omega) hi λb l hh=>aI ⟨r2,a2,b,rfl,by omega,by omega,by unfold KX at c5 ⊢;omega,by omega,c7,⟨hh.up (Wz _) (by omega) (by omega),c8.na,c8.np,c8.re⟩⟩
  rwa [show∀z:Option (List aA×List aB×List (List UInt8)×Int×Int×Int×List aK),Option.bind z some=z from λz=>by cases z<;>rfl] at this
 have hlo:lo.length<=1000000:=by have:=hS.lo;omega
 have hlr:=c8.re;clear hout hv hl;cases hx with
 |leaf hk=>
  rcases hk with hk | hk
  .subst hk;exact gu (goT rfl (gu (put (.const hrt (by simp)))))
  .subst hk;exact gu (b_ rfl (gu (b_ rfl (gu (b_ rfl (gu (b_ rfl (gu (b_ rfl (gu (b_ rfl (gu (b_ rfl (gu (b_ rfl (gu (b_ rfl (gu (goT rfl (gu (put (.read hrt (by simp)))))))))))))))))))))))
 |loc hm=>exact gu (b_ rfl (gu (goT rfl (ZQ hlo λq q1 _=>gu (put (.move hrt ⟨(q1 hm).1,by have:q<lo.length:=(q1 hm).2;omega⟩ (by simp)))))))
 |glo hg=>exact gu (b_ rfl (gu (b_ rfl (gu (goT rfl (bD _ (IB hS.gn hg) λy hy=>gu (put (.load hrt hy (by simp)))))))))
 |func hs=>exact gu (b_ rfl (gu (b_ rfl (gu (b_ rfl (gu (b_ rfl (gu (b_ rfl (gu (b_ rfl (gu (b_ rfl (gu (b_ rfl (gu (goT rfl (bD _ (ZR hS.fn hs) λy hy=>gu (put (.func hrt ⟨hy.1.1,hy.2.2⟩ (by simp)))))))))))))))))))))
 |elem hg _=>exact gu (b_ rfl (gu (b_ rfl (gu (b_ rfl (gu (goT rfl (bD _ (IB hS.gn hg) λy hy=>gu (put (.elem hrt hrt hy (by simp)))))))))))
 |un ho _=>exact gu (b_ rfl (gu (b_ rfl (gu (b_ rfl (gu (b_ rfl (gu (goT rfl (gu (put (.un hrt hrt ho (by simp)))))))))))))
 |bin ho _ _=>
  have hb:RG r2 (dL (t+1)):=by rw [aG (by omega)];simp only [Wl,K1] at c4;exact ⟨by omega,by omega⟩
  exact gu (b_ rfl (gu (b_ rfl (gu (b_ rfl (gu (b_ rfl (gu (b_ rfl (gu (goT rfl (gu (put (.bin hrt hrt hb ho (by simp)))))))))))))))
 |lazy hk _ _=>exact absurd hk e
 |call hs hlen _=>
  simp only at c1;exact gu (b_ rfl (gu (b_ rfl (gu (b_ rfl (gu (b_ rfl (gu (b_ rfl (gu (b_ rfl (gu (goT rfl (bD _ (ZR hS.fn hs) λy hy=>gu (put (.call hrt hy.1 (by rw [hy.2.1];exact c1.symm) c2 (show rs.length<=10 by omega)))))))))))))))))
 |value hlen _ _=>
  simp only [Wl] at c1;refine gu (b_ rfl (gu (b_ rfl (gu (b_ rfl (gu (b_ rfl (gu (b_ rfl (gu (b_ rfl (gu (b_ rfl (gu (goT rfl (bW (KR.2 ⟨⟨by omega,by simp only;omega⟩,by simp only;omega⟩) (gu (put (.Lj hrt hrt (λx hx=>c2 x (ZZ (V0 hx))) ?_)))))))))))))))))));simp;omega
theorem ab1(n:Nat):(iJ (n+1)).1=Za (UO n) (aeO n) (aeP n):=rfl
theorem ab2(n:Nat):(iJ (n+1)).2.1=Zc (UO n) (aeO n) (aeP n):=rfl
theorem ab3(n:Nat):(iJ (n+1)).2.2=Zd (UO n) (aeO n) (aeP n):=rfl
theorem QJ(hS:Lw g fs lo) :∀n k:Nat,2*n<=k->n<=10->∀x,QX g (iW fs) lo n x->∀(t re:Int) (a:Nat) bl w m O P,Pre g fs lo re w m bl a O P->0<=t->t+4*n<=980->w+WX n<=900000->Ok (UO k x.kind x.op x.value x.line x.name x.args t g fs lo nu re a bl) (PV (w+WX n) (m+BX n) g fs lo nu re t (KX n) bl a O P)
 |0,_,_,_=>λ_ h=>by cases h
 |n+1,0,hk,_=>by omega
 |n+1,1,hk,_=>by omega
 |n+1,k+2,hk,hn=>λx hx t re a bl w m O P h h0 h1 hw=>by
  have ih:=QJ hS n k (by omega) (by omega);obtain ⟨ha3,har⟩:=hx.args;show Ok ((iJ (k+2)).1 x.kind x.op x.value x.line x.name x.args t g fs lo nu re a bl) _;rw [ab1];refine XF hS hx h h0 (by omega) hw (λhk re hp=>?_) λre hp ht=>?_
  .show Ok ((iJ (k+1)).2.1 x.kind x.op x.value x.line x.name x.args t g fs lo nu re a bl) _;rw [ab2];cases hx with
   |lazy _ h2 h3=>
    have hn1:1<=n:=by
     cases n with
     |zero=>cases h2
     |succ n=>omega
    exact abZ hn1 (λre a bl w m O P hp hw=>ih _ h2 t re a bl w m O P hp h0 (by omega) hw) (λre a bl w m O P hp hw=>ih _ h3 t re a bl w m O P hp h0 (by omega) hw) hp h0 (by omega) hw
   |leaf h=>simp only at hk;omega
   |loc _=>simp only at hk;omega
   |glo _=>simp only at hk;omega
   |func _=>simp only at hk;omega
   |elem _ _=>simp only at hk;omega
   |un _ _=>simp only at hk;omega
   |bin _ _ _=>simp only at hk;omega
   |call _ _ _=>simp only at hk;omega
   |value _ _ _=>simp only at hk;omega
  .show Ok ((iJ (k+1)).2.2 x.args t g fs lo nu re a bl) _;rw [ab3];exact U8 ha3 (λz hz i hi re a bl w m O P hp hw=>ih z (har z hz) (t+i) re a bl w m O P hp (by omega) (by omega) hw) hp h0 (by omega) hw ht
end
section
variable {g:List aA} {fs:List aB} {lo:List (List UInt8)} {nu:Int}
theorem wx2:WX 2=28:=rfl
theorem wx3:WX 3=91:=rfl
theorem bx2:BX 2=4:=rfl
theorem bx3:BX 3=16:=rfl
def PW(w m:Nat)(g:List aA)(fs:List aB)(lo:List (List UInt8))(nu re:Int)(bl:List aK)(a:Nat)(O:Nat->Prop)(P:Nat->Nat->Prop)(y:Bool×List aA×List aB×List (List UInt8)×Int×Int×Int×List aK):Prop:=
 ∃on re' a' jA,y=(on,g,fs,lo,nu,re',((a':Nat):Int),jA)/\re<=re'/\(re'<=re\/re'<=lo.length+10)/\bl.length<=jA.length/\(a'=a\/bl.length<=a')/\Inv g (iW fs) fs.length re' w m jA (λx=>(on=true/\x=a')\/O x) P
def sW(ht:Nat->Nat):Nat->Nat
 |0=>0
 |q+1=>sW ht q+WX (ht q)
def sB(ht:Nat->Nat):Nat->Nat
 |0=>0
 |q+1=>sB ht q+BX (ht q)
theorem ajK{n:Nat}(h:n<=3):WX n<=91:=by
 have:n=0\/n=1\/n=2\/n=3:=by omega
 rcases this with rfl | rfl | rfl | rfl<;>decide
theorem ajL{ht:Nat->Nat}(h :∀i,ht i<=3) :∀q,sW ht q<=91*q
 |0=>by simp [sW]
 |q+1=>by have:=ajL h q;have:=ajK (h q);simp only [sW];omega
def PE2(w m:Nat)(q:Nat)(g:List aA)(fs:List aB)(lo:List (List UInt8))(nu re:Int)(bl:List aK)(a:Nat)(O:Nat->Prop)(P:Nat->Nat->Prop)(y:List aA×List aB×List (List UInt8)×Int×Int×Int×List aK):Prop:=
 ∃re' a' jA,y=(g,fs,lo,nu,re',((a':Nat):Int),jA)/\re<=re'/\(lo.length:Int)+q<=re'/\(re'<=re\/re'<=lo.length+10)/\bl.length<=jA.length/\(a'=a\/bl.length<=a')/\Pre g fs lo re' w m jA a' O P
theorem ab4(hS:Lw g fs lo){es:List aQ}{ht:Nat->Nat}(he:es.length<=2)(hh :∀i,ht i<=3)(hq :∀i,i<es.length->QX g (iW fs) lo (ht i) (es.getD i eF)){re:Int}{a w m:Nat}{bl:List aK}{O:Nat->Prop}{P:Nat->Nat->Prop}(h:Pre g fs lo re w m bl a O P)(hw:w+182<=800000)
  {body:Int×List aA×List aB×List (List UInt8)×Int×Int×Int×List aK->Option ((Int×List aA×List aB×List (List UInt8)×Int×Int×Int×List aK) ⊕ (List aA×List aB×List (List UInt8)×Int×Int×Int×List aK))}
  (hb :∀(q:Nat) (re:Int) (a:Int) (b:List aK),body ((q:Int),g,fs,lo,nu,re,a,b)=bif decide ((q:Int)<(es.length:Int)) then ck (inB (q:Int) es.length) <| OB (f118 (List.getD es q eF).kind (List.getD es q eF).op (List.getD es q eF).value (List.getD es q eF).line (List.getD es q eF).name (List.getD es q eF).args (dL ((lo.length:Int)+q)) g fs lo nu re a b) λc8=>some (.inl ((dL ((q:Int)+1)),c8.1,c8.2.1,c8.2.2.1,c8.2.2.2.1,c8.2.2.2.2.1,c8.2.2.2.2.2.1,c8.2.2.2.2.2.2)) else some (.inr (g,fs,lo,nu,re,a,b))) :
  Ok (bF body ((0:Int),g,fs,lo,nu,re,(a:Int),bl)) (PE2 (w+sW ht es.length) (m+sB ht es.length) es.length g fs lo nu re bl a O P):=by
 have hL:=hS.lo;refine bQ (λs =>∃q:Nat,∃re' a' b,s=((q:Int),g,fs,lo,nu,re',((a':Nat):Int),b)/\q<=es.length/\re<=re'/\(lo.length:Int)+q<=re'/\(re'<=re\/re'<=lo.length+10)/\bl.length<=b.length/\(a'=a\/bl.length<=a')/\Pre g fs lo re' (w+sW ht q) (m+sB ht q) b a' O P) (λs=>(es.length-s.1).toNat)
  ⟨0,re,a,bl,rfl,by omega,by omega,by have:=h.re;omega,by omega,by omega,.inl rfl,by simpa [sW,sB] using h⟩ λs ⟨q,r1,a1,b1,e,c0,c1,c2,c3,c4,c5,c6⟩=>?_
 subst e;rw [hb];refine dX (λhc=>?_) λhc=>?_
 rotate_left
 .have hc:¬ (q:Int)<es.length:=by simpa using hc
  have:q=es.length:=by omega
  subst this;exact aI ⟨r1,a1,b1,rfl,c1,c2,c3,c4,c5,c6⟩
 have hc:(q:Int)<es.length:=by simpa using hc
 have hsw:=ajL hh q;have hwx:=ajK (hh q);have hhq:=hh q;refine bW (aF.2 ⟨by omega,hc⟩) ?_;rw [aG (x:=(lo.length:Int)+q) (by omega)];refine bD _ (QJ hS (ht q) 1048576 (by omega) (by omega) _ (hq q (by omega)) (lo.length+q) r1 a1 b1 _ _ O P c6 (by omega) (by omega) (by omega)) λy ⟨r2,a2,b2,e,d1,d2,d3,d4,d5,d6⟩=>?_;subst e;refine aI ⟨⟨q+1,r2,a2,b2,?_,by omega,by omega,by omega,?_,by omega,by omega,?_⟩,?_⟩
 .show (dL ((q:Int)+1),_)=_;rw [aG (by omega)];rfl
 .unfold KX at d3;omega
 .simp only [sW,sB];rw [<-US,<-US];exact d6
 .show ((es.length:Int)-dL ((q:Int)+1)).toNat<((es.length:Int)-q).toNat;rw [aG (by omega)];omega
def SS(g:List aA)(fs:List aB)(lo:List (List UInt8))(nu:Int)(rec:T76)(ss:List bZ)(c k:Nat):Prop:=
 ∀(re:Int) (a:Nat) bl w m O P,Pre g fs lo re w m bl a O P->w+130*k<=700000->Ok (rec ss g fs lo nu re a bl) (PW (w+130*k) (m+(20*c+4*k)) g fs lo nu re bl a O P)
theorem XG{rec:T76}{rec':T95}{U9:ML}{U_:MN}{c k:Nat}{p0 p1 re:Int}{nm:List UInt8}{x:aQ}{th el:List bZ}(hS:Lw g fs lo)(hx:QX g (iW fs) lo 3 x)
  (hr:SS g fs lo nu rec th c k) {a w m:Nat} {bl:List aK} {O:Nat->Prop} {P:Nat->Nat->Prop} (h:Pre g fs lo re w m bl a O P) (hw:w+130*(1+k)<=700000) :
  Ok (Zm rec rec' U9 U_ p0 p1 nm [x] th el (lo.length:Int) g fs lo nu re a bl) λy=>PW (w+130*(1+k)) (m+(20*(1+c)+4*(1+k))) g fs lo nu re bl a O P (true,y):=by
 have hL:=hS.lo;obtain ⟨q1,q2,q3⟩:=h.lt;have pf :∀x y,P x y->x<bl.length/\x≠a:=λx y hp=>⟨(q3 x y hp).1,(q3 x y hp).2.1⟩;unfold Zm;refine nZ (bl:=bl) (re:=re) (a:=a) h.inv (.inl rfl) (by omega) λb1 l1 i1=>rD (bl:=b1) (re:=re) (b0:=a) i1 (.inr (.inl rfl)) (BD (by omega)) (λy hp=>?_) λb2 l2 i2=>bW rfl ?_
 .rw [u_];rcases hp with hp | hp
  .simp [hp.2]
  .exact absurd rfl (pf _ _ hp).2
 have hp2:Pre g fs lo re (w+1) (m+1) b2 bl.length O P:=by
  refine ⟨i2.cast (λz=>⟨λhh=>?_,λhh=>?_⟩) λz y=>⟨λhh=>?_,λhh=>?_⟩,λhh=>?_,λy hh=>?_,h.re⟩
  .rcases hh.1 with e | e | e
   .exact .inl e
   .exact absurd e hh.2
   .exact .inr e
  .rcases hh with e | e
   .exact ⟨.inl e,by omega⟩
   .exact ⟨.inr (.inr e),(q2 z e).2⟩
  .rcases hh.1 with e | e
   .exact absurd e.1 hh.2
   .exact e
  .exact ⟨.inr hh,(pf _ _ hh).2⟩
  .have:=q2 _ hh;omega
  .have:=pf _ _ hh;omega
 refine bD _ (QJ hS 3 1048576 (by omega) (by omega) x hx lo.length re bl.length b2 _ _ O P hp2 (by omega) (by omega) (by rw [wx3];omega)) λy ⟨r3,a3,b3,e,d1,d2,d3,d4,d5,d6⟩=>?_;subst e;rw [wx3,bx3] at d6;obtain ⟨u1,u2,u3⟩:=d6.lt;refine nZ (bl:=b3) (re:=r3) (a:=a3) d6.inv (.inl rfl) (by omega) λb4 l4 i4=>?_;have hp4:Pre g fs lo r3 (w+1+91+1) (m+1+16+1) b4 b3.length (λx=>x=a3\/O x) (λx y=>(x=a3/\y=b3.length)\/P x y):=
  ⟨i4,λhh=>by rcases hh with hh | hh;(· omega);(· have:=u2 _ hh;omega),λy hh=>by rcases hh with hh | hh;(· omega);(· have:=u3 _ _ hh;omega),d6.re⟩
 refine bD _ (hr r3 b3.length b4 _ _ _ _ hp4 (by omega)) λy ⟨on,r5,a5,b5,e,e1,e2,e3,e4,e5⟩=>?_;subst e;have hlen5:=e5.opn;refine bD (λy =>∃jA,y=(g,fs,lo,nu,r5,(a5:Int),jA)/\jA.length=b5.length/\Inv g (iW fs) fs.length r5 (w+1+91+1+130*k) (m+1+16+1+(20*c+4*k)) jA (λx=>x=a3\/O x) (λx y=>(x=a3/\y=b3.length)\/P x y)) ?_ λy ⟨b6,e,l6,i6⟩=>?_
 .refine dX (λhon=>?_) λhon=>aI ⟨b5,rfl,rfl,e5.cast (λz=>⟨λhh=>hh.resolve_left λhh=>?_,.inr⟩) λz y=>Iff.rfl⟩
  rotate_left
  .have hon:on=false:=hon;rw [hon] at hh;exact absurd hh.1 (by simp)
  have hon:on=true:=hon;refine rD (bl:=b5) (re:=r5) (b0:=a5) e5 (.inl ⟨hon,rfl⟩) (BD (by omega)) (λy hp=>?_) λb l i=>aI ⟨b,rfl,l,i.cast (λz=>⟨λhh=>?_,λhh=>?_⟩) λz y=>⟨λhh=>hh.1,λhh=>⟨hh,?_⟩⟩⟩
  .rcases hp with hp | hp
   .omega
   .have:=u3 _ _ hp;omega
  .exact hh.1.resolve_left λhz=>hh.2 hz.2
  .refine ⟨.inr hh,?_⟩;rcases hh with hh | hh
   .omega
   .have:=u2 _ hh;omega
  .rcases hh with hh | hh
   .omega
   .have:=u3 _ _ hh;omega
 subst e;refine nZ (bl:=b6) (re:=r5) (a:=a3) i6 (.inl rfl) (by omega) λb7 l7 i7=>rD (bl:=b7) (re:=r5) (b0:=a3) i7 (.inr (.inl rfl)) (Fq ⟨by omega,by omega⟩ (by omega) (by omega) (by omega)) (λy hp=>?_) λb8 l8 i8=>aI ⟨true,r5,b6.length,b8,rfl,by omega,?_,by omega,by omega,?_⟩
 .rw [oU (by omega)];rcases hp with hp | hp | hp
  .simp [hp.2]
  .simp [hp.2]
  .have:=u3 _ _ hp;omega
 .unfold KX at d3;omega
 .refine (i8.up (Wz _) (by omega) (by omega)).cast (λz=>⟨λhh=>?_,λhh=>?_⟩) λz y=>⟨λhh=>?_,λhh=>?_⟩
  .rcases hh.1 with e | e | e
   .exact .inl ⟨rfl,e⟩
   .exact absurd e hh.2
   .exact .inr e
  .rcases hh with e | e
   .exact ⟨.inl e.2,by omega⟩
   .have:=u2 _ e;exact ⟨.inr (.inr e),by omega⟩
  .rcases hh.1 with e | e | e
   .exact absurd e.1 hh.2
   .exact absurd e.1 hh.2
   .exact e
  .have:=u3 _ _ hh;exact ⟨.inr (.inr hh),by omega⟩
theorem Va{rec:T76}{rec':T95}{U9:ML}{U_:MN}{c1 c2 k1 k2:Nat}{p0 p1 re:Int}{nm:List UInt8}{es:List aQ}{th el:List bZ}(hS:Lw g fs lo)
  (hr:SS g fs lo nu rec th c1 k1) (hr':SS g fs lo nu rec el c2 k2) {a w m:Nat} {bl:List aK} {O:Nat->Prop} {P:Nat->Nat->Prop} (h:Pre g fs lo re w m bl a O P) (hre:(lo.length:Int)+1<=re) (hw:w+3+130*k1+130*k2<=700000) :
  Ok (Zn rec rec' U9 U_ p0 p1 nm es th el (lo.length:Int) g fs lo nu re a bl) (PW (w+3+130*k1+130*k2) (m+3+(20*c1+4*k1)+(20*c2+4*k2)) g fs lo nu re bl a O P):=by
 have hL:=hS.lo;obtain ⟨q1,q2,q3⟩:=h.lt;have pf :∀x y,P x y->x<bl.length/\x≠a:=λx y hp=>⟨(q3 x y hp).1,(q3 x y hp).2.1⟩;unfold Zn;refine nZ (bl:=bl) (re:=re) (a:=a) h.inv (.inl rfl) (by omega) λb1 l1 i1=>?_;have hp1:Pre g fs lo re (w+1) (m+1) b1 bl.length (λx=>x=a\/O x) (λx y=>(x=a/\y=bl.length)\/P x y):=
  ⟨i1,λhh=>by rcases hh with hh | hh;(· omega);(· have:=q2 _ hh;omega),λy hh=>by rcases hh with hh | hh;(· omega);(· have:=pf _ _ hh;omega),h.re⟩
 refine bD _ (hr re bl.length b1 _ _ _ _ hp1 (by omega)) λy ⟨on,r2,a2,b2,e,e1,e2,e3,e4,e5⟩=>?_;subst e;have hO2 :∀x,O x->x<b1.length/\x≠a/\x≠a2:=λx hx=>by have:=q2 x hx;omega
 have hP2 :∀x y,P x y->x<b1.length/\x≠a/\x≠a2:=λx y hx=>by have:=pf x y hx;omega
 have ha2:a≠a2:=by omega
 have hrg :∀{r:Int},r2<=r->RG r (lo.length:Int):=λhr=>⟨by omega,by omega⟩;refine dX (λ_=>?_) λ_=>?_
 .refine nZ (bl:=b2) (re:=r2) (a:=a) e5 (.inr (.inl rfl)) (by omega) λb3 l3 i3=>rD (bl:=b3) (re:=r2) (b0:=a) i3 (.inr (.inr (.inl rfl))) (Fq (hrg (Wz _)) (by omega) (by omega) (by omega)) (λy hp=>?_) λb4 l4 i4=>?_
  .rw [oU (by omega)];rcases hp with hp | hp | hp
   .simp [hp.2]
   .simp [hp.2]
   .have:=pf _ _ hp;omega
  refine bD (λy =>∃jA,y=(g,fs,lo,nu,r2,(b2.length:Int),jA)/\jA.length=b4.length/\Inv g (iW fs) fs.length r2 (w+1+130*k1+1) (m+1+(20*c1+4*k1)+1) jA (λx=>(true=true/\x=b2.length)\/O x) P) ?_ λy ⟨b5,e,l5,i5⟩=>by subst e;exact aI ⟨true,r2,b2.length,b5,rfl,by omega,by omega,by omega,by omega,i5.up (Wz _) (by omega) (by omega)⟩
  have ob:=e5.opn;refine dX (λhon=>?_) λhon=>aI ⟨b4,rfl,rfl,i4.cast (λz=>⟨λhh=>?_,λhh=>?_⟩) λz y=>⟨λhh=>?_,λhh=>?_⟩⟩
  .have hon:on=true:=hon;have:=ob a2 (.inl ⟨hon,rfl⟩);refine rD (bl:=b4) (re:=r2) (b0:=a2) i4 ⟨.inr (.inl ⟨hon,rfl⟩),by omega⟩ (BD (by omega)) (λy hp=>?_) λb l i=>aI ⟨b,rfl,l,i.cast (λz=>⟨λhh=>?_,λhh=>?_⟩) λz y=>⟨λhh=>?_,λhh=>?_⟩⟩
   .exfalso;rcases hp.1 with hp | hp | hp
    .omega
    .omega
    .have:=hP2 _ _ hp;omega
   .rcases hh.1.1 with e | e | e | e
    .exact .inl ⟨rfl,e⟩
    .exact absurd e.2 hh.2
    .exact absurd e hh.1.2
    .exact .inr e
   .rcases hh with e | e
    .exact ⟨⟨.inl e.2,by omega⟩,by omega⟩
    .have:=hO2 _ e;exact ⟨⟨.inr (.inr (.inr e)),by omega⟩,by omega⟩
   .rcases hh.1.1 with e | e | e
    .exact absurd e.1 hh.1.2
    .exact absurd e.1 hh.1.2
    .exact e
   .have:=hP2 _ _ hh;exact ⟨⟨.inr (.inr hh),by omega⟩,by omega⟩
  .have hon:on=false:=hon;rcases hh.1 with e | e | e | e
   .exact .inl ⟨rfl,e⟩
   .rw [hon] at e;exact absurd e.1 (by simp)
   .exact absurd e hh.2
   .exact .inr e
  .rcases hh with e | e
   .exact ⟨.inl e.2,by omega⟩
   .have:=hO2 _ e;exact ⟨.inr (.inr (.inr e)),by omega⟩
  .rcases hh.1 with e | e | e
   .exact absurd e.1 hh.2
   .exact absurd e.1 hh.2
   .exact e
  .have:=hP2 _ _ hh;exact ⟨.inr (.inr hh),by omega⟩
 .refine nZ (bl:=b2) (re:=r2) (a:=a) e5 (.inr (.inl rfl)) (by omega) λb3 l3 i3=>rD (bl:=b3) (re:=r2) (b0:=a) i3 (.inr (.inr (.inl rfl))) (Fq (hrg (Wz _)) (by omega) (by omega) (by omega)) (λy hp=>?_) λb4 l4 i4=>?_
  .rw [oU (by omega)];rcases hp with hp | hp | hp
   .simp [hp.2]
   .simp [hp.2]
   .have:=pf _ _ hp;omega
  have ob:=e5.opn;have al0:on=true->a2<b2.length:=λhon=>ob a2 (.inl ⟨hon,rfl⟩);have hp4:Pre g fs lo r2 (w+1+130*k1+1) (m+1+(20*c1+4*k1)+1) b4 b2.length (λx=>(on=true/\x=a2)\/O x) P:=by
   refine ⟨i4.cast (λz=>⟨λhh=>?_,λhh=>?_⟩) λz y=>⟨λhh=>?_,λhh=>?_⟩,λhh=>?_,λy hh=>?_,by have:=h.re;omega⟩
   .rcases hh.1 with e | e | e | e
    .exact .inl e
    .exact .inr (.inl e)
    .exact absurd e hh.2
    .exact .inr (.inr e)
   .rcases hh with e | e | e
    .exact ⟨.inl e,by omega⟩
    .exact ⟨.inr (.inl e),by omega⟩
    .have:=hO2 _ e;exact ⟨.inr (.inr (.inr e)),by omega⟩
   .rcases hh.1 with e | e | e
    .exact absurd e.1 hh.2
    .exact absurd e.1 hh.2
    .exact e
   .have:=hP2 _ _ hh;exact ⟨.inr (.inr hh),by omega⟩
   .rcases hh with hh | hh
    .have:=al0 hh.1;omega
    .have:=hO2 _ hh;omega
   .have:=hP2 _ _ hh;omega
  refine bD _ (hr' r2 b2.length b4 _ _ _ _ hp4 (by omega)) λy ⟨als,r5,a5,b5,e,f1,f2,f3,F4,F5⟩=>?_;subst e;have ob5:=F5.opn;have hO5 :∀x,O x->x<b5.length/\x≠a5:=λx hx=>by have:=hO2 x hx;omega
  refine bD (λy=>y=(!on&&!als)) ?_ λy hy=>?_
  .exact dX (λhh=>aI (by have hh:on=false:=(by simpa using hh);rw [hh];rfl)) λhh=>aI (by have hh:on=true:=(by simpa using hh);rw [hh];rfl)
  subst hy;refine dX (λhh=>aI ⟨false,r5,a5,b5,rfl,by omega,by omega,by omega,by omega,?_⟩) λhh=>?_
  .have hh:on=false/\als=false:=by simpa using hh
   refine (F5.up (Wz _) (by omega) (by omega)).cast (λz=>⟨λhz=>?_,λhz=>?_⟩) λz y=>Iff.rfl
   .rcases hz with hz | hz | hz
    .rw [hh.2] at hz;exact absurd hz.1 (by simp)
    .rw [hh.1] at hz;exact absurd hz.1 (by simp)
    .exact .inr hz
   .rcases hz with hz | hz
    .exact absurd hz.1 (by simp)
    .exact .inr (.inr hz)
  have hor:on=true\/als=true:=by
   cases on with
   |true=>exact .inl rfl
   |false=>cases als with
    |true=>exact .inr rfl
    |false=>simp at hh
  obtain ⟨src,hsrc,hsv⟩ :∃src,((als=true/\src=a5)\/(on=true/\src=a2)\/O src)/\((on=true/\src=a2)\/(als=true/\src=a5)):=by
   rcases hor with hh | hh
   .exact ⟨a2,.inr (.inl ⟨hh,rfl⟩),.inl ⟨hh,rfl⟩⟩
   .exact ⟨a5,.inl ⟨hh,rfl⟩,.inr ⟨hh,rfl⟩⟩
  refine nZ (bl:=b5) (re:=r5) (a:=src) F5 hsrc (by omega) λb6 l6 i6=>?_;have hP5 :∀x y,P x y->x≠a2/\x≠a5/\x<b5.length:=λx y hx=>by have:=hP2 x y hx;omega
  have ato:on=true->a2≠a5:=λhon=>by have:=al0 hon;omega
  refine bD (λy =>∃jA,y=(g,fs,lo,nu,r5,(b5.length:Int),jA)/\jA.length=b6.length/\Inv g (iW fs) fs.length r5 (w+1+130*k1+1+130*k2+1) (m+1+(20*c1+4*k1)+1+(20*c2+4*k2)+1) jA (λx=>x=b5.length\/(als=true/\x=a5)\/O x) (λx y=>(x=src/\src≠a2/\y=b5.length)\/(on=false/\x=src/\y=b5.length)\/P x y)) ?_ λy ⟨b7,e,l7,i7⟩=>?_
  .refine dX (λhon=>?_) λhon=>aI ⟨b6,rfl,rfl,i6.cast (λz=>⟨λhz=>?_,λhz=>?_⟩) λz y=>⟨λhz=>?_,λhz=>?_⟩⟩
   .have hon:on=true:=hon;have:=al0 hon;refine rD (bl:=b6) (re:=r5) (b0:=a2) i6 (.inr (.inr (.inl ⟨hon,rfl⟩))) (BD (by omega)) (λy hp=>?_) λb l i=>aI ⟨b,rfl,l,i.cast (λz=>⟨λhz=>?_,λhz=>?_⟩) λz y=>⟨λhz=>?_,λhz=>?_⟩⟩
    .rw [u_];rcases hp with hp | hp
     .simp [hp.2]
     .have:=hP5 _ _ hp;omega
    .rcases hz.1 with e | e | e | e
     .exact .inl e
     .exact .inr (.inl e)
     .exact absurd e.2 hz.2
     .exact .inr (.inr e)
    .rcases hz with e | e | e
     .exact ⟨.inl e,by omega⟩
     .exact ⟨.inr (.inl e),by have:=ato hon;omega⟩
     .have:=hO2 _ e;exact ⟨.inr (.inr (.inr e)),by omega⟩
    .rcases hz.1 with e | e
     .exact .inl ⟨e.1,λe'=>hz.2 (e.1.trans e'),e.2⟩
     .exact .inr (.inr e)
    .rcases hz with e | e | e
     .exact ⟨.inl ⟨e.1,e.2.2⟩,λe'=>e.2.1 (e.1.symm.trans e')⟩
     .rw [hon] at e;exact absurd e.1 (by simp)
     .exact ⟨.inr e,(hP5 _ _ e).1⟩
   .have hon:on=false:=hon;rcases hz with e | e | e | e
    .exact .inl e
    .exact .inr (.inl e)
    .rw [hon] at e;exact absurd e.1 (by simp)
    .exact .inr (.inr e)
   .rcases hz with e | e | e
    .exact .inl e
    .exact .inr (.inl e)
    .exact .inr (.inr (.inr e))
   .have hon:on=false:=hon;rcases hz with e | e
    .exact .inr (.inl ⟨hon,e⟩)
    .exact .inr (.inr e)
   .rcases hz with e | e | e
    .exact .inl ⟨e.1,e.2.2⟩
    .exact .inl e.2
    .exact .inr e
  subst e;have hs5:(src≠a2\/on=false)->src=a5/\als=true:=λhs=>by
   rcases hsv with e | e
   .rcases hs with hs | hs
    .exact absurd e.2 hs
    .rw [hs] at e;exact absurd e.1 (by simp)
   .exact ⟨e.2,e.1⟩
  refine bD (λy =>∃jA,y=(g,fs,lo,nu,r5,(b5.length:Int),jA)/\jA.length=b7.length/\Inv g (iW fs) fs.length r5 (w+1+130*k1+1+130*k2+1) (m+1+(20*c1+4*k1)+1+(20*c2+4*k2)+1) jA (λx=>(true=true/\x=b5.length)\/O x) P) ?_ λy ⟨b8,e,l8,i8⟩=>by subst e;exact aI ⟨true,r5,b5.length,b8,rfl,by omega,by omega,by omega,by omega,i8.up (Wz _) (by omega) (by omega)⟩
  refine dX (λHr=>?_) λHr=>aI ⟨b7,rfl,rfl,i7.cast (λz=>⟨λhz=>?_,λhz=>?_⟩) λz y=>⟨λhz=>?_,λhz=>.inr (.inr hz)⟩⟩
  .have Hr:als=true:=Hr;have:=ob5 a5 (.inl ⟨Hr,rfl⟩);refine rD (bl:=b7) (re:=r5) (b0:=a5) i7 (.inr (.inl ⟨Hr,rfl⟩)) (BD (by omega)) (λy hp=>?_) λb l i=>aI ⟨b,rfl,l,i.cast (λz=>⟨λhz=>?_,λhz=>?_⟩) λz y=>⟨λhz=>?_,λhz=>?_⟩⟩
   .rw [u_];rcases hp with hp | hp | hp
    .simp [hp.2.2]
    .simp [hp.2.2]
    .have:=hP5 _ _ hp;omega
   .rcases hz.1 with e | e | e
    .exact .inl ⟨rfl,e⟩
    .exact absurd e.2 hz.2
    .exact .inr e
   .rcases hz with e | e
    .exact ⟨.inl e.2,by omega⟩
    .have:=hO5 _ e;exact ⟨.inr (.inr e),by omega⟩
   .rcases hz.1 with e | e | e
    .exact absurd (e.1.trans (hs5 (.inl e.2.1)).1) hz.2
    .exact absurd (e.2.1.trans (hs5 (.inr e.1)).1) hz.2
    .exact e
   .have:=hP5 _ _ hz;exact ⟨.inr (.inr hz),by omega⟩
  .have Hr:als=false:=Hr;rcases hz with e | e | e
   .exact .inl ⟨rfl,e⟩
   .rw [Hr] at e;exact absurd e.1 (by simp)
   .exact .inr e
  .rcases hz with e | e
   .exact .inl e.2
   .exact .inr (.inr e)
  .have Hr:als=false:=Hr;rcases hz with e | e | e
   .have:=(hs5 (.inl e.2.1)).2;rw [Hr] at this;cases this
   .have:=(hs5 (.inr e.1)).2;rw [Hr] at this;cases this
   .exact e
end
section
variable {g:List aA} {fs:List aB} {lo:List (List UInt8)} {nu:Int}
theorem XH{rec:T76}{rec':T95}{U9:ML}{U_:MN}{n c k:Nat}{s:bZ}{l1 l2:List (List UInt8)}{re:Int}(hS:Lw g fs lo)(hs:QS g (iW fs) lo (n+1) l1 s l2 c k)
  {a w m:Nat} {bl:List aK} {O:Nat->Prop} {P:Nat->Nat->Prop} (h:Pre g fs lo re w m bl a O P) (hw:w+130*k<=700000)
  (h5 :∀x th c1 k1 l3,s.exprs=[x]->s.then'=th->QX g (iW fs) lo 3 x->th.length<=10->Ch (QS g (iW fs) lo n) l1 th l3 c1 k1->w+130*(1+k1)<=700000->Ok (U9 s.kind s.line s.name s.exprs s.then' s.else' (lo.length:Int) g fs lo nu re a bl) λy=>PW (w+130*(1+k1)) (m+(20*(1+c1)+4*(1+k1))) g fs lo nu re bl a O P (true,y))
  (h4 :∀c1 c2 k1 k2 l3 l4,s.then'.length<=10->s.else'.length<=10->Ch (QS g (iW fs) lo n) l1 s.then' l3 c1 k1->Ch (QS g (iW fs) lo n) l3 s.else' l4 c2 k2->∀(re':Int) (a':Nat) b w' m',Pre g fs lo re' w' m' b a' O P->(lo.length:Int)+1<=re'->w'+3+130*k1+130*k2<=700000->Ok (U_ s.kind s.line s.name s.exprs s.then' s.else' (lo.length:Int) g fs lo nu re' a' b) (PW (w'+3+130*k1+130*k2) (m'+3+(20*c1+4*k1)+(20*c2+4*k2)) g fs lo nu re' b a' O P)) :
  Ok (ahU rec rec' U9 U_ s.kind s.line s.name s.exprs s.then' s.else' g fs lo nu re a bl) (PW (w+130*k) (m+(20*c+4*k)) g fs lo nu re bl a O P):=by
 have hL:=hS.lo;have hlo:lo.length<=1000000:=by omega
 unfold ahU;dsimp only;have ex :∀(es:List aQ) (ht:Nat->Nat),es.length<=2->(∀i,ht i<=3)->(∀i,i<es.length->QX g (iW fs) lo (ht i) (es.getD i eF))->w+182<=800000->Ok (bF (λ(s3:(Int×eP×(List aB)×bG×Int×Int×Int×ng))=>
   bif (decide (s3.1<(es.length:Int))) then ck (inB s3.1 es.length) <| OB (f118 (List.getD es s3.1.toNat eF).kind (List.getD es s3.1.toNat eF).op (List.getD es s3.1.toNat eF).value (List.getD es s3.1.toNat eF).line (List.getD es s3.1.toNat eF).name (List.getD es s3.1.toNat eF).args (dL ((lo.length:Int)+s3.1)) s3.2.1 s3.2.2.1 s3.2.2.2.1 s3.2.2.2.2.1 s3.2.2.2.2.2.1 s3.2.2.2.2.2.2.1 s3.2.2.2.2.2.2.2) λc8=>some (.inl ((dL (s3.1+1)),c8.1,c8.2.1,c8.2.2.1,c8.2.2.2.1,c8.2.2.2.2.1,c8.2.2.2.2.2.1,c8.2.2.2.2.2.2)) else
   some (.inr (s3.2.1,s3.2.2.1,s3.2.2.2.1,s3.2.2.2.2.1,s3.2.2.2.2.2.1,s3.2.2.2.2.2.2.1,s3.2.2.2.2.2.2.2))) ((0:Int),g,fs,lo,nu,re,(a:Int),bl)) (PE2 (w+sW ht es.length) (m+sB ht es.length) es.length g fs lo nu re bl a O P):=λes ht h1 h2 h3 h4=>ab4 hS h1 h2 h3 h h4 λq re a b=>rfl
 have at0 :∀{x:aQ} {d:Nat},QX g (iW fs) lo d x->∀i,i<([x]:List aQ).length->QX g (iW fs) lo d (([x]:List aQ).getD i eF):=λhx i hi=>by
  have:i=0:=by simpa using hi
  subst this;exact hx
 have put :∀{p0 p1 p2 p3 p4 p5:Int} {ar:List Int} {r2:Int} {a2 w2 m2:Nat} {b2:List aK},Pre g fs lo r2 w2 m2 b2 a2 O P->re<=r2->(r2<=re\/r2<=lo.length+10)->bl.length<=b2.length->(a2=a\/bl.length<=a2)->w2+1<=w+130*k->m2<=m+(20*c+4*k)->IV g (iW fs) fs.length r2 (dB.mk p0 p1 p2 p3 p4 p5 ar)->
   Ok (f77 p0 p1 p2 p3 p4 p5 ar g fs lo nu r2 a2 b2) λy=>PW (w+130*k) (m+(20*c+4*k)) g fs lo nu re bl a O P (true,y):=λ{p0 p1 p2 p3 p4 p5 ar r2 a2 w2 m2 b2} hp g1 g2 g3 g4 g5 g6 hi=>by
  have:=U7 (g:=g) (sg:=iW fs) (cl:=fs.length) (fs:=fs) (lo:=lo) (nu:=nu) (re:=r2) (p0:=p0) (p1:=p1) (p2:=p2) (p3:=p3) (p4:=p4) (p5:=p5) (ar:=ar) (bl:=b2) (f:=some) (Q:=λy=>PW (w+130*k) (m+(20*c+4*k)) g fs lo nu re bl a O P (true,y)) hp.inv (.inl rfl) (by omega) hi λb l hh=>aI ⟨true,r2,a2,b,rfl,g1,g2,by omega,g4,(hh.up (Wz _) (by omega) (by omega)).cast (λx=>by simp) λx y=>Iff.rfl⟩
  rwa [show∀z:Option (List aA×List aB×List (List UInt8)×Int×Int×Int×List aK),Option.bind z some=z from λz=>by cases z<;>rfl] at this
 have asg :∀{nm:List UInt8} {r2:Int} {a2 w2 m2:Nat} {b2:List aK} {k1:Int},(k1=1\/k1=2)->(nm∈lo\/PG false g nm)->Pre g fs lo r2 w2 m2 b2 a2 O P->re<=r2->(r2<=re\/r2<=lo.length+10)->bl.length<=b2.length->(a2=a\/bl.length<=a2)->w2+1<=w+130*k->m2<=m+(20*c+4*k)->(lo.length:Int)+1<=r2->
   Ok (Option.bind (f119 nm g fs lo nu r2 a2 b2) λc14=>Option.bind (bif (decide (0<=c14.1)) then OB (f77 2 0 c14.1 (lo.length:Int) 0 0 eInt c14.2.1 c14.2.2.1 c14.2.2.2.1 c14.2.2.2.2.1 c14.2.2.2.2.2.1 c14.2.2.2.2.2.2.1 b2) λc16=>some (c16.1,c16.2.1,c16.2.2.1,c16.2.2.2.1,c16.2.2.2.2.1,c16.2.2.2.2.2.1,c16.2.2.2.2.2.2) else
    OB (f97 c14.2.1 c14.2.2.1 nm) λc17=>OB (f77 6 0 0 (lo.length:Int) 0 c17 eInt c14.2.1 c14.2.2.1 c14.2.2.2.1 c14.2.2.2.2.1 c14.2.2.2.2.2.1 c14.2.2.2.2.2.2.1 b2) λc18=>some (c18.1,c18.2.1,c18.2.2.1,c18.2.2.2.1,c18.2.2.2.2.1,c18.2.2.2.2.2.1,c18.2.2.2.2.2.2)) λvG=>(some (.inl (vG.1,vG.2.1,vG.2.2.1,vG.2.2.2.1,vG.2.2.2.2.1,vG.2.2.2.2.2.1,vG.2.2.2.2.2.2)):Option ((List aA×List aB×List (List UInt8)×Int×Int×Int×List aK) ⊕ (Bool×List aA×List aB×List (List UInt8)×Int×Int×Int×List aK))))
    (KQ (λy=>PW (w+130*k) (m+(20*c+4*k)) g fs lo nu re bl a O P (true,y)) (PW (w+130*k) (m+(20*c+4*k)) g fs lo nu re bl a O P)):=λ{nm r2 a2 w2 m2 b2 k1} _ hnm hp g1 g2 g3 g4 g5 g6 g7=>by
  have hrt:RG r2 (lo.length:Int):=⟨by omega,by omega⟩;refine ZQ hlo λq q1 q2=>bD (λy=>PW (w+130*k) (m+(20*c+4*k)) g fs lo nu re bl a O P (true,y)) ?_ λy hy=>aI hy;by_cases hm:nm∈lo
  .obtain ⟨z1,z2⟩:=q1 hm;exact goT (decide_eq_true z1) (gu (put (r2:=r2) hp g1 g2 g3 g4 g5 g6 (.move ⟨z1,by omega⟩ hrt (by simp))))
  .have z:=q2 hm;subst z;exact b_ rfl (bD _ (IB hS.gn (hnm.resolve_left hm)) λy hy=>gu (put hp g1 g2 g3 g4 g5 g6 (.store hrt hy (by simp))))
 have out :∀{y:List aA×List aB×List (List UInt8)×Int×Int×Int×List aK},PW (w+130*k) (m+(20*c+4*k)) g fs lo nu re bl a O P (true,y)->PW (w+130*k) (m+(20*c+4*k)) g fs lo nu re bl a O P (true,y.1,y.2.1,y.2.2.1,y.2.2.2.1,y.2.2.2.2.1,y.2.2.2.2.2.1,y.2.2.2.2.2.2):=λh=>h;cases (show QS1 g (iW fs) lo (QS g (iW fs) lo n) l1 s l2 c k from hs) with
 |var hm hx=>
  refine b_ rfl (bD _ (ex _ (λ_=>3) (by simp) (λ_=>XS _) (at0 hx) (by omega)) λy ⟨r2,a2,b2,e,f1,f2,f3,F4,F5,f6⟩=>?_);subst e;simp only [sW,sB,ZD,wx3,bx3] at f2 f6;exact bD (λy=>y=true) (goT rfl (aI rfl)) λy e=>by subst e;exact iU (λy=>PW (w+130*1) (m+(20*1+4*1)) g fs lo nu re bl a O P (true,y)) (goT rfl (asg (k1:=1) (by omega) (.inl hm) f6 f1 f3 F4 F5 (by omega) (by omega) (by omega))) λy hy=>aI (out hy)
 |assign hm hx=>
  refine b_ rfl (bD _ (ex _ (λ_=>3) (by simp) (λ_=>XS _) (at0 hx) (by omega)) λy ⟨r2,a2,b2,e,f1,f2,f3,F4,F5,f6⟩=>?_);subst e;simp only [sW,sB,ZD,wx3,bx3] at f2 f6;exact bD (λy=>y=true) (b_ rfl (aI rfl)) λy e=>by subst e;exact iU (λy=>PW (w+130*1) (m+(20*1+4*1)) g fs lo nu re bl a O P (true,y)) (goT rfl (asg (k1:=1) (by omega) hm f6 f1 f3 F4 F5 (by omega) (by omega) (by omega))) λy hy=>aI (out hy)
 |step hm hx=>
  refine b_ rfl (bD _ (ex _ (λ_=>2) (by simp) (λ_=>by omega) (at0 hx) (by omega)) λy ⟨r2,a2,b2,e,f1,f2,f3,F4,F5,f6⟩=>?_);subst e;simp only [sW,sB,ZD,wx2,bx2] at f2 f6;exact bD (λy=>y=true) (b_ rfl (aI rfl)) λy e=>by subst e;exact iU (λy=>PW (w+130*1) (m+(20*0+4*1)) g fs lo nu re bl a O P (true,y)) (goT rfl (asg (k1:=1) (by omega) hm f6 f1 f3 F4 F5 (by omega) (by omega) (by omega))) λy hy=>aI (out hy)
 |store hp hx hz=>
  refine b_ rfl (bD _ (ex _ (λi=>if i=0 then 2 else 3) (by simp) (λi=>by split<;>omega) (λi hi=>?_) (by omega)) λy ⟨r2,a2,b2,e,f1,f2,f3,F4,F5,f6⟩=>?_)
  .have:i=0\/i=1:=by simp at hi;omega
   rcases this with rfl | rfl
   .exact hx
   .exact hz
  subst e;have e2:sW (λi=>if i=0 then 2 else 3) 2=119:=rfl;have e3:sB (λi=>if i=0 then 2 else 3) 2=20:=rfl;simp only [Wl,K1,Wo,e2,e3] at f2 f6;have hr2:RG r2 (dL ((lo.length:Int)+1)):=by rw [aG (by omega)];exact ⟨by omega,by omega⟩
  exact bD (λy=>y=false) (b_ rfl (aI rfl)) λy e=>by subst e;exact iU (λy=>PW (w+130*1) (m+(20*1+4*1)) g fs lo nu re bl a O P (true,y)) (b_ rfl (iU (λy=>PW (w+130*1) (m+(20*1+4*1)) g fs lo nu re bl a O P (true,y)) (goT rfl (bD _ (IB hS.gn hp) λy hy=>bD _ (put (r2:=r2) f6 f1 f3 F4 F5 (by omega) (by omega) (.set ⟨by omega,by omega⟩ hr2 hy (by simp))) λy hy=>aI hy)) λy hy=>aI hy)) λy hy=>aI (out hy)
 |@plain k0 i nm x hk hx=>
  have hk' :∀j:Int,j=5\/j=1\/j=2\/j=3\/j=4->k0≠j:=λj hj e=>by rcases hk with h | h | h<;>omega
  refine b_ (decide_eq_false (hk' 5 (by simp))) (bD _ (ex _ (λ_=>3) (by simp) (λ_=>XS _) (at0 hx) (by omega)) λy ⟨r2,a2,b2,e,f1,f2,f3,F4,F5,f6⟩=>?_);subst e;simp only [sW,sB,ZD,wx3,bx3] at f2 f6;refine bD (λy=>y=false) (b_ (decide_eq_false (hk' 1 (by simp))) (aI (decide_eq_false (hk' 2 (by simp))))) λy e=>?_;subst e;refine iU (λy=>PW (w+130*1) (m+(20*1+4*1)) g fs lo nu re bl a O P (true,y)) (b_ rfl (iU (λy=>PW (w+130*1) (m+(20*1+4*1)) g fs lo nu re bl a O P (true,y)) (b_ (decide_eq_false (hk' 3 (by simp))) ?_) λy hy=>aI hy)) λy hy=>aI (out hy);have u:=f6.lt;refine dX (λ_=>?_) λ_=>iU (λy=>PW (w+130*1) (m+(20*1+4*1)) g fs lo nu re bl a O P (true,y)) (dX (λ_=>bD _ (put (r2:=r2) f6 f1 f3 F4 F5 (by omega) (by omega) (.print ⟨by omega,by omega⟩ (by simp))) λy hy=>aI hy) λ_=>b_ (decide_eq_false (hk' 4 (by simp))) (aI ⟨true,r2,a2,b2,rfl,f1,f3,F4,F5,(f6.inv.up (Wz _) (by omega) (by omega)).cast (λx=>by simp) λx y=>Iff.rfl⟩)) λy hy=>aI hy;refine rD (bl:=b2) (re:=r2) (b0:=a2) f6.inv (.inl rfl) ⟨by omega,λ_=>⟨by omega,by omega⟩,λx hx=>by unfold succs at hx;rw [if_neg (by omega),if_neg (by omega)] at hx;cases hx⟩ (λy hp=>absurd hp (f6.np y)) λb l i=>aI ⟨false,r2,a2,b,rfl,f1,f3,by omega,F5,(i.up (Wz _) (by omega) (by omega)).cast (λz=>⟨λhh=>?_,λhh=>?_⟩) λz y=>⟨λhh=>hh.1,λhh=>⟨hh,(u.2.2 _ _ hh).2.1⟩⟩⟩
  .exact hh.1.elim (λe=>absurd e hh.2) .inr
  .rcases hh with hh | hh
   .exact absurd hh.1 (by simp)
   .exact ⟨.inr hh,(u.2.1 _ hh).2⟩
 |rC hx ht hc=>
  exact goT rfl (bD _ (h5 _ _ _ _ _ rfl rfl hx ht hc (by omega)) λy hy=>aI hy)
 |@if' i nm x th el l3 l4 c1 c2 k1 k2 hx ht he hc1 hc2=>
  refine b_ rfl (bD _ (ex _ (λ_=>3) (by simp) (λ_=>XS _) (at0 hx) (by omega)) λy ⟨r2,a2,b2,e,f1,f2,f3,F4,F5,f6⟩=>?_);subst e;simp only [sW,sB,ZD,wx3,bx3] at f2 f6;refine bD (λy=>y=false) (b_ rfl (aI rfl)) λy e=>?_;subst e;refine iU (λy=>PW (w+130*(1+k1+k2)) (m+(20*(1+c1+c2)+4*(1+k1+k2))) g fs lo nu re bl a O P (true,y)) (b_ rfl (iU (λy=>PW (w+130*(1+k1+k2)) (m+(20*(1+c1+c2)+4*(1+k1+k2))) g fs lo nu re bl a O P (true,y)) (b_ rfl (b_ rfl (iU (λy=>PW (w+130*(1+k1+k2)) (m+(20*(1+c1+c2)+4*(1+k1+k2))) g fs lo nu re bl a O P (true,y)) (b_ rfl (goT rfl (bD _ (h4 _ _ _ _ _ _ ht he hc1 hc2 r2 a2 b2 _ _ f6 (by omega) (by omega)) λy ⟨on,r3,a3,b3,e,g1,g2,g3,g4,g5⟩=>?_))) λy hy=>aI hy))) λy hy=>aI hy)) λy hy=>aI (out hy);subst e;exact aI ⟨on,r3,a3,b3,rfl,by omega,by omega,by omega,by omega,g5.up (Wz _) (by omega) (by omega)⟩
theorem G8{rec:T76}{rec':T95}{U9:ML}{U_:MN}{n c k:Nat}{ss:List bZ}{l1 l2:List (List UInt8)}(hs:ss.length<=10)(hc:Ch (QS g (iW fs) lo n) l1 ss l2 c k)
  (hr :∀x∈ss,∀l3 l4 c1 k1,QS g (iW fs) lo n l3 x l4 c1 k1->∀(re:Int) (a:Nat) bl w m O P,Pre g fs lo re w m bl a O P->w+130*k1<=700000->Ok (rec' x.kind x.line x.name x.exprs x.then' x.else' g fs lo nu re a bl) (PW (w+130*k1) (m+(20*c1+4*k1)) g fs lo nu re bl a O P))
  {re:Int} {a w m:Nat} {bl:List aK} {O:Nat->Prop} {P:Nat->Nat->Prop} (h:Pre g fs lo re w m bl a O P) (hw:w+130*k<=700000) :
  Ok (ahT rec rec' U9 U_ ss g fs lo nu re a bl) (PW (w+130*k) (m+(20*c+4*k)) g fs lo nu re bl a O P):=by
 obtain ⟨q1,q2,q3⟩:=h.lt;unfold ahT;refine iU (λy=>PW (w+130*k) (m+(20*c+4*k)) g fs lo nu re bl a O P (true,y)) ?_ λy hy=>aI hy;refine bQ (λs:Int×List aA×List aB×List (List UInt8)×Int×Int×Int×List aK =>∃q c1 k1 c2 k2:Nat,∃l3 re' a' b,s=((q:Int),g,fs,lo,nu,re',((a':Nat):Int),b)/\q<=ss.length/\Ch (QS g (iW fs) lo n) l3 (ss.drop q) l2 c2 k2/\c=c1+c2/\k=k1+k2/\re<=re'/\(re'<=re\/re'<=lo.length+10)/\bl.length<=b.length/\(a'=a\/bl.length<=a')/\Pre g fs lo re' (w+130*k1) (m+(20*c1+4*k1)) b a' O P) (λs=>(ss.length-s.1).toNat)
  ⟨0,0,0,c,k,l1,re,a,bl,rfl,by omega,hc,by omega,by omega,by omega,by omega,by omega,.inl rfl,h⟩ λs ⟨q,c1,k1,c2,k2,l3,re',a',b,e,d1,d2,d3,d4,d5,d6,d7,d8,d9⟩=>?_
 subst e;refine dX (λhc=>?_) λhc=>?_
 rotate_left
 .have hc:¬ (q:Int)<ss.length:=by simpa using hc
  obtain ⟨e1,e2,e3⟩:=d2.fin (by omega);subst e2;subst e3;exact aI ⟨true,re',a',b,rfl,d5,d6,d7,d8,(d9.inv.up (Wz _) (by omega) (by omega)).cast (λx=>by simp) λx y=>Iff.rfl⟩
 have hc:(q:Int)<ss.length:=by simpa using hc
 obtain ⟨l4,c3,c4,k3,k4,hx,hr2,e1,e2⟩:=d2.at (by omega);refine bW (aF.2 ⟨by simp only;omega,hc⟩) ?_;simp only [Qt];refine bD _ (hr _ (by rw [getD_at _ (by omega:q<ss.length)];exact X1 _) _ _ _ _ hx re' a' b _ _ O P d9 (by omega)) λy ⟨on,r2,a2,b2,e,f1,f2,f3,F4,F5⟩=>?_;subst e;refine dX (λho=>?_) λho=>?_
 .have ho:on=false:=by simpa using ho
  exact aI ⟨false,r2,a2,b2,rfl,by omega,by omega,by omega,by omega,(F5.up (Wz _) (by omega) (by omega)).cast (λx=>by rw [ho]) λx y=>Iff.rfl⟩
 .have ho:on=true:=by simpa using ho
  subst ho;have u:=d9.lt;refine aI ⟨⟨q+1,c1+c3,k1+k3,c4,k4,l4,r2,a2,b2,?_,by omega,hr2,by omega,by omega,by omega,by omega,by omega,by omega,⟨(F5.up (Wz _) (by omega) (by omega)).cast (λx=>by simp) λx y=>Iff.rfl,λhh=>?_,λy hh=>?_,by have:=d9.re;omega⟩⟩,?_⟩
  .show (dL ((q:Int)+1),_)=_;rw [aG (by omega)];rfl
  .have:=u.2.1 _ hh;omega
  .have:=u.2.2 _ _ hh;omega
  .show ((ss.length:Int)-dL ((q:Int)+1)).toNat<((ss.length:Int)-q).toNat;rw [aG (by omega)];omega
theorem Vb(n:Nat):(gB (n+1)).1=ahT (abA n) (ahV n) (Zo n) (Zp n):=rfl
theorem afJ(n:Nat):(gB (n+1)).2.1=ahU (abA n) (ahV n) (Zo n) (Zp n):=rfl
theorem afK(n:Nat):(gB (n+1)).2.2.1=Zm (abA n) (ahV n) (Zo n) (Zp n):=rfl
theorem afL(n:Nat):(gB (n+1)).2.2.2=Zn (abA n) (ahV n) (Zo n) (Zp n):=rfl
theorem ZT(hS:Lw g fs lo) :∀n k:Nat,3*n+1<=k->∀ss:List bZ,ss.length<=10->∀l1 l2 c q,Ch (QS g (iW fs) lo n) l1 ss l2 c q->SS g fs lo nu (abA k) ss c q
 |_,0,hk=>by omega
 |0,k+1,hk=>λss hs l1 l2 c q hc re a bl w m O P h hw=>by
  show Ok ((gB (k+1)).1 ss g fs lo nu re a bl) _;rw [Vb];exact G8 hs hc (λx hx l3 l4 c1 k1 hq=>hq.elim) h hw
 |n+1,1,hk=>by omega
 |n+1,2,hk=>by omega
 |n+1,k+3,hk=>λss hs l1 l2 c q hc re a bl w m O P h hw=>by
  have ih:=ZT hS n k (by omega);show Ok ((gB (k+3)).1 ss g fs lo nu re a bl) _;rw [Vb];refine G8 hs hc (λx hx l3 l4 c1 k1 hq re a bl w m O P h hw=>?_) h hw;show Ok ((gB (k+2)).2.1 x.kind x.line x.name x.exprs x.then' x.else' g fs lo nu re a bl) _;rw [afJ];refine XH hS hq h hw (λz th c1 k1 l3 e1 e2 hz ht hch hw=>?_) λc1 c2 k1 k2 l3 l4 ht he hc1 hc2 re' a' b w' m' hp hre hw=>?_
  .show Ok ((gB (k+1)).2.2.1 x.kind x.line x.name x.exprs x.then' x.else' (lo.length:Int) g fs lo nu re a bl) _;rw [afK,e1,e2];exact XG hS hz (ih th ht _ _ _ _ hch) h hw
  .show Ok ((gB (k+1)).2.2.2 x.kind x.line x.name x.exprs x.then' x.else' (lo.length:Int) g fs lo nu re' a' b) _;rw [afL];exact Va hS (ih _ ht _ _ _ _ hc1) (ih _ he _ _ _ _ hc2) hp hre hw
end
structure Rt(g:List aA)(sg:List (List UInt8×Nat))(cl:Int)(f:aO):Prop where
 good:Good f
 len:f.blocks.length<=256
 wt:Ag f.blocks<=2048
 reg:0<=f.regs/\f.regs<=250
 par:0<=f.params/\f.params<=f.regs
 ins :∀b∈f.blocks,∀i∈b.instrs,IV g sg cl f.regs i
 trm :∀b,b<f.blocks.length->tvB f.regs f.blocks.length (f.blocks.getD b au)
structure RtP(g:List aA)(sg:List (List UInt8×Nat))(cl:Int)(fs:List aO):Prop where
 gl:g.length<=32
 gs :∀x∈g,0<=x.size/\x.size<=1024
 f0:0<fs.length
 f1:fs.length<=5
 sgl:sg.length=fs.length
 cll:0<=cl/\cl<=fs.length
 par :∀i,i<fs.length->(fs.getD i ah).params=((sg.getD i ([],0)).2:Int)
 p0:(fs.getD 0 ah).params=0
 rt :∀f∈fs,Rt g sg cl f
section
variable {g:List aA} {fs:List aO} {sg:List (List UInt8×Nat)} {cl re:Int}
theorem sN{l:List Int}{n:Int}{R:Type}{Q:R->Prop}{er:R}(hl:l.length<=1000)(h :∀x∈l,0<=x/\x<n) :
  Ok (bF (λ(s:Int)=>bif (decide (s<(l.length:Int))) then OB (ck (inB s l.length) <| bif (decide ((List.getD l s.toNat 0)<0)) then some true else ck (inB s l.length) <| some (decide (n<=(List.getD l s.toNat 0)))) λOc=>bif Oc then some (.inr (.inr er)) else some (.inl (dL (s+1))) else some (.inr (.inl ()))) (0:Int)) (KQ (λ_:Unit=>True) Q):=by
 refine jv l.length (λ_=>True) (by omega) (λi hi _=>?_) λ_=>b_ (decide_eq_false (by omega)) (aI trivial);have hx:=h _ (X1 hi);refine goT (decide_eq_true (by omega)) (bD (λy=>y=false) (bW (aF.2 (by omega)) ?_) λy e=>by subst e;exact b_ rfl (aI ⟨rfl,trivial⟩));simp only [Qt,getD_at _ hi];exact b_ (decide_eq_false (by omega)) (bW (aF.2 (by omega)) (aI (decide_eq_false (by omega))))
theorem IC{a:Bool}{v c1 c2:Int}(h:GI a g v):f139 g fs c1 c2 v a=some true:=by
 apply ok_eq;obtain ⟨⟨h1,h2⟩,h3⟩:=h;unfold f139;refine bD (λy=>y=true) (goT (decide_eq_true h1) (goT (decide_eq_true h2) (bW (aF.2 ⟨h1,h2⟩) (aI ?_)))) λy hy=>aI hy;rw [h3];simp
theorem rg2{x y:Int}(h1:RG re x)(h2:RG re y) :∀z∈[x,y],0<=z/\z<re:=λz hz=>by
 rcases QQ.1 hz with e | e
 .rw [e];exact h1
 .rw [QP] at e;rw [e];exact h2
theorem rg1{x:Int}(h1:RG re x) :∀z∈[x],0<=z/\z<re:=o9 h1
theorem rg3{x y w:Int}(h1:RG re x)(h2:RG re y)(h3:RG re w) :∀z∈[x,y,w],0<=z/\z<re:=λz hz=>by
 rcases QQ.1 hz with e | e
 .rw [e];exact h1
 .exact rg2 h2 h3 z e
theorem instrC_ok{nm:List UInt8}{pa:Int}{bl:List aK}{i:dB}(hf:sg.length=fs.length)(hp :∀i,i<fs.length->(fs.getD i ah).params=((sg.getD i ([],0)).2:Int))(h:IV g sg cl re i):Ok (f122 g fs cl 0 nm pa re bl i.kind i.op i.dst i.a i.b i.value i.args) λy=>y=0:=by
 unfold f122;cases h with
 |const hd ha=>exact gy rfl (b_ rfl (gy rfl (gy rfl (gy rfl (iU (λ_=>True) (sN (by simp) (rg1 hd)) λ_ _=>⟨0,rfl,rfl⟩)))))
 |move hd h1 ha=>exact gy rfl (b_ rfl (gy rfl (gy rfl (gy rfl (iU (λ_=>True) (sN (by simp) (rg2 h1 hd)) λ_ _=>⟨0,rfl,rfl⟩)))))
 |un hd h1 ho ha=>rcases ho with rfl | rfl<;>exact gy rfl (b_ rfl (gy rfl (gy rfl (gy rfl (iU (λ_=>True) (sN (by simp) (rg2 h1 hd)) λ_ _=>⟨0,rfl,rfl⟩)))))
 |bin hd h1 h2 ho ha=>
  refine bD (λy=>y=false) (b_ rfl (b_ rfl (b_ rfl (b_ rfl (goT rfl (b_ (decide_eq_false (by simp only;omega)) (aI (decide_eq_false (by simp only;omega))))))))) λy e=>?_;subst e;exact b_ rfl (gy rfl (gy rfl (gy rfl (iU (λ_=>True) (sN (by simp) (rg3 h1 h2 hd)) λ_ _=>⟨0,rfl,rfl⟩))))
 |load hd hv ha=>exact gy rfl (b_ rfl (gy rfl (gy rfl (gy rfl (iU (λ_=>True) (sN (by simp) (rg1 hd)) λ_ _=>gy rfl (iU (λ_=>True) (goT rfl (gy (IC hv) (b_ rfl (aI trivial)))) λ_ _=>aI rfl))))))
 |store h1 hv ha=>exact gy rfl (b_ rfl (gy rfl (gy rfl (gy rfl (iU (λ_=>True) (sN (by simp) (rg1 h1)) λ_ _=>gy rfl (iU (λ_=>True) (goT rfl (gy (IC hv) (b_ rfl (aI trivial)))) λ_ _=>aI rfl))))))
 |elem hd h1 hv ha=>exact gy rfl (b_ rfl (gy rfl (gy rfl (gy rfl (iU (λ_=>True) (sN (by simp) (rg2 h1 hd)) λ_ _=>gy rfl (iU (λ_=>True) (b_ rfl (gy rfl (iU (λ_=>True) (goT rfl (gy (IC hv) (b_ rfl (aI trivial)))) λ_ _=>aI trivial))) λ_ _=>aI rfl))))))
 |set h1 h2 hv ha=>exact gy rfl (b_ rfl (gy rfl (gy rfl (gy rfl (iU (λ_=>True) (sN (by simp) (rg2 h1 h2)) λ_ _=>gy rfl (iU (λ_=>True) (b_ rfl (gy rfl (iU (λ_=>True) (goT rfl (gy (IC hv) (b_ rfl (aI trivial)))) λ_ _=>aI trivial))) λ_ _=>aI rfl))))))
 |read hd ha=>exact gy rfl (b_ rfl (gy rfl (gy rfl (gy rfl (iU (λ_=>True) (sN (by simp) (rg1 hd)) λ_ _=>⟨0,rfl,rfl⟩)))))
 |print h1 ha=>exact gy rfl (b_ rfl (gy rfl (gy rfl (gy rfl (iU (λ_=>True) (sN (by simp) (rg1 h1)) λ_ _=>⟨0,rfl,rfl⟩)))))
 |@call o d a b v ar hd hv hpar hr ha=>
  have hpv:=hp v.toNat (by omega);rw [hpar] at hpv;refine gy rfl (b_ rfl (bD (λy=>y=ar) (by unfold f137;exact gy rfl (b_ rfl (gy rfl (b_ rfl (goT rfl (bW (by unfold aX;simp;omega) (aI (by simp)))))))) λar e=>?_));subst e;refine gy rfl (bD (λl=>l=ar++[d]) (goT rfl (bW (by unfold aX;simp;omega) (aI rfl))) λl e=>?_);subst e;refine iU (λ_=>True) (sN (by simp;omega) λx hx=>?_) λ_ _=>gy rfl (iU (λ_=>True) (b_ rfl (gy rfl (iU (λ_=>True) (b_ rfl (iU (λ_=>True) (goT rfl (bD (λy=>y=false) (b_ (decide_eq_false (by simp only;omega)) (aI (decide_eq_false (by simp only;omega)))) λy e=>by subst e;exact b_ rfl (bW (aF.2 (by simp only;omega)) (b_ (by rw [qn];exact decide_eq_true hpv) (aI trivial))))) λ_ _=>aI trivial)) λ_ _=>aI trivial))) λ_ _=>aI rfl);rcases Xs.1 hx with hx | hx
  .exact hr x hx
  .exact rg1 hd x hx
 |@Lj o d a b v ar hd h1 hr ha=>
  refine gy rfl (b_ rfl (bD (λy=>y=a::ar) (by unfold f137;exact gy rfl (b_ rfl (gy rfl (b_ rfl (b_ rfl (goT rfl (bW (by unfold aX;simp;omega) (aI rfl)))))))) λy e=>?_));subst e;refine gy rfl (bD (λl=>l=(a::ar)++[d]) (goT rfl (bW (by unfold aX;simp;omega) (aI rfl))) λl e=>?_);subst e;refine iU (λ_=>True) (sN (by simp;omega) λx hx=>?_) λ_ _=>gy rfl (iU (λ_=>True) (b_ rfl (gy rfl (iU (λ_=>True) (b_ rfl (iU (λ_=>True) (b_ rfl (iU (λ_=>True) (goT rfl (b_ (decide_eq_false (by simp only;omega)) (aI trivial))) λ_ _=>aI trivial)) λ_ _=>aI trivial)) λ_ _=>aI trivial))) λ_ _=>aI rfl);rcases Xs.1 hx with hx | hx
  .rcases QQ.1 hx with hx | hx
   .rw [hx];exact h1
   .exact hr x hx
  .exact rg1 hd x hx
 |func hd hv ha=>
  exact gy rfl (b_ rfl (gy rfl (gy rfl (gy rfl (iU (λ_=>True) (sN (by simp) (rg1 hd)) λ_ _=>gy rfl (iU (λ_=>True) (b_ rfl (gy rfl (iU (λ_=>True) (b_ rfl (iU (λ_=>True) (b_ rfl (iU (λ_=>True) (b_ rfl (iU (λ_=>True) (goT rfl (bD (λy=>y=false) (b_ (decide_eq_false (by simp only;omega)) (aI (decide_eq_false (by simp only;omega)))) λy e=>by subst e;exact b_ rfl (aI trivial))) λ_ _=>aI trivial)) λ_ _=>aI trivial)) λ_ _=>aI trivial)) λ_ _=>aI trivial))) λ_ _=>aI rfl))))))
theorem aiv{nm:List UInt8}{pa re:Int}{bl:List aK}{k a t e:Int}(h:TV re bl.length k a t e):Ok (f123 nm pa re bl k a t e) λy=>y=0:=by
 have hk:=h.kind;unfold f123;refine bD (λy=>y=false) (b_ (decide_eq_false (by omega)) (aI (decide_eq_false (by omega)))) λy e1=>?_;subst e1;refine b_ rfl (bD (λy=>y=false) ?_ λy e1=>?_)
 .refine dX (λhn=>?_) λ_=>aI rfl;have hn:k≠1:=by simpa using hn
  obtain ⟨r1,r2⟩:=h.reg hn;exact b_ (decide_eq_false (by omega)) (aI (decide_eq_false (by omega)))
 subst e1;have hl:(succs k t e).length<=2:=by
  unfold succs;split
  .simp
  .split<;>simp
 exact b_ rfl (gy (U1 k a t e) (iU (λ_=>True) (sN (by omega) h.suc) λ_ _=>aI rfl))
theorem ab5{nm:List UInt8}{pa re:Int}{bl:List aK}(h:Ag bl<=1000000):f121 nm pa re bl=some (Ag bl:Int):=by
 apply ok_eq;have hl:=afG bl;unfold f121;refine bD (λy=>y=(Ag bl:Int)) ?_ λy hy=>aI hy;have key :∀i,i<=bl.length->Ag (bl.take i)<=Ag bl:=λi _=>by
  have:Ag (bl.take i)+Ag (bl.drop i)=Ag bl:=by unfold Ag;rw [<-K8,<-X2,Jx]
  omega
 refine bQ (λs:Int×Int =>∃i:Nat,s.2=i/\i<=bl.length/\s.1=(Ag (bl.take i):Int)) (λs=>(bl.length-s.2).toNat) ⟨0,rfl,by omega,rfl⟩ λ⟨n,i'⟩ ⟨i,e1,e2,e3⟩=>?_;simp only at e1 e3;subst e1;subst e3;refine dX (λhi=>?_) (λhi=>?_)
 .have hi:i<bl.length:=by simpa using hi
  have hs:Ag (bl.take (i+1))=Ag (bl.take i)+(bl[i].instrs.length+1):=by unfold Ag;rw [take_snoc hi];simp only [X2,K8,Q6,WF,J1,List.sum_nil];omega
  have:=key (i+1) (by omega);refine bW (aF.2 (by simp only;omega)) (aI ⟨⟨i+1,?_,by omega,?_⟩,?_⟩)
  .simp only;rw [aG (by omega)];rfl
  .simp only [Qt,getD_at _ hi];rw [aG (x:=(bl[i].instrs.length:Int)+1) (by omega),aG (by omega),hs];simp
  .simp only;rw [aG (by omega)];omega
 .have:i=bl.length:=by simp at hi;omega
  subst this;rw [K4];exact aI rfl
theorem Vd{f:aO}(hf:sg.length=fs.length)(hp :∀i,i<fs.length->(fs.getD i ah).params=((sg.getD i ([],0)).2:Int))(h:Rt g sg cl f):Ok (f96 g fs cl 0 f.name f.params f.regs f.blocks) λy=>y=0:=by
 obtain ⟨⟨_,g1,g2,g3⟩,hl,hw,hr,hpa,hi,ht⟩:=h;unfold f96;refine bD (λy=>y=false) (b_ (decide_eq_false (by omega)) (b_ (decide_eq_false (by omega)) (gy (ab5 (by omega)) (aI (decide_eq_false (by omega)))))) λy e=>?_;subst e;refine b_ rfl (bD (λy=>y=false) (b_ (decide_eq_false (by omega)) (b_ (decide_eq_false (by omega)) (b_ (decide_eq_false (by omega)) (aI (decide_eq_false (by omega)))))) λy e=>?_);subst e;refine b_ rfl (iU (λ_=>True) (jv f.blocks.length (λ_=>True) (by omega) (λb hb _=>?_) λ_=>b_ (decide_eq_false (by omega)) (aI trivial)) λ_ _=>?_)
 .have hin:=aF.2 (show 0<=(b:Int)/\(b:Int)<f.blocks.length by omega);have hbm:f.blocks.getD b au∈f.blocks:=by rw [getD_at _ hb];exact X1 _
  have hbl:=XD _ hbm;refine goT (decide_eq_true (by omega)) (iU (λ_=>True) (jv (f.blocks.getD b au).instrs.length (λ_=>True) (by omega) (λj hj _=>?_) λ_=>bW hin (b_ (decide_eq_false (by simp only [Qt];omega)) (aI trivial))) λ_ _=>?_)
  .refine bW hin ?_;simp only [Qt];refine goT (decide_eq_true (by omega)) (bW hin (bW (aF.2 (by omega)) (bD _ (instrC_ok hf hp (hi _ hbm _ (by rw [getD_at _ hj];exact X1 _))) λy e=>by subst e;exact b_ rfl (aI ⟨rfl,trivial⟩))))
  .refine bW hin ?_;simp only [Qt];exact bD _ (aiv (ht b hb)) λy e=>by subst e;exact b_ rfl (aI ⟨rfl,trivial⟩)
 refine bD _ (U3 g2 g1 (by omega)) λm ⟨hM,hc⟩=>?_;have hml:=hM.len;have hall :∀b,b<f.blocks.length->m.getD b false=true:=by
  refine λb hb=>(g3 (λb=>b<f.blocks.length/\m.getD b false=true) ⟨g1,hM.zero⟩ (λb hb hs=>?_) b hb).2;obtain ⟨e1,e2⟩:=g2.1 b hb;have hk:=g2.2 b hb;refine ⟨λhn=>?_,λhn=>?_⟩
  .have h1:=e1 hn;exact ⟨by omega,hc b hb hs.2 _ (DZ.1 (by omega))⟩
  .have h1:=e2 hn;exact ⟨by omega,hc b hb hs.2 _ (DZ.2 hn)⟩
 refine iU (λ_=>True) (jv m.length (λ_=>True) (by omega) (λb hb _=>?_) λ_=>b_ (decide_eq_false (by omega)) (aI trivial)) λ_ _=>aI rfl;refine goT (decide_eq_true (by omega)) (bW (aF.2 (by omega)) (b_ ?_ (aI ⟨rfl,trivial⟩)));rw [Qt,hall b (by omega)];rfl
theorem afM(h:RtP g sg cl fs):Ok (f79 g fs cl 0) λy=>y=0:=by
 have h1:=h.gl;have h2:=h.f0;have h3:=h.f1;have h4:=h.cll;unfold f79;refine bD (λy=>y=false) (b_ (decide_eq_false (by omega)) (b_ (decide_eq_false (by omega)) (b_ (decide_eq_false (by omega)) (b_ rfl (aI rfl))))) λy e=>?_;subst e;refine b_ rfl (iU (λ_=>True) (jv g.length (λ_=>True) (by omega) (λi hi _=>?_) λ_=>b_ (decide_eq_false (by omega)) (aI trivial)) λ_ _=>?_)
 .have hx:=h.gs _ (by rw [getD_at _ hi];exact X1 _:g.getD i (aA.mk bI 0)∈g);have hin:=aF.2 (show 0<=(i:Int)/\(i:Int)<g.length by omega);refine goT (decide_eq_true (by omega)) (bD (λy=>y=false) (bW hin ?_) λy e=>by subst e;exact b_ rfl (aI ⟨rfl,trivial⟩));simp only [Qt];exact b_ (decide_eq_false (by omega)) (bW hin (aI (decide_eq_false (by omega))))
 refine bD (λy=>y=false) (b_ (decide_eq_false (by omega)) (aI (decide_eq_false (by omega)))) λy e=>?_;subst e;refine b_ rfl (bW (aF.2 (by omega)) (b_ ?_ (iU (λ_=>True) (jv fs.length (λ_=>True) (by omega) (λi hi _=>?_) λ_=>b_ (decide_eq_false (by omega)) (aI trivial)) λ_ _=>aI rfl)))
 .rw [qn];exact decide_eq_true h.p0
 .refine goT (decide_eq_true (by omega)) (bW (aF.2 (by omega)) ?_);simp only [Qt];exact bD _ (Vd h.sgl h.par (h.rt _ (by rw [getD_at _ hi];exact X1 _))) λy e=>by subst e;exact b_ rfl (aI ⟨rfl,trivial⟩)
end
variable {g:List aA} {fs:List aO} {sg:List (List UInt8×Nat)} {ca re:Int}
def DI(g:List aA)(sg:List (List UInt8×Nat))(ca re:Int)(l:List Int)(s:List Int×Int×Int×Int×Int×Int×Int×Int×List Int):Prop:=
 s.1=l/\0<=s.2.1/\RG re s.2.2.2.2.1/\IV g sg ca re (dB.mk s.2.2.1 s.2.2.2.1 s.2.2.2.2.1 s.2.2.2.2.2.1 s.2.2.2.2.2.2.1 s.2.2.2.2.2.2.2.1 s.2.2.2.2.2.2.2.2)
theorem instr_ok{ct:Int}{nm:List UInt8}{pa:Int}{bl:List aK}{l:List Int}{i:Int}(hb:Bytes l)(hi:0<=i)(hre:1<=re/\re<=65536)(hca:0<=ca/\ca<=65536)
  (hg0:GI false g 0) (hg1:GI true g 1) (hfs:0<fs.length/\fs.length<=65536) (hsg:sg.length=fs.length) (hpa :∀i,i<fs.length->(fs.getD i ah).params=((sg.getD i ([],0)).2:Int)/\(sg.getD i ([],0)).2<=10) :
  Ok (f48 g fs ca ct nm pa re bl l i) λy=>y.2.2.2.2.2.2.1=l/\0<=y.2.2.2.2.2.2.2.1/\IV g sg ca re (dB.mk y.1 y.2.1 y.2.2.1 y.2.2.2.1 y.2.2.2.2.1 y.2.2.2.2.2.1 y.2.2.2.2.2.2.2.2):=by
 unfold f48;refine goN hb hi (by omega) λx0 j0 h0 a0 b0=>goN hb h0 (by omega) λx1 j1 h1 a1 b1=>goN hb h1 (by omega) λx2 j2 h2 a2 b2=>goN hb h2 (by omega) λx3 j3 h3 a3 b3=>?_;have b0:=b0 (by omega);have r1:RG re x1:=⟨a1,b1 (by omega)⟩;have r2:RG re x2:=⟨a2,b2 (by omega)⟩;have r3:RG re x3:=⟨a3,b3 (by omega)⟩;obtain ⟨n,hn,n1,n2⟩ :∃n:Int,dL (1+x0)=n/\1<=n/\n<=12:=⟨_,rfl,by rw [aG (by omega)];omega,by rw [aG (by omega)];omega⟩;simp only [hn];clear hn;have hnil:(eInt:List Int).length<=10:=by simp
 refine bD (DI g sg ca re l) ?_ λs ⟨e1,e2,e3,e4⟩=>?_
 .refine dX (λe=>goN hb h3 (by omega) λx j hj _ _=>?_) (λm1=>bD (DI g sg ca re l) ?_ λs hs=>aI hs)
  .have e:n=1:=by simpa using e
   subst e;exact aI ⟨rfl,hj,r1,.const r1 hnil⟩
  refine dX (λe=>goN hb h3 (by omega) λx j hj ax bx=>?_) (λm3=>bD (DI g sg ca re l) ?_ λs hs=>aI hs)
  .have e:n=3:=by simpa using e
   have bx:=bx (by omega);subst e;exact aI ⟨rfl,hj,r1,.un r1 r2 (by simp only;rw [aG (by omega)];omega) hnil⟩
  refine dX (λe=>goN hb h3 (by omega) λx j hj ax bx=>?_) (λm4=>bD (λy=>y=decide (n=7\/n=8)) ?_ λy hy=>bD (DI g sg ca re l) ?_ λs hs=>aI hs)
  .have e:n=4:=by simpa using e
   have bx:=bx (by omega);subst e;exact aI ⟨rfl,hj,r1,.bin r1 r2 r3 (by simp only;rw [aG (by omega)];omega) hnil⟩
  .refine dX (λe=>aI ?_) λe=>aI ?_
   .have e:n=7:=by simpa using e
    exact (decide_eq_true (Or.inl e)).symm
   .have e:¬ n=7:=by simpa using e
    exact decide_eq_decide.2 (by omega)
  refine dX (λe=>?_) (λe=>bD (DI g sg ca re l) ?_ λs hs=>aI hs)
  .rw [hy] at e;have e:n=7\/n=8:=of_decide_eq_true e;rcases e with e | e
   .subst e;exact aI ⟨rfl,h3,r1,.elem r1 r2 hg1 hnil⟩
   .subst e;exact aI ⟨rfl,h3,r1,.set r2 r3 hg1 hnil⟩
  rw [hy] at e;have m78:¬ (n=7\/n=8):=of_decide_eq_false e;have m1:¬ n=1:=by simpa using m1
  have m3:¬ n=3:=by simpa using m3
  have m4:¬ n=4:=by simpa using m4
  refine dX (λe=>goN hb h3 (by omega) λx j hj ax bx=>bD (DI g sg ca re l) ?_ λs hs=>aI hs) (λm11=>bD (DI g sg ca re l) ?_ λs hs=>aI hs)
  .have e:n=11:=by simpa using e
   have bx:=bx (by omega);subst e;obtain ⟨p1,p2⟩:=hpa x.toNat (by omega);refine bQ (λs:Int×List Int×Int×Int×Int×Int×Int×Int×Int×List Int =>∃(j:Int) (ar:List Int),s=((ar.length:Int),l,j,11,0,x1,x2,x3,x,ar)/\0<=j/\ar.length<=(sg.getD x.toNat ([],0)).2/\∀y∈ar,RG re y) (λs=>(10-s.1).toNat)
    ⟨j,[],rfl,hj,by simp,λy hy=>by cases hy⟩ λs ⟨j,ar,e,q1,q2,q3⟩=>?_
   subst e;refine bW (aF.2 ⟨ax,bx⟩) ?_;simp only;refine dX (λhc=>?_) (λhc=>aI ⟨rfl,q1,r1,.call r1 ⟨ax,by simp only;omega⟩ ?_ q3 (by simp only;omega)⟩)
   .have hc:(ar.length:Int)<(fs.getD x.toNat ah).params:=of_decide_eq_true hc;rw [p1] at hc;refine goN hb q1 hre.2 λy k hk ay bY=>bW (by unfold aX;simp;omega) (aI ⟨⟨k,ar++[y],?_,hk,by rw [XN,ZD];omega,λz hz=>?_⟩,?_⟩)
    .simp only [XN,Wl,K1];rw [aG (by omega)];rfl
    .rcases Xs.1 hz with hz | hz
     .exact q3 z hz
     .rw [QP] at hz;rw [hz];exact ⟨ay,bY (by omega)⟩
    .simp only [aG (x:=(ar.length:Int)+1) (by omega)];omega
   .have hc:¬ (ar.length:Int)<(fs.getD x.toNat ah).params:=of_decide_eq_false hc;rw [p1] at hc;simp only;omega
  have m11:¬ n=11:=by simpa using m11
  refine dX (λe=>goN hb h3 (by omega) λx j hj ax bx=>bD (DI g sg ca re l) ?_ λs hs=>aI hs) (λm12=>aI ?_)
  .have e:n=12:=by simpa using e
   have bx:=bx (by omega);subst e;refine bQ (λs:Int×List Int×Int×Int×Int×Int×Int×Int×Int×List Int =>∃(q j:Int) (ar:List Int),s=(q,l,j,12,0,x1,x2,x3,0,ar)/\0<=j/\0<=q/\(ar.length:Int)+q<=3/\∀y∈ar,RG re y) (λs=>s.1.toNat)
    ⟨x,j,[],rfl,hj,ax,by simp only [K1];omega,λy hy=>by cases hy⟩ λs ⟨q,j,ar,e,q1,q0,q2,q3⟩=>?_
   subst e;simp only;refine dX (λhc=>?_) (λhc=>aI ⟨rfl,q1,r1,.Lj r1 r2 q3 (by simp only;omega)⟩);have hc:0<q:=by simpa using hc
   refine goN hb q1 hre.2 λy k hk ay bY=>bW (by unfold aX;simp;omega) (aI ⟨⟨q-1,k,ar++[y],?_,hk,by omega,by simp;omega,λz hz=>?_⟩,?_⟩)
   .rw [aG (by omega)]
   .rcases Xs.1 hz with hz | hz
    .exact q3 z hz
    .rw [QP] at hz;rw [hz];exact ⟨ay,bY (by omega)⟩
   .simp only [aG (x:=q-1) (by omega)];omega
  have m12:¬ n=12:=by simpa using m12
  have:n=2\/n=5\/n=6\/n=9\/n=10:=by omega
  rcases this with e | e | e | e | e<;>subst e
  .exact ⟨rfl,h3,r1,.move r1 r2 hnil⟩
  .exact ⟨rfl,h3,r1,.load r1 hg0 hnil⟩
  .exact ⟨rfl,h3,r1,.store r2 hg0 hnil⟩
  .exact ⟨rfl,h3,r1,.read r1 hnil⟩
  .exact ⟨rfl,h3,r1,.print r2 hnil⟩
 obtain ⟨t1,t2,s⟩:=s;simp only at e1 e2 e3 e4;subst e1;refine bD (λs=>s.2.1=t1/\0<=s.2.2/\(s.1=true->0<ca)) ?_ λ⟨s1,s2,s3⟩ ⟨e5,e6,e7⟩=>?_
 .refine dX (λ_=>dX (λhc=>goN hb e2 (by omega) λx j hj _ _=>aI ⟨rfl,hj,λ_=>by simpa using hc⟩) λ_=>aI ⟨rfl,e2,λh=>by cases h⟩) λ_=>aI ⟨rfl,e2,λh=>by cases h⟩
 simp only at e5 e6 e7;subst e5;refine dX (λhs=>goN hb e6 hca.2 λx j hj ax bx=>aI ⟨rfl,hj,.func e3 ⟨ax,bx (by have:=e7 hs;omega)⟩ hnil⟩) λ_=>aI ⟨rfl,e6,e4⟩
theorem abL.of{bl:List aK}(h :∀S:Nat->Prop,S 0->(∀b,b<bl.length->S b->∀x∈n_ bl b,S x.toNat)->∀b,b<bl.length->S b):abL bl:=λS h0 hs b hb=>h S h0 (λb hb hS x hx=>by
 obtain ⟨e1,e2⟩:=hs b hb hS;unfold n_ succs at hx;split at hx
 .rename_i hc;rcases QQ.1 hx with e | e
  .rw [e];exact e1 (by omega)
  .rw [QP] at e;rw [e];exact e2 hc.1
 .split at hx
  .rw [QP] at hx;rw [hx];exact e1 (by omega)
  .cases hx) b hb
theorem Ve :∀{bl:List aK},(∀b∈bl,b.instrs.length<=3)->Ag bl<=4*bl.length
 | [],_=>by simp [Ag]
 |b::bl,h=>by
  have:=Ve (bl:=bl) λx hx=>h x (WD _ hx);have:=h b Kh;unfold Ag at *;simp only [Q6,J1,Wl];omega
theorem al1{re:Int}{bl:List aK}{b:Nat}(hE:y9 bl)(hb:b<bl.length)(h:RG re (bl.getD b au).lY):tvB re bl.length (bl.getD b au):=
 ⟨hE.2 b hb,λ_=>h,Xu hE hb⟩
def HG(g:List aA)(sg:List (List UInt8×Nat))(ca:Int)(N i:Nat)(P:aO->Prop)(fs:List aO):Prop:=
 fs.length=N/\∀k,k<N->((fs.getD k ah).params=((sg.getD k ([],0)).2:Int)/\(sg.getD k ([],0)).2<=10)/\(0<=(fs.getD k ah).params/\(fs.getD k ah).params<=(fs.getD k ah).regs)/\(1<=(fs.getD k ah).regs/\(fs.getD k ah).regs<=4)/\(k<i->Rt g sg ca (fs.getD k ah))/\(k=i->P (fs.getD k ah))/\(i<k->(fs.getD k ah).blocks=[])
theorem HG.put{N i:Nat}{P Q:aO->Prop}{fs:List aO}{nm:List UInt8}{pa re:Int}{bl:List aK}(h:HG g sg ca N i P fs)(hi:i<N)(hp:pa=(fs.getD i ah).params)(hr:re=(fs.getD i ah).regs)(hq:Q (aO.mk nm pa re bl)):HG g sg ca N i Q (fs.set i (aO.mk nm pa re bl)):=by
 refine ⟨by simp [h.1],λk hk=>?_⟩;rw [jC (by rw [h.1];exact hi)];obtain ⟨a1,a2,a3,a4,a5,a6⟩:=h.2 k hk;split
 .rename_i e;subst e;exact ⟨by simp only [hp];exact a1,by simp only [hp,hr];exact a2,by simp only [hr];exact a3,λe=>absurd e (qd _),λ_=>hq,λe=>absurd e (qd _)⟩
 .rename_i e;exact ⟨a1,a2,a3,a4,λe'=>absurd e' e,a6⟩
theorem HG.mono{N i:Nat}{P Q:aO->Prop}(h:HG g sg ca N i P fs)(hq :∀f,P f->Q f):HG g sg ca N i Q fs:=
 ⟨h.1,λk hk=>have ⟨a1,a2,a3,a4,a5,a6⟩:=h.2 k hk;⟨a1,a2,a3,a4,λe=>hq _ (a5 e),a6⟩⟩
theorem HG.next{N i:Nat}(h:HG g sg ca N i (Rt g sg ca) fs):HG g sg ca N (i+1) (λf=>f.blocks=[]) fs:=
 ⟨h.1,λk hk=>have ⟨a1,a2,a3,a4,a5,a6⟩:=h.2 k hk;⟨a1,a2,a3,λe=>(by rcases va k i with e' | e';exact a4 e';exact a5 (by omega)),λe=>a6 (by omega),λe=>a6 (by omega)⟩⟩
theorem set_self{fs:List aO}{i:Nat}(hi:i<fs.length):fs.set i (aO.mk (fs.getD i ah).name (fs.getD i ah).params (fs.getD i ah).regs (fs.getD i ah).blocks)=fs:=by
 have:aO.mk (fs.getD i ah).name (fs.getD i ah).params (fs.getD i ah).regs (fs.getD i ah).blocks=fs[i]:=by rw [getD_at _ hi]
 rw [this,List.set_getElem_self]
def BI(g:List aA)(sg:List (List UInt8×Nat))(ca:Int)(f:aO):Prop :=∀b∈f.blocks,b.instrs.length<=3/\∀i∈b.instrs,IV g sg ca f.regs i
def QK(g:List aA)(sg:List (List UInt8×Nat))(ca:Int)(m b:Nat)(f:aO):Prop:=f.blocks.length=m/\BI g sg ca f/\∀k,k<b->((f.blocks.getD k au).bT=1\/(f.blocks.getD k au).bT=2\/(f.blocks.getD k au).bT=3)/\RG f.regs (f.blocks.getD k au).lY/\(0<=(f.blocks.getD k au).f_/\(f.blocks.getD k au).f_<m)/\0<=(f.blocks.getD k au).dF/\(f.blocks.getD k au).dF<m
theorem QK.ends{m:Nat}{f:aO}(h:QK g sg ca m m f):y9 f.blocks:=
 ⟨λb hb=>have:=(h.2.2 b (h.1▸hb)).2.2;h.1▸⟨λ_=>this.1,λ_=>this.2⟩,λb hb=>(h.2.2 b (h.1▸hb)).1⟩
theorem afN{l:List Int}{i:Int}(hb:Bytes l)(hi:0<=i):Ok (f26 l i) λy=>(∃sg,RtP y.2.2.2.2.1 sg y.1 y.2.2.2.2.2)/\y.2.1=0/\y.2.2.1=l/\0<=y.2.2.2.1:=by
 unfold f26;refine goN hb hi (by omega) λx0 j0 h0 a0 b0=>goN hb h0 (by omega) λx1 j1 h1 a1 b1=>?_;have b0:=b0 (by omega);have b1:=b1 (by omega);obtain ⟨N,hN'⟩ :∃N:Nat,1+x1=N:=⟨(1+x1).toNat,by omega⟩;obtain ⟨g,hg⟩ :∃g,[(aA.mk [(103:UInt8),(48:UInt8)] 0),(aA.mk [(103:UInt8),(49:UInt8)] (dL (1+x0)))]=g:=⟨_,rfl⟩;simp only [show dL (1+x1)=N from (aG (by omega)).trans hN',hg];have hg0:GI false g 0:=by subst hg;exact ⟨⟨by simp,by simp⟩,rfl⟩
 have hg1:GI true g 1:=by
  subst hg;refine ⟨⟨by simp,by simp⟩,decide_eq_true ?_⟩;show 0<dL (1+x0);rw [aG (by omega)];omega
 have hgl:g.length=2:=by subst hg;rfl
 have hgs :∀x∈g,0<=x.size/\x.size<=1024:=by
  subst hg;intro x hx;rcases QQ.1 hx with e | e
  .subst e;simp
  .rw [QP] at e;subst e;simp only;rw [aG (by omega)];omega
 clear hg;refine bD (λs=>s.1=l/\0<=s.2.1/\s.2.2.2.1=0/\s.2.2.2.2.length=N/\(∀f∈s.2.2.2.2,(0<=f.params/\f.params<=f.regs)/\f.params<=10/\(1<=f.regs/\f.regs<=4)/\f.blocks=[])/\(s.2.2.2.2.getD 0 ah).params=0) ?_ λs ⟨e1,e2,e0,e3,e4,e5⟩=>?_
 .refine bQ (λs:Int×List Int×Int×Int×Int×List aO=>s.2.1=l/\0<=s.2.2.1/\s.2.2.2.2.1=0/\(s.2.2.2.2.2.length:Int)=s.1/\s.1<=N/\(∀f∈s.2.2.2.2.2,(0<=f.params/\f.params<=f.regs)/\f.params<=10/\(1<=f.regs/\f.regs<=4)/\f.blocks=[])/\(s.2.2.2.2.2.getD 0 ah).params=0) (λs=>(N-s.1).toNat)
   ⟨rfl,h1,rfl,rfl,by simp,(λf hf=>by cases hf),rfl⟩ λ⟨q,l',j,z1,z2,fs⟩ ⟨e1,e2,e0,e3,e4,e5,e6⟩=>?_
  simp only at e1 e2 e0 e3 e4 e5 e6;subst e1;subst e3;subst e0;refine dX (λhc=>?_) (λhc=>aI ⟨rfl,e2,rfl,?_,e5,e6⟩)
  .have hc:(fs.length:Int)<N:=by simpa using hc
   refine bD _ (abO (by omega) (by omega)) λnm hnm=>bW (oK.2 (by simp;omega)) (goN hb e2 (by omega) λx2 j2 h2 a2 b2=>?_);have b2:=b2 (by omega);have hw:dL (1+x2)=1+x2:=aG (by omega);refine bD (λs=>s.1=l'/\0<=s.2.1/\((0<=s.2.2.2.1/\s.2.2.2.1<=s.2.2.2.2)/\s.2.2.2.1<=10/\(1<=s.2.2.2.2/\s.2.2.2.2<=4))/\(fs.length=0->s.2.2.2.1=0)) ?_ λ⟨s1,s2,s3,s4,s5⟩ ⟨g1,g2,⟨g3,g4,g5⟩,g6⟩=>bW (by unfold aX;simp;omega) (aI ⟨⟨g1,g2,rfl,?_,?_,λf hf=>?_,?_⟩,?_⟩)
   .refine dX (λhl=>?_) (λ_=>aI ⟨rfl,h2,⟨by simp only [hw];omega,by simp,by simp only [hw];omega⟩,λ_=>rfl⟩);have hl:(0:Int)<fs.length:=by simpa using hl
    have hm:dL (min (1+x2) 2+1)=min (1+x2) 2+1:=aG (by omega);rw [ahh,hw,hm];exact goN hb h2 (by omega) λx3 j3 h3 a3 b3=>aI ⟨rfl,h3,⟨by have:=b3 (by omega);simp only;omega,by have:=b3 (by omega);simp only;omega,by simp only;omega⟩,λh=>by omega⟩
   all_goals try simp only [aG (x:=(fs.length:Int)+1) (by omega)]
   .simp
   .omega
   .rcases Xs.1 hf with hf | hf
    .exact e5 f hf
    .rw [QP] at hf;subst hf;exact ⟨g3,g4,g5,rfl⟩
   .rcases qf fs.length with h | h
    .rw [Wf] at h;subst h;exact g6 rfl
    .rw [getD_at _ h] at e6;rw [getD_at _ (by simp),List.getElem_append_left h];exact e6
   .omega
  .have hc:¬ (fs.length:Int)<N:=by simpa using hc
   simp only at e4 ⊢;omega
 obtain ⟨s1,s2,s3,s4,fs0⟩:=s;simp only at e1 e2 e0 e3 e4 e5;subst e1;subst e0;obtain ⟨sg,hsg⟩ :∃sg:List (List UInt8×Nat),fs0.map (λf=>(f.name,f.params.toNat))=sg:=⟨_,rfl⟩;have hsl:sg.length=N:=by subst hsg;simpa using e3
 have hsp :∀k,k<N->(fs0.getD k ah).params=((sg.getD k ([],0)).2:Int)/\(sg.getD k ([],0)).2<=10:=by
  intro k hk;have h:=e4 (fs0.getD k ah) (by rw [getD_at _ (by omega)];exact X1 _);have:(sg.getD k ([],0)).2=(fs0.getD k ah).params.toNat:=by
   subst hsg;rw [getD_at _ (by simpa using e3▸hk),Kg,getD_at _ (by omega)]
  omega
 clear hsg;rw [show dL ((N:Int)+1)=N+1 from aG (by omega)];refine goN hb e2 (by omega) λca jc hjc ac bc=>?_;have bc:=bc (by omega);have p00:((sg.getD 0 ([],0)).2:Int)=0:=by rw [<-(hsp 0 (by omega)).1];exact e5
 have e6:HG g sg ca N 0 (λf=>f.blocks=[]) fs0:=⟨e3,λk hk=>by
  obtain ⟨z1,z2,z3,z4⟩:=e4 (fs0.getD k ah) (by rw [getD_at _ (by omega)];exact X1 _);exact ⟨hsp k hk,z1,z3,λh=>absurd h (Kk _),λ_=>z4,λ_=>z4⟩⟩
 refine bD (λs=>s.1=s1/\0<=s.2.1/\RtP g sg ca s.2.2) ?_ λs ⟨k1,k2,k3⟩=>aI ⟨⟨sg,k3⟩,rfl,k1,k2⟩;clear e4 e5 hsp;refine bQ (λs:Int×List Int×Int×List aO =>∃i:Nat,s.1=i/\i<=N/\s.2.1=s1/\0<=s.2.2.1/\HG g sg ca N i (λf=>f.blocks=[]) s.2.2.2) (λs=>(N-s.1).toNat)
  ⟨0,rfl,by omega,rfl,hjc,e6⟩ λ⟨q,l',j,fs⟩ ⟨i,g1,g2,g3,g4,g5⟩=>?_
 simp only at g1 g3 g4 g5;subst g1;subst g3;refine dX (λhc=>?_) (λhc=>aI ⟨rfl,g4,?_⟩)
 rotate_left
 .have hc:¬ (i:Int)<N:=by simpa using hc
  have hl:=g5.1;refine ⟨by omega,hgs,by simp only;omega,by simp only;omega,by simp only;omega,⟨ac,by simp only;omega⟩,λk hk=>(g5.2 k (by simp only at hk;omega)).1.1,?_,λf hf=>?_⟩
  .rw [(g5.2 0 (by omega)).1.1];exact p00
  .obtain ⟨k,hk,e⟩:=W8 hf;have hk2:k<N:=by simp only at hk;omega
   have:=(g5.2 k hk2).2.2.2.1 (by omega);rw [getD_at _ hk,e] at this;exact this
 have hi:i<N:=by simp at hc;omega
 refine bW (aF.2 ⟨by simp only;omega,by have:=g5.1;simp only;omega⟩) (goN hb g4 (by omega) λx2 j2 h2 a2 b2=>?_);have b2:=b2 (by omega);obtain ⟨M,hM⟩ :∃M:Nat,1+x2=M:=⟨(1+x2).toNat,by omega⟩;simp only [Qt,show dL (1+x2)=M from (aG (by omega)).trans hM];refine bD (λs=>s.1=l'/\0<=s.2.1/\HG g sg ca N i (λf=>f.blocks.length=M/\BI g sg ca f) s.2.2) ?_ λ⟨s1,s2,s3⟩ ⟨k1,k2,k3⟩=>?_
 .refine bQ (λs:Int×List Int×Int×List aO=>s.2.1=l'/\0<=s.2.2.1/\(0<=s.1/\s.1<=M)/\HG g sg ca N i (λf=>(f.blocks.length:Int)=M-s.1/\BI g sg ca f) s.2.2.2) (λs=>s.1.toNat)
   ⟨rfl,h2,⟨by simp,by simp⟩,g5.mono λf hf=>⟨by rw [hf];simp,λb hb=>by rw [hf] at hb;cases hb⟩⟩ λ⟨c,l2,j,fs⟩ ⟨r1,r2,r3,r4⟩=>?_
  simp only at r1 r2 r3 r4;subst r1;have hfl:i<fs.length:=by rw [r4.1];exact hi
  obtain ⟨y1,y2,y3,y4,y5,y6⟩:=r4.2 i hi;have y5:=y5 rfl;refine dX (λhp=>?_) (λhp=>aI ⟨rfl,r2,?_⟩)
  rotate_left
  .have hp:¬ 0<c:=by simpa using hp
   exact r4.mono λf hf=>⟨by have:=hf.1;omega,hf.2⟩
  have hp:0<c:=by simpa using hp
  refine goN hb r2 (by omega) λx3 j3 h3 a3 b3=>goN hb h3 (by omega) λx4 j4 h4 a4 b4=>?_;have b4:=b4 (by omega);refine bD (λs=>s.1=l2/\0<=s.2.1/\s.2.2.1=fs/\s.2.2.2.2.2.2.2.2.2.2.length<=3/\∀i'∈s.2.2.2.2.2.2.2.2.2.2,IV g sg ca (fs.getD i ah).regs i') ?_ λs ⟨k1,k2,k3,k4,k5⟩=>?_
  .refine bQ (λs:Int×List Int×Int×List aO×Int×Int×Int×Int×Int×Int×Int×List dB=>s.2.1=l2/\0<=s.2.2.1/\s.2.2.2.1=fs/\(0<=s.1/\s.1<=3)/\(s.2.2.2.2.2.2.2.2.2.2.2.length:Int)<=3-s.1/\∀i'∈s.2.2.2.2.2.2.2.2.2.2.2,IV g sg ca (fs.getD i ah).regs i') (λs=>s.1.toNat)
    ⟨rfl,h4,rfl,⟨a4,by simp only;omega⟩,by simp only [K1];omega,λi' h=>by cases h⟩ λ⟨c',l3,j3,fs',v1,v2,v3,v4,v5,v6,v7,is⟩ ⟨u1,u2,u3,u4,u5,u6⟩=>?_
   simp only at u1 u2 u3 u4 u5 u6;subst u1;subst u3;refine dX (λhp'=>?_) (λ_=>aI ⟨rfl,u2,rfl,by simp only;omega,u6⟩);have hp':0<c':=by simpa using hp'
   simp only [set_self hfl];refine bD _ (instr_ok hb u2 ⟨y3.1,by omega⟩ ⟨ac,by omega⟩ hg0 hg1 ⟨by omega,by have:=r4.1;omega⟩ (by rw [hsl,r4.1]) λk hk=>(r4.2 k (by rw [<-r4.1];exact hk)).1) λy ⟨y1,y2,y3⟩=>bW (by unfold aX;simp;omega) (aI ⟨⟨y1,y2,rfl,?_,?_,λi' hi'=>?_⟩,?_⟩)
   all_goals try simp only [aG (x:=c'-1) (by omega)]
   .omega
   .simp;omega
   .rcases Xs.1 hi' with h | h
    .exact u6 i' h
    .rw [QP] at h;rw [h];exact y3
   .omega
  obtain ⟨s1,s2,s3,s4,s5,s6,s7,s8,s9,s10,s11⟩:=s;simp only at k1 k2 k3 k4 k5;subst k1;subst k3;refine bW (by simp [-List.getD_eq_getElem?_getD];omega) (bW (by simp) (aI ⟨⟨rfl,k2,?_,r4.put hi rfl rfl ⟨?_,λb hb=>?_⟩⟩,?_⟩))
  all_goals try simp only [aG (x:=c-1) (by omega)]
  .omega
  .simp [-List.getD_eq_getElem?_getD];omega
  .rcases Xs.1 hb with h | h
   .exact y5.2 b h
   .rw [QP] at h;rw [h];exact ⟨k4,k5⟩
  .omega
 simp only at k1 k2 k3;subst k1;refine bD (λs=>s.1=s1/\0<=s.2.1/\HG g sg ca N i (QK g sg ca M M) s.2.2) ?_ λ⟨t1,t2,t3⟩ ⟨k4,k5,k6⟩=>?_
 .refine bQ (λs:Int×List Int×Int×List aO =>∃b:Nat,s.1=b/\b<=M/\s.2.1=s1/\0<=s.2.2.1/\HG g sg ca N i (QK g sg ca M b) s.2.2.2) (λs=>(M-s.1).toNat)
   ⟨0,rfl,by omega,rfl,k2,k3.mono λf hf=>⟨hf.1,hf.2,λ_ h=>absurd h (Kk _)⟩⟩ λ⟨c,l2,j,fs⟩ ⟨b,r0,r1,r2,r3,r4⟩=>?_
  simp only at r0 r2 r3 r4;subst r0;subst r2;have hfl:i<fs.length:=by rw [r4.1];exact hi
  obtain ⟨y1,y2,y3,y4,y5,y6⟩:=r4.2 i hi;have y5:=y5 rfl;simp only [Jn,y5.1];refine dX (λhp=>?_) (λhp=>aI ⟨rfl,r3,?_⟩)
  rotate_left
  .have hp:¬ (b:Int)<M:=by simpa using hp
   have:b=M:=by omega
   subst this;exact r4
  have hp:b<M:=by simp at hp;omega
  refine goN hb r3 (by omega) λx3 j3 h3 a3 b3=>bW (aF.2 ⟨a3,by have:=b3 (by omega);simp;omega⟩) (goN hb h3 (by omega) λx4 j4 h4 a4 b4=>goN hb h4 (by omega) λx5 j5 h5 a5 b5=>goN hb h5 (by omega) λx6 j6 h6 a6 b6=>bW (aF.2 ⟨by omega,by omega⟩) (aI ⟨⟨b+1,?_,by omega,rfl,h6,?_⟩,?_⟩))
  .simp only [aG (x:=(b:Int)+1) (by omega)];simp
  .refine r4.put hi rfl rfl ⟨by simp only;rw [Up];exact y5.1,λb' hb'=>?_,λk hk=>?_⟩
   .simp only [Qt] at hb' ⊢;rcases Ks hb' with h | h
    .exact y5.2.1 b' h
    .rw [h];exact y5.2.1 ((fs.getD i ah).blocks.getD b au) (by rw [getD_at (l:=(fs.getD i ah).blocks) au (by rw [y5.1];exact hp)];exact X1 _)
   .simp only [Qt];rw [jC (by rw [y5.1];exact hp)];split
    .refine ⟨?_,⟨a4,b4 (by omega)⟩,⟨a5,b5 (by omega)⟩,a6,b6 (by omega)⟩;have:=b3 (by omega);have:x3=0\/x3=1\/x3=2\/x3=3:=by omega
     rcases this with e | e | e | e<;>subst e<;>simp
    .exact y5.2.2 k (by omega)
  .simp only [aG (x:=(b:Int)+1) (by omega)];omega
 simp only at k4 k5 k6;subst k4;obtain ⟨y1,y2,y3,y4,y5,y6⟩:=k6.2 i hi;have y5:=y5 rfl;refine bD _ (Xv (bs:=(t3.getD i ah).blocks) y5.ends (by have:=y5.1;omega) (by have:=y5.1;omega)) λ⟨c1,c2,c3,c4⟩ ⟨p1,p2,p3,p4,p5,p6,p7,p8⟩=>bW (by simp) (aI ⟨⟨i+1,?_,by omega,rfl,k5,HG.next (k6.put hi p2 p3 ?_)⟩,?_⟩)
 .show dL ((i:Int)+1)=_;rw [aG (by omega)];rfl
 .simp only at p2 p3 p4 p5 p6 p7 p8;have hM5:=y5.1;have hin :∀b∈c4,b.instrs.length<=3/\∀i'∈b.instrs,IV g sg ca c3 i':=λb hb=>by
   obtain ⟨t,ht,e,_⟩:=p8 b hb;rw [e,p3];exact y5.2.1 t ht
  have hw:=Ve λb hb=>(hin b hb).1;refine ⟨⟨by simp only;omega,p4,p6,p7⟩,by simp only;omega,by simp only;omega,by simp only;omega,by simp only;omega,λb hb=>(hin b hb).2,λb hb=>al1 p6 hb ?_⟩;obtain ⟨t,ht,_,_,e⟩:=p8 (c4.getD b au) (by rw [getD_at _ hb];exact X1 _);simp only;rw [e,p3];obtain ⟨k,hk,e⟩:=W8 ht;have:=(y5.2.2 k (by omega)).2.1;rw [getD_at _ hk,e] at this;exact this
 .show ((N:Int)-dL ((i:Int)+1)).toNat<((N:Int)-i).toNat;rw [aG (by omega)];omega
theorem Inv.rt{g:List aA}{sg:List (List UInt8×Nat)}{cl re pa:Int}{nm:List UInt8}{bl:List aK}{O:Nat->Prop}{P:Nat->Nat->Prop}(h:Inv g sg cl re 2048 256 bl O P)(ho :∀x,¬ O x)(h0:0<bl.length)(hr:re<=250)(hp:0<=pa/\pa<=re):Rt g sg cl (aO.mk nm pa re bl):=by
 have hl:=h.len;have ht :∀b,b<bl.length->tvB re bl.length (bl.getD b au):=λb hb=>h.trm b hb (ho b);have hE:y9 bl:=by
  refine ⟨λb hb=>?_,λb hb=>(ht b hb).kind⟩;have hk:=(ht b hb).kind;exact ⟨λhn=>(ht b hb).suc _ (DZ.1 (by omega)),λhn=>(ht b hb).suc _ (DZ.2 hn)⟩
 exact ⟨⟨by simp only;omega,h0,hE,abL.of λS hS hs=>h.con S hS (λb hb _=>hs b hb) λa b hp=>absurd (h.src a b hp).1 (ho a)⟩,hl,h.wt,⟨by simp only;omega,hr⟩,hp,h.ins,ht⟩
theorem afO{g:List aA}{fs:List aB}(h:alY g fs):Ok (f45 g fs) λy=>(∃sg,RtP y.2.2.2.1 sg y.1 y.2.2.2.2)/\y.2.1=0:=by
 obtain ⟨hg,hf,hbd⟩:=h;obtain ⟨⟨hf0,hf4⟩,hp0,hfn⟩:=id hf;have hg4:=hg.1;have hsl:(iW fs).length=fs.length:=by unfold iW;simp
 have hsp :∀k,k<fs.length->((iW fs).getD k ([],0)).2=(fs.getD k bC).params.length:=λk hk=>by
  unfold iW;rw [getD_at _ (by simpa using hk),Kg,getD_at _ hk]
 unfold f45;refine bW (by unfold aX;simp;omega) ?_;have e0:eG++g=g:=by simp
 simp only [e0];refine bD (λs=>s.1=fs.length/\s.2.1=0/\RtP g (iW fs) fs.length s.2.2) ?_ λKY ⟨h1,h2,h3⟩=>?_
 rotate_left
 .obtain ⟨s1,s2,s3⟩:=KY;simp only at h1 h2 h3;subst h1;subst h2;exact bD _ (afM h3) λy e=>by subst e;exact b_ rfl (aI ⟨⟨_,h3⟩,rfl⟩)
 refine bQ (λs:Int×Int×Int×List aO =>∃(i:Nat) (rs:List aO),s=((i:Int),(fs.length:Int),0,rs)/\i<=fs.length/\rs.length=i/\∀k,k<i->(rs.getD k ah).params=(((iW fs).getD k ([],0)).2:Int)/\Rt g (iW fs) fs.length (rs.getD k ah)) (λs=>(fs.length-s.1).toNat) ⟨0,[],rfl,by omega,rfl,λk hk=>by omega⟩ λs ⟨i,rs,e,h1,h2,h3⟩=>?_;subst e;refine dX (λhi=>?_) (λhi=>?_)
 rotate_left
 .have hi:¬ (i:Int)<fs.length:=by simpa using hi
  have:i=fs.length:=by omega
  subst this;refine aI ⟨rfl,rfl,by omega,λx hx=>?_,by simp only;omega,by simp only;omega,by simp only;omega,⟨by omega,by simp only;omega⟩,λk hk=>(h3 k (by simp only at hk;omega)).1,?_,λf hf=>?_⟩
  .obtain ⟨k,hk,e⟩:=W8 hx;have:=(hg.2 k hk).2;rw [getD_at _ hk,e] at this;omega
  .simp only;rw [(h3 0 (by omega)).1,hsp 0 hf0,hp0];rfl
  .obtain ⟨k,hk,e⟩:=W8 hf;have:=(h3 k (by simp only at hk;omega)).2;rw [getD_at _ hk,e] at this;exact this
 have hi:i<fs.length:=by simpa using hi
 obtain ⟨hb,L,c,q,hch,hc7,apw,hLN,atq⟩:=hbd i hi;obtain ⟨_,hpn⟩:=hfn i hi;have apz:=hsp i hi;obtain ⟨f,hfe⟩ :∃f,fs.getD i bC=f:=⟨_,rfl⟩;rw [hfe] at hb hch apz;simp only [Qt,hfe];have hlen:=(hch.len (XB 3)).1;have hS:Lw g fs L:=⟨hg,hf,hLN,atq⟩;refine bW (aF.2 ⟨by omega,by omega⟩) (bD (λy=>y=(g,fs,L,(i:Int),(0:Int),(0:Int),([]:List aK))) ?_ λs7 e=>?_)
 .refine gy (y:=L) ?_ (aI rfl);apply ok_eq;unfold f74;refine bW (by simp;omega) ?_;have he:jX++f.params=f.params:=by simp
  rw [he];exact gy (Iz (λ_ _ _ _ _ h=>h) (λ_ _ _ _ _ _=>air) 3 1048576 (by omega) _ hb _ _ _ _ hch (by omega) λn lo s l1 c k h=>(XB n lo s l1 c k h).1) (aI rfl)
 subst e;refine bD (λy =>∃b:aK,y=((0:Int),g,fs,L,(i:Int),(L.length:Int),((0:Nat):Int),[b])/\b.instrs=[]) (by unfold f75;exact bW (by unfold aX;simp) (aI ⟨_,rfl,rfl⟩)) λc9 ⟨b,e,hbi⟩=>?_;subst e;have hP:Pre g fs L L.length 1 1 [b] 0 (λ_=>False) (λ_ _=>False):=by
  refine ⟨⟨by unfold Ag;simp [hbi],by simp,λb' hb'=>?_,λb' hb' ho=>?_,λb' hb'=>?_,λ_ _ h=>h.elim,λS hS _ _ b' hb'=>?_⟩,λh=>h,λ_ h=>h,Wz _⟩
  .rw [QP] at hb';subst hb';rw [hbi];intro i hi;cases hi
  .simp only [ZD] at hb';exact absurd (Or.inl (by omega)) ho
  .rcases hb' with h | h
   .subst h;simp
   .exact h.elim
  .simp only [ZD] at hb';have:b'=0:=by omega
   subst this;exact hS
 refine bD _ (ZT (nu:=(i:Int)) hS 3 1048576 (by omega) f.body hb _ _ _ _ hch _ _ _ _ _ _ _ hP (by omega)) λc10 ⟨on,re,a,bl,e,r1,r2,r3,r4,hI⟩=>?_;subst e;simp only at r1 r2 r3 ⊢;refine bD (λy =>∃re' a' jA,y=(g,fs,L,(i:Int),re',a',jA)/\Rt g (iW fs) fs.length (aO.mk f.name (f.params.length:Int) re' jA)) ?_ λs16 ⟨re',a',jA,e,hR⟩=>?_
 .have hl1:=hI.len;refine dX (λhon=>?_) (λhon=>?_)
  .subst hon;have hm:Eu re (dL ((L.length:Int)+1))=max re (L.length+1):=by rw [Ig,aG (by omega)]
   obtain ⟨r5,hr5⟩ :∃r5,Eu re (dL ((L.length:Int)+1))=r5:=⟨_,rfl⟩;rw [hr5] at hm;simp only [hr5];have hI5:=hI.up (re':=r5) (by omega) (XS _) (XS _);have apA:RG r5 L.length:=⟨by omega,by omega⟩;refine U7 (a:=a) (bl:=bl) (re:=r5) hI5 (.inl ⟨rfl,rfl⟩) (by omega) (.const apA (by simp)) λb2 l2 i2=>rD (bl:=b2) (re:=r5) (b0:=a) i2 (.inl ⟨rfl,rfl⟩) ⟨.inr (.inr rfl),λ_=>apA,λx hx=>?_⟩ (λy hp=>hp.elim) λb3 l3 i3=>aI ⟨r5,a,b3,rfl,(i3.up (Wz _) (by omega) (by omega)).rt (λx hx=>?_) ?_ (by omega) ⟨by omega,by omega⟩⟩
   .unfold succs at hx;rw [if_neg (by omega),if_neg (by omega)] at hx;cases hx
   .rcases hx.1 with h | h
    .exact hx.2 h.2
    .exact h
   .simp only [ZD] at r3;omega
  .subst hon;exact aI ⟨re,a,bl,rfl,(hI.up (Wz _) (by omega) (by omega)).rt (λx hx=>by rcases hx with h | h;exact absurd h.1 (by simp);exact h) (by simp only [ZD] at r3;omega) (by omega) ⟨by omega,by omega⟩⟩
 subst e;refine bW (by unfold aX;simp;omega) (aI ⟨⟨i+1,rs++[aO.mk f.name (f.params.length:Int) re' jA],?_,by omega,by rw [XN,ZD,h2],λk hk=>?_⟩,?_⟩)
 .rw [aG (by omega)];rfl
 .rw [lW];split
  .exact h3 k (by omega)
  .have:k=i:=by omega
   subst this;rw [if_pos h2.symm];exact ⟨by rw [apz],hR⟩
 .simp only [aG (x:=(i:Int)+1) (by omega)];omega
theorem aiw{l:List Int}{i:Int}(hb:Bytes l)(hi:0<=i):Ok (f8 l i) λy=>(∃sg,RtP y.2.2.2.2.2 sg y.2.1 y.1)/\y.2.2.1=0/\y.2.2.2.1=l/\0<=y.2.2.2.2.1:=by
 unfold f8;refine goN hb hi (by omega) λc j hj _ _=>dX (λ_=>bD (λy=>(∃sg,RtP y.2.2.2.2.1 sg y.1 y.2.2.2.2.2)/\y.2.1=0/\y.2.2.1=l/\0<=y.2.2.2.1) ?_ λy hy=>aI hy) λ_=>bD _ (afN hb hj) λy hy=>aI hy;unfold f25;refine bD (λy=>alY y.2.2.1 y.2.2.2/\y.1=l/\0<=y.2.1) ?_ λy ⟨h1,h2,h3⟩=>bD _ (afO h1) λz ⟨z1,z2⟩=>aI ⟨z1,z2,h2,h3⟩;unfold f46;exact bD _ (abW hb hj) λy hy=>bD _ (XC hy.2.2) λz hz=>aI ⟨hz,hy.1,hy.2.1⟩
def Ascii(s:List UInt8):Prop :=∀x∈s,x.toNat<128
theorem ZU(s:List UInt8)(i:Nat):TD s (i:Int)=decide (i<s.length):=by unfold TD;rw [Qt]
theorem decode_at{s:List UInt8}(h:Ascii s){i:Nat}(hi:i<s.length):Utf8.decode ⟨s.toArray⟩ i=(s[i].toNat,1):=
 Go.decode_ascii ⟨s.toArray⟩ i (by simpa [ByteArray.size] using hi) (h _ (X1 _))
theorem Oq{s:List UInt8}(h:Ascii s){i:Nat}(hi:i<s.length):nV s (i:Int)=(s[i].toNat:Int):=by
 unfold nV;rw [Qt,decode_at h hi]
theorem D5{s:List UInt8}(h:Ascii s){i:Nat}(hi:i<s.length):uN s (i:Int)=(i:Int)+1:=by
 unfold uN;rw [Qt,decode_at h hi];simp
theorem Ot(x lo hi:Int):f65 x lo hi=some (decide (lo<=x)&&decide (x<=hi)):=by
 unfold f65;cases decide (lo<=x)<;>rfl
def vg(op v:Int)(wd:Bool):Bool:=
 if 5<=op/\op<=8 then decide (0<=v)&&decide (v<=31) else if op=11 then decide (0<=v)&&decide (v<=1048576) else if op=17 then decide (0<=v)&&decide (v<=4095)
 else if op=18 then decide (0<=v)&&decide (v<=63) else if 13<=op/\op<=15 then (if wd then decide (-2147483648<=v)&&decide (v<=2147483647) else decide (-128<=v)&&decide (v<=127)) else true
theorem ops{op:Int}(h:1<=op/\op<=18):op=1\/op=2\/op=3\/op=4\/op=5\/op=6\/op=7\/op=8\/op=9\/op=10\/op=11\/op=12\/op=13\/op=14\/op=15\/op=16\/op=17\/op=18:=by omega
theorem apB{op ar d a b v:Int}{wd:Bool}{args:List Int}(h:1<=op/\op<=18):f91 op ar d a b v wd args=some (vg op v wd):=by
 unfold f91 vg;rcases ops h with rfl | rfl | rfl | rfl | rfl | rfl | rfl | rfl | rfl | rfl | rfl | rfl | rfl | rfl | rfl | rfl | rfl | rfl<;>(cases wd<;>simp [Ot,d_])
structure VC(op ar d a b v:Int)(wd:Bool)(args:List Int):Prop where
 o:1<=op/\op<=18
 w:wd=true->13<=op/\op<=15
 a3:op=3->1<=ar/\ar<=2
 a4:op=4->3<=ar/\ar<=11
 d:0<=d/\d<=249
 a:0<=a/\a<=249
 b:0<=b/\b<=249
 s :∀x∈args,0<=x/\x<=249
 n:args.length<=250
 v:vg op v wd=true
def IsLetter(x:UInt8):Prop:=x.toNat=111\/x.toNat=100\/x.toNat=97\/x.toNat=98\/x.toNat=106\/x.toNat=110\/x.toNat=49\/x.toNat=50\/x.toNat=52\/x.toNat=56
instance (x:UInt8):Decidable (IsLetter x):=by unfold IsLetter;infer_instance
def rowOf(op:Int):List UInt8:=Qv.getD op.toNat bI
theorem Ll(op:Int):(rowOf op).length<=4/\∀x∈rowOf op,IsLetter x:=by
 have h1 :∀r∈Qv,r.length<=4/\∀x∈r,IsLetter x:=by decide
 unfold rowOf;by_cases h:op.toNat<Qv.length
 .rw [getD_at _ h];exact h1 _ (X1 _)
 .rw [List.getD_eq_getElem?_getD,WK (by omega)];exact ⟨by simp,λx hx=>by cases hx⟩
theorem Ou(op:Int):Ascii (rowOf op):=λx hx=>by have:=(Ll op).2 x hx;unfold IsLetter at this;omega
def Ht(wd:Bool)(n:Nat)(x:UInt8):Nat:=if x.toNat=106 then (if wd then 4 else 1) else if x.toNat=110 then 1+n else if x.toNat=49 then 1 else if x.toNat=50 then 2 else if x.toNat=52 then 4 else if x.toNat=56 then 8 else 1
def szc(op:Int)(wd:Bool)(n:Nat):Nat:=1+((rowOf op).map (Ht wd n)).sum
section
variable {op ar d a b v:Int} {wd:Bool} {args:List Int}
theorem al2(h:VC op ar d a b v wd args):Ok (f88 op ar d a b v wd args) λy=>(∀x∈y,0<=x/\x<=249)/\y.length<=1004:=by
 have ho:=h.o;have hn:=h.n;obtain ⟨hl,hL⟩:=Ll op;have hA:=Ou op;unfold f88;refine bW (aF.2 (by omega)) (bD (λy=>(∀x∈y,0<=x/\x<=249)/\y.length<=1004) ?_ λy hy=>aI hy);show Ok (bF _ (eInt,rowOf op,(0:Int))) _;refine bQ (λs:List Int×List UInt8×Int =>∃i:Nat,s.2=(rowOf op,(i:Int))/\i<=(rowOf op).length/\(∀x∈s.1,0<=x/\x<=249)/\s.1.length<=i*251) (λs=>(rowOf op).length-s.2.2.toNat) ⟨0,rfl,by omega,λx hx=>(by cases hx),by simp⟩ λ⟨l,s⟩ ⟨i,e,h1,h2,h3⟩=>?_;simp only at e h2 h3;subst e;rw [ZU];refine dX (λhi=>?_) λ_=>aI ⟨h2,by simp only;omega⟩;have hi:i<(rowOf op).length:=by simpa using hi
 rw [Oq hA hi,D5 hA hi];refine bD (λy=>(∀x∈y,0<=x/\x<=249)/\y.length<=l.length+251) ?_ λy ⟨y1,y2⟩=>aI ⟨⟨i+1,by simp,hi,y1,by simp only;omega⟩,by simp only;omega⟩;have one :∀z:Int,0<=z/\z<=249->((∀x∈l++[z],0<=x/\x<=249)/\(l++[z]).length<=l.length+251):=λz hz=>⟨λx hx=>by
  rcases Xs.1 hx with hx | hx
  .exact h2 x hx
  .rw [QP] at hx;rw [hx];exact hz,by simp⟩
 refine dX (λ_=>bW (by unfold aX;simp;omega) (aI (one _ h.d))) λ_=>bD _ ?_ λy hy=>aI hy;refine dX (λ_=>bW (by unfold aX;simp;omega) (aI (one _ h.a))) λ_=>bD _ ?_ λy hy=>aI hy;refine dX (λ_=>bW (by unfold aX;simp;omega) (aI (one _ h.b))) λ_=>bD _ ?_ λy hy=>aI hy;refine dX (λ_=>bW (by unfold aX;simp;omega) (aI ⟨λx hx=>?_,by show (l++args).length<=l.length+251;rw [XN];omega⟩)) λ_=>aI ⟨h2,Nat.le_add_right _ _⟩;rcases Xs.1 hx with hx | hx
 .exact h2 x hx
 .exact h.s x hx
theorem al3{l:List Int}(h :∀x∈l,0<=x/\x<=249)(hl:l.length<=100000):f89 l=some false:=by
 apply ok_eq;unfold f89;refine bD (λy=>y=-1) ?_ λy e=>aI (decide_eq_false (by omega));unfold f116;refine iU (λ_=>True) (jv l.length (λ_=>True) (by omega) (λi hi _=>goT (decide_eq_true (by omega)) (bW (aF.2 (by omega)) (gy (y:=false) ?_ (b_ rfl (aI ⟨rfl,trivial⟩))))) λ_=>b_ (decide_eq_false (by omega)) (aI trivial)) λ_ _=>aI rfl;have:=h _ (X1 hi);simp only [Qt,getD_at _ hi];apply ok_eq;unfold f90;exact gy (Ot _ _ _) (aI (by simp;omega))
theorem apC(h:VC op ar d a b v wd args):f58 op ar d a b v wd args=some 0:=by
 apply ok_eq;have ho:=h.o;have hn:=h.n;unfold f58;refine gy (y:=true) ?_ (b_ rfl (bD _ (al2 h) λl ⟨h1,h2⟩=>bD (λy=>y=false) (gy (al3 h1 (by omega)) (b_ rfl (b_ (decide_eq_false (by omega)) (aI rfl)))) λy e=>by subst e;exact b_ rfl (gy (apB ho) (b_ (by rw [h.v];rfl) (aI rfl)))));apply ok_eq;unfold f87;refine gy (Ot _ _ _) (bD (λy=>y=false) (b_ (by simp;omega) (bD (λy=>y=false) (dX (λhw=>gy (y:=true) ?_ (aI rfl)) λ_=>aI rfl) λy e=>aI e)) λy e=>?_)
 .have:=h.w hw;apply ok_eq;unfold f66;exact gy (Ot _ _ _) (aI (by simp;omega))
 subst e;refine b_ rfl (dX (λh3=>gy (Ot _ _ _) (aI ?_)) λ_=>dX (λh4=>gy (Ot _ _ _) (aI ?_)) λ_=>aI rfl)
 .have:=h.a3 (by simpa using h3);simp;omega
 .have:=h.a4 (by simpa using h4);simp;omega
theorem Vf{v n:Int}{l:List Int}(hn:0<=n/\n<=8)(hl:l.length<=1000000):Ok (f59 v n l) λy=>(y.length:Int)=l.length+n:=by
 unfold f59;refine bD (λy=>(y.length:Int)=l.length+n) ?_ λy hy=>aI hy;refine bQ (λs:Int×List Int=>(0<=s.1/\s.1<=n)/\(s.2.length:Int)=l.length+s.1) (λs=>(n-s.1).toNat) ⟨⟨by simp,by simp only;omega⟩,by simp⟩ λ⟨i,y⟩ ⟨⟨h1,h1'⟩,h2⟩=>?_;simp only at h1 h1' h2;refine dX (λhi=>?_) λhi=>?_
 .have hi:i<n:=by simpa using hi
  refine bW (decide_eq_true (by simp only;rw [aG (by omega)];omega)) (bW (by unfold aX;simp;omega) (aI ⟨⟨⟨?_,?_⟩,?_⟩,?_⟩))
  all_goals simp only [aG (x:=i+1) (by omega)]
  .omega
  .omega
  .simp;omega
  .omega
 .have hi:¬ i<n:=by simpa using hi
  exact aI (show (y.length:Int)=l.length+n by omega)
theorem afP{l:List UInt8}{f:UInt8->Nat}{i:Nat}(hi:i<l.length):((l.take (i+1)).map f).sum=((l.take i).map f).sum+f l[i]:=by
 rw [take_snoc hi,X2,K8];simp
theorem afQ(h:VC op ar d a b v wd args):Ok (f33 op ar d a b v wd args) λy=>y.1=0/\y.2.length=szc op wd args.length:=by
 have ho:=h.o;have hn:=h.n;obtain ⟨hl,hL⟩:=Ll op;have hA:=Ou op;unfold f33;refine gy (apC h) (b_ rfl (bD (λy=>y.length=1) (dX (λ_=>bW rfl (bW rfl (aI (by simp)))) λ_=>aI rfl) λl0 hl0=>bW (aF.2 (by omega)) (bD (λy=>y.length=szc op wd args.length) ?_ λy hy=>aI ⟨rfl,hy⟩)));show Ok (bF _ (l0,rowOf op,(0:Int))) _;have hsz :∀x,Ht wd args.length x<=251:=λx=>by
  unfold Ht
  repeat' split
  all_goals omega
 refine bQ (λs:List Int×List UInt8×Int =>∃i:Nat,s.2=(rowOf op,(i:Int))/\i<=(rowOf op).length/\s.1.length=1+(((rowOf op).take i).map (Ht wd args.length)).sum/\s.1.length<=1+i*251) (λs=>(rowOf op).length-s.2.2.toNat) ⟨0,rfl,by omega,by simp [hl0],by simp only;omega⟩ λ⟨l,s⟩ ⟨i,e,h1,h2,h3⟩=>?_;simp only at e h2 h3;subst e;rw [ZU];refine dX (λhi=>?_) λhi=>aI ?_
 rotate_left
 .have hi:¬ i<(rowOf op).length:=by simpa using hi
  have:i=(rowOf op).length:=by omega
  subst this;rw [K4] at h2;exact h2
 have hi:i<(rowOf op).length:=by simpa using hi
 rw [Oq hA hi,D5 hA hi];refine bD (λy=>y.length=l.length+Ht wd args.length (rowOf op)[i]) ?_ λy hy=>aI ⟨⟨i+1,by simp,hi,by simp only;rw [afP hi];omega,by simp only;have:=hsz (rowOf op)[i];omega⟩,by simp only;omega⟩;have hx:=hL _ (X1 hi);obtain ⟨x,hxe⟩ :∃x,(rowOf op)[i]=x:=⟨_,rfl⟩;simp only [hxe] at hx ⊢;have key :∀n:Int,0<=n->decide ((x.toNat:Int)=n)=true->x.toNat=n.toNat:=λn _ h=>by have:=of_decide_eq_true h;omega
 have neg :∀n:Int,0<=n->decide ((x.toNat:Int)=n)=false->¬ x.toNat=n.toNat:=λn _ h=>by have:=of_decide_eq_false h;omega
 have one :∀z k:Int,k=1->Ht wd args.length x=1->Ok (f59 z k l) λy=>y.length=l.length+Ht wd args.length x:=λz k hk hs=>jq (Vf (by omega) (by omega)) λy hy=>by omega
 refine dX (λhc=>bD _ (one _ _ rfl (by simp [Ht,key _ (by omega) hc])) λy hy=>aI hy) λn1=>bD _ ?_ λy hy=>aI hy;refine dX (λhc=>bD _ (one _ _ rfl (by simp [Ht,key _ (by omega) hc])) λy hy=>aI hy) λn2=>bD _ ?_ λy hy=>aI hy;refine dX (λhc=>bD _ (one _ _ rfl (by simp [Ht,key _ (by omega) hc])) λy hy=>aI hy) λn3=>bD _ ?_ λy hy=>aI hy;refine dX (λhc=>bD _ (one _ _ rfl (by simp [Ht,key _ (by omega) hc])) λy hy=>aI hy) λn4=>bD _ ?_ λy hy=>aI hy;refine dX (λhc=>bD (λy=>y=if wd then 4 else 1) (by unfold f60;cases wd<;>exact aI rfl) λy e=>?_) λn5=>bD _ ?_ λy hy=>aI hy
 .subst e;refine bD _ (Vf (by split<;>omega) (by omega)) λy hy=>aI ?_;have:Ht wd args.length x=if wd then 4 else 1:=by simp [Ht,key _ (by omega) hc]
  rw [this];cases wd<;>simp at hy ⊢ <;> omega
 refine dX (λhc=>bD _ (Vf (by omega) (by omega)) λl2 hl2=>bD (λy=>(y.length:Int)=l2.length+args.length) ?_ λy hy=>aI ?_) λn6=>bD (λy=>y.length=l.length+Ht wd args.length x) ?_ λy hy=>aI hy
 .refine bQ (λs:Int×List Int =>∃j:Nat,s.1=j/\j<=args.length/\(s.2.length:Int)=l2.length+j) (λs=>args.length-s.1.toNat) ⟨0,rfl,by omega,by simp⟩ λ⟨j',l3⟩ ⟨j,e,g1,g2⟩=>?_;simp only at e g2;subst e;refine dX (λhj=>?_) λhj=>?_
  .have hj:j<args.length:=by simpa using hj
   refine bW (aF.2 (by simp only;omega)) (bD _ (Vf (by omega) (by simp only;omega)) λl4 hl4=>aI ⟨⟨j+1,?_,by omega,?_⟩,?_⟩)
   all_goals simp only [aG (x:=(j:Int)+1) (by omega)]
   .rfl
   .simp only at hl4;omega
   .omega
  .have hj:¬ j<args.length:=by simpa using hj
   exact aI (show (l3.length:Int)=l2.length+args.length by omega)
 .have:Ht wd args.length x=1+args.length:=by simp [Ht,key _ (by omega) hc]
  omega
 .have n1:=neg _ (by omega) n1;have n2:=neg _ (by omega) n2;have n3:=neg _ (by omega) n3;have n4:=neg _ (by omega) n4;have n5:=neg _ (by omega) n5;have n6:=neg _ (by omega) n6;have hw:dL (Go.IntKind.wrap .i32 ((x.toNat:Int)-48))=Ht wd args.length x/\Ht wd args.length x<=8:=by
   unfold IsLetter at hx;have:x.toNat=49\/x.toNat=50\/x.toNat=52\/x.toNat=56:=by
    simp only [Int.reduceToNat] at n1 n2 n3 n4 n5 n6;omega
   unfold Ht;rcases this with e | e | e | e<;>rw [e]<;>exact ⟨rfl,by simp⟩
  rw [hw.1];exact jq (Vf (by omega) (by omega)) λy hy=>by omega
end
theorem D6{l:List Int}(h:l.length<=1000000000):f51 l=some l:=by
 apply ok_eq;unfold f51;have hc:aX (List.length eInt) l.length 8=true:=by unfold aX;simp [eInt];omega
 cases l with
 |nil=>exact goT rfl ⟨[],by simp [both,eInt,ck,aX],rfl⟩
 |cons a l=>exact b_ rfl (bW hc (aI (by simp [eInt])))
theorem afR{l:List Int}(h:l.length<=1000000):f52 l=some (l.mergeSort λx y=>decide (x<=y)):=by
 show abl l=_;unfold abl;have:decide (l.length<4611686018427387904)=true:=decide_eq_true (by omega);rw [this]
abbrev C8:=Int×Int×Int×Int×Int×Int×Bool×List Int
def VT(v:Int)(t:C8):Prop:=VC t.1 t.2.1 t.2.2.1 t.2.2.2.1 t.2.2.2.2.1 v t.2.2.2.2.2.2.1 t.2.2.2.2.2.2.2
noncomputable def jD(i:dB):C8:=(f62 i.kind i.op i.dst i.a i.b i.value i.args).getD (0,0,0,0,0,0,false,[])
def CG(t:C8):Prop:=t.2.2.2.2.2.2.1=false/\¬ (13<=t.1/\t.1<=15)/\VT t.2.2.2.2.2.1 t/\VT 0 t
section
variable {g:List aA} {sg:List (List UInt8×Nat)} {cl re:Int} {i:dB}
theorem lX{t:C8}(h1:f62 i.kind i.op i.dst i.a i.b i.value i.args=some t)(h2:f85 i.kind i.op i.dst i.a i.b i.value i.args=some t)(h:CG t) :
  f62 i.kind i.op i.dst i.a i.b i.value i.args=some (jD i)/\f85 i.kind i.op i.dst i.a i.b i.value i.args=some (jD i)/\CG (jD i):=by
 have:jD i=t:=by unfold jD;rw [h1];rfl
 rw [this];exact ⟨h1,h2,h⟩
theorem vC{op ar d a b v:Int}{args:List Int}(ho:1<=op/\op<=18/\¬ (13<=op/\op<=15))(h3:op=3->1<=ar/\ar<=2)(h4:op=4->3<=ar/\ar<=11)(hd:0<=d/\d<=249)(ha:0<=a/\a<=249)(hb:0<=b/\b<=249)(hs :∀x∈args,0<=x/\x<=249)(hn:args.length<=250)(hv:vg op v false=true)(h0:vg op 0 false=true):CG (op,ar,d,a,b,v,false,args):=
 ⟨rfl,ho.2.2,⟨⟨ho.1,ho.2.1⟩,(λh=>by cases h),h3,h4,hd,ha,hb,hs,hn,hv⟩,⟨⟨ho.1,ho.2.1⟩,(λh=>by cases h),h3,h4,hd,ha,hb,hs,hn,h0⟩⟩
theorem aix(h:IV g sg cl re i)(hg:g.length<=32)(hs:sg.length<=64)(hc:cl<=64)(hr:re<=250) :
  f62 i.kind i.op i.dst i.a i.b i.value i.args=some (jD i)/\f85 i.kind i.op i.dst i.a i.b i.value i.args=some (jD i)/\CG (jD i):=by
 have z:(0:Int)<=0/\(0:Int)<=249:=by omega
 have e :∀x∈(eInt:List Int),0<=x/\x<=249:=λx hx=>by cases hx
 have e0:(eInt:List Int).length<=250:=by simp
 have w :∀{x:Int},RG re x->0<=x/\x<=249:=λh=>⟨h.1,by have:=h.2;omega⟩;have gv :∀{a:Bool} {v:Int},GI a g v->0<=v/\v<=31:=λh=>by have:=h.1;omega
 cases h with
 |@const o d a b v ar hd ha=>exact lX (t:=(1,0,d,0,0,v,false,eInt)) rfl rfl (vC (by omega) (by omega) (by omega) (w hd) z z e e0 rfl rfl)
 |@move o d a b v ar hd h1 ha=>exact lX (t:=(2,0,d,a,0,0,false,eInt)) rfl rfl (vC (by omega) (by omega) (by omega) (w hd) (w h1) z e e0 rfl rfl)
 |@un o d a b v ar hd h1 ho ha=>exact lX (t:=(3,o,d,a,0,0,false,eInt)) rfl rfl (vC (by omega) (λ_=>by omega) (by omega) (w hd) (w h1) z e e0 rfl rfl)
 |@bin o d a b v ar hd h1 h2 ho ha=>exact lX (t:=(4,o,d,a,b,0,false,eInt)) rfl rfl (vC (by omega) (by omega) (λ_=>ho) (w hd) (w h1) (w h2) e e0 rfl rfl)
 |@load o d a b v ar hd hv ha=>exact lX (t:=(5,0,d,0,0,v,false,eInt)) rfl rfl (vC (by omega) (by omega) (by omega) (w hd) z z e e0 (by have:=gv hv;simp [vg];omega) rfl)
 |@store o d a b v ar h1 hv ha=>exact lX (t:=(6,0,0,a,0,v,false,eInt)) rfl rfl (vC (by omega) (by omega) (by omega) z (w h1) z e e0 (by have:=gv hv;simp [vg];omega) rfl)
 |@elem o d a b v ar hd h1 hv ha=>exact lX (t:=(7,0,d,a,0,v,false,eInt)) rfl rfl (vC (by omega) (by omega) (by omega) (w hd) (w h1) z e e0 (by have:=gv hv;simp [vg];omega) rfl)
 |@set o d a b v ar h1 h2 hv ha=>exact lX (t:=(8,0,0,a,b,v,false,eInt)) rfl rfl (vC (by omega) (by omega) (by omega) z (w h1) (w h2) e e0 (by have:=gv hv;simp [vg];omega) rfl)
 |@read o d a b v ar hd ha=>exact lX (t:=(9,0,d,0,0,0,false,eInt)) rfl rfl (vC (by omega) (by omega) (by omega) (w hd) z z e e0 rfl rfl)
 |@print o d a b v ar h1 ha=>exact lX (t:=(10,0,0,a,0,0,false,eInt)) rfl rfl (vC (by omega) (by omega) (by omega) z (w h1) z e e0 rfl rfl)
 |@call o d a b v ar hd hv hpar hr' ha=>
  have hcap:aX (List.length eInt) ar.length 8=true:=by unfold aX;simp;omega
  refine lX (t:=(11,0,d,0,0,v,false,ar)) ?_ ?_ (vC (by omega) (by omega) (by omega) (w hd) z z (λx hx=>w (hr' x hx)) (by omega) (by simp [vg];omega) rfl)
  .show f62 11 o d a b v ar=_;unfold f62;rw [hcap];rfl
  .show f85 11 o d a b v ar=_;unfold f85;rw [D6 (by omega)];rfl
 |@Lj o d a b v ar hd h1 hr' ha=>
  have hcap:aX (List.length eInt) ar.length 8=true:=by unfold aX;simp;omega
  refine lX (t:=(12,0,d,a,0,0,false,ar)) ?_ ?_ (vC (by omega) (by omega) (by omega) (w hd) (w h1) z (λx hx=>w (hr' x hx)) (by omega) rfl rfl)
  .show f62 12 o d a b v ar=_;unfold f62;rw [hcap];rfl
  .show f85 12 o d a b v ar=_;unfold f85;rw [D6 (by omega)];rfl
 |@func o d a b v ar hd hv ha=>exact lX (t:=(18,0,d,0,0,v,false,eInt)) rfl rfl (vC (by omega) (by omega) (by omega) (w hd) z z e e0 (by simp [vg];omega) rfl)
end
def jU(op a to:Int):cu:=cu.mk op 0 0 a 0 0 false eInt to
def MP(k a t e n:Int):List cu:=
 if k=3 then [jU 16 a (-1)] else if k=1\/t=e then (if t=n then [] else [jU 13 0 t])
 else if e=n then [jU 14 a t] else if t=n then [jU 15 a e] else [jU 14 a t,jU 13 0 e]
theorem al4{k a t e n:Int}:f86 k a t e n=some (MP k a t e n):=by
 apply ok_eq;unfold f86 MP;refine dX (λh=>?_) λh=>?_
 .rw [if_pos (of_decide_eq_true h)];exact aI rfl
 rw [if_neg (of_decide_eq_false h)];refine bD (λy=>y=decide (k=1\/t=e)) (dX (λh=>aI ?_) λh=>aI ?_) λy hy=>?_
 .exact (decide_eq_true (.inl (of_decide_eq_true h))).symm
 .exact decide_eq_decide.2 (by have:=of_decide_eq_false h;simp [this])
 subst hy;refine dX (λh=>?_) λh=>?_
 .rw [if_pos (of_decide_eq_true h)];refine dX (λh=>?_) λh=>?_
  .rw [if_pos (of_decide_eq_true h)];exact aI rfl
  .rw [if_neg (of_decide_eq_false h)];exact aI rfl
 rw [if_neg (of_decide_eq_false h)];refine dX (λh=>?_) λh=>?_
 .rw [if_pos (of_decide_eq_true h)];exact aI rfl
 rw [if_neg (of_decide_eq_false h)];refine dX (λh=>?_) λh=>?_
 .rw [if_pos (of_decide_eq_true h)];exact aI rfl
 .rw [if_neg (of_decide_eq_false h)];exact aI rfl
def nat(n:Nat):List Int:=(List.range n).map Int.ofNat
theorem Lm(n:Nat):nat (n+1)=nat n++[(n:Int)]:=by unfold nat;rw [JP,X2];rfl
theorem o_(n:Nat):(nat n).length=n:=by simp [nat]
theorem al5{n i:Nat}(h:i<n):(nat n).getD i 0=i:=by
 rw [getD_at _ (by simpa [o_] using h)];simp [nat]
theorem QL{n:Nat}{x:Int}:x∈nat n↔0<=x/\x<n:=by
 unfold nat;rw [QR];constructor
 .rintro ⟨a,ha,e⟩;have:=Uq.1 ha;subst e;simp;omega
 .intro ⟨h1,h2⟩;exact ⟨x.toNat,Uq.2 (by omega),by simp;omega⟩
theorem Fv{nm:List UInt8}{pa re:Int}{bl:List aK}(h:bl.length<=1000000):f50 nm pa re bl=some (nat bl.length):=by
 apply ok_eq;unfold f50;refine bD (λy=>y=nat bl.length) ?_ λy hy=>aI hy;refine bQ (λs:Int×List Int =>∃i:Nat,s=((i:Int),nat i)/\i<=bl.length) (λs=>bl.length-s.1.toNat) ⟨0,rfl,by omega⟩ λs ⟨i,e,hi⟩=>?_;subst e;refine dX (λhc=>?_) λhc=>?_
 .have hc:i<bl.length:=by simpa using hc
  refine bW (by unfold aX;simp [o_];omega) (aI ⟨⟨i+1,?_,by omega⟩,?_⟩)
  .rw [Lm];simp only [aG (x:=(i:Int)+1) (by omega)];rfl
  .simp only [aG (x:=(i:Int)+1) (by omega)];omega
 .have hc:¬ i<bl.length:=by simpa using hc
  exact aI (show nat i=nat bl.length by rw [show i=bl.length by omega])
theorem Ov{nm:List UInt8}{pa re:Int}{bl:List aK}(h:bl.length<=1000000):f44 nm pa re bl=some (nat bl.length):=Fv (nm:=nm) (pa:=pa) (re:=re) h
structure Ord(n:Nat)(od:List Int):Prop where
 perm:od.Perm (nat n)
 zero:od.getD 0 0=0
 pos:0<n
theorem Ord.len{n:Nat}{od:List Int}(h:Ord n od):od.length=n:=by rw [h.perm.length_eq,o_]
theorem Ord.mem{n:Nat}{od:List Int}(h:Ord n od){x:Int}:x∈od↔0<=x/\x<n:=h.perm.mem_iff.trans QL
theorem Ord.at{n:Nat}{od:List Int}(h:Ord n od){i:Nat}(hi:i<n):0<=od.getD i 0/\od.getD i 0<n:=by
 rw [getD_at _ (by rw [h.len];exact hi)];exact h.mem.1 (X1 _)
theorem XI(n:Nat):(nat n).Pairwise λx y=>x<=y:=by
 unfold nat;rw [List.pairwise_map];exact List.pairwise_le_range.imp λh=>by simp;omega
theorem Vg{od:List Int}{n:Nat}:(od.mergeSort λx y=>decide (x<=y))=nat n↔od.Perm (nat n):=by
 constructor
 .intro h;rw [<-h];exact (List.mergeSort_perm od _).symm
 .intro h;refine List.Perm.eq_of_pairwise (le:=λx y=>x<=y) (λa b _ _ h1 h2=>Int.le_antisymm h1 h2) ?_ (XI n) ((List.mergeSort_perm od _).trans h);exact (List.pairwise_mergeSort (le:=λx y:Int=>decide (x<=y)) (λa b c h1 h2=>by simp at *;omega) (λa b=>by simp;omega) od).imp λh=>by simpa using h
theorem Vh{a b:List Int}(hl:a.length<=1000000):f53 a b=some (decide (a=b)):=by
 apply ok_eq;unfold f53;refine dX (λh=>aI ?_) λh=>?_
 .have h:¬ (a.length:Int)=b.length:=by simpa using h
  exact (decide_eq_false λe=>h (by rw [e])).symm
 have h:a.length=b.length:=by simp at h;omega
 refine iU (λ_=>a=b) (jv a.length (λi=>a.getD i 0=b.getD i 0) (by omega) (λi hi _=>goT (decide_eq_true (by omega)) (bW (aF.2 (by omega)) (bW (aF.2 (by omega)) (dX (λhc=>aI ?_) λhc=>aI ⟨rfl,by simpa using hc⟩)))) λhall=>b_ (decide_eq_false (by omega)) (aI ?_)) λ_ hab=>aI (decide_eq_true hab).symm
 .have hc:¬ a.getD i 0=b.getD i 0:=by simpa using hc
  exact (decide_eq_false λe=>hc (by rw [e])).symm
 .refine KS h λi h1 h2=>?_;have:=hall i h1
  rwa [getD_at _ h1,getD_at _ h2] at this
theorem Ox{nm:List UInt8}{pa re:Int}{bl:List aK}{od:List Int}(h:bl.length<=1000000)(h0:0<bl.length)(hl:od.length<=1000000):Ok (f54 nm pa re bl od) λy=>y=true↔Ord bl.length od:=by
 unfold f54;refine bD (λy=>y=true↔od=[]\/od.getD 0 0≠0) (dX (λhc=>aI ?_) λhc=>?_) λy hy=>dX (λhc=>aI ?_) λhc=>?_
 .have:od.length=0:=by simpa using hc
  simp [Wf.1 this]
 .have hc:¬ od.length=0:=by simpa using hc
  refine bW (aF.2 (by omega)) (aI ?_);have:od≠[]:=λe=>hc (by rw [e];rfl);simp only [Int.toNat_zero,Wg,decide_eq_false_iff_not];exact ⟨λh=>.inr h,λh=>h.resolve_left this⟩
 .refine ⟨(λh=>by cases h),λho=>?_⟩;rcases hy.1 hc with e | e
  .have:=ho.len;rw [e] at this;simp at this;omega
  .exact absurd ho.zero e
 .have hc:¬ (od=[]\/od.getD 0 0≠0):=λh=>by rw [hy.2 h] at hc;cases hc
  refine gy (D6 (by omega)) (gy (afR hl) (gy (Ov h) (gy (Vh (by simpa using hl)) (aI ?_))));rw [decide_eq_true_iff,Vg];exact ⟨λhp=>⟨hp,Classical.byContradiction λhz=>hc (.inr hz),h0⟩,λho=>ho.perm⟩
theorem XJ{nm:List UInt8}{pa re:Int}{bl:List aK}{l:List Int}{j:Int}(hb:Bytes l)(hj:0<=j)(h:bl.length<=60000)(h0:0<bl.length):Ok (f28 nm pa re bl l j) λy=>y.1=l/\0<=y.2.1/\Ord bl.length y.2.2:=by
 unfold f28;refine gy (Fv (by omega)) (bD (λy=>y.1=l/\0<=y.2.1/\Ord bl.length y.2.2) ?_ λy hy=>aI hy);refine bQ (λs:Int×List Int×Int×List Int =>∃i:Nat,s.1=i/\1<=i/\i<=bl.length/\s.2.1=l/\0<=s.2.2.1/\Ord bl.length s.2.2.2) (λs=>bl.length-s.1.toNat) ⟨1,rfl,by omega,by omega,rfl,hj,List.Perm.refl _,al5 h0,h0⟩ λ⟨i',l',j,od⟩ ⟨i,e,h1,h2,e2,h3,ho⟩=>?_;simp only at e e2 h3 ho;subst e;subst e2;have hl:=ho.len;refine dX (λhc=>?_) λhc=>aI ⟨rfl,h3,ho⟩;have hc:i<od.length:=by simpa using hc
 refine goN hb h3 (by omega) λx k hk ax bx=>?_;have bx:=bx (by omega);obtain ⟨q,hq⟩ :∃q:Nat,1+x=q:=⟨(1+x).toNat,by omega⟩;have hw:dL (1+x)=(q:Int):=(aG (by omega)).trans hq;simp only [hw,Qt];have hi1:=aF.2 (show 0<=(i:Int)/\(i:Int)<od.length by omega);refine bW (aF.2 (by omega)) (bW hi1 (bW hi1 (bW (aF.2 (by rw [Up];omega)) (aI ⟨⟨i+1,?_,by omega,by omega,rfl,hk,?_,?_,h0⟩,?_⟩))))
 .simp only [aG (x:=(i:Int)+1) (by omega)];rfl
 .simp only;rw [getD_at _ (show q<od.length by omega),getD_at _ hc];exact (List.set_set_perm hc (by omega)).trans ho.perm
 .have hz:=ho.zero;simp only;rw [jC (by rw [Up];omega),if_neg (by omega),jC hc,if_neg (by omega)];exact hz
 .simp only [aG (x:=(i:Int)+1) (by omega)];omega
structure FO(bl:List aK):Prop where
 len:0<bl.length/\bl.length<=256
 wt:Ag bl<=2048
 ins :∀b∈bl,∀i∈b.instrs,f62 i.kind i.op i.dst i.a i.b i.value i.args=some (jD i)/\f85 i.kind i.op i.dst i.a i.b i.value i.args=some (jD i)/\CG (jD i)
 trm:y9 bl
 ta :∀b,b<bl.length->(bl.getD b au).bT≠1->0<=(bl.getD b au).lY/\(bl.getD b au).lY<=249
theorem Rt.fo{g:List aA}{sg:List (List UInt8×Nat)}{cl:Int}{f:aO}(h:Rt g sg cl f)(hg:g.length<=32)(hs:sg.length<=64)(hc:cl<=64):FO f.blocks:=
 ⟨⟨h.good.2.1,h.len⟩,h.wt,λb hb i hi=>aix (h.ins b hb i hi) hg hs hc h.reg.2,h.good.2.2.1,λb hb hk=>by
  have:=(h.trm b hb).reg hk;have hr:=h.reg.2;exact ⟨this.1,by have:=this.2;omega⟩⟩
structure GU(n:Nat)(u:cu):Prop where
 z:VC u.jd u.iD u.kL u.qX u.qY 0 u.fE u.iq
 c:VC u.jd u.iD u.kL u.qX u.qY u.gZ u.fE u.iq
 j:0<=u.to↔13<=u.jd/\u.jd<=15
 t:u.to<n
def uT(t:C8):cu:=cu.mk t.1 t.2.1 t.2.2.1 t.2.2.2.1 t.2.2.2.2.1 t.2.2.2.2.2.1 t.2.2.2.2.2.2.1 t.2.2.2.2.2.2.2 (-1)
theorem apD{t:C8}{n:Nat}(h:CG t):GU n (uT t):=⟨h.2.2.2,h.2.2.1,⟨λh'=>absurd h' (show ¬ (0:Int)<=-1 by omega),λh'=>absurd h' h.2.1⟩,by show (-1:Int)<n;omega⟩
theorem Vj{op a to:Int}{n:Nat}(ho:13<=op/\op<=15)(ha:0<=a/\a<=249)(ht:0<=to/\to<n):GU n (jU op a to):=by
 have:VC op 0 0 a 0 0 false eInt:=⟨by omega,(λh=>by cases h),by omega,by omega,by omega,ha,by omega,(λx hx=>by cases hx),by simp,by unfold vg;rw [if_neg (by omega),if_neg (by omega),if_neg (by omega),if_neg (by omega),if_pos ho];rfl⟩;exact ⟨this,this,⟨λ_=>ho,λ_=>ht.1⟩,ht.2⟩
theorem apE{a:Int}{n:Nat}(ha:0<=a/\a<=249):GU n (jU 16 a (-1)):=by
 have:VC 16 0 0 a 0 0 false eInt:=⟨by omega,(λh=>by cases h),by omega,by omega,by omega,ha,by omega,(λx hx=>by cases hx),by simp,rfl⟩;exact ⟨this,this,⟨λh=>absurd h (by show ¬ (0:Int)<=-1;omega),λh=>absurd h.2 (by show ¬ (16:Int)<=15;omega)⟩,by show (-1:Int)<n;omega⟩
theorem al6{k a t e n:Int}{m:Nat}(hk:k=1\/k=2\/k=3)(ha:k≠1->0<=a/\a<=249)(ht:k≠3->0<=t/\t<m)(he:k=2->0<=e/\e<m) :∀u∈MP k a t e n,GU m u:=by
 unfold MP;split
 .intro u hu;rw [QP] at hu;subst hu;exact apE (ha (by omega))
 rename_i h3;have ht:=ht h3;split
 .split
  .intro u hu;cases hu
  .intro u hu;rw [QP] at hu;subst hu;exact Vj (by omega) (by omega) ht
 rename_i h1;have h2:k=2:=by omega
 have ha:=ha (by omega);have he:=he h2;split
 .intro u hu;rw [QP] at hu;subst hu;exact Vj (by omega) ha ht
 split
 .intro u hu;rw [QP] at hu;subst hu;exact Vj (by omega) ha he
 .intro u hu;rcases QQ.1 hu with e1 | hu
  .subst e1;exact Vj (by omega) ha ht
  .rw [QP] at hu;subst hu;exact Vj (by omega) (by omega) he
theorem ZV(k a t e n:Int):(MP k a t e n).length<=2:=by
 unfold MP;repeat' split
 all_goals simp
noncomputable def XK(b:aK)(n:Int):List cu:=(b.instrs.map λi=>uT (jD i))++MP b.bT b.lY b.f_ b.dF n
def nxt(od:List Int)(i:Nat):Int:=if i+1<od.length then od.getD (i+1) 0 else -1
noncomputable def wX(bl:List aK)(od:List Int):Nat->List cu
 |0=>[]
 |i+1=>wX bl od i++XK (bl.getD (od.getD i 0).toNat au) (nxt od i)
noncomputable def st(bl:List aK)(od:List Int)(i:Nat):Int:=(wX bl od i).length
section
variable {bl:List aK} {od:List Int} {nm:List UInt8} {pa re:Int}
theorem FO.blk(h:FO bl){b:Nat}(hb:b<bl.length):(bl.getD b au).instrs.length<=2047/\bl.getD b au∈bl:=by
 have hm:bl.getD b au∈bl:=by rw [getD_at _ hb];exact X1 _
 have:=XD _ hm;have:=h.wt;exact ⟨by omega,hm⟩
theorem ZW{b:aK}{n:Int}:(XK b n).length<=b.instrs.length+2:=by
 unfold XK;have:=ZV b.bT b.lY b.f_ b.dF n;simp only [XN,W7];omega
theorem QM(h:FO bl)(ho:Ord bl.length od) :∀i,i<=bl.length->(wX bl od i).length<=2049*i
 |0,_=>by simp [wX]
 |i+1,hi=>by
  have:=QM h ho i (by omega);have ha:=ho.at (i:=i) (by omega);have:=(h.blk (b:=(od.getD i 0).toNat) (by omega)).1;have:=ZW (b:=bl.getD (od.getD i 0).toNat au) (n:=nxt od i);simp only [wX,XN];omega
theorem D7(bl:List aK)(od:List Int) :∀k i,(wX bl od i).length<=(wX bl od (i+k)).length
 |0,i=>XS _
 |k+1,i=>by
  have:=D7 bl od k i;show _<=(wX bl od (i+k)++_).length;rw [XN];omega
theorem afS(h:FO bl)(ho:Ord bl.length od) :∀i,i<=bl.length->∀u∈wX bl od i,GU bl.length u
 |0,_=>λu hu=>by cases hu
 |i+1,hi=>λu hu=>by
  have ha:=ho.at (i:=i) (by omega);have hb:(od.getD i 0).toNat<bl.length:=by omega
  rcases Xs.1 hu with hu | hu
  .exact afS h ho i (by omega) u hu
  .rcases Xs.1 hu with hu | hu
   .obtain ⟨i',hi',e⟩:=QR.1 hu;subst e;exact apD (h.ins _ (h.blk hb).2 i' hi').2.2
   .obtain ⟨e1,e2⟩:=h.trm.1 _ hb;exact al6 (h.trm.2 _ hb) (h.ta _ hb) e1 e2 u hu
theorem afT(h:FO bl)(ho:Ord bl.length od):f56 nm pa re bl od=some (wX bl od bl.length,(List.range bl.length).map (st bl od)):=by
 apply ok_eq;have hlen:=h.len;have hol:=ho.len;unfold f56;refine bD (λy=>y=(wX bl od bl.length,(List.range bl.length).map (st bl od))) ?_ λy hy=>aI hy;refine bQ (λs:Int×List cu×List Int =>∃i:Nat,s=((i:Int),wX bl od i,(List.range i).map (st bl od))/\i<=bl.length) (λs=>bl.length-s.1.toNat) ⟨0,rfl,by omega⟩ λs ⟨i,e,hi⟩=>?_;subst e;refine dX (λhc=>?_) λhc=>?_
 rotate_left
 .have hc:¬ i<od.length:=by simpa using hc
  have:i=bl.length:=by omega
  subst this;exact aI rfl
 have hc:i<od.length:=by simpa using hc
 have ha:=ho.at (i:=i) (by omega);have hb:(od.getD i 0).toNat<bl.length:=by omega
 have OM:=QM h ho i hi;have hx:=(h.blk hb).1;have hin:=aF.2 (show 0<=od.getD i 0/\od.getD i 0<bl.length by omega);obtain ⟨b,hbe⟩ :∃b,bl.getD (od.getD i 0).toNat au=b:=⟨_,rfl⟩;have hins:=h.ins b (hbe▸(h.blk hb).2);rw [hbe] at hx;refine bW (aF.2 (by omega)) (bW (by unfold aX;simp;omega) (bW hin ?_));simp only [Qt,hbe];refine bD (λy=>y=wX bl od i++b.instrs.map λi=>uT (jD i)) ?_ λs16 e=>?_
 .refine bQ (λs:Int×List cu =>∃k:Nat,s=((k:Int),wX bl od i++(b.instrs.take k).map λi=>uT (jD i))/\k<=b.instrs.length) (λs=>b.instrs.length-s.1.toNat) ⟨0,by simp,by omega⟩ λs ⟨k,e,hk⟩=>?_;subst e;refine dX (λhc=>?_) λhc=>?_
  .have hc:k<b.instrs.length:=by simpa using hc
   refine bW (aF.2 (by simp only;omega)) ?_;simp only [Qt,getD_at _ hc];refine gy (hins _ (X1 hc)).2.1 (bW (by unfold aX;simp;omega) (aI ⟨⟨k+1,?_,by omega⟩,?_⟩))
   .rw [aG (by omega),take_snoc hc,X2,<-Wb];rfl
   .simp only [aG (x:=(k:Int)+1) (by omega)];omega
  .have hc:¬ k<b.instrs.length:=by simpa using hc
   refine aI (show wX bl od i++(b.instrs.take k).map (λi=>uT (jD i))=_ from ?_);rw [V2 (by omega)]
 subst e;have hw:dL ((i:Int)+1)=(i+1:Nat):=(aG (by omega)).trans rfl;refine bD (λy=>y=nxt od i) ?_ λy e=>?_
 .simp only [hw];unfold nxt;refine dX (λhc=>?_) λhc=>?_
  .have hc:i+1<od.length:=by have:=of_decide_eq_true hc;omega
   rw [if_pos hc];exact bW (aF.2 (by omega)) (aI rfl)
  .rw [if_neg (by have:=of_decide_eq_false hc;omega)];exact aI rfl
 subst e;have hel:=ZV b.bT b.lY b.f_ b.dF (nxt od i);refine bW hin ?_;refine gy al4 (bW (by unfold aX;simp;omega) (aI ⟨⟨i+1,?_,by omega⟩,?_⟩))
 .rw [hw,JP,X2];show _=(_,wX bl od i++XK (bl.getD (od.getD i 0).toNat au) (nxt od i),_);rw [hbe];unfold XK;rw [Wb];rfl
 .simp only [hw,Qt];omega
end
noncomputable def szU(u:cu):Nat:=szc u.jd u.fE u.iq.length
noncomputable def zH(us:List cu)(k:Nat):Nat:=((us.take k).map szU).sum
noncomputable def atL(us:List cu):List Int:=(List.range (us.length+1)).map λk=>(zH us k:Int)
theorem zG(us:List cu):(atL us).length=us.length+1:=by simp [atL]
theorem Lp{us:List cu}{k:Nat}(h:k<=us.length):(atL us).getD k 0=zH us k:=by
 rw [getD_at _ (by rw [zG];omega)];simp [atL]
theorem D8{us:List cu}{k:Nat}(h:k<us.length):zH us (k+1)=zH us k+szU (us.getD k bK):=by
 unfold zH;rw [take_snoc h,X2,K8,getD_at _ h];simp
theorem Vk(us:List cu){i j:Nat}(h:i<=j):zH us i<=zH us j:=by
 induction j with
 |zero=>
  have:i=0:=by omega
  subst this;exact XS _
 |succ j ih=>
  by_cases e:i=j+1
  .subst e;exact XS _
  .have:=ih (by omega);by_cases hj:j<us.length
   .have:=D8 hj;omega
   .have e2:us.take (j+1)=us.take j:=by rw [V2 (show us.length<=j+1 by omega),V2 (show us.length<=j by omega)]
    unfold zH at this ⊢;rw [e2];exact this
theorem al8{op:Int}{wd:Bool}{n:Nat}(hn:n<=250):szc op wd n<=1005:=by
 unfold szc;have hz :∀x,Ht wd n x<=251:=λx=>by
  unfold Ht
  repeat' split
  all_goals omega
 have :∀l:List UInt8,(l.map (Ht wd n)).sum<=251*l.length:=λl=>by
  induction l with
  |nil=>simp
  |cons x l ih=>have:=hz x;simp only [Q6,J1,Wl];omega
 have:=this (rowOf op);have:=(Ll op).1;omega
def GL(n:Nat)(us:List cu):Prop:=us.length<=600000/\∀u∈us,GU n u
section
variable {n:Nat} {us:List cu} {fi:List Int}
theorem GL.at(h:GL n us){k:Nat}(hk:k<us.length):GU n (us.getD k bK):=h.2 _ (by rw [getD_at _ hk];exact X1 _)
theorem Lr(h:GL n us)(k:Nat):zH us k<=603000000:=by
 have key :∀l:List cu,(∀u∈l,GU n u)->(l.map szU).sum<=1005*l.length:=λl=>by
  induction l with
  |nil=>intro _;simp
  |cons u l ih=>
   intro hl;have:=ih λu hu=>hl u (WD _ hu);have:=al8 (op:=u.jd) (wd:=u.fE) (hl u Kh).z.n;simp only [Q6,J1,Wl];unfold szU at *;omega
 have:=key (us.take k) λu hu=>h.2 u (ZZ hu);have h1:=h.1;have:(us.take k).length<=us.length:=by rw [Vc];omega
 unfold zH;omega
theorem Vl(h:GL n us):f57 us=some (atL us):=by
 apply ok_eq;have h1:=h.1;unfold f57;refine bD (λy=>y=atL us) ?_ λy hy=>aI hy;refine bQ (λs:Int×List Int =>∃k:Nat,s=((k:Int),(List.range (k+1)).map λk=>(zH us k:Int))/\k<=us.length) (λs=>us.length-s.1.toNat) ⟨0,by simp [zH],by omega⟩ λs ⟨k,e,hk⟩=>?_;subst e;refine dX (λhc=>?_) λhc=>?_
 rotate_left
 .have hc:¬ k<us.length:=by simpa using hc
  have:k=us.length:=by omega
  subst this;exact aI rfl
 have hc:k<us.length:=by simpa using hc
 have ha:=Lr h k;have ha':=Lr h (k+1);have hs:=D8 hc;refine bW (aF.2 (by simp only;omega)) (bW (aF.2 (by simp;omega)) ?_);have hg:=h.at hc;simp only [Qt];refine bD (λy=>y=(szU (us.getD k bK):Int)) ?_ λy e=>?_
 .unfold f55;exact bD _ (afQ hg.c) λy hy=>aI (by rw [hy.2];rfl)
 subst e;have hl:((List.range (k+1)).map λk=>(zH us k:Int)).getD k 0=zH us k:=by rw [getD_at _ (by simp)];simp
 rw [hl];refine bW (by unfold aX;simp;omega) (aI ⟨⟨k+1,?_,by omega⟩,?_⟩)
 .rw [aG (by omega),aG (by omega),JP (n:=k+1),X2,Q6,WF,hs,Int.natCast_add];rfl
 .simp only [aG (x:=(k:Int)+1) (by omega)];omega
noncomputable def dst(fi:List Int)(us:List cu)(j:Nat):Int:=(zH us (fi.getD (us.getD j bK).to.toNat 0).toNat:Int)-(zH us (j+1):Int)
noncomputable def far(fi:List Int)(us:List cu)(j:Nat):Bool:=decide (0<=(us.getD j bK).to)&&!(us.getD j bK).fE&&(decide (dst fi us j < -128)||decide (127<dst fi us j))
def wid(u:cu):cu:=cu.mk u.jd u.iD u.kL u.qX u.qY u.gZ true u.iq u.to
noncomputable def rnd(fi:List Int)(us:List cu):List cu:=(List.range us.length).map λj=>if far fi us j=true then wid (us.getD j bK) else us.getD j bK
theorem qw:(rnd fi us).length=us.length:=by simp [rnd]
theorem Fz{j:Nat}(h:j<us.length):(rnd fi us).getD j bK=if far fi us j=true then wid (us.getD j bK) else us.getD j bK:=by
 rw [getD_at _ (by rw [qw];exact h)];simp [rnd]
theorem afU(h :∀j,j<us.length->far fi us j=false):rnd fi us=us:=by
 refine KS qw λj h1 h2=>?_;have:=Fz (fi:=fi) h2;rw [getD_at _ h1,h j h2,getD_at _ h2] at this;simpa using this
theorem al9{u:cu}(h:GU n u)(ht:0<=u.to):GU n (wid u):=by
 obtain ⟨z,c,j,t⟩:=h;have hj:=j.1 ht;have hv :∀v:Int,vg u.jd v u.fE=true->u.fE=false->vg u.jd v true=true:=λv hv hw=>by
  rw [hw] at hv;unfold vg at hv ⊢;rw [if_neg (by omega),if_neg (by omega),if_neg (by omega),if_neg (by omega),if_pos hj] at hv ⊢;simp at hv ⊢;omega
 have hv' :∀v:Int,vg u.jd v u.fE=true->vg u.jd v true=true:=λv h=>by
  cases hw:u.fE
  .exact hv v h hw
  .rw [hw] at h;exact h
 exact ⟨⟨z.o,λ_=>hj,z.a3,z.a4,z.d,z.a,z.b,z.s,z.n,hv' _ z.v⟩,⟨c.o,λ_=>hj,c.a3,c.a4,c.d,c.a,c.b,c.s,c.n,hv' _ c.v⟩,j,t⟩
theorem XL(h:GL n us):GL n (rnd fi us):=by
 refine ⟨by rw [qw];exact h.1,λu hu=>?_⟩;obtain ⟨j,hj,e⟩:=W8 hu;have hj':j<us.length:=by rw [qw] at hj;exact hj
 have:=Fz (fi:=fi) hj';rw [getD_at _ hj,e] at this;rw [this];split
 .rename_i hf;unfold far at hf;simp only [Qf,decide_eq_true_eq] at hf;exact al9 (h.at hj') hf.1.1
 .exact h.at hj'
def cnt(us:List cu):Nat:=((List.range us.length).map λj=>if (us.getD j bK).fE then 0 else 1).sum
theorem sum_lt{f g:Nat->Nat} :∀{n:Nat},(∀j,j<n->g j<=f j)->((List.range n).map g).sum<=((List.range n).map f).sum/\((∃j,j<n/\g j<f j)->((List.range n).map g).sum<((List.range n).map f).sum)
 |0,_=>⟨XS _,λ⟨j,h,_⟩=>absurd h (Kk _)⟩
 |n+1,h=>by
  obtain ⟨h1,h2⟩:=sum_lt (f:=f) (g:=g) (n:=n) λj hj=>h j (by omega);have hn:=h n (by omega);simp only [JP,X2,K8,Q6,WF,J1,List.sum_nil];refine ⟨by omega,λ⟨j,hj,hlt⟩=>?_⟩;by_cases e:j=n
  .subst e;omega
  .have:=h2 ⟨j,by omega,hlt⟩;omega
theorem aiz(h :∃j,j<us.length/\far fi us j=true):cnt (rnd fi us)<cnt us:=by
 unfold cnt;rw [qw];refine (sum_lt λj hj=>?_).2 ?_
 .rw [Fz hj];split
  .exact qv _
  .exact XS _
 .obtain ⟨j,hj,hf⟩:=h;refine ⟨j,hj,?_⟩;rw [Fz hj,if_pos hf];unfold far at hf;simp only [Qf,Wg] at hf;rw [hf.1.2];exact Nat.one_pos
inductive Rn(fi:List Int):List cu->List cu->Prop
 |done {us:List cu}:(∀j,j<us.length->far fi us j=false)->Rn fi us us
 |step {us uf:List cu}:(∃j,j<us.length/\far fi us j=true)->Rn fi (rnd fi us) uf->Rn fi us uf
theorem Rn.det{us a b:List cu}(h1:Rn fi us a)(h2:Rn fi us b):a=b:=by
 induction h1 with
 |done h=>
  cases h2 with
  |done _=>rfl
  |step h' _=>obtain ⟨j,hj,e⟩:=h';rw [h j hj] at e;cases e
 |step h _ ih=>
  cases h2 with
  |done h'=>obtain ⟨j,hj,e⟩:=h;rw [h' j hj] at e;cases e
  |step _ h'=>exact ih h'
structure FI(n m:Nat)(fi:List Int):Prop where
 len:fi.length=n
 rng :∀x∈fi,0<=x/\x<=m
theorem FI.at{m:Nat}(h:FI n m fi){t:Int}(ht:0<=t/\t<n):inB t fi.length=true/\0<=fi.getD t.toNat 0/\fi.getD t.toNat 0<=m:=by
 refine ⟨aF.2 (by rw [h.len];omega),?_⟩;have hl:=h.len;rw [getD_at _ (by omega)];exact h.rng _ (X1 _)
end
noncomputable def IE(bl:List aK)(od:List Int):Nat->List Int
 |0=>List.replicate bl.length 0
 |i+1=>(IE bl od i).set (od.getD i 0).toNat (st bl od i)
noncomputable def codeOf(fi:List Int)(us:List cu)(j:Nat):gq:=
 gq.mk (us.getD j bK).jd (us.getD j bK).iD (us.getD j bK).kL (us.getD j bK).qX (us.getD j bK).qY (if 0<=(us.getD j bK).to then dst fi us j else (us.getD j bK).gZ) (us.getD j bK).fE (us.getD j bK).iq
noncomputable def wY(fi:List Int)(us:List cu):List gq:=(List.range us.length).map (codeOf fi us)
noncomputable def ZX(bl:List aK)(od:List Int)(us:List cu):List Int:=(List.range bl.length).map λi=>(zH us (wX bl od i).length:Int)
theorem Rn.fin{fi:List Int}{us uf:List cu}(h:Rn fi us uf) :∀j,j<uf.length->far fi uf j=false:=by
 induction h with
 |done h=>exact h
 |step _ _ ih=>exact ih
theorem Rn.len{fi:List Int}{us uf:List cu}(h:Rn fi us uf):uf.length=us.length:=by
 induction h with
 |done h=>rfl
 |step _ _ ih=>rw [ih,qw]
theorem Rn.gl{n:Nat}{fi:List Int}{us uf:List cu}(h:Rn fi us uf):GL n us->GL n uf:=by
 induction h with
 |done h=>exact id
 |step _ _ ih=>exact λhg=>ih (XL hg)
section
variable {bl:List aK} {od:List Int} {nm:List UInt8} {pa re:Int}
theorem XM(h:FO bl)(ho:Ord bl.length od) :∀i,i<=bl.length->FI bl.length (wX bl od bl.length).length (IE bl od i)
 |0,_=>⟨by simp [IE],λx hx=>by have:=KK hx;subst this;omega⟩
 |i+1,hi=>by
  obtain ⟨h1,h2⟩:=XM h ho i (by omega);refine ⟨by simp [IE,h1],λx hx=>?_⟩;rcases Ks hx with hx | hx
  .exact h2 x hx
  .subst hx;have:=D7 bl od (bl.length-i) i;rw [show i+(bl.length-i)=bl.length by omega] at this;unfold st;omega
theorem Ls(h:FO bl)(ho:Ord bl.length od):GL bl.length (wX bl od bl.length):=
 ⟨by have:=QM h ho bl.length (XS _);have:=h.len;omega,afS h ho bl.length (XS _)⟩
theorem XO{n:Nat}{us:List cu}{fi:List Int}(h:GL n us)(j:Nat):-603000000<=dst fi us j/\dst fi us j<=603000000:=by
 unfold dst;have:=Lr h (fi.getD (us.getD j bK).to.toNat 0).toNat;have:=Lr h (j+1);omega
theorem FB(h:FO bl)(ho:Ord bl.length od):Ok (f32 nm pa re bl od) λy =>∃uf,Rn (IE bl od bl.length) (wX bl od bl.length) uf/\y=(0,wY (IE bl od bl.length) uf,ZX bl od uf):=by
 have hlen:=h.len;have hol:=ho.len;have hG:=Ls h ho;unfold f32;refine bD _ (Ox (by omega) hlen.1 (by omega)) λy hy=>b_ (by rw [hy.2 ho];rfl) (gy (afT h ho) (bW (DF.2 (by omega)) ?_));refine bD (λy=>y=IE bl od bl.length) ?_ λfi e=>?_
 .refine bQ (λs:Int×List Int =>∃i:Nat,s=((i:Int),IE bl od i)/\i<=bl.length) (λs=>bl.length-s.1.toNat) ⟨0,by simp [IE],by omega⟩ λs ⟨i,e,hi⟩=>?_;subst e;refine dX (λhc=>?_) λhc=>?_
  rotate_left
  .have hc:¬ i<od.length:=by simpa using hc
   have:i=bl.length:=by omega
   subst this;exact aI rfl
  have hc:i<od.length:=by simpa using hc
  have ha:=ho.at (i:=i) (by omega);have hf:=(XM h ho i hi).at ha;refine bW (aF.2 (by simp only;omega)) (bW (aF.2 (by simp;omega)) (bW hf.1 (aI ⟨⟨i+1,?_,by omega⟩,?_⟩)))
  .rw [aG (by omega)];simp only [Qt];rw [getD_at (l:=(List.range bl.length).map (st bl od)) _ (by simp;omega)];simp only [Kg,List.getElem_range];rfl
  .simp only [aG (x:=(i:Int)+1) (by omega)];omega
 have hF:=XM h ho bl.length (XS _);rw [<-e] at hF ⊢;generalize huT:wX bl od bl.length=u0 at *;refine gy (Vl hG) (bD (λy =>∃uf,Rn fi u0 uf/\y=(uf,atL uf)) ?_ λy ⟨uf,hR,e⟩=>?_)
 .refine bQ (λs:List cu×List Int =>∃us,s=(us,atL us)/\GL bl.length us/\us.length=u0.length/\∀uf,Rn fi us uf->Rn fi u0 uf) (λs=>cnt s.1) ⟨u0,rfl,hG,rfl,λ_ h=>h⟩ λs ⟨us,e,hg,OM,hR⟩=>?_;subst e;have hu6:=hg.1;refine bD (λy=>y=((List.range us.length).any (far fi us),rnd fi us)) ?_ λy e=>?_
  .refine bQ (λs:Bool×Int×List cu =>∃(j:Nat) (arr:List cu),s=((List.range j).any (far fi us),(j:Int),arr)/\j<=us.length/\arr.length=us.length/\(∀k,k<j->arr.getD k bK=(rnd fi us).getD k bK)/\∀k,j<=k->k<us.length->arr.getD k bK=us.getD k bK) (λs=>us.length-s.2.1.toNat)
    ⟨0,us,rfl,by omega,rfl,λk hk=>absurd hk (Kk _),λ_ _ _=>rfl⟩ λs ⟨j,arr,e,h1,h2,h3,h4⟩=>?_
   subst e;refine dX (λhc=>?_) λhc=>?_
   rotate_left
   .have hc:¬ j<us.length:=by simpa using hc
    have:j=us.length:=by omega
    subst this;have:arr=rnd fi us:=by
     refine KS (by rw [h2,qw]) λk k1 k2=>?_;have:=h3 k (by omega)
     rwa [getD_at _ k1,getD_at _ k2] at this
    subst this;exact aI rfl
   have hc:j<us.length:=by simpa using hc
   have hu:=h4 j (XS _) hc;have hgu:=hg.at hc;have apF:far fi us j=(decide (0<=(us.getD j bK).to)&&!(us.getD j bK).fE&&(decide (dst fi us j < -128)||decide (127<dst fi us j))):=rfl;have hd:=XO (fi:=fi) hg j;have hde:dst fi us j=(zH us (fi.getD (us.getD j bK).to.toNat 0).toNat:Int)-(zH us (j+1):Int):=rfl;refine bD (λy=>y=((List.range j).any (far fi us)||far fi us j,if far fi us j=true then arr.set j (wid (us.getD j bK)) else arr)) ?_ λy e=>?_
   .refine bW (aF.2 (by simp only;omega)) ?_;simp only [Qt,hu];generalize us.getD j bK=u at *;refine bD (λy=>y=(decide (u.to<0)||u.fE)) (dX (λhc=>aI ?_) λhc=>aI ?_) λy e=>?_
    .rw [hc];rfl
    .rw [hc];rfl
    subst e;refine dX (λhs=>?_) λhs=>?_
    .have hf:far fi us j=false:=by
      rw [apF];simp only [JN,decide_eq_true_eq] at hs;rcases hs with hs | hs
      .rw [decide_eq_false (by omega)];rfl
      .rw [hs];simp
     rw [hf];exact aI (by simp)
    simp only [Uv,decide_eq_false_iff_not] at hs;obtain ⟨hs1,hs2⟩:=hs;have hto:0<=u.to:=by omega
    obtain ⟨f1,f2,f3⟩:=hF.at ⟨hto,hgu.t⟩;have ajO:far fi us j=(decide (dst fi us j < -128)||decide (127<dst fi us j)):=by rw [apF,decide_eq_true hto,hs2];rfl
    refine bW f1 (bW (aF.2 (by rw [zG];omega)) (bW (aF.2 (by rw [zG,aG (by omega)];omega)) ?_));have hd2:dL ((atL us).getD (fi.getD u.to.toNat 0).toNat 0-(atL us).getD (dL ((j:Int)+1)).toNat 0)=dst fi us j:=by
     rw [aG (x:=(j:Int)+1) (by omega),show ((j:Int)+1).toNat=j+1 by omega,Lp (by omega),Lp (by omega),<-hde];exact aG (by omega)
    simp only [hd2];refine bD (λy=>y=far fi us j) (dX (λhc=>aI ?_) λhc=>aI ?_) λy e=>?_
    .rw [ajO,hc];rfl
    .rw [ajO,hc,J0];exact decide_eq_decide.2 (by omega)
    subst e;refine bD _ (dX (λhf=>bW (aF.2 (by omega)) (aI ?_)) λhf=>aI ?_) λy hy=>aI hy
    .rw [hf,if_pos rfl,Bool.or_true];rfl
    .rw [hf,if_neg (by simp),Bool.or_false]
   .subst e;refine aI ⟨⟨j+1,if far fi us j=true then arr.set j (wid (us.getD j bK)) else arr,?_,hc,?_,λk hk=>?_,λk hk hk2=>?_⟩,?_⟩
    .simp only;rw [aG (by omega),JP,List.any_append,List.any_cons,List.any_nil,Bool.or_false];rfl
    .split
     .rw [Up,h2]
     .exact h2
    .by_cases e:k=j
     .subst e;rw [Fz hc];split
      .rw [jC (by omega),if_pos rfl]
      .exact hu
     .rw [<-h3 k (by omega)];split
      .rw [jC (by omega),if_neg e]
      .rfl
    .rw [<-h4 k (by omega) hk2];split
     .rw [jC (by omega),if_neg (by omega)]
     .rfl
    .simp only [aG (x:=(j:Int)+1) (by omega)];omega
  .subst e;refine dX (λhc=>aI ?_) λhc=>?_
   .have hn :∀j,j<us.length->far fi us j=false:=λj hj=>by
     simp only [Wg,List.any_eq_false,Uq] at hc;simpa using hc j hj
    exact ⟨us,hR us (.done hn),by rw [afU hn]⟩
   .have hex :∃j,j<us.length/\far fi us j=true:=by
     simp only [qn,KM,Uq] at hc;exact hc
    exact gy (Vl (XL hg)) (aI ⟨⟨rnd fi us,rfl,XL hg,by rw [qw,OM],λuf hr=>hR uf (.step hex hr)⟩,aiz hex⟩)
 subst e;have hg:=hR.gl hG;have OM:=hR.len;have hg6:=hg.1;refine bD (λy=>y=wY fi uf) ?_ λy e=>?_
 .refine bQ (λs:Int×List gq =>∃j:Nat,s=((j:Int),(List.range j).map (codeOf fi uf))/\j<=uf.length) (λs=>uf.length-s.1.toNat) ⟨0,rfl,by omega⟩ λs ⟨j,e,hj⟩=>?_;subst e;refine dX (λhc=>?_) λhc=>?_
  rotate_left
  .have hc:¬ j<uf.length:=by simpa using hc
   have:j=uf.length:=by omega
   subst this;exact aI rfl
  have hc:j<uf.length:=by simpa using hc
  have hd:=XO (fi:=fi) hg j;have hgu:=hg.at hc;have hde:dst fi uf j=(zH uf (fi.getD (uf.getD j bK).to.toNat 0).toNat:Int)-(zH uf (j+1):Int):=rfl;have hco:codeOf fi uf j=gq.mk (uf.getD j bK).jd (uf.getD j bK).iD (uf.getD j bK).kL (uf.getD j bK).qX (uf.getD j bK).qY (if 0<=(uf.getD j bK).to then dst fi uf j else (uf.getD j bK).gZ) (uf.getD j bK).fE (uf.getD j bK).iq:=rfl;refine bW (aF.2 (by simp only;omega)) ?_;simp only [Qt];obtain ⟨u,hue⟩ :∃u,uf.getD j bK=u:=⟨_,rfl⟩;simp only [hue] at hgu hde hco ⊢;refine bD (λy=>y=(u.jd,u.iD,u.kL,u.qX,u.qY,(if 0<=u.to then dst fi uf j else u.gZ),u.fE,u.iq,u.to)) (dX (λht=>?_) λht=>aI ?_) λy e=>?_
  .have ht:0<=u.to:=of_decide_eq_true ht;obtain ⟨f1,f2,f3⟩:=hF.at ⟨ht,hgu.t⟩;refine bW f1 (bW (aF.2 (by rw [zG];omega)) (bW (aF.2 (by rw [zG,aG (by omega)];omega)) (aI ?_)));rw [aG (x:=(j:Int)+1) (by omega),show ((j:Int)+1).toNat=j+1 by omega,Lp (by omega),Lp (by omega),<-hde,aG (by omega),if_pos ht]
  .rw [if_neg (of_decide_eq_false ht)]
  subst e;refine bW (by unfold aX;simp;omega) (aI ⟨⟨j+1,?_,hc⟩,?_⟩)
  .rw [aG (by omega),JP,X2,Q6,WF,hco];rfl
  .simp only [aG (x:=(j:Int)+1) (by omega)];omega
 subst e;refine bD (λy=>y=ZX bl od uf) ?_ λy e=>by subst e;exact aI ⟨uf,hR,rfl⟩
 refine bQ (λs:Int×List Int =>∃i:Nat,s=((i:Int),(List.range i).map λi=>(zH uf (wX bl od i).length:Int))/\i<=bl.length) (λs=>bl.length-s.1.toNat) ⟨0,rfl,by omega⟩ λs ⟨i,e,hi⟩=>?_;subst e;refine dX (λhc=>?_) λhc=>?_
 rotate_left
 .have hc:¬ i<bl.length:=by simpa using hc
  have:i=bl.length:=by omega
  subst this;exact aI rfl
 have hc:i<bl.length:=by simpa using hc
 have hm:=D7 bl od (bl.length-i) i;rw [show i+(bl.length-i)=bl.length by omega,huT] at hm;have hs:((List.range bl.length).map (st bl od)).getD i 0=((wX bl od i).length:Int):=by rw [getD_at _ (by simpa using hc)];simp [st]
 refine bW (aF.2 (by simp;omega)) ?_;simp only [Qt,hs];refine bW (aF.2 (by rw [zG];omega)) (bW (by unfold aX;simp;omega) (aI ⟨⟨i+1,?_,hc⟩,?_⟩))
 .rw [aG (by omega),JP,X2,Q6,WF,Lp (by omega)];rfl
 .simp only [aG (x:=(i:Int)+1) (by omega)];omega
end
end Go.Fg.YtoipcimfapppmaaGreatDoor

