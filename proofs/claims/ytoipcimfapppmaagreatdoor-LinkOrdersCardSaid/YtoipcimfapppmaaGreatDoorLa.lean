/-
  The plain proofs: what the functions compute answers as the law says.
-/
import Derived.Test.YtoipcimfapppmaaGreatDoorFgB
import Derived.Test.YtoipcimfapppmaaGreatDoorZd
import Derived.Laws.RangeString
open Option renaming some->zw,none->zz
open Bool renaming true->zj,false->zv
set_option linter.unusedSimpArgs false
set_option linter.unusedVariables false
set_option linter.unusedSectionVars false
namespace Go.Fg.YtoipcimfapppmaaGreatDoor
open Go.Fw
theorem agD{l:List Int}{a z:Nat}{v:Int}(j:a<l.length):(l.set a v).getD z 0=if z=a then v else l.getD z 0:=by
 rw[Q2,Q2];by_cases h:z=a
 .subst h;rw[vL j,QR rfl];rfl
 .rw [List.getElem?_set_ne (λe=>h e.symm),QP h]
def Ends(bs:List aO):Prop :=∀b,b<bs.length->((bs.getD b aA).bV≠3->0<=(bs.getD b aA).f_/\(bs.getD b aA).f_<bs.length)/\((bs.getD b aA).bV=2->0<=(bs.getD b aA).dI/\(bs.getD b aA).dI<bs.length)
def ac3(bs:List aO):Prop :=∀S:Nat->Prop,S 0->(∀b,b<bs.length->S b->((bs.getD b aA).bV≠3->S (bs.getD b aA).f_.toNat)/\((bs.getD b aA).bV=2->S (bs.getD b aA).dI.toNat))->∀b,b<bs.length->S b
def succs(k t e:Int):List Int:=if k=2/\e≠t then[t,e]else if k=1\/k=2 then[t]else[]
theorem V7(k a t e:Int):f104 k a t e=zw (succs k t e):=by
 apply ok_eq;unfold f104 succs;refine bF (λy=>y=decide (k=2/\e≠t)) ?_ λy j=>?_
 .refine dA (λh=>aI ?_) (λh=>aI ?_)
  .have h:k=2:=by simpa using h
   by_cases m:e=t<;>simp[h,m]
  .have h:¬ k=2:=by simpa using h
   simp[h]
 subst j;refine dA (λh=>aI ?_) (λh=>?_)
 .rw [QR (by simpa using h)]
 .rw [QP (by simpa using h)];refine bF (λy=>y=decide (k=1\/k=2)) ?_ λy j=>?_
  .refine dA (λh=>aI ?_) (λh=>aI ?_)
   .have h:k=1:=by simpa using h
    simp[h]
   .have h:¬ k=1:=by simpa using h
    simp[h]
  .subst j;refine dA (λh=>aI ?_) (λh=>aI ?_)
   .rw [QR (by simpa using h)]
   .rw [QP (by simpa using h)]
def oZ(bs:List aO)(b:Nat):List Int:=succs (bs.getD b aA).bV (bs.getD b aA).f_ (bs.getD b aA).dI
def zU(bs:List aO):Prop:=Ends bs/\∀b,b<bs.length->(bs.getD b aA).bV=1\/(bs.getD b aA).bV=2\/(bs.getD b aA).bV=3
theorem Yp{bs:List aO}(h:zU bs){b:Nat}(j:b<bs.length):∀x∈oZ bs b,0<=x/\x<bs.length:=by
 obtain⟨w,y⟩:=h;obtain⟨m,z⟩:=w b j;have B:=y b j;intro x hx;unfold oZ succs at hx;split at hx
 .rename_i q;rcases XN.1 hx with rfl|hx
  .exact m (by omega)
  .rw [X2]at hx;rw[hx];exact z q.1
 .split at hx
  .rename_i q;rw[X2]at hx;rw[hx];exact m (by omega)
  .cases hx
def cntF(l:List Bool):Nat:=l.count zv
theorem V8{l:List Bool}{k:Nat}(h:k<l.length)(j:l.getD k zv=zv):cntF (l.set k zj)+1=cntF l:=by unfold cntF;rw[getD_at _ h]at j;have m:0<l.count zv:=List.count_pos_iff.2 (j▸Xs h);rw[List.count_set h,j];simp;omega
theorem wz{l:List Bool}{a z:Nat}{v:Bool}(j:a<l.length):(l.set a v).getD z zv=if z=a then v else l.getD z zv:=by
 rw[Q2,Q2];by_cases h:z=a
 .subst h;rw[vL j,QR rfl];rfl
 .rw [List.getElem?_set_ne (λe=>h e.symm),QP h]
structure Mk(bs:List aO)(m:List Bool)(st:List Int):Prop where
 len:m.length=bs.length
 zero:m.getD 0 zv=zj
 stk :∀x∈st,(0<=x/\x<bs.length)/\m.getD x.toNat zv=zj
 all :∀S:Nat->Prop,S 0->(∀b,b<bs.length->S b->∀x∈oZ bs b,S x.toNat)->∀b,b<bs.length->m.getD b zv=zj->S b
theorem V9{nm:List UInt8}{a b:Int}{bs:List aO}(hE:zU bs)(h0:0<bs.length)(hl:bs.length<=1000000):
  Ok (f82 nm a b bs) λm=>Mk bs m []/\∀b,b<bs.length->m.getD b zv=zj->∀x∈oZ bs b,m.getD x.toNat zv=zj:=by
 unfold f82;refine bK (qH.2 (by omega)) ?_;refine b_ (Qt (by simp only[Kf,Q4];omega)) (bK (aC.2 (by simp only[Kf,Q4];omega)) ?_);refine bF (λm=>Mk bs m []/\∀b,b<bs.length->m.getD b zv=zj->∀x∈oZ bs b,m.getD x.toNat zv=zj) ?_ λy hy=>aI hy;have hz:(List.replicate ((bs.length:Int)).toNat zv).length=bs.length:=by simp
 refine bD (λs:List Bool×List Int=>Mk bs s.1 s.2/\s.2.length+cntF s.1<=bs.length/\∀b,b<bs.length->s.1.getD b zv=zj->(b:Int)∈s.2\/∀x∈oZ bs b,s.1.getD x.toNat zv=zj) (λs=>2*cntF s.1+s.2.length)
  ⟨⟨by simp,by rw[wz (by rw[hz];exact h0)];simp,λx N=>?_,λS s0 _ b T w=>?_⟩,?_,λb T w=>.inl ?_⟩ λs ⟨U,hsz,h2⟩=>?_
 .rw [X2]at N;subst N;refine⟨by omega,?_⟩;rw[wz (by rw[hz];exact h0)];simp
 .simp only at w;rw[wz (by rw[hz];exact h0)]at w;split at w
  .rename_i e;rw[e];exact s0
  .rw [getD_at _ (by rw[hz];exact T)]at w;simp at w
 .have J:=V8 (l:=List.replicate ((bs.length:Int)).toNat zv) (k:=0) (by rw[hz];exact h0) (by rw[getD_at _ (by rw[hz];exact h0)];simp);have:cntF (List.replicate ((bs.length:Int)).toNat zv)=bs.length:=by simp[cntF,List.count_replicate]
  simp only[W5,vz];omega
 .simp only at w;rw[wz (by rw[hz];exact h0)]at w;split at w
  .rename_i e;simp[e]
  .rw [getD_at _ (by rw[hz];exact T)]at w;simp at w
 obtain⟨m,st⟩:=s;simp only at U h2 hsz;refine dA (λhne=>?_) (λhe=>aI ?_)
 rotate_left
 .have:st=[]:=by simpa using he
  subst this;exact⟨U,λb T w=>(h2 b T w).resolve_left (by simp)⟩
 have hpos:0<st.length:=by simpa using hne
 have hw:bT ((st.length:Int)-1)=((st.length-1:Nat):Int):=by rw[aG (by omega)];omega
 simp only[hw,Q4];refine bK (aC.2 (by omega)) (bK (by simp) ?_);have L:st.getD (st.length-1) 0∈st:=by rw[getD_at _ (by omega)];exact Xs _
 have K:st=st.take (st.length-1)++[st.getD (st.length-1) 0]:=by rw[getD_at _ (by omega),<-take_snoc (by omega),show st.length-1+1=st.length from by omega,K7]
 obtain⟨hx1,Y⟩:=U.stk _ L;generalize st.getD (st.length-1) 0=x at L K hx1 Y ⊢;obtain⟨q,rfl⟩ :∃n:Nat,x=n:=⟨x.toNat,by omega⟩;rw[Q4]at Y;have hq:q<bs.length:=by omega
 have htl:(st.take (st.length-1)).length=st.length-1:=by simp
 generalize st.take (st.length-1)=H at K htl ⊢;refine bK (aC.2 (by omega)) ?_;simp only[Q4];refine eP (V7 _ _ _ _) ?_;have awq:=Yp hE hq;have arO:succs (bs.getD q aA).bV (bs.getD q aA).f_ (bs.getD q aA).dI=oZ bs q:=rfl;rw[arO];refine bF (λy=>Mk bs y.1 y.2/\2*cntF y.1+y.2.length<=2*cntF m+H.length/\y.2.length+cntF y.1<=H.length+cntF m/\(∀b,b<bs.length->m.getD b zv=zj->y.1.getD b zv=zj)/\(∀z∈H,z∈y.2)/\
   (∀b,b<bs.length->y.1.getD b zv=zj->m.getD b zv=zv->(b:Int)∈y.2)/\∀x∈oZ bs q,y.1.getD x.toNat zv=zj) ?_ λy ⟨a1,a2,a3,a4,a5,a6,a7⟩=>aI ⟨⟨a1,?_,λb T w=>?_⟩,?_⟩
 .have hm0:Mk bs m H:=⟨U.len,U.zero,λx N=>U.stk x (by rw[K];exact W6 _ N),U.all⟩;refine X8 (oZ bs q) (λi s=>(i,s.1,s.2)) (λs x=>if s.1.getD x.toNat zv then s else(s.1.set x.toNat zj,s.2++[x]))
   (λi s=>Mk bs s.1 s.2/\2*cntF s.1+s.2.length<=2*cntF m+H.length/\s.2.length+cntF s.1<=H.length+cntF m/\(∀b,b<bs.length->m.getD b zv=zj->s.1.getD b zv=zj)/\(∀z∈H,z∈s.2)/\
    (∀b,b<bs.length->s.1.getD b zv=zj->m.getD b zv=zv->(b:Int)∈s.2)/\∀j,(Z:j<(oZ bs q).length)->j<i->s.1.getD ((oZ bs q)[j]).toNat zv=zj)
   (s0:=(m,H)) rfl ⟨hm0,Z1 _,Z1 _,λ_ _ h=>h,λ_ h=>h,λb _ h h'=>(by rw[h]at h';cases h'),λj _ h=>by omega⟩ (λi h s ⟨X,b2,b3,b4,b5,b6,b7⟩ _=>?_) (λs ⟨X,b2,b3,b4,b5,b6,b7⟩ _=>?_)
  rotate_left
  .refine b_ (Qt (by simp only;omega)) (aI ⟨X,b2,b3,b4,b5,b6,λx N=>?_⟩);obtain⟨j,Z,e⟩:=WN N;rw[<-e];exact b7 j Z Z
  obtain⟨mk,sk⟩:=s;simp only at X b2 b3 b4 b5 b6 b7;have hs2:(oZ bs q).length<=2:=by unfold oZ succs;(repeat' split)<;>simp
  have M:=Xs h;have hxr:=awq _ M;have hlen:=X.len;refine goT (YY (by simp only;omega)) (bK (aC.2 ⟨by simp only;omega,by simp only;omega⟩) ?_);have e:(oZ bs q).getD i 0=(oZ bs q)[i]:=getD_at _ h;simp only[Q4,e];have hnew :∀(mk':List Bool) (b':Nat),b'<bs.length->mk'.getD b' zv=zj->True:=λ_ _ _ _=>trivial;refine bK (aC.2 (by omega)) ?_;generalize hgx:(oZ bs q)[i]=x at M hxr ⊢;have hxl:x.toNat<mk.length:=by omega
  refine bF (λy=>y=if mk.getD x.toNat zv then(mk,sk)else(mk.set x.toNat zj,sk++[x])) ?_ λy hy=>?_
  .refine dA (λJ=>?_) (λJ=>aI ?_)
   .have J:mk.getD x.toNat zv=zv:=by simpa using J
    refine bK (aC.2 ⟨by omega,by omega⟩) ?_;refine bK (aC.2 (by omega)) (bK (aC.2 ⟨by omega,by omega⟩) (bK (by unfold aV;simp;omega) (aI ?_)));rw[QP (by rw[J];simp)]
   .have J:mk.getD x.toNat zv=zj:=by simpa using J
    rw[QR J]
  .subst hy;refine aI ⟨by rw[aG (x:=(i:Int)+1) (by omega)],?_⟩;by_cases J:mk.getD x.toNat zv=zj
   .simp only[QR J];refine⟨X,b2,b3,b4,b5,b6,λj Z hji=>?_⟩;by_cases e2:j=i
    .subst e2;rw[hgx];exact J
    .exact b7 j Z (by omega)
   .simp only[QP J];have hcf:mk.getD x.toNat zv=zv:=by simpa using J
    have hcnt:=V8 hxl hcf;have B :∀z,(mk.set x.toNat zj).getD z zv=if z=x.toNat then zj else mk.getD z zv:=λz=>wz hxl
    refine⟨⟨by simp[hlen],?_,λz hz=>?_,λS s0 hcl z hz w=>?_⟩,by simp;omega,by simp;omega,λz hz w=>?_,λz hz=>W6 _ (b5 z hz),λz hz w hf=>?_,λj Z hji=>?_⟩
    .rw [B];split
     .rfl
     .exact X.zero
    .rcases Z0.1 hz with hz|hz
     .obtain ⟨r1,r2⟩:=X.stk z hz;refine⟨r1,?_⟩;rw[B];split
      .rfl
      .exact r2
     .rw [X2]at hz;subst hz;refine⟨hxr,?_⟩;rw[B,QR rfl]
    .rw [B]at w;split at w
     .rename_i e2;rw[e2];exact hcl q hq (U.all S s0 hcl q hq Y) x M
     .exact X.all S s0 hcl z hz w
    .rw [B];split
     .rfl
     .exact b4 z hz w
    .rw [B]at w;split at w
     .rename_i e2;refine UT _ ?_;rw[X2];omega
     .exact W6 _ (b6 z hz w hf)
    .rw [B];by_cases e2:j=i
     .subst e2;rw[hgx,QR rfl]
     .split
      .rfl
      .exact b7 j Z (by omega)
 .have:st.length=H.length+1:=by rw[K];simp
  (try simp only);omega
 .try simp only at w ⊢
  cases hmb:m.getD b zv with
  |false=>exact .inl (a6 b T w hmb)
  |true=>
   by_cases e:b=q
   .subst e;exact .inr a7
   .rcases h2 b T hmb with h|h
    .rw [K]at h;rcases Z0.1 h with h|h
     .exact .inl (a5 _ h)
     .rw [X2]at h;omega
    .refine .inr λx N=>?_;have:=Yp hE T x N;exact a4 x.toNat (by omega) (h x N)
 .have:st.length=H.length+1:=by rw[K];simp
  (try simp only);omega
def Good(f:aQ):Prop:=f.blocks.length<=1000/\0<f.blocks.length/\zU f.blocks/\ac3 f.blocks
def idx(m:List Bool):Nat->List Nat
 |0=>[]
 |i+1=>idx m i++if m.getD i zv then[i]else[]
def rk(m:List Bool)(i:Nat):Nat:=(idx m i).length
theorem aaO(m:List Bool)(i:Nat):rk m (i+1)=rk m i+if m.getD i zv then 1 else 0:=by show (idx m i++if m.getD i zv then[i]else[]).length=(idx m i).length+_;rw[XX];split<;>rfl
theorem EP{m:List Bool}:∀{n j:Nat},j∈idx m n->j<n/\m.getD j zv=zj
 |n+1,j,h=>by
  rcases Z0.1 h with h|h
  .have:=EP h;exact⟨by omega,this.2⟩
  .split at h
   .rename_i e;rw[X2]at h;subst h;exact⟨by omega,e⟩
   .cases h
theorem Np{m:List Bool}:∀{n j:Nat},j<n->m.getD j zv=zj->(idx m n)[rk m j]?=zw j
 |n+1,j,h,q=>by
  unfold idx;by_cases e:j=n
  .subst e;show (idx m j++if m.getD j zv then[j]else[])[(idx m j).length]?=_;rw[Wc (Z1 _),QR q,Nat.sub_self];rfl
  .have:=Np (n:=n) (by omega) q;rw[Wf (Q3.1 this).1];exact this
theorem agE(m:List Bool)(i:Nat):rk m i<=i:=by
 induction i with
 |zero=>exact Z1 _
 |succ i h=>rw[aaO];split<;>omega
def ren(m:List Bool)(t:aO):aO:=
 { t with f_:=if t.bV=3 then t.f_ else(rk m t.f_.toNat:Int),dI:=if t.bV=2 then(rk m t.dI.toNat:Int)else t.dI }
def yF(m:List Bool)(bs:List aO):List aO:=(idx m bs.length).map λj=>ren m (bs.getD j aA)
theorem ER{bs:List aO}{b:Nat}:((bs.getD b aA).bV=1\/(bs.getD b aA).bV=2->(bs.getD b aA).f_∈oZ bs b)/\((bs.getD b aA).bV=2->(bs.getD b aA).dI∈oZ bs b):=by
 unfold oZ succs;constructor
 .intro h;split
  .simp
  .first
   |(rw[QR h];simp)
   |simp
 .intro h;split
  .simp
  .rename_i j
   first
    |rw[QR (.inr h)]
    |skip
   have:(bs.getD b aA).dI=(bs.getD b aA).f_:=Decidable.byContradiction λe=>j ⟨h,e⟩;rw[this];exact X2.2 rfl
theorem ac4{bs:List aO}{m:List Bool}(hE:zU bs)(h0:0<bs.length)(hM:Mk bs m [])(hc :∀b,b<bs.length->m.getD b zv=zj->∀x∈oZ bs b,m.getD x.toNat zv=zj):
  0<(yF m bs).length/\(yF m bs).length<=bs.length/\zU (yF m bs)/\ac3 (yF m bs):=by
 have L:(yF m bs).length=rk m bs.length:=by unfold yF rk;simp
 have H :∀j,j<bs.length->m.getD j zv=zj->rk m j<(yF m bs).length:=by intro j B y;have:=(Q3.1 (Np B y)).1;rw[L];exact this
 have w :∀p,p<(yF m bs).length->∃j,j<bs.length/\m.getD j zv=zj/\rk m j=p/\(yF m bs).getD p aA=ren m (bs.getD j aA):=by
  intro p M;have J:p<(idx m bs.length).length:=by unfold yF at M;simpa using M
  have y:=EP (Xs J);refine⟨(idx m bs.length)[p],y.1,y.2,?_,?_⟩
  .have h1:=Np y.1 y.2;have key :∀n,∀a b:Nat,(idx m n)[a]?=(idx m n)[b]?->a<(idx m n).length->a=b:=by
    intro n
    induction n with
    |zero=>intro a b _ h;simp[idx]at h
    |succ n ih=>
     intro a b q U;unfold idx at q U;by_cases hn:m.getD n zv=zj
     .rw [QR hn]at q U;rw[XX]at U;by_cases K:a<(idx m n).length
      .rw [Wf K]at q;by_cases z:b<(idx m n).length
       .rw [Wf z]at q;exact ih a b q K
       .rw [Wc (by omega),Q1 K]at q;have hbb:b-(idx m n).length=0:=by have:=(Q3.1 q.symm).1;simp at this;omega
        rw[hbb]at q;have:=EP (Xs K);simp at q;omega
      .have haa:a=(idx m n).length:=by simp at U;omega
       rw[Wc (by omega),haa,Nat.sub_self]at q;by_cases z:b<(idx m n).length
       .rw [Wf z,Q1 z]at q;have:=EP (Xs z);simp at q;omega
       .rw [Wc (by omega)]at q;have:=(Q3.1 q.symm).1;simp at this;omega
     .rw [QP hn,K6]at q U;exact ih a b q U
   refine(key bs.length p _ ?_ J).symm;rw[h1,Q1 J]
  .unfold yF;rw[Q2,Z2,Q1 J];rfl
 have hz:rk m 0=0:=rfl;refine⟨by have:=H 0 h0 hM.zero;omega,by rw[L];exact agE _ _,⟨λp M=>?_,λp M=>?_⟩,λS s0 hS p M=>?_⟩
 .obtain ⟨j,B,y,_,e⟩:=w p M;obtain⟨e1,e2⟩:=hE.1 j B;have hk:=hE.2 j B;have hs:=ER (bs:=bs) (b:=j);rw[e];unfold ren;simp only;refine⟨λX=>?_,λN=>?_⟩
  .rw [QP X];have:=H _ (by have:=e1 X;omega) (hc j B y _ (hs.1 (by omega)));omega
  .rw [QR N];have:=H _ (by have:=e2 N;omega) (hc j B y _ (hs.2 N));omega
 .obtain ⟨j,B,y,_,e⟩:=w p M;rw[e];exact hE.2 j B
 .obtain ⟨j,B,y,hr,_⟩:=w p M;have:=hM.all (λb=>m.getD b zv=zj/\S (rk m b)) ⟨hM.zero,s0⟩ (λb hb ⟨T,hbS⟩ x hx=>⟨hc b hb T x hx,?_⟩) j B y
  .rw [<-hr];exact this.2
  .have Y:=H b hb T;obtain⟨j',hj',hm',hr',e'⟩:=w _ Y;have hjb:j'=b:=by have h1:=Np hj' hm';have h2:=Np hb T;rw[hr',h2]at h1;exact(Wz h1).symm
   subst hjb;obtain⟨Z,c2⟩:=hS _ Y hbS;rw[e']at Z c2;unfold ren at Z c2;simp only at Z c2;unfold oZ succs at hx;split at hx
   .rename_i hk;rcases XN.1 hx with rfl|hx
    .have:=Z (by omega);rw[QP (by omega)]at this;simpa using this
    .rw [X2]at hx;subst hx;have:=c2 hk.1;rw[QR hk.1]at this;simpa using this
   .split at hx
    .rename_i hk;rw[X2]at hx;subst hx;have:=Z (by omega);rw[QP (by omega)]at this;simpa using this
    .cases hx
theorem agF(m:List Bool)(i:Nat):idx m (i+1)=idx m i++if m.getD i zv then[i]else[]:=rfl
theorem Yq{nm:List UInt8}{a b:Int}{bs:List aO}(L:zU bs)(Y:0<bs.length)(hl:bs.length<=1000000):
  Ok (f49 nm a b bs) λy=>y.1=nm/\y.2.1=a/\y.2.2.1=b/\0<y.2.2.2.length/\y.2.2.2.length<=bs.length/\zU y.2.2.2/\ac3 y.2.2.2/\∀x∈y.2.2.2,∃t∈bs,x.instrs=t.instrs/\x.bV=t.bV/\x.lJ=t.lJ:=by
 unfold f49;refine bF _ (V9 L Y hl) λm ⟨Z,hc⟩=>?_;have M:=Z.len;refine bK (qH.2 (by omega)) ?_;refine bF (λy=>y.length=bs.length/\∀j,j<bs.length->y.getD j 0=(rk m j:Int)) ?_ λnums ⟨hn1,H⟩=>?_
 .refine bD (λs:Int×Int×List Int=>∃i:Nat,s.2.1=i/\i<=bs.length/\s.1=(rk m i:Int)/\s.2.2.length=bs.length/\∀j,j<i->s.2.2.getD j 0=(rk m j:Int)) (λs=>bs.length-s.2.1.toNat)
   ⟨0,rfl,by omega,rfl,by simp[M],λj h=>by omega⟩ λs ⟨i,e1,e2,e3,N,T⟩=>?_
  obtain⟨k,i',l⟩:=s;simp only at e1 e3 N T;subst e1;subst e3;refine dA (λz=>?_) (λz=>aI ⟨N,λj J=>T j ?_⟩)
  rotate_left
  .simp at z;omega
  have z:i<bs.length:=by simp at z;omega
  have U:=agE m i;refine bK (aC.2 ⟨by simp only;omega,by simp only;omega⟩) (bK (aC.2 ⟨by simp only;omega,by simp only;omega⟩) ?_);simp only[Q4];refine bF (λy=>y=(rk m (i+1):Int)) ?_ λy B=>?_
  .rw [aaO];refine dA (λw=>aI ?_) (λw=>aI ?_)
   .rw [QR w,aG (by omega)];simp
   .rw [QP (by rw[w];simp)];simp
  .subst B;refine aI ⟨⟨i+1,by simp only;rw[aG (x:=(i:Int)+1) (by omega)];simp,by omega,rfl,by simp[N],λj J=>?_⟩,by simp only;rw[aG (x:=(i:Int)+1) (by omega)];omega⟩;simp only;rw[agD (by omega)];split
   .rename_i e;rw[e]
   .exact T j (by omega)
 refine bF (λy=>y=(nm,a,b,yF m bs)) ?_ λy B=>?_
 rotate_left
 .subst B;obtain⟨c1,c2,c3,c4⟩:=ac4 L Y Z hc;exact aI ⟨rfl,rfl,rfl,c1,c2,c3,c4,λx hx=>by obtain⟨j,J,e⟩:=XS.1 hx;have J:=(EP J).1;exact⟨bs.getD j aA,by rw[getD_at _ J];exact Xs _,by subst e;exact⟨rfl,rfl,rfl⟩⟩⟩
 refine bD (λs:Int×List UInt8×Int×Int×List aO=>∃i:Nat,i<=bs.length/\s=((i:Int),nm,a,b,(idx m i).map λj=>ren m (bs.getD j aA))) (λs=>bs.length-s.1.toNat)
  ⟨0,by omega,rfl⟩ λs ⟨i,e2,e⟩=>?_
 subst e;refine dA (λz=>?_) (λz=>aI ?_)
 rotate_left
 .have:i=bs.length:=by simp at z;omega
  subst this;rfl
 have z:i<bs.length:=by simp at z;omega
 have U:=agE m i;refine bF (λy=>y=(nm,a,b,(idx m (i+1)).map λj=>ren m (bs.getD j aA))) ?_ λy B=>?_
 rotate_left
 .subst B;refine aI ⟨⟨i+1,by omega,?_⟩,by simp only;rw[aG (x:=(i:Int)+1) (by omega)];omega⟩;simp only;rw[aG (x:=(i:Int)+1) (by omega)];rfl
 refine bK (aC.2 ⟨by simp only;omega,by simp only;omega⟩) ?_;simp only[Q4];rw[agF];refine dA (λw=>aI ?_) (λw=>?_)
 .have w:m.getD i zv=zv:=by simpa using w
  rw[QP (by rw[w];simp),K6]
 have w:m.getD i zv=zj:=by simpa using w
 rw[QR w];obtain⟨t1,t2⟩:=L.1 i z;refine bK (aC.2 (by omega)) ?_;have jf:ren m (bs.getD i aA)={ bs.getD i aA with f_:=if(bs.getD i aA).bV=3 then(bs.getD i aA).f_ else(rk m (bs.getD i aA).f_.toNat:Int),dI:=if(bs.getD i aA).bV=2 then(rk m (bs.getD i aA).dI.toNat:Int)else(bs.getD i aA).dI }:=rfl;have K:(idx m i++[i]).map (λj=>ren m (bs.getD j aA))=(idx m i).map (λj=>ren m (bs.getD j aA))++[ren m (bs.getD i aA)]:=by simp
 have X:((idx m i).map λj=>ren m (bs.getD j aA)).length=rk m i:=by unfold rk;simp
 rw[K];generalize (idx m i).map (λj=>ren m (bs.getD j aA))=acc at X ⊢;rw[jf];refine bF (λy=>y=((bs.getD i aA).instrs,(bs.getD i aA).bV,(bs.getD i aA).lJ,(if(bs.getD i aA).bV=3 then(bs.getD i aA).f_ else(rk m (bs.getD i aA).f_.toNat:Int)),(bs.getD i aA).dI,(bs.getD i aA).line,(bs.getD i aA).iG,(bs.getD i aA).gZ)) ?_ λy B=>?_
 .refine dA (λq=>?_) (λq=>aI ?_)
  .have q:¬ (bs.getD i aA).bV=3:=by simpa using q
   have:=t1 q;refine bK (aC.2 (by omega)) (aI ?_);rw[QP q,H _ (by omega)]
  .have q:(bs.getD i aA).bV=3:=by simpa using q
   rw[QR q]
 subst B;refine bF (λy=>y=((bs.getD i aA).instrs,(bs.getD i aA).bV,(bs.getD i aA).lJ,(if(bs.getD i aA).bV=3 then(bs.getD i aA).f_ else(rk m (bs.getD i aA).f_.toNat:Int)),(if(bs.getD i aA).bV=2 then(rk m (bs.getD i aA).dI.toNat:Int)else(bs.getD i aA).dI),(bs.getD i aA).line,(bs.getD i aA).iG,(bs.getD i aA).gZ)) ?_ λy B=>?_
 .refine dA (λq=>?_) (λq=>aI ?_)
  .have q:(bs.getD i aA).bV=2:=by simpa using q
   have:=t2 q;refine bK (aC.2 ⟨by simp only;omega,by simp only;omega⟩) (aI ?_);simp only;rw[QR q,H _ (by omega)]
  .have q:¬ (bs.getD i aA).bV=2:=by simpa using q
   (try simp only)
   rw[QP q]
 subst B;refine bK (by unfold aV;simp;omega) (aI rfl)
def Bytes(l:List Int):Prop:=l.length<=9223372036854775807/\∀x∈l,0<=x/\x<=255
theorem bytes_at{l:List Int}(h:Bytes l){n:Int}(j:0<=n)(m:n<l.length):0<=l.getD n.toNat 0/\l.getD n.toNat 0<=255:=by rw[getD_at 0 (by omega)];exact h.2 _ (Xs _)
def V_(n:Int)(l:List Int)(y:Int×(List Int×Int)):Prop:=y.2.1=l/\0<=y.2.2/\0<=y.1/\(1<=n->y.1<n)/\(n<=1->y.1=0)
theorem PO{rec:Int->List Int->Int->Option (Int×(List Int×Int))}{n:Int}{l:List Int}{i:Int}(q:Bytes l)(hi:0<=i)(hn:n<=65536)
  (m:256<n->∀j,0<=j->Ok (rec 256 l j) (V_ 256 l)):Ok (ai7 rec n l i) (V_ n l):=by
 unfold ai7;simp only[Jt,X7,Ap,afq,ZO,Vx,aC,not_iff];have tail:(n≥1)->i<l.length->(0<=i/\i<(l.length:Int))/\(256<n->Ok (rec 256 l (bT (i+1))) λy=>¬ n=0/\V_ n l (Int.tmod (bT (bT (256*bT (l.getD i.toNat 0))+y.1)) n,y.2.1,y.2.2))/\(¬ 256<n->¬ n=0/\V_ n l (Int.tmod (bT (l.getD i.toNat 0)) n,l,bT (i+1))):=by
  intro w z;have H:=bytes_at q hi z;have J:=q.1;rw[aG (x:=i+1) (by omega),aG (x:=l.getD i.toNat 0) (by omega),aG (x:=256*l.getD i.toNat 0) (by omega)];refine⟨⟨hi,z⟩,λB=>kJ (m B (i+1) (by omega)) λy K=>?_,λB=>⟨by omega,?_⟩⟩
  .obtain ⟨q1,q2,q3,q4,q5⟩:=K;have q4:=q4 (by omega);rw[aG (by omega)];refine⟨by omega,q1,q2,?_⟩;have:=tmod_lt (a:=256*l.getD i.toNat 0+y.1) (b:=n) (by omega) (by omega);exact⟨this.1,λ_=>this.2,λ_=>by omega⟩
  .have:=tmod_lt (a:=l.getD i.toNat 0) (b:=n) H.1 (by omega);refine⟨rfl,by simp;omega,this.1,λ_=>this.2,λ_=>?_⟩;have e:n=1:=by omega
   subst e;have:=this.2;have:=this;simp only;omega
 refine⟨λh=>⟨λ_=>⟨rfl,hi,Uq _,λh=>by simp only;omega,λ_=>rfl⟩,λL=>by cases L⟩,λh=>⟨λw=>⟨rfl,hi,Uq _,λh=>by simp only;omega,λ_=>rfl⟩,λw=>?_⟩⟩;exact tail (by omega) (by omega)
theorem PU(k:Nat):ai8 (k+1)=ai7 (ai8 k):=rfl
theorem ajW{n:Int}{l:List Int}{i:Int}(m:Bytes l)(hi:0<=i)(hn:n<=65536):Ok (f24 n l i) (V_ n l):=by have e:f24 n l i=ai8 (1048574+2) n l i:=rfl;rw[e,PU];refine PO m hi hn λ_ j q=>?_;rw[PU];exact PO m q (by omega) λh=>absurd h (by omega)
theorem anZ{l:List Int}{n:Int}(j:Bytes l)(hn:0<=n):Ok (f7 l n) λy=>y.2=0/\Bytes y.1:=by unfold f7;simp only[Jt,X7,Ap,afq,ZO,Vx,MX];refine⟨λh=>⟨⟨⟨by omega,hn⟩,by omega⟩,trivial,?_⟩,λh=>⟨trivial,j⟩⟩;simp only[vz,List.drop_zero];exact⟨by have:=j.1;simp;omega,λx m=>j.2 x (Wl m)⟩
theorem ac5(k:Nat):Ye (k+1)=ai_ (Ye k):=rfl
theorem IU:∀(k:Nat) (n:Int),0<=n->n<k->k<=1048576->Ok (Ye k n) λs=>s.length<=k
 |0,n,j,m,_=>by omega
 |k+1,n,j,m,w=>by
  rw[ac5];unfold ai_;refine dA (λh=>?_) (λh=>aI (by simp));have h:10<=n:=by simpa using h
  have hd:Int.tdiv n 10=n/10:=Int.tdiv_eq_ediv_of_nonneg j;have q:bT (Int.tdiv n 10)=n/10:=by rw[hd];exact aG (by omega)
  rw[q];refine bF _ (IU k (n/10) (by omega) (by omega) (by omega)) λy z=>bK (pJ.2 (by simp;omega)) (aI (by simp;omega))
theorem ac6{n:Int}(h:0<=n)(j:n<1048576):Ok (f47 n) λs=>s.length<=1048576:=IU _ n h j (Z1 _)
theorem goN{β:Type}{n:Int}{l:List Int}{i:Int}{f:Int×List Int×Int->Option β}{Q:β->Prop}(h:Bytes l)(hi:0<=i)(hn:n<=65536)
  (k :∀x j,0<=j->0<=x->(1<=n->x<n)->Ok (f (x,l,j)) Q):Ok (Option.bind (f24 n l i) f) Q:=
 bF _ (ajW h hi hn) λ⟨x,m,j⟩ ⟨(e:m=l),q,w,y,_⟩=>by subst e;exact k x j q w y
theorem iO{α:Type}{l:List α}{a z:Nat}{v d:α}(j:a<l.length):(l.set a v).getD z d=if z=a then v else l.getD z d:=by
 rw[Q2,Q2];by_cases h:z=a
 .subst h;rw[vL j,QR rfl];rfl
 .rw [List.getElem?_set_ne (λe=>h e.symm),QP h]
theorem an0{A α:Type}{a b:A}{x:Option α}{Q:α->Prop}:Ok (zu a b x) Q↔a=b/\Ok x Q:=by
 unfold zu;split
 .rename_i e;exact⟨λh=>⟨e,h⟩,λh=>h.2⟩
 .rename_i e;exact⟨λ⟨_,h,_⟩=>(by cases h),λh=>absurd h.1 e⟩
theorem goK{A α:Type}{a b:A}{x:Option α}{Q:α->Prop}(e:a=b)(h:Ok x Q):Ok (zu a b x) Q:=an0.2 ⟨e,h⟩
def jo(fs:List aH):List (List UInt8×Nat):=fs.map λf=>(f.name,f.params.length)
def PG(a:Bool)(g:List aF)(nm:List UInt8):Prop :=∃x∈g,x.name=nm/\decide (0<x.size)=a
def NV(g:List aF)(lo:List (List UInt8))(nm:List UInt8):Prop:=nm∈lo\/PG zv g nm
inductive RX(g:List aF)(sg:List (List UInt8×Nat))(lo:List (List UInt8)):Nat->aU->Prop
 |leaf {n:Nat} {k o v i:Int} {nm:List UInt8}:k=1\/k=12->RX g sg lo (n+1) (aU.mk k o v i nm [])
 |name {n:Nat} {o v i:Int} {nm:List UInt8}:NV g lo nm->RX g sg lo (n+1) (aU.mk 13 o v i nm [])
 |func {n:Nat} {o v i:Int} {nm:List UInt8} {q:Nat}:(nm,q)∈sg->RX g sg lo (n+1) (aU.mk 11 o v i nm [])
 |elem {n:Nat} {o v i:Int} {nm:List UInt8} {a:aU}:PG zj g nm->RX g sg lo n a->RX g sg lo (n+1) (aU.mk 4 o v i nm [a])
 |un {n:Nat} {o v i:Int} {nm:List UInt8} {a:aU}:o=1\/o=2->RX g sg lo n a->RX g sg lo (n+1) (aU.mk 5 o v i nm [a])
 |bin {n:Nat} {o v i:Int} {nm:List UInt8} {a b:aU}:3<=o/\o<=11->RX g sg lo n a->RX g sg lo n b->RX g sg lo (n+1) (aU.mk 6 o v i nm [a,b])
 |lazy {n:Nat} {k o v i:Int} {nm:List UInt8} {a b:aU}:k=7\/k=8->RX g sg lo n a->RX g sg lo n b->RX g sg lo (n+1) (aU.mk k o v i nm [a,b])
 |call {n:Nat} {o v i:Int} {nm:List UInt8} {ar:List aU}:1<=n->(nm,ar.length)∈sg\/NV g lo nm->ar.length<=2->(∀y∈ar,RX g sg lo n y)->RX g sg lo (n+1) (aU.mk 9 o v i nm ar)
 |value {n:Nat} {o v i:Int} {nm:List UInt8} {f:aU} {ar:List aU}:ar.length<=2->RX g sg lo n f->(∀y∈ar,RX g sg lo n y)->RX g sg lo (n+1) (aU.mk 10 o v i nm (f::ar))
theorem NV.mono{g:List aF}{lo j:List (List UInt8)}{nm:List UInt8}(m :∀x∈lo,x∈j)(h:NV g lo nm):NV g j nm:=h.imp (m nm) id
theorem RX.up{g:List aF}{sg:List (List UInt8×Nat)}{lo:List (List UInt8)}{n:Nat}{x:aU}(h:RX g sg lo n x):RX g sg lo (n+1) x:=by
 induction h with
 |leaf h=>exact .leaf h
 |name h=>exact .name h
 |func h=>exact .func h
 |elem h _ j=>exact .elem h j
 |un h _ j=>exact .un h j
 |bin h _ _ i1 i2=>exact .bin h i1 i2
 |lazy h _ _ i1 i2=>exact .lazy h i1 i2
 |call m q w _ j=>exact .call (by omega) q w j
 |value m _ _ i1 i2=>exact .value m i1 i2
structure Env(l:List Int)(g:List aF)(fs:List aH)(lo:List (List UInt8)):Prop where
 b:Bytes l
 g:g.length<=100
 f0:0<fs.length
 f1:fs.length<=100
 fp :∀f∈fs,f.params.length<=2
 lo:lo.length<=100
section
variable {l:List Int} {g:List aF} {fs:List aH} {lo:List (List UInt8)}
theorem ajX{a:Bool}{b i:Int}(h:Env l g fs lo)(hi:0<=i):Ok (aal a b l i g fs lo) λy=>∃nm t j,0<=j/\(t=zj->PG a g nm)/\y=(nm,t,b,l,j,g,fs,lo):=by
 unfold aal;refine bF (λy=>∃nm t j,0<=j/\(t=zj->PG a g nm)/\y=(nm,t,b,l,j,g,fs,lo)) ?_ λy ⟨nm,t,j,z,hn,e⟩=>by subst e;exact bK (by simp) (bK (by simp) (bK (by simp) (aI ⟨nm,t,j,z,hn,rfl⟩)))
 have hg:=h.g;refine bF (λs=>s.length<=100/\∀x∈s,PG a g x) ?_ λs ⟨Z,hn⟩=>?_
 .refine bD (λs:Int×List (List UInt8)=>(0<=s.1/\s.1<=g.length/\s.2.length<=s.1)/\∀x∈s.2,PG a g x) (λs=>(g.length-s.1).toNat) ⟨⟨by simp,by simp,by simp⟩,λx hx=>by cases hx⟩ λ⟨q,s⟩ ⟨⟨B,N,T⟩,w⟩=>?_;simp only at B N T w;refine dA (λm=>?_) (λm=>aI ⟨by simp only;omega,w⟩);have m:q<g.length:=by simpa using m
  have H:g.getD q.toNat (aF.mk bJ 0)∈g:=by rw[getD_at _ (by omega:q.toNat<g.length)];exact Xs _
  refine bK (aC.2 ⟨B,m⟩) (bF (λJ=>J.length<=s.length+1/\∀x∈J,PG a g x) ?_ λJ ⟨U,K⟩=>aI ⟨⟨⟨?_,?_,?_⟩,K⟩,?_⟩)
  .refine dA (λX=>bK (aC.2 ⟨B,m⟩) (bK (by unfold aV;simp;omega) (aI ⟨by simp,λx hx=>?_⟩))) λ_=>aI ⟨by simp,w⟩;rcases Z0.1 hx with hx|hx
   .exact w x hx
   .rw [X2]at hx;subst hx;exact⟨_,H,rfl,by simpa using X⟩
  all_goals simp only[aG (x:=q+1) (by omega)];omega
 refine dA (λ_=>aI ⟨_,_,_,hi,λh=>(by cases h),rfl⟩) λm=>?_;have M:0<s.length:=by
  simp at m;cases s with
  |nil=>exact absurd rfl m
  |cons a s=>simp
 refine goN h.b hi (by omega) λx j z Y L=>bK (aC.2 ⟨Y,L (by omega)⟩) (aI ⟨_,_,_,z,λ_=>?_,rfl⟩);have L:=L (by omega);exact hn _ (by rw[getD_at _ (by omega:x.toNat<s.length)];exact Xs _)
theorem goP{β:Type}{a:Bool}{b i:Int}{f:List UInt8×Bool×Int×List Int×Int×List aF×List aH×List (List UInt8)->Option β}{Q:β->Prop}(h:Env l g fs lo)(hi:0<=i)
  (k :∀nm t j,0<=j->(t=zj->PG a g nm)->Ok (f (nm,t,b,l,j,g,fs,lo)) Q):Ok (Option.bind (f146 a b l i g fs lo) f) Q:=by
 refine bF (λy=>∃nm t j,0<=j/\(t=zj->PG a g nm)/\y=(nm,t,b,l,j,g,fs,lo)) ?_ λy ⟨nm,t,j,m,hn,e⟩=>by subst e;exact k nm t j m hn
 exact bF _ (ajX h hi) λy ⟨nm,t,j,m,hn,e⟩=>by subst e;exact goK rfl (goK rfl (goK rfl (aI ⟨nm,t,j,m,hn,rfl⟩)))
theorem ajY{b i:Int}(h:Env l g fs lo)(hi:0<=i):Ok (aam b l i g fs lo) λy=>∃k v nm j,0<=j/\RX g (jo fs) lo 1 (aU.mk k 0 v 0 nm [])/\y=(k,0,v,0,nm,b,l,j,g,fs,lo):=by
 unfold aam;refine bF (λy=>∃k v nm j,0<=j/\RX g (jo fs) lo 1 (aU.mk k 0 v 0 nm [])/\y=(k,0,v,0,nm,b,l,j,g,fs,lo)) ?_ λy ⟨k,v,nm,j,m,B,e⟩=>by subst e;exact bK (by simp) (bK (by simp) (bK (by simp) (aI ⟨k,v,nm,j,m,B,rfl⟩)))
 refine goN h.b hi (by omega) λN j0 q _ _=>dA (λ_=>aI ⟨12,_,_,_,q,.leaf (.inr rfl),rfl⟩) λ_=>iI (λy=>∃j,0<=j/\y=(b,l,j)) ?_ λy ⟨j,m,e⟩=>?_
 .refine dA (λ_=>goP h q λnm t j m hn=>dA (λH=>aI ⟨13,_,_,_,m,.name (.inr (hn H)),rfl⟩) λ_=>aI ⟨_,m,rfl⟩) λ_=>bF (λ_=>True) ?_ λs _=>iI (λ_=>True) ?_ λ_ _=>aI ⟨_,q,rfl⟩
  .exact dA (λ_=>aI trivial) λ_=>aI trivial
  .refine dA (λ_=>dA (λ_=>goN h.b q (by have:=h.lo;omega) λx j m J a2=>?_) λ_=>aI trivial) λ_=>aI trivial;rename_i w;have w:0<lo.length:=by simpa using w
   have a2:=a2 (by omega);exact bK (aC.2 ⟨J,a2⟩) (aI ⟨13,_,_,_,m,.name (.inl (by rw[getD_at _ (by omega:x.toNat<lo.length)];exact Xs _)),rfl⟩)
 subst e;refine goN h.b m (by omega) λT j1 K _ _=>goN h.b K (by omega) λU j2 z _ _=>bF (λy=>∃v j,0<=j/\y=(v,l,j)) ?_ λy ⟨v,j,m,e⟩=>by subst e;exact aI ⟨1,_,_,_,m,.leaf (.inl rfl),rfl⟩
 exact dA (λ_=>goN h.b z (by omega) λX j3 L a3 M=>bK (aC.2 ⟨a3,by have:=M (by omega);simp;omega⟩) (aI ⟨_,_,L,rfl⟩)) λ_=>aI ⟨_,_,z,rfl⟩
theorem goL{β:Type}{b i:Int}{f:Int×Int×Int×Int×List UInt8×Int×List Int×Int×List aF×List aH×List (List UInt8)->Option β}{Q:β->Prop}(h:Env l g fs lo)(hi:0<=i)
  (k :∀q v nm j,0<=j->RX g (jo fs) lo 1 (aU.mk q 0 v 0 nm [])->Ok (f (q,0,v,0,nm,b,l,j,g,fs,lo)) Q):Ok (Option.bind (f151 b l i g fs lo) f) Q:=by
 refine bF (λy=>∃k v nm j,0<=j/\RX g (jo fs) lo 1 (aU.mk k 0 v 0 nm [])/\y=(k,0,v,0,nm,b,l,j,g,fs,lo)) ?_ λy ⟨q,v,nm,j,m,w,e⟩=>by subst e;exact k q v nm j m w
 exact bF _ (ajY h hi) λy ⟨q,v,nm,j,m,w,e⟩=>by subst e;exact goK rfl (goK rfl (goK rfl (aI ⟨q,v,nm,j,m,w,rfl⟩)))
theorem RX.agG{g:List aF}{sg:List (List UInt8×Nat)}{lo:List (List UInt8)}{x:aU}(h:RX g sg lo 1 x):∀n,RX g sg lo (n+1) x
 |0=>h
 |n+1=>(h.agG n).up
def PE(n:Nat)(b:Int)(l:List Int)(g:List aF)(fs:List aH)(lo:List (List UInt8))(y:Int×Int×Int×Int×List UInt8×List aU×Int×List Int×Int×List aF×List aH×List (List UInt8)):Prop:=∃x j,y=(x.kind,x.op,x.value,x.line,x.name,x.args,b,l,j,g,fs,lo)/\0<=j/\RX g (jo fs) lo n x
def PC(n:Nat)(b:Int)(l:List Int)(g:List aF)(fs:List aH)(lo:List (List UInt8))(y:Int×Int×Int×Int×List UInt8×Int×List Int×Int×List aF×List aH×List (List UInt8)×List aU):Prop:=∃x j,y=(x.kind,x.op,x.value,x.line,x.name,b,l,j,g,fs,lo,x.args)/\0<=j/\RX g (jo fs) lo n x
theorem aaP{n:Nat}{p b i:Int}{r}(h:Ok r (PE n b l g fs lo)):Ok (ajB p b l i g fs lo r) (PE n b l g fs lo):=bF _ h λy ⟨x,j,e,h⟩=>by subst e;exact goK rfl (goK rfl (goK rfl (aI ⟨x,j,rfl,h⟩)))
theorem aaQ{n:Nat}{p b i:Int}{r}(h:Ok r (PC n b l g fs lo)):Ok (ajC p b l i g fs lo r) (PC n b l g fs lo):=bF _ h λy ⟨x,j,e,h⟩=>by subst e;exact goK rfl (goK rfl (goK rfl (aI ⟨x,j,rfl,h⟩)))
theorem goX{β:Type}{rec:RQ}{d n:Nat}(h :∀b i,0<=i->Ok (rec d b l i g fs lo) (PE n b l g fs lo)){q b i:Int}{f}{Q:β->Prop}(m:q=d)(hi:0<=i)
  (k :∀k o v i nm ar j,0<=j->RX g (jo fs) lo n (aU.mk k o v i nm ar)->Ok (f (k,o,v,i,nm,ar,b,l,j,g,fs,lo)) Q):Ok (Option.bind (rec q b l i g fs lo) f) Q:=by
 subst m;exact bF _ (h b i hi) λy ⟨⟨B,a2,a3,a4,a5,H⟩,j,e,w,z⟩=>by subst e;exact k _ _ _ _ _ _ j w z
theorem arQ{β:Type}{rec:RU}{d n:Nat}(h :∀b i,0<=i->Ok (rec d b l i g fs lo) (PC n b l g fs lo)){q b i:Int}{f}{Q:β->Prop}(m:q=d)(hi:0<=i)
  (k :∀k o v i nm ar j,0<=j->RX g (jo fs) lo n (aU.mk k o v i nm ar)->Ok (f (k,o,v,i,nm,b,l,j,g,fs,lo,ar)) Q):Ok (Option.bind (rec q b l i g fs lo) f) Q:=by
 subst m;exact bF _ (h b i hi) λy ⟨⟨B,a2,a3,a4,a5,H⟩,j,e,w,z⟩=>by subst e;exact k _ _ _ _ _ _ j w z
theorem PY{rec:RQ}{J:RU}{d:Nat}(h:Env l g fs lo)(hd:d<=100)(hr :∀b i,0<=i->Ok (rec d b l i g fs lo) (PE (d+1) b l g fs lo)){b i:Int}(hi:0<=i):
  Ok (aax rec J (d+1:Nat) b l i g fs lo) (PC (d+2) b l g fs lo):=by
 have hw:bT (((d+1:Nat):Int)-1)=d:=by rw[aG (by omega)];omega
 have hf0:=h.f0;have hf1:=h.f1;unfold aax;refine bF (PC (d+2) b l g fs lo) ?_ λy ⟨x,j,e,h⟩=>by subst e;exact bK (by simp) (bK (by simp) (bK (by simp) (aI ⟨x,j,rfl,h⟩)))
 refine goN h.b hi (by omega) λw j0 h0 a0 N=>bK (aC.2 ⟨a0,N (by omega)⟩) (goN h.b h0 (by omega) λK j1 h1 a1 b1=>?_);have N:=N (by omega);have L:fs.getD w.toNat bM∈fs:=by rw[getD_at _ (by omega:w.toNat<fs.length)];exact Xs _
 have M:((fs.getD w.toNat bM).name,(fs.getD w.toNat bM).params.length)∈jo fs:=XS.2 ⟨_,L,rfl⟩;have hp2:=h.fp _ L;refine bF (λy=>∃t j,0<=j/\(decide (K=2)=zv->t=zv)/\y=(t,l,j)) ?_ λy ⟨t,j2,h2,ht,e⟩=>?_
 .exact dA (λB=>goN h.b h1 (by omega) λx j m _ _=>aI ⟨_,_,m,λh=>Bool.noConfusion (h.symm.trans B),rfl⟩) λ_=>aI ⟨_,_,h1,λ_=>rfl,rfl⟩
 subst e;refine bF (λy=>∃(q:Int) (j:Int),0<=j/\(0<=q/\q<=2)/\(t=zv->q=(fs.getD w.toNat bM).params.length)/\y=(q,l,j)) ?_ λy ⟨q,j3,h3,T,U,e⟩=>?_
 .refine dA (λB=>goN h.b h2 (by omega) λx j m c0 c=>aI ⟨x,_,m,⟨c0,by have:=c (by omega);omega⟩,λh=>Bool.noConfusion (h.symm.trans B),rfl⟩) λ_=>aI ⟨_,_,h2,?_,λ_=>rfl,rfl⟩;show 0<=((fs.getD w.toNat bM).params.length:Int)/\((fs.getD w.toNat bM).params.length:Int)<=2;omega
 subst e;refine bF (λy=>∃j ar,0<=j/\(ar.length:Int)=q/\(∀x∈ar,RX g (jo fs) lo (d+1) x)/\y=(b,l,j,ar)) ?_ λy ⟨j4,ar,h4,l1,X,e⟩=>?_
 .refine bD (λs:Int×Int×List Int×Int×List aU=>∃j,0<=j/\0<=s.1/\s.1<=q/\(s.2.2.2.2.length:Int)=s.1/\(∀x∈s.2.2.2.2,RX g (jo fs) lo (d+1) x)/\s=(s.1,b,l,j,s.2.2.2.2)) (λs=>(q-s.1).toNat)
   ⟨j3,h3,by simp,T.1,by simp,λx H=>(by cases H),rfl⟩ λ⟨c,b',l',j',ar⟩ ⟨j,m,e1,e2,e3,Y,e⟩=>?_
  simp only at e1 e2 e3 Y;injection e with _ e;injection e with f1 e;injection e with f2 e;injection e with f3 e
  subst f1;subst f2;subst f3;refine dA (λB=>?_) (λB=>aI ⟨j',ar,m,by have:¬ c<q:=(by simpa using B);omega,Y,rfl⟩);have B:c<q:=by simpa using B
  refine goX hr hw m λ_ _ _ _ _ _ j m H=>bK (by unfold aV;simp;omega) (aI ⟨⟨j,m,?_,?_,?_,λz hz=>?_,rfl⟩,?_⟩)
  all_goals try simp only[aG (x:=c+1) (by omega)]
  .omega
  .omega
  .simp;omega
  .rcases Z0.1 hz with hz|hz
   .exact Y z hz
   .rw [X2]at hz;subst hz;exact H
  .omega
 subst e;refine dA (λhn=>aI ⟨aU.mk 9 0 0 0 _ ar,j4,rfl,h4,.call (by omega) (.inl ?_) (by omega) X⟩) λ_=>goN h.b h4 (by omega) λZ j5 h5 _ _=>?_
 .have hn:decide (K=2)=zv:=by simpa using hn
  have:=U (ht hn);rw[show ar.length=(fs.getD w.toNat bM).params.length from by omega];exact M
 refine bF (λy=>∃x j,0<=j/\RX g (jo fs) lo (d+1) x/\y=(b,l,j,x.kind,x.op,x.value,x.line,x.name,x.args)) ?_ λy ⟨⟨K,x2,x3,x4,Z,x6⟩,j6,h6,H,e⟩=>?_
 .refine dA (λ_=>goX hr hw h5 λ_ _ _ _ _ _ j m H=>aI ⟨aU.mk _ _ _ _ _ _,j,m,H,rfl⟩) λ_=>aI ⟨aU.mk 11 0 0 0 _ qP,j5,h5,.func M,rfl⟩
 subst e;refine dA (λhk=>aI ⟨aU.mk 9 0 0 0 Z ar,j6,rfl,h6,.call (by omega) (.inr ?_) (by omega) X⟩) λ_=>bK (by unfold aV;simp;omega) (aI ⟨aU.mk 10 0 0 0 bJ (aU.mk K x2 x3 x4 Z x6::ar),j6,rfl,h6,.value (by omega) H X⟩);have hk:K=13:=by simpa using hk
 subst hk;cases H with
 |leaf h=>omega
 |name h=>exact h
 |lazy h _ _=>omega
theorem ac7{rec:RQ}{z:RU}{d:Nat}(h:Env l g fs lo)(hd:d<=100)(B :∀b i,0<=i->Ok (rec d b l i g fs lo) (PE (d+1) b l g fs lo))
  (N :∀b i,0<=i->Ok (z (d+1:Nat) b l i g fs lo) (PC (d+2) b l g fs lo)) {b i:Int} (hi:0<=i) :
  Ok (PI rec z (d+1:Nat) b l i g fs lo) (PE (d+2) b l g fs lo):=by
 have H:bT (((d+1:Nat):Int)-1)=d:=by rw[aG (by omega)];omega
 unfold PI;refine bF (PE (d+2) b l g fs lo) ?_ λy ⟨x,j,e,h⟩=>by subst e;exact bK (by simp) (bK (by simp) (bK (by simp) (aI ⟨x,j,rfl,h⟩)))
 refine bF (λy=>∃t j,0<=j/\y=(t,l,j)) ?_ λy ⟨t,j2,M,e⟩=>?_
 .exact dA (λ_=>aI ⟨_,_,hi,rfl⟩) λ_=>goN h.b hi (by omega) λx j m _ _=>aI ⟨_,_,m,rfl⟩
 subst e;refine dA (λ_=>goL h M λq v L j m T=>aI ⟨aU.mk q 0 v 0 L [],j,rfl,m,T.agG _⟩) λ_=>goN h.b M (by omega) λx3 j3 J _ _=>?_;refine dA (λ_=>goN h.b J (by omega) λx4 j4 U a4 X=>goX B H U λ_ _ _ _ _ _ j m w=>eP rfl (aI ⟨aU.mk 5 _ 0 0 bJ [_],j,rfl,m,.un (by have:=X (by omega);rw[aG (by omega)];omega) w⟩)) λ_=>?_;refine dA (λ_=>goX B H J λ_ _ _ _ _ _ j m w=>goX B H m λ_ _ _ _ _ _ j m K=>eP rfl (aI ⟨aU.mk 7 _ 0 0 bJ [_,_],j,rfl,m,.lazy (.inl rfl) w K⟩)) λ_=>?_;refine dA (λ_=>goX B H J λ_ _ _ _ _ _ j m w=>goX B H m λ_ _ _ _ _ _ j m K=>eP rfl (aI ⟨aU.mk 8 _ 0 0 bJ [_,_],j,rfl,m,.lazy (.inr rfl) w K⟩)) λ_=>?_;refine bF (λ_=>True) ?_ λs _=>?_
 .exact dA (λ_=>aI trivial) λ_=>aI trivial
 refine dA (λ_=>arQ N rfl J λ_ _ _ _ _ _ j m w=>aI ⟨aU.mk _ _ _ _ _ _,j,rfl,m,w⟩) λ_=>iI (λy=>∃j,0<=j/\y=(b,l,j)) ?_ λy ⟨j,m,e⟩=>?_
 .exact dA (λ_=>goP h J λL t j m hn=>dA (λY=>goX B H m λ_ _ _ _ _ _ j m w=>aI ⟨aU.mk 4 0 0 0 L [_],j,rfl,m,.elem (hn Y) w⟩) λ_=>aI ⟨_,m,rfl⟩) λ_=>aI ⟨_,J,rfl⟩
 subst e;exact goN h.b m (by omega) λx5 j5 Z a5 b5=>goX B H Z λ_ _ _ _ _ _ j m w=>goX B H m λ_ _ _ _ _ _ j m K=>eP rfl (aI ⟨aU.mk 6 _ 0 0 bJ [_,_],j,rfl,m,.bin (by have:=b5 (by omega);rw[aG (by omega)];omega) w K⟩)
theorem ac8{rec:RQ}{m:RU}(h:Env l g fs lo){b i:Int}(hi:0<=i):Ok (PI rec m (0:Nat) b l i g fs lo) (PE 1 b l g fs lo):=by
 unfold PI;refine bF (PE 1 b l g fs lo) ?_ λy ⟨x,j,e,h⟩=>by subst e;exact bK (by simp) (bK (by simp) (bK (by simp) (aI ⟨x,j,rfl,h⟩)))
 refine bF (λy=>y=(zj,l,i)) ?_ λy e=>?_
 .exact goT (YY (by simp)) (aI rfl)
 subst e;exact goT rfl (goL h hi λq v w j z B=>aI ⟨aU.mk q 0 v 0 w [],j,rfl,z,B⟩)
theorem PZ(n:Nat):(qj (n+1)).1=PI (aay n) (aaz n):=rfl
theorem P5(n:Nat):(qj (n+1)).2=aax (aay n) (aaz n):=rfl
theorem zV(h:Env l g fs lo):∀d:Nat,d<=100->∀n,2*d+1<=n->(∀b i,0<=i->Ok (aay n d b l i g fs lo) (PE (d+1) b l g fs lo))/\∀e,e+1=d->∀b i,0<=i->Ok (aaz n d b l i g fs lo) (PC (d+1) b l g fs lo)
 |_,_,0,hn=>by omega
 |0,_,n+1,hn=>⟨λb i j=>aaP (by rw[PZ];exact ac8 h j),λe y=>by omega⟩
 |d+1,hd,n+1,hn=>by have w:=zV h d (by omega) n (by omega);obtain⟨m,rfl⟩ :∃m,n=m+1:=⟨n-1,by omega⟩;have q:=zV h d (by omega) m (by omega);refine⟨λb i j=>aaP (by rw[PZ];exact ac7 h (by omega) w.1 (λb i j=>aaQ (by rw[P5];exact PY h (by omega) q.1 j)) j),λe y b i j=>aaQ (by rw[P5];exact PY h (by omega) w.1 j)⟩
end
def frN:List (List UInt8):=[[97],[98],[99],[100],[101],[102],[105],[107]]
inductive Ch{S:Type}(P:List (List UInt8)->S->List (List UInt8)->Nat->Nat->Prop):List (List UInt8)->List S->List (List UInt8)->Nat->Nat->Prop
 |nil {lo:List (List UInt8)}:Ch P lo [] lo 0 0
 |cons {lo l1 l2:List (List UInt8)} {s:S} {ss:List S} {c1 c2 k1 k2:Nat}:P lo s l1 c1 k1->Ch P l1 ss l2 c2 k2->Ch P lo (s::ss) l2 (c1+c2) (k1+k2)
theorem Ch.snoc{S:Type}{P:List (List UInt8)->S->List (List UInt8)->Nat->Nat->Prop}{lo l1 l2:List (List UInt8)}{j:List S}{s:S}{c1 c2 k1 m:Nat}(h:Ch P lo j l1 c1 k1)(hs:P l1 s l2 c2 m):Ch P lo (j++[s]) l2 (c1+c2) (k1+m):=by
 induction h with
 |nil=>have:=Ch.cons hs (Ch.nil (P:=P));simpa using this
 |cons a _ q=>rw[J1,J1];exact .cons a (q hs)
inductive RS1(g:List aF)(sg:List (List UInt8×Nat))(P:List (List UInt8)->dw->List (List UInt8)->Nat->Nat->Prop)(lo:List (List UInt8)):dw->List (List UInt8)->Nat->Nat->Prop
 |var {i:Int} {nm:List UInt8} {x:aU}:nm∈frN->¬ nm∈lo->RX g sg lo 3 x->RS1 g sg P lo (dw.mk 1 i nm [x] [] []) (lo++[nm]) 1 1
 |assign {i:Int} {nm:List UInt8} {x:aU}:NV g lo nm->RX g sg lo 3 x->RS1 g sg P lo (dw.mk 2 i nm [x] [] []) lo 1 1
 |step {i o v w u i2 i3:Int} {nm n2 n3:List UInt8}:NV g lo nm->RS1 g sg P lo (dw.mk 2 i nm [aU.mk 6 3 o v n2 [aU.mk 13 w u i2 nm [],aU.mk 1 0 1 i3 n3 []]] [] []) lo 0 1
 |store {i:Int} {nm:List UInt8} {x z:aU}:PG zj g nm->RX g sg lo 2 x->RX g sg lo 3 z->RS1 g sg P lo (dw.mk 3 i nm [x,z] [] []) lo 1 1
 |if' {i:Int} {nm:List UInt8} {x:aU} {th el:List dw} {l1 l2:List (List UInt8)} {c1 c2 k1 k2:Nat}:RX g sg lo 3 x->th.length<=10->el.length<=10->Ch P lo th l1 c1 k1->Ch P l1 el l2 c2 k2->RS1 g sg P lo (dw.mk 4 i nm [x] th el) l2 (1+c1+c2) (1+k1+k2)
 |sF {i:Int} {nm:List UInt8} {x:aU} {th:List dw} {l1:List (List UInt8)} {c1 k1:Nat}:RX g sg lo 3 x->th.length<=10->Ch P lo th l1 c1 k1->RS1 g sg P lo (dw.mk 5 i nm [x] th []) l1 (1+c1) (1+k1)
 |plain {k i:Int} {nm:List UInt8} {x:aU}:k=6\/k=7\/k=8->RX g sg lo 3 x->RS1 g sg P lo (dw.mk k i nm [x] [] []) lo 1 1
def RS(g:List aF)(sg:List (List UInt8×Nat)):Nat->List (List UInt8)->dw->List (List UInt8)->Nat->Nat->Prop
 |0=>λ_ _ _ _ _=>False
 |n+1=>λlo s h c k=>RS1 g sg (RS g sg n) lo s h c k
theorem Ch.mono{S:Type}{P:List (List UInt8)->S->List (List UInt8)->Nat->Nat->Prop}(m :∀lo s l1 c k,P lo s l1 c k->∀x∈lo,x∈l1){lo l1:List (List UInt8)}{q:List S}{c k:Nat}(h:Ch P lo q l1 c k):∀x∈lo,x∈l1:=by
 induction h with
 |nil=>exact λx j=>j
 |cons a _ w=>exact λx j=>w x (m _ _ _ _ _ a x j)
theorem JC{g:List aF}{sg:List (List UInt8×Nat)}:∀n lo s l1 c k,RS g sg n lo s l1 c k->∀x∈lo,x∈l1
 |0,_,_,_,_,_,h=>h.elim
 |n+1,lo,s,l1,c,k,h=>by
  have m:=JC (g:=g) (sg:=sg) n;cases (show RS1 g sg (RS g sg n) lo s l1 c k from h)with
  |var _ _ _=>exact λx j=>W6 _ j
  |assign _ _=>exact λx j=>j
  |step _=>exact λx j=>j
  |store _ _ _=>exact λx j=>j
  |if' _ _ _ a b=>exact λx j=>b.mono m x (a.mono m x j)
  |sF _ _ a=>exact λx j=>a.mono m x j
  |plain _ _=>exact λx j=>j
theorem Sm{g:List aF}{sg:List (List UInt8×Nat)}{n:Nat}{lo l1:List (List UInt8)}{j:List dw}{c k:Nat}(h:Ch (RS g sg n) lo j l1 c k):∀x∈lo,x∈l1:=h.mono (JC n)
theorem ql{α:Type}{P:α->Prop}{x:α}(h:P x):∀y∈[x],P y:=λy j=>by rw[X2]at j;subst j;exact h
structure Yr(k:Int)(l:List Int)(g:List aF)(fs:List aH):Prop where
 b:Bytes l
 g:g.length<=100
 f0:0<fs.length
 f1:fs.length<=100
 fp :∀f∈fs,f.params.length<=2
 k:k<=100
section
variable {kk:Int} {l:List Int} {g:List aF} {fs:List aH}
theorem Yr.env(h:Yr kk l g fs){lo:List (List UInt8)}(j:(lo.length:Int)<=kk):Env l g fs lo:=⟨h.b,h.g,h.f0,h.f1,h.fp,by have:=h.k;omega⟩
def PS(n:Nat)(kk:Int)(l:List Int)(g:List aF)(fs:List aH)(lo0:List (List UInt8))(b0:Int)(y:Int×Int×List UInt8×Int×List Int×Int×List aF×List aH×List aU×List dw×List dw×List (List UInt8)):Prop:=∃k i h es m el b j lo,y=(k,i,h,b,l,j,g,fs,es,m,el,lo)/\0<=j/\(0<=b/\lo.length+b<=kk)/\∃c q:Nat,RS g (jo fs) n lo0 (dw.mk k i h es m el) lo c q/\(c:Int)+b<=b0+1/\(q:Int)+2*b<=2*b0+2
def PL(n:Nat)(kk:Int)(l:List Int)(g:List aF)(fs:List aH)(lo0:List (List UInt8))(b0:Int)(y:Int×Int×List UInt8×Int×List Int×Int×List aF×List aH×List aU×List dw×List (List UInt8)):Prop:=∃k i h es m b j lo,y=(k,i,h,b,l,j,g,fs,es,m,lo)/\0<=j/\(0<=b/\lo.length+b<=kk)/\∃c q:Nat,RS g (jo fs) n lo0 (dw.mk k i h es m []) lo c q/\(c:Int)+b<=b0+1/\(q:Int)+2*b<=2*b0+2
def PB(n:Nat)(m kk:Int)(l:List Int)(g:List aF)(fs:List aH)(lo0:List (List UInt8))(b0:Int)(y:Int×List Int×Int×List aF×List aH×List dw×List (List UInt8)):Prop:=∃h b j lo,y=(b,l,j,g,fs,h,lo)/\0<=j/\(0<=b/\lo.length+b<=kk)/\(h.length<=10/\h.length<=m)/\∃c q:Nat,Ch (RS g (jo fs) n) lo0 h lo c q/\(c:Int)+b<=b0/\(q:Int)+2*b<=2*b0
theorem ajZ{n:Nat}{p m w b i b0:Int}{lo q r}(h:Ok r (PB n m kk l g fs q b0)):Ok (agw p w b l i g fs lo r) (PB n m kk l g fs q b0):=bF _ h λy ⟨z,b,j,lo,e,h⟩=>by subst e;exact goK rfl (goK rfl (aI ⟨z,b,j,lo,rfl,h⟩))
theorem aj0{n:Nat}{p b i b0:Int}{lo m r}(h:Ok r (PS n kk l g fs m b0)):Ok (agy p b l i g fs lo r) (PS n kk l g fs m b0):=bF _ h λy ⟨k,i,q,es,w,el,b,j,lo,e,h⟩=>by subst e;exact goK rfl (goK rfl (aI ⟨k,i,q,es,w,el,b,j,lo,rfl,h⟩))
theorem aj1{n:Nat}{p b i b0:Int}{lo m r}(h:Ok r (PL n kk l g fs m b0)):Ok (agz p b l i g fs lo r) (PL n kk l g fs m b0):=bF _ h λy ⟨k,i,q,es,w,b,j,lo,e,h⟩=>by subst e;exact goK rfl (goK rfl (aI ⟨k,i,q,es,w,b,j,lo,rfl,h⟩))
theorem aj2{β:Type}{rec:Oi}{d n:Nat}(h :∀m b i lo,m<=4->0<=b->lo.length+b<=kk->0<=i->Ok (rec d m b l i g fs lo) (PB n (max m 0) kk l g fs lo b)){q m b i:Int}{lo f}{Q:β->Prop}(J:q=d)(K:m<=4)(L:0<=b)(M:lo.length+b<=kk)(hi:0<=i)
  (k :∀z B j w (c q:Nat),0<=j->0<=B->w.length+B<=kk->z.length<=4->Ch (RS g (jo fs) n) lo z w c q->(c:Int)+B<=b->(q:Int)+2*B<=2*b->Ok (f (B,l,j,g,fs,z,w)) Q):Ok (Option.bind (rec q m b l i g fs lo) f) Q:=by
 subst J;exact bF _ (h m b i lo K L M hi) λy ⟨z,b,j,lo,e,N,H,Y,c,q,T,U,X⟩=>by subst e;exact k z b j lo c q N H.1 H.2 (by omega) T U X
theorem Wi{β:Type}{lo:List (List UInt8)}(h:Env l g fs lo){b i:Int}{f}{Q:β->Prop}(hi:0<=i)
  (k :∀k o v i nm ar j,0<=j->RX g (jo fs) lo 3 (aU.mk k o v i nm ar)->Ok (f (k,o,v,i,nm,ar,b,l,j,g,fs,lo)) Q):Ok (Option.bind (f145 2 b l i g fs lo) f) Q:=
 goX (rec:=f145) (d:=2) (λb i hi=>(zV h 2 (by omega) 1048576 (by omega)).1 b i hi) rfl hi k
theorem awr{β:Type}{lo:List (List UInt8)}(h:Env l g fs lo){b i:Int}{f}{Q:β->Prop}(hi:0<=i)
  (k :∀k o v i nm ar j,0<=j->RX g (jo fs) lo 2 (aU.mk k o v i nm ar)->Ok (f (k,o,v,i,nm,ar,b,l,j,g,fs,lo)) Q):Ok (Option.bind (f145 1 b l i g fs lo) f) Q:=
 goX (rec:=f145) (d:=1) (λb i hi=>(zV h 1 (by omega) 1048576 (by omega)).1 b i hi) rfl hi k
theorem awt{β:Type}{lo:List (List UInt8)}(h:Env l g fs lo){b i:Int}{f}{Q:β->Prop}(hi:0<=i)
  (k :∀k o v i nm ar j,0<=j->RX g (jo fs) lo 3 (aU.mk k o v i nm ar)->Ok (f (k,o,v,i,nm,b,l,j,g,fs,lo,ar)) Q):Ok (Option.bind (f148 2 b l i g fs lo) f) Q:=
 arQ (rec:=f148) (d:=2) (λb i hi=>(zV h 2 (by omega) 1048576 (by omega)).2 1 rfl b i hi) rfl hi k
theorem agH{b i:Int}{lo:List (List UInt8)}(T:lo.length<=100):Ok (f143 b l i g fs lo) λy=>∃nm t,(t=zj->nm∈frN/\¬ nm∈lo)/\y=(nm,t,b,l,i,g,fs,lo):=by
 refine bF (λy=>∃nm t,(t=zj->nm∈frN/\¬ nm∈lo)/\y=(nm,t,b,l,i,g,fs,lo)) ?_ λy ⟨nm,t,hn,e⟩=>by subst e;exact goK rfl (goK rfl (goK rfl (aI ⟨nm,t,hn,rfl⟩)))
 unfold agq;refine bF (λy=>∃nm t,(t=zj->nm∈frN/\¬ nm∈lo)/\y=(nm,t,b,l,i,g,fs,lo)) ?_ λy ⟨nm,t,hn,e⟩=>by subst e;exact bK (by simp) (bK (by simp) (bK (by simp) (aI ⟨nm,t,hn,rfl⟩)))
 refine eP (y:=frN) rfl ?_;refine iI (λ_=>True) ?_ λ_ _=>aI ⟨_,_,λh=>(by cases h),rfl⟩;have q:frN.length=8:=rfl;refine bD (λs:Int=>0<=s/\s<=8) (λs=>(8-s).toNat) ⟨by simp,by simp⟩ λs ⟨w,J⟩=>?_;refine dA (λz=>?_) λ_=>aI trivial;have z:s<8:=by simpa[q]using z
 refine bF (λu=>u=zv->∀k,k<lo.length->lo.getD k bJ≠frN.getD s.toNat bJ) ?_ λy B=>?_
 .refine bD (λt:Bool×Int=>(0<=t.2/\t.2<=lo.length)/\(t.1=zv->∀k:Nat,(k:Int)<t.2->lo.getD k bJ≠frN.getD s.toNat bJ)) (λt=>(lo.length-t.2).toNat) ⟨⟨by simp,by simp⟩,λ_ k m=>by simp only at m;omega⟩ λ⟨u,t⟩ ⟨⟨w,J⟩,H⟩=>?_;simp only at w J H;refine dA (λj=>?_) λj=>aI λhu k m=>H hu k (by have:¬ t<lo.length:=(by simpa using j);omega);have j:t<lo.length:=by simpa using j
  refine bF (λy=>y=zv->u=zv/\lo.getD t.toNat bJ≠frN.getD s.toNat bJ) ?_ λy B=>aI ⟨⟨⟨?_,?_⟩,λe k m=>?_⟩,?_⟩
  .exact dA (λhu=>aI λh=>by cases h) λhu=>bK (aC.2 ⟨w,j⟩) (bK (aC.2 ⟨by assumption,by rw[q];exact z⟩) (aI λh=>⟨hu,λe=>by simp only[e]at h;simp at h⟩))
  .simp only[aG (x:=t+1) (by omega)];omega
  .simp only[aG (x:=t+1) (by omega)];omega
  .obtain ⟨K,L⟩:=B e;simp only[aG (x:=t+1) (by omega)]at m;by_cases U:(k:Int)=t
   .rw [show k=t.toNat from by omega];exact L
   .exact H K k (by omega)
  .simp only[aG (x:=t+1) (by omega)];omega
 .refine dA (λM=>bK (aC.2 ⟨w,by rw[q];exact z⟩) (aI ⟨_,_,λ_=>⟨?_,λN=>?_⟩,rfl⟩)) λ_=>aI ⟨?_,?_⟩
  .rw [getD_at _ (by rw[q];omega:s.toNat<frN.length)];exact Xs _
  .obtain ⟨k,m,e⟩:=WN N;have:=B (by simpa using M) k m;rw[getD_at _ m,e]at this;exact this rfl
  all_goals simp only[aG (x:=s+1) (by omega)];omega
theorem Yt{rec:Oi}{H:VF}{U:VG}{d:Int}{n:Nat}(h:Yr kk l g fs)(X :∀b i lo,0<=b->lo.length+b+1<=kk->0<=i->Ok (H d b l i g fs lo) (PS n kk l g fs lo b))
  {m b i:Int} {lo} (hm:m<=4) (Y:0<=b) (Z:lo.length+b<=kk) (hi:0<=i):Ok (aaA rec H U d m b l i g fs lo) (PB n (max m 0) kk l g fs lo b):=by
 unfold aaA;refine bF (PB n (max m 0) kk l g fs lo b) ?_ λy ⟨B,b,j,lo,e,h⟩=>by subst e;exact bK (by simp) (bK (by simp) (aI ⟨B,b,j,lo,rfl,h⟩))
 refine bF (λy=>∃z j B w,y=(z,l,j,B,w)/\0<=j/\(0<=z/\w.length+z<=kk)/\((B.length:Int)<=max m 0)/\∃c q:Nat,Ch (RS g (jo fs) n) lo B w c q/\(c:Int)+z<=b/\(q:Int)+2*z<=2*b) ?_ λy ⟨z,j,B,w,e,J,K,L,N⟩=>by subst e;exact aI ⟨B,z,j,w,rfl,J,K,⟨by omega,L⟩,N⟩
 refine bD (λs:Int×Int×List Int×Int×List dw×List (List UInt8)=>∃q z j B w,s=(q,z,l,j,B,w)/\0<=j/\(0<=z/\w.length+z<=kk)/\(B.length:Int)=q/\q<=max m 0/\∃c q:Nat,Ch (RS g (jo fs) n) lo B w c q/\(c:Int)+z<=b/\(q:Int)+2*z<=2*b) (λs=>(max m 0-s.1).toNat)
  ⟨0,b,i,[],lo,rfl,hi,⟨Y,Z⟩,rfl,by omega,0,0,.nil,by omega,by omega⟩ λs ⟨q,z,j,B,w,e,J,⟨K,L⟩,N,h5,c0,q0,T,h7,h8⟩=>?_
 subst e;refine bF (λt=>t=zj->q<m/\0<z) ?_ λt ht=>dA (λe=>?_) λ_=>aI ⟨z,j,B,w,rfl,J,⟨K,L⟩,by omega,c0,q0,T,h7,h8⟩
 .exact dA (λh=>aI λh'=>⟨by simpa using h,by simpa using h'⟩) λ_=>aI λh=>by cases h
 obtain⟨t1,t2⟩:=ht e;rw[show bT (z-1)=z-1 from aG (by have:=h.k;omega)];refine bF _ (X (z-1) j w (by omega) (by omega) J) λy ⟨k,i',nm,es,th,el,b2,j',M,e,c1,c2,c3,c4,c5,c6,c7⟩=>?_;subst e;have hk:=h.k;refine bK (by unfold aV;simp;omega) (aI ⟨⟨_,b2,j',_,M,rfl,c1,c2,?_,?_,_,_,T.snoc c5,?_,?_⟩,?_⟩)
 all_goals try simp only[aG (x:=q+1) (by omega)]
 .simp;omega
 .omega
 .omega
 .omega
 .omega
theorem ac9{rec:Oi}{J:VF}{wC:VG}{d n:Nat}(h:Yr kk l g fs)(hd:d<=100)(hr :∀m b i lo,m<=4->0<=b->lo.length+b<=kk->0<=i->Ok (rec d m b l i g fs lo) (PB (n+1) (max m 0) kk l g fs lo b))
  {b i:Int} {lo} (hb:0<=b) (hl:lo.length+b<=kk) (hi:0<=i):Ok (aaC rec J wC (d+1:Nat) b l i g fs lo) (PL (n+2) kk l g fs lo b):=by
 have hw:bT (((d+1:Nat):Int)-1)=d:=by rw[aG (by omega)];omega
 have U:=h.env (lo:=lo) (by omega);have hlo:=U.lo;unfold aaC;refine bF (PL (n+2) kk l g fs lo b) ?_ λy ⟨k,i,H,es,th,b,j,lo,e,h⟩=>by subst e;exact bK (by simp) (bK (by simp) (aI ⟨k,i,H,es,th,b,j,lo,rfl,h⟩))
 refine goP U hi λH t j0 h0 X=>bF (λy=>∃u j,0<=j/\(u=zj->0<lo.length)/\y=(u,l,j)) ?_ λy ⟨u,j,w,hu,e⟩=>?_
 .refine dA (λK=>goN h.b h0 (by omega) λx j w _ _=>aI ⟨_,_,w,λ_=>by simpa using K,rfl⟩) λ_=>aI ⟨_,_,h0,λh=>(by cases h),rfl⟩
 subst e;refine bF (λy=>∃H t j,0<=j/\(t=zj->NV g lo H)/\y=(H,t,l,j)) ?_ λy ⟨H,t,j,w,hn,e⟩=>?_
 .refine dA (λK=>goN h.b w (by omega) λx j w a1 a2=>?_) λ_=>aI ⟨_,_,_,w,λY=>.inr (X Y),rfl⟩;have a2:=a2 (by have:=hu K;omega);exact bK (aC.2 ⟨a1,a2⟩) (aI ⟨_,_,_,w,λ_=>.inl (by rw[getD_at _ (by omega:x.toNat<lo.length)];exact Xs _),rfl⟩)
 subst e;refine bF (λy=>∃Z j,0<=j/\(Z=zv->t=zj)/\y=(Z,l,j)) ?_ λy ⟨Z,j,w,Y,e⟩=>?_
 .exact dA (λ_=>aI ⟨_,_,w,λh=>(by cases h),rfl⟩) λK=>goN h.b w (by omega) λx j w _ _=>aI ⟨_,_,w,λ_=>by simpa using K,rfl⟩
 subst e;refine dA (λ_=>Wi U w λ_ _ _ _ _ _ j w hx=>eP rfl (goN h.b w (by omega) λx j w a1 a2=>aj2 hr hw ?_ hb hl w λss B j z c q c1 c2 c3 c4 T L M=>aI ⟨5,_,_,[_],ss,B,j,z,rfl,c1,⟨c2,c3⟩,_,_,.sF hx (by omega) T,by have L:(c:Int)+B<=b:=L;omega,by have M:(q:Int)+2*B<=2*b:=M;omega⟩)) λhf=>?_
 .have a2:=a2 (by omega);show bT (1+x)<=4;rw[aG (by omega)];omega
 have N:=hn (Y hf);refine goN h.b w (by omega) λx j w _ _=>eP rfl (eP rfl (goN h.b w (by omega) λx2 j2 h2 _ b2=>aj2 hr hw (by have:=b2 (by omega);omega) hb hl h2 λss B j z c q c1 c2 c3 c4 T L M=>eP rfl (eP rfl (bK (by unfold aV;simp;omega) (aI ⟨5,_,_,[_],ss++[_],B,j,z,rfl,c1,⟨c2,c3⟩,_,_,.sF (.bin (show 3<=(8:Int)/\(8:Int)<=11 by omega) (.name N) (.leaf (.inl rfl))) (by simp;omega) (T.snoc (show RS g (jo fs) (n+1) z _ z 0 1 from .step (N.mono λx hx=>Sm T x hx))),by have L:(c:Int)+B<=b:=L;omega,by have M:(q:Int)+2*B<=2*b:=M;omega⟩)))))
end
section
variable {kk:Int} {l:List Int} {g:List aF} {fs:List aH}
theorem ac_{rec:Oi}{Y:VF}{wC:VG}{d:Nat}(h:Yr kk l g fs)(hd:d<=100)(hr :∀e:Nat,e+1=d->∀m b i lo,m<=4->0<=b->lo.length+b<=kk->0<=i->Ok (rec e m b l i g fs lo) (PB (e+1) (max m 0) kk l g fs lo b))
  (hp:0<d->∀b i lo,0<=b->lo.length+b<=kk->0<=i->Ok (wC d b l i g fs lo) (PL (d+1) kk l g fs lo b))
  {b i:Int} {lo} (L:0<=b) (hl:lo.length+b+1<=kk) (hi:0<=i):Ok (aaB rec Y wC d b l i g fs lo) (PS (d+1) kk l g fs lo b):=by
 have H:=h.env (lo:=lo) (by omega);have hlo:=H.lo;unfold aaB;refine bF (PS (d+1) kk l g fs lo b) ?_ λy ⟨k,i,N,es,th,el,b,j,lo,e,h⟩=>by subst e;exact bK (by simp) (bK (by simp) (aI ⟨k,i,N,es,th,el,b,j,lo,rfl,h⟩))
 refine goN h.b hi (by omega) λx0 j0 J _ _=>bF (λ_=>True) ?_ λs3 _=>?_
 .exact dA (λ_=>aI trivial) λ_=>aI trivial
 refine iI (λy=>∃j,0<=j/\y=(b,l,j)) ?_ λy ⟨j,w,e⟩=>?_
 rotate_left
 .subst e;exact Wi H w λ_ _ _ _ _ _ j w z=>eP rfl (aI ⟨7,_,_,[_],[],[],b,j,lo,rfl,w,⟨L,by omega⟩,1,1,.plain (by omega) z,by omega,by omega⟩)
 refine dA (λ_=>bF _ (agH hlo) λy ⟨N,t,hn,e⟩=>?_) λ_=>iI (λy=>∃j,0<=j/\y=(b,l,j)) ?_ λy ⟨j,w,e⟩=>(by subst e;exact aI ⟨j,w,rfl⟩)
 .subst e;refine dA (λU=>Wi H J λ_ _ _ _ _ _ j w z=>eP rfl (bK (by unfold aV;simp;omega) (aI ⟨1,_,_,[_],[],[],b,j,lo++[N],rfl,w,⟨L,by simp;omega⟩,1,1,.var (hn U).1 (hn U).2 z,by omega,by omega⟩))) λ_=>aI ⟨_,J,rfl⟩
 refine dA (λ_=>dA (λZ=>goN h.b J (by omega) λx j w a1 a2=>?_) λ_=>aI ⟨_,J,rfl⟩) λ_=>iI (λy=>∃j,0<=j/\y=(b,l,j)) ?_ λy ⟨j,w,e⟩=>(by subst e;exact aI ⟨j,w,rfl⟩)
 .have a2:=a2 (by have:0<lo.length:=(by simpa using Z);omega);have hv:NV g lo (lo.getD x.toNat bJ):=.inl (by rw[getD_at _ (by omega:x.toNat<lo.length)];exact Xs _);exact bK (aC.2 ⟨a1,a2⟩) (Wi H w λ_ _ _ _ _ _ j w z=>eP rfl (aI ⟨2,_,_,[_],[],[],b,j,lo,rfl,w,⟨L,by omega⟩,1,1,.assign hv z,by omega,by omega⟩))
 refine dA (λ_=>goP H J λN t j w hn=>dA (λU=>Wi H w λ_ _ _ _ _ _ j w z=>eP rfl (aI ⟨2,_,_,[_],[],[],b,j,lo,rfl,w,⟨L,by omega⟩,1,1,.assign (.inr (hn U)) z,by omega,by omega⟩)) λ_=>aI ⟨_,w,rfl⟩) λ_=>iI (λy=>∃j,0<=j/\y=(b,l,j)) ?_ λy ⟨j,w,e⟩=>(by subst e;exact aI ⟨j,w,rfl⟩);refine dA (λ_=>goP H J λN t j w hn=>dA (λU=>awr H w λ_ _ _ _ _ _ j w z=>Wi H w λ_ _ _ _ _ _ j w hz=>aI ⟨3,_,_,[_,_],[],[],b,j,lo,rfl,w,⟨L,by omega⟩,1,1,.store (hn U) z hz,by omega,by omega⟩) λ_=>aI ⟨_,w,rfl⟩) λ_=>bF (λ_=>True) ?_ λs3 _=>iI (λ_=>True) ?_ λ_ _=>aI ⟨_,J,rfl⟩
 .exact dA (λ_=>aI trivial) λ_=>aI trivial
 refine dA (λ_=>dA (λZ=>?_) λ_=>aI trivial) λ_=>iI (λ_=>True) ?_ λ_ _=>aI trivial
 .obtain ⟨e,rfl⟩ :∃e,d=e+1:=⟨d-1,by have:0<d:=(by simpa using Z);omega⟩;have hw:bT (((e+1:Nat):Int)-1)=e:=by rw[aG (by omega)];omega
  have hr:=hr e rfl;have M :∀x:Int,0<=x->(1<=(2:Int)->x<2)->bT (1+x)<=4:=λx h1 X=>by have:=X (by omega);rw[aG (by omega)];omega
  refine Wi H J λ_ _ _ _ _ _ j w z=>eP rfl (goN h.b w (by omega) λx1 j1 h1 a1 b1=>aj2 hr hw (M _ a1 b1) L (show (lo.length:Int)+b<=kk by omega) h1 λss b' j lo' c q c1 T c3 c4 c5 c6 c7=>goN h.b c1 (by omega) λx2 j2 X a2 K=>?_);have c6:(c:Int)+b'<=b:=c6;have c7:(q:Int)+2*b'<=2*b:=c7;refine bF (λy=>∃K j B el,y=(K,l,j,4,0,bJ,B,el)/\0<=j/\(0<=K/\B.length+K<=kk)/\el.length<=4/\∃T q2:Nat,Ch (RS g (jo fs) (e+1)) lo' el B T q2/\(T:Int)+K<=b'/\(q2:Int)+2*K<=2*b') ?_ λy ⟨K,j,B,el,e',d1,d2,d3,e2,q2,d4,d5,d6⟩=>by subst e';exact aI ⟨4,_,_,[_],ss,el,K,j,B,rfl,d1,d2,_,_,.if' z (by omega) (by omega) c5 d4,by omega,by omega⟩
  exact dA (λ_=>goN h.b X (by omega) λx3 j3 h3 a3 b3=>aj2 hr hw (M _ a3 b3) T c3 h3 λss K j B e2 q2 c1 T c3 c4 c5 c6 c7=>aI ⟨K,j,B,ss,rfl,c1,⟨T,c3⟩,c4,e2,q2,c5,c6,c7⟩) λ_=>aI ⟨b',j2,lo',[],rfl,X,⟨T,c3⟩,by simp,0,0,.nil,by omega,by omega⟩
 refine dA (λ_=>dA (λZ=>bF _ (hp (by simpa using Z) b j0 lo L (by omega) J) λy ⟨k,i,N,es,th,b,j,lo,e,h1,X,h3⟩=>by subst e;exact aI ⟨k,i,N,es,th,[],b,j,lo,rfl,h1,X,h3⟩) λ_=>aI trivial) λ_=>dA (λ_=>?_) λ_=>aI trivial;exact goN h.b J (by omega) λx j w _ _=>dA (λ_=>Wi H w λ_ _ _ _ _ _ j w z=>eP rfl (aI ⟨6,_,_,[_],[],[],b,j,lo,rfl,w,⟨L,by omega⟩,1,1,.plain (by omega) z,by omega,by omega⟩)) λ_=>awt H w λ_ _ _ _ _ _ j w z=>eP rfl (aI ⟨8,_,_,[_],[],[],b,j,lo,rfl,w,⟨L,by omega⟩,1,1,.plain (by omega) z,by omega,by omega⟩)
theorem ada(n:Nat):(jK (n+1)).1=aaA (V6 n) (aaD n) (aaE n):=rfl
theorem adb(n:Nat):(jK (n+1)).2.1=aaB (V6 n) (aaD n) (aaE n):=rfl
theorem ade(n:Nat):(jK (n+1)).2.2=aaC (V6 n) (aaD n) (aaE n):=rfl
theorem Wj(h:Yr kk l g fs):∀n:Nat,(∀d:Nat,d<=100->3*d+2<=n->∀m b i lo,m<=4->0<=b->lo.length+b<=kk->0<=i->Ok (V6 n d m b l i g fs lo) (PB (d+1) (max m 0) kk l g fs lo b))/\
  (∀d:Nat,d<=100->3*d+1<=n->∀b i lo,0<=b->lo.length+b+1<=kk->0<=i->Ok (aaD n d b l i g fs lo) (PS (d+1) kk l g fs lo b))/\
  (∀d:Nat,d<=100->0<d->3*d<=n->∀b i lo,0<=b->lo.length+b<=kk->0<=i->Ok (aaE n d b l i g fs lo) (PL (d+1) kk l g fs lo b))
 |0=>⟨λd _ h=>by omega,λd _ h=>by omega,λd _ h H=>by omega⟩
 |n+1=>by
  obtain⟨i1,i2,i3⟩:=Wj h n;refine⟨λd j B m b i lo y q w z=>ajZ (by rw[ada];exact Yt h (i2 d j (by omega)) y q w z),
   λd j B b i lo y q w=>aj0 (by rw[adb];exact ac_ h j (λe J=>i1 e (by omega) (by omega)) (λhd=>i3 d j hd (by omega)) y q w),λd j B y b i lo q w z=>?_⟩
  obtain⟨e,rfl⟩ :∃e,d=e+1:=⟨d-1,by omega⟩;exact aj1 (by rw[ade];exact ac9 h (by omega) (i1 e (by omega) (by omega)) q w z)
end
theorem JD{A R α:Type}{body:A->Option (A ⊕ R)}{Q:R->Prop}{a:A}(j:A->Int)(q:A->List α)(I:A->Prop)(m:Nat)(L:I a)(M:(q a).length+j a<=m)(U:m<=1000)
  (h :∀a,I a->(q a).length<=m->0<j a->(q a).length+j a<=m->Ok (body a) (MW (λw=>I w/\j w=j a-1/\(q w).length=(q a).length+1) Q))
  (N :∀a,I a->(q a).length<=m->¬ 0<j a->Ok (body a) (MW (λ_=>False) Q)) (T:(q a).length<=m):Ok (bn body a) Q:=by
 refine bD (λa=>I a/\(q a).length<=m/\(0<j a->(q a).length+j a<=m)) (λa=>(j a).toNat) ⟨L,T,λ_=>M⟩ λa ⟨J,K,H⟩=>?_;by_cases z:0<j a
 .refine kJ (h a J K z (H z)) λy B=>?_;cases y with
  |inl w=>obtain⟨g1,g2,g3⟩:=B;exact⟨⟨g1,by have:=H z;omega,λ_=>by have:=H z;omega⟩,by omega⟩
  |inr r=>exact B
 .refine kJ (N a J K z) λy B=>?_;cases y with
  |inl w=>exact B.elim
  |inr r=>exact B
def digit(i:Nat):UInt8:=UInt8.ofNat (48+i)
theorem Aq{n:Nat}(h:n<10):f47 (n:Int)=zw [digit n]:=by
 show Ye 1048576 (n:Int)=_;rw[show Ye 1048576=ai_ (Ye 1048575) from rfl];have hn:n=0\/n=1\/n=2\/n=3\/n=4\/n=5\/n=6\/n=7\/n=8\/n=9:=by omega
 rcases hn with rfl|rfl|rfl|rfl|rfl|rfl|rfl|rfl|rfl|rfl<;>rfl
def alE:List UInt8:=[109,97,105,110]
def PN(ps:List (List UInt8)):Prop:=ps.length<=2/\∀k,k<ps.length->ps.getD k bJ=[112,digit k]
def GN(g:List aF):Prop:=g.length<=4/\∀i,i<g.length->(g.getD i (aF.mk bJ 0)).name=[103,digit i]/\0<=(g.getD i (aF.mk bJ 0)).size/\(g.getD i (aF.mk bJ 0)).size<=5
def FN(fs:List aH):Prop:=(0<fs.length/\fs.length<=4)/\(fs.getD 0 bM).params=[]/\∀i,i<fs.length->(fs.getD i bM).name=(if i=0 then alE else[102,digit i])/\PN (fs.getD i bM).params
structure Src(g:List aF)(fs:List aH):Prop where
 gn:GN g
 fn:FN fs
 bd :∀i,i<fs.length->(fs.getD i bM).body.length<=10/\∃lo c q,Ch (RS g (jo fs) 3) (fs.getD i bM).params (fs.getD i bM).body lo c q/\c<=7/\q<=14
theorem mW{α:Type}{l:List α}{x d:α}{i:Nat}:(l++[x]).getD i d=if i<l.length then l.getD i d else if i=l.length then x else d:=by
 rw[Q2,Q2];by_cases h:i<l.length
 .rw [QR h,Wf h]
 .rw [QP h,Wc (by omega)];by_cases e:i=l.length
  .rw [QR e,e];simp
  .rw [QP e,Vn (by simp;omega)];rfl
theorem PN.snoc{ps:List (List UInt8)}(h:PN ps)(m:ps.length<2):PN (ps++[[112]++[digit ps.length]]):=by
 refine⟨by simp;omega,λk j=>?_⟩;rw[mW];simp only[XX,W5]at j;by_cases e:k<ps.length
 .rw [QR e];exact h.2 k e
 .have:k=ps.length:=by omega
  subst this;rw[QP e,QR rfl];rfl
theorem GN.snoc{g:List aF}(h:GN g)(w:g.length<4){z:Int}(j:0<=z)(m:z<=5):GN (g++[aF.mk ([103]++[digit g.length]) z]):=by
 refine⟨by simp;omega,λk q=>?_⟩;rw[mW];simp only[XX,W5]at q;by_cases e:k<g.length
 .rw [QR e];exact h.2 k e
 .have:k=g.length:=by omega
  subst this;rw[QP e,QR rfl];exact⟨rfl,j,m⟩
theorem FN.snoc{fs:List aH}(h:FN fs)(z:fs.length<4){i:Int}{ps:List (List UInt8)}(j:PN ps):FN (fs++[aH.mk ([102]++[digit fs.length]) i ps []]):=by
 obtain⟨⟨m,B⟩,q,w⟩:=h;refine⟨⟨by simp,by simp;omega⟩,by rw[mW,QR m];exact q,λk y=>?_⟩;rw[mW];simp only[XX,W5]at y;by_cases e:k<fs.length
 .rw [QR e];exact w k e
 .have:k=fs.length:=by omega
  subst this;rw[QP e,QR rfl,QP (by omega)];exact⟨rfl,j⟩
theorem FN.mem{fs:List aH}(h:FN fs):∀f∈fs,f.params.length<=2:=λf m=>by obtain⟨i,j,e⟩:=WN m;have:=(h.2.2 i j).2.1;rw[getD_at _ j,e]at this;exact this
theorem adf{l:List Int}{i:Int}(X:Bytes l)(hi:0<=i):Ok (f81 l i) λy=>y.1=l/\0<=y.2.1/\Src y.2.2.1 y.2.2.2:=by
 unfold f81;refine eP rfl (goN X hi (by omega) λx1 j1 h1 a1 b1=>bF (λy=>y.2.length<=2/\GN y.2) ?_ λ⟨z,g0⟩ ⟨hg0,hn0⟩=>?_)
 .have b1:=b1 (by omega);refine JD (λs:Int×Int×List aF=>s.1) (λs=>s.2.2) (λs=>GN s.2.2) 2 ⟨by simp,λi hi=>by simp at hi⟩ (by simp only[Kd];omega) (by omega) (λ⟨q,z,gs⟩ N w h M=>?_) (λ⟨q,z,gs⟩ N w h=>b_ (Qt h) (aI ⟨w,N⟩)) (by simp);simp only at N w h M;refine goT (YY h) (eP (Aq (by simp only;omega)) (bK (pJ.2 (by simp)) (bK (by unfold aV;simp;omega) (aI ⟨N.snoc (by omega) (Uq _) (by omega),aG (by omega),by simp⟩))))
 simp only at hg0 hn0;refine goN X h1 (by omega) λx2 j2 h2 a2 b2=>bF (λy=>y.1=l/\0<=y.2.1/\y.2.2.2.length<=4/\GN y.2.2.2) ?_ λ⟨Z,j3,z',gs⟩ ⟨w,h,M,Y⟩=>?_
 .have b2:=b2 (by omega);refine JD (λs:Int×List Int×Int×Int×List aF=>s.1) (λs=>s.2.2.2.2) (λs=>s.2.1=l/\0<=s.2.2.1/\GN s.2.2.2.2) 4 ⟨rfl,h2,hn0⟩ (by simp only;omega) (by omega) (λ⟨q,Z,j,z,gs⟩ ⟨H,B,J⟩ w h M=>?_) (λ⟨q,Z,j,z,gs⟩ ⟨H,B,J⟩ w h=>b_ (Qt h) (aI ⟨H,B,w,J⟩)) (by simp only;omega);simp only at w h M H B J;subst H;refine goT (YY h) (eP (Aq (by simp only;omega)) (bK (pJ.2 (by simp)) (goN X B (by omega) λx j hj a4 b4=>?_)));have b4:=b4 (by omega);have hw:bT (1+x)=1+x:=aG (by omega);exact bK (by unfold aV;simp;omega) (aI ⟨⟨rfl,hj,J.snoc (by omega) (by simp only[hw];omega) (by simp only[hw];omega)⟩,aG (by omega),by simp⟩)
 simp only at w h M Y;subst w;refine goN X h (by omega) λx4 j4 h4 a4 b4=>bF (λy=>y.1=Z/\0<=y.2.1/\FN y.2.2.2/\∀f∈y.2.2.2,f.body=[]) ?_ λ⟨l2,j5,z2,fs⟩ ⟨w,h,e4,e5⟩=>?_
 .have b4:=b4 (by omega);refine JD (λs:Int×List Int×Int×Int×List aH=>s.1) (λs=>s.2.2.2.2) (λs=>s.2.1=Z/\0<=s.2.2.1/\FN s.2.2.2.2/\∀f∈s.2.2.2.2,f.body=[]) 4 ⟨rfl,h4,⟨⟨by simp,by simp⟩,rfl,λi hi=>by simp at hi;subst hi;exact⟨rfl,by simp,λk hk=>by simp at hk⟩⟩,ql rfl⟩ (by simp only[W5];omega) (by omega)
   (λ⟨q,Z,j,z,fs⟩ ⟨H,B,J,U⟩ w h M=>?_) (λ⟨q,Z,j,z,gs⟩ ⟨H,B,J,U⟩ w h=>b_ (Qt h) (aI ⟨H,B,J,U⟩)) (by simp)
  simp only at w h M H B J U;subst H;refine goT (YY h) (eP (Aq (by simp only;omega)) (bK (pJ.2 (by simp)) (goN X B (by omega) λx j hj a5 b5=>bF (λy=>y.1=[102]++[digit fs.length]/\PN y.2.2) ?_ λy ⟨hy1,hy2⟩=>bK (by unfold aV;simp;omega) (aI ⟨⟨rfl,hj,by simp only;rw[hy1];exact J.snoc (by omega) hy2,λf hf=>?_⟩,aG (by omega),by simp⟩))))
  .have b5:=b5 (by omega);refine JD (λs:Int×List UInt8×Int×List (List UInt8)=>s.1) (λs=>s.2.2.2) (λs=>s.2.1=[102]++[digit fs.length]/\PN s.2.2.2) 2 ⟨rfl,by simp,λk hk=>by simp at hk⟩ (by simp only[Kd];omega) (by omega) (λ⟨q,z,z',gs⟩ ⟨N,T⟩ w h M=>?_) (λ⟨q,z,z',gs⟩ ⟨N,T⟩ w h=>b_ (Qt h) (aI ⟨N,T⟩)) (by simp);simp only at N T w h M;refine goT (YY h) (eP (Aq (by simp only;omega)) (bK (pJ.2 (by simp)) (bK (by unfold aV;simp;omega) (aI ⟨⟨N,T.snoc (by omega)⟩,aG (by omega),by simp⟩))))
  .rcases Z0.1 hf with hf|hf
   .exact U f hf
   .rw [X2]at hf;subst hf;rfl
 simp only at w h M Y e4 e5;subst w;refine bF (λy=>y.1=l2/\0<=y.2.1/\Src y.2.2.2.1 y.2.2.2.2.1) ?_ λy hy=>aI hy;refine bD (λs:Int×List Int×Int×Int×List aF×List aH×List (List UInt8)=>s.2.1=l2/\0<=s.2.2.1/\s.2.2.2.2.1=gs/\FN s.2.2.2.2.2.1/\(0<=s.1/\s.1<=s.2.2.2.2.2.1.length)/\∀i:Nat,(i:Int)<s.1->(s.2.2.2.2.2.1.getD i bM).body.length<=10/\∃lo c q,Ch (RS gs (jo s.2.2.2.2.2.1) 3) (s.2.2.2.2.2.1.getD i bM).params (s.2.2.2.2.2.1.getD i bM).body lo c q/\c<=7/\q<=14) (λs=>(s.2.2.2.2.2.1.length-s.1).toNat)
  ⟨rfl,h,rfl,e4,⟨by simp,by simp⟩,λi hi=>by simp only at hi;omega⟩ λ⟨q,l3,j,z,gs',m,lo⟩ ⟨H,B,J,U,c5,c6⟩=>?_
 simp only at H B J U c5 c6;subst H;subst J;refine dA (λhc=>?_) (λhc=>?_)
 rotate_left
 .have:¬ q<m.length:=by simpa using hc
  exact aI ⟨rfl,B,⟨Y,U,λi hi=>c6 i (by simp only at hi ⊢;omega)⟩⟩
 have hc:q<m.length:=by simpa using hc
 have hq:q.toNat<m.length:=by omega
 obtain⟨f1,f2,f3⟩:=U;obtain⟨n1,n2⟩:=f3 q.toNat hq;generalize K:m.getD q.toNat bM=fd at n1 n2;have hp2:=n2.1;have hES:Yr 20 l3 gs' m:=⟨X,by omega,by omega,by omega,FN.mem ⟨f1,f2,f3⟩,by omega⟩;refine bK (aC.2 ⟨c5.1,hc⟩) (bK ?_ (goN X B (by omega) λx6 j6 h6 a6 b6=>?_))
 .show (zj&&decide _)=zj;simp[K];omega
 simp only[K];have b6:=b6 (by omega);rw[show bT (1+x6)=1+x6 from aG (by omega)];refine bF _ ((Wj hES 1048576).1 2 (by omega) (by omega) (1+x6) 7 j6 (kK++fd.params) (by omega) (by omega) (by simp;omega) h6) λy ⟨ss,b,j,lo,e,d1,d2,d3,c,k,d4,d5,d6⟩=>?_;subst e;have L :∀i,(m.set q.toNat (aH.mk fd.name fd.line fd.params ss)).getD i bM=if i=q.toNat then aH.mk fd.name fd.line fd.params ss else m.getD i bM:=λi=>iO hq
 have hsg:jo (m.set q.toNat (aH.mk fd.name fd.line fd.params ss))=jo m:=by
  unfold jo;rw[List.map_set];have:m[q.toNat]=fd:=by rw[<-K,getD_at _ hq]
  rw[show ((aH.mk fd.name fd.line fd.params ss).name,(aH.mk fd.name fd.line fd.params ss).params.length)=(m.map λf=>(f.name,f.params.length))[q.toNat]'(by simpa using hq) from by simp[this]];exact List.set_getElem_self _
 refine bK (aC.2 ⟨c5.1,hc⟩) (aI ⟨⟨rfl,d1,rfl,⟨by simpa using f1,?_,λi hi=>?_⟩,?_,λi hi=>?_⟩,?_⟩)
 .simp only;rw[L];split
  .rename_i e;rw[<-e]at K;rw[K]at f2;exact f2
  .exact f2
 .simp only[J0]at hi ⊢;rw[L];split
  .rename_i e;subst e;exact⟨n1,n2⟩
  .exact f3 i hi
 .simp only[aG (x:=q+1) (by omega),J0];omega
 .simp only[aG (x:=q+1) (by omega)]at hi ⊢;rw[L,hsg];split
  .rename_i e;exact⟨d3.1,lo,c,k,by simpa using d4,by omega,by omega⟩
  .exact c6 i (by omega)
 .simp only[aG (x:=q+1) (by omega),J0];omega
theorem jA{R:Type}{body:Int->Option (Int ⊕ R)}{Q:R->Prop}(n:Nat)(P:Nat->Prop)(hn:n<=4000000000)(h :∀i:Nat,i<n->(∀j,j<i->P j)->Ok (body i) (MW (λj=>j=bT (i+1)/\P i) Q))(w:(∀j,j<n->P j)->Ok (body n) (MW (λ_=>False) Q)):Ok (bn body 0) Q:=by
 refine bD (λi:Int=>∃k:Nat,i=k/\k<=n/\∀j,j<k->P j) (λi=>(n-i).toNat) ⟨0,rfl,by omega,λj z=>by omega⟩ λi ⟨k,e,J,q⟩=>?_;subst e;by_cases B:k<n
 .refine kJ (h k B q) λy m=>?_;cases y with
  |inl j=>
   obtain⟨e,H⟩:j=bT ((k:Int)+1)/\P k:=m;rw[aG (by omega)]at e;exact⟨⟨k+1,by omega,by omega,λj z=>by
    by_cases e:j=k
    .rw [e];exact H
    .exact q j (by omega)⟩,by omega⟩
  |inr r=>exact m
 .have e:k=n:=by omega
  subst e;refine kJ (w q) λy m=>?_;cases y with
  |inl j=>exact m.elim
  |inr r=>exact m
def cls:List UInt8->Nat
 | [_]=>1
 | [a,_]=>if a=112 then 1 else if a=103 then 2 else 3
 |_=>3
def LN(lo:List (List UInt8)):Prop :=∀x∈lo,cls x=1
theorem GN.cls{g:List aF}(h:GN g):∀x∈g,YtoipcimfapppmaaGreatDoor.cls x.name=2:=λx m=>by obtain⟨i,j,e⟩:=WN m;have:=(h.2 i j).1;rw[getD_at _ j,e]at this;rw[this];rfl
theorem FN.cls{fs:List aH}(h:FN fs):∀i,i<fs.length->YtoipcimfapppmaaGreatDoor.cls (fs.getD i bM).name=3:=λi j=>by rw[(h.2.2 i j).1];split<;>rfl
theorem GR{i j:Nat}(hi:i<4)(m:j<4)(h:digit i=digit j):i=j:=by
 have:i=0\/i=1\/i=2\/i=3:=by omega
 have:j=0\/j=1\/j=2\/j=3:=by omega
 rcases ‹i=0\/_› with rfl|rfl|rfl|rfl<;>rcases ‹j=0\/_› with rfl|rfl|rfl|rfl<;>first|rfl|(revert h;decide)
theorem GN.inj{g:List aF}(h:GN g){i j:Nat}(hi:i<g.length)(m:j<g.length)(e:(g.getD i (aF.mk bJ 0)).name=(g.getD j (aF.mk bJ 0)).name):i=j:=by
 rw[(h.2 i hi).1,(h.2 j m).1]at e;have q:=h.1;injection e with _ e;injection e with e _
 exact GR (by omega) (by omega) e
theorem FN.inj{fs:List aH}(h:FN fs){i j:Nat}(hi:i<fs.length)(m:j<fs.length)(e:(fs.getD i bM).name=(fs.getD j bM).name):i=j:=by
 rw[(h.2.2 i hi).1,(h.2.2 j m).1]at e;have q:=h.1.2;unfold alE at e;split at e<;>split at e
 .omega
 .injection e with e _;exact absurd e (by decide)
 .injection e with e _;exact absurd e (by decide)
 .injection e with _ e;injection e with e _
  exact GR (by omega) (by omega) e
section
variable {g:List aF} {fs:List aH} {lo:List (List UInt8)}
theorem JE{nm:List UInt8}(hg:g.length<=1000000):Ok (f97 g fs nm) λy=>(y=-1/\∀i,i<g.length->(g.getD i (aF.mk bJ 0)).name≠nm)\/∃i:Nat,y=i/\i<g.length/\(g.getD i (aF.mk bJ 0)).name=nm:=by unfold f97;refine iI (λ_=>∀i,i<g.length->(g.getD i (aF.mk bJ 0)).name≠nm) (jA g.length (λi=>(g.getD i (aF.mk bJ 0)).name≠nm) (by omega) (λi j _=>goT (YY (by omega)) (bK (aC.2 ⟨by omega,by omega⟩) (dA (λh=>aI (.inr ⟨i,rfl,j,by simpa using h⟩)) λh=>aI ⟨rfl,by simpa using h⟩))) λh=>b_ (Qt (by omega)) (aI h)) λ_ h=>aI (.inl ⟨rfl,h⟩)
theorem JG{nm:List UInt8}(hg:fs.length<=1000000):Ok (f98 g fs nm) λy=>(y=-1/\∀i,i<fs.length->(fs.getD i bM).name≠nm)\/∃i:Nat,y=i/\i<fs.length/\(fs.getD i bM).name=nm:=by unfold f98;refine iI (λ_=>∀i,i<fs.length->(fs.getD i bM).name≠nm) (jA fs.length (λi=>(fs.getD i bM).name≠nm) (by omega) (λi j _=>goT (YY (by omega)) (bK (aC.2 ⟨by omega,by omega⟩) (dA (λh=>aI (.inr ⟨i,rfl,j,by simpa using h⟩)) λh=>aI ⟨rfl,by simpa using h⟩))) λh=>b_ (Qt (by omega)) (aI h)) λ_ h=>aI (.inl ⟨rfl,h⟩)
theorem agI{nm:List UInt8}(hg:lo.length<=1000000):f100 lo nm=zw (decide (nm∈lo)):=by
 apply ok_eq;unfold f100;refine iI (λ_=>∀i,i<lo.length->lo.getD i bJ≠nm) (jA lo.length (λi=>lo.getD i bJ≠nm) (by omega) (λi m _=>goT (YY (by omega)) (bK (aC.2 ⟨by omega,by omega⟩) (dA (λh=>aI ?_) λh=>aI ⟨rfl,by simpa using h⟩))) λh=>b_ (Qt (by omega)) (aI h)) λ_ h=>aI ?_
 .have h:lo.getD i bJ=nm:=by simpa using h
  refine(YY ?_).symm;rw[<-h,getD_at _ m];exact Xs _
 .refine (Qt λq=>?_).symm;obtain⟨i,j,e⟩:=WN q;have:=h i j;rw[getD_at _ j]at this;exact this e
structure Sc(g:List aF)(fs:List aH)(lo:List (List UInt8)):Prop where
 gn:GN g
 fn:FN fs
 ln:LN lo
 lo:lo.length<=1000000
theorem aaS(hg:GN g){nm:List UInt8}{a:Bool}(h:PG a g nm):Ok (f97 g fs nm) λy=>∃i:Nat,y=i/\i<g.length/\(g.getD i (aF.mk bJ 0)).name=nm/\decide (0<(g.getD i (aF.mk bJ 0)).size)=a:=by
 have M:=hg.1;refine kJ (JE (by omega)) λy B=>?_;obtain⟨x,H,e,J⟩:=h;obtain⟨j,m,K⟩:=WN H;have q:g.getD j (aF.mk bJ 0)=x:=by rw[getD_at _ m,K]
 rcases B with⟨_,hn⟩|⟨i,L,w,z⟩
 .exact absurd (by rw[q,e]) (hn j m)
 .have:=hg.inj w m (by rw[z,q,e]);subst this;exact⟨i,L,w,z,by rw[q];exact J⟩
theorem Sr{nm:List UInt8}(hg:GN g)(h:cls nm≠2):f97 g fs nm=zw (-1):=by
 have z:=hg.1;obtain⟨y,j,m⟩:=JE (g:=g) (fs:=fs) (nm:=nm) (by omega);rcases m with⟨e,_⟩|⟨i,_,q,w⟩
 .rw [j,e]
 .have:=hg.cls _ (by rw[getD_at _ q];exact Xs _:g.getD i (aF.mk bJ 0)∈g);rw[w]at this;exact absurd this h
theorem agJ{nm:List UInt8}{q:Nat}(h:(nm,q)∈jo fs):∃i,i<fs.length/\(fs.getD i bM).name=nm/\(fs.getD i bM).params.length=q:=by
 obtain⟨f,w,e⟩:=XS.1 h;obtain⟨i,j,m⟩:=WN w;injection e with y z
 exact⟨i,j,by rw[getD_at _ j,m];exact y,by rw[getD_at _ j,m];exact z⟩
theorem Sv(m:FN fs){nm:List UInt8}{q:Nat}(h:(nm,q)∈jo fs):Ok (f98 g fs nm) λy=>∃i:Nat,y=i/\i<fs.length/\(fs.getD i bM).params.length=q:=by
 have M:=m.1.2;refine kJ (JG (by omega)) λy H=>?_;obtain⟨j,w,z,J⟩:=agJ h;rcases H with⟨_,hn⟩|⟨i,K,B,L⟩
 .exact absurd z (hn j w)
 .have:=m.inj B w (by rw[L,z]);subst this;exact⟨i,K,B,J⟩
theorem agK(m:FN fs){nm:List UInt8}{q:Nat}(h:(nm,q)∈jo fs):cls nm=3:=by obtain⟨j,w,y,_⟩:=agJ h;rw[<-y];exact m.cls j w
theorem agL(hg:GN g){a:Bool}{nm:List UInt8}(h:PG a g nm):cls nm=2:=by obtain⟨x,j,e,_⟩:=h;rw[<-e];exact hg.cls x j
theorem JH(hg:GN g){nm:List UInt8}{a:Bool}(h:PG a g nm):f101 g fs nm=zw (if a then 3 else 2):=by
 apply ok_eq;unfold f101;refine bF _ (aaS hg h) λc ⟨i,e,q,_,m⟩=>?_;subst e;refine goT (YY (by omega)) (bK (aC.2 ⟨by omega,by omega⟩) (dA (λj=>aI ?_) λj=>aI ?_))
 .simp only[Q4]at j;rw[<-m,j];rfl
 .simp only[Q4]at j;rw[<-m,j];rfl
theorem aj3(hg:GN g)(j:FN fs){nm:List UInt8}{q:Nat}(h:(nm,q)∈jo fs):f101 g fs nm=zw 4:=by apply ok_eq;unfold f101;refine eP (Sr hg (by rw[agK j h];omega)) (b_ rfl (bF _ (Sv j h) λc ⟨i,e,_⟩=>?_));subst e;exact goT (YY (by omega)) (aI rfl)
theorem aaT(hg:GN g)(j:FN fs){nm:List UInt8}(h:cls nm=1):f101 g fs nm=zw 0:=by
 apply ok_eq;unfold f101;have y:=j.1.2;refine eP (Sr hg (by omega)) (b_ rfl (bF _ (JG (by omega)) λc m=>?_));rcases m with⟨e,_⟩|⟨i,_,q,w⟩
 .subst e;exact b_ rfl (aI rfl)
 .have:=j.cls i q;rw[w]at this;omega
theorem agM{nm:List UInt8}(hg:GN g)(j:FN fs):Ok (f101 g fs nm) λ_=>True:=by
 unfold f101;have q:=j.1.2;have w:=hg.1;refine bF _ (JE (by omega)) λc m=>dA (λh=>?_) λ_=>bF _ (JG (by omega)) λ_ _=>dA (λ_=>aI trivial) λ_=>aI trivial;rcases m with⟨e,_⟩|⟨i,e,y,_⟩
 .rw [e]at h;cases h
 .exact bK (aC.2 ⟨by omega,by omega⟩) (dA (λ_=>aI trivial) λ_=>aI trivial)
theorem aj6{nm:List UInt8}(h:Sc g fs lo){a b:Int}{P:Int->Prop}(m:nm∈lo->P 1)(q:¬ nm∈lo->Ok (f101 g fs nm) P):Ok (f127 nm g fs a b lo) λy=>∃k,y=(k,g,fs,a,b,lo)/\P k:=by
 refine bF (λy=>∃k,y=(k,g,fs,a,b,lo)/\P k) ?_ λy ⟨k,e,h⟩=>by subst e;exact goK rfl (aI ⟨k,rfl,h⟩)
 unfold afV;refine bF (λy=>∃k,y=(k,g,fs,a,b,lo)/\P k) ?_ λy ⟨k,e,h⟩=>by subst e;exact bK (by simp) (aI ⟨k,rfl,h⟩)
 refine eP (agI h.lo) (dA (λj=>aI ⟨1,rfl,m (by simpa using j)⟩) λj=>bF _ (q (by simpa using j)) λc j=>aI ⟨c,rfl,j⟩)
theorem agN{β:Type}{nm:List UInt8}(h:Sc g fs lo){a b:Int}{f}{Q:β->Prop}{P:Int->Prop}(j:nm∈lo->P 1)(m:¬ nm∈lo->Ok (f101 g fs nm) P)(k :∀q,P q->Ok (f (q,g,fs,a,b,lo)) Q):Ok (Option.bind (f127 nm g fs a b lo) f) Q:=bF _ (aj6 h j m) λy ⟨q,e,h⟩=>by subst e;exact k q h
theorem Yu(h:Sc g fs lo){nm:List UInt8}(j:cls nm≠1):¬ nm∈lo:=λm=>j (h.ln nm m)
inductive Wh(g:List aF)(fs:List aH)(lo:List (List UInt8))(nm:List UInt8):Int->Prop
 |loc:nm∈lo->Wh g fs lo nm 1
 |glo:¬ nm∈lo->PG zv g nm->Wh g fs lo nm 2
 |arr:¬ nm∈lo->PG zj g nm->Wh g fs lo nm 3
 |fn {q:Nat}:¬ nm∈lo->(nm,q)∈jo fs->Wh g fs lo nm 4
theorem an1(h:Sc g fs lo){nm:List UInt8}(m:NV g lo nm):∃k,Wh g fs lo nm k/\(k=1\/k=2):=by
 by_cases j:nm∈lo
 .exact ⟨1,.loc j,.inl rfl⟩
 .exact ⟨2,.glo j (m.resolve_left j),.inr rfl⟩
theorem awu(h:Sc g fs lo){nm:List UInt8}(j:PG zj g nm):Wh g fs lo nm 3:=.arr (Yu h (by rw[agL h.gn j];omega)) j
theorem arR(h:Sc g fs lo){nm:List UInt8}{q:Nat}(j:(nm,q)∈jo fs):Wh g fs lo nm 4:=.fn (Yu h (by rw[agK h.fn j];omega)) j
theorem aj7{β:Type}{nm:List UInt8}{q:Int}(h:Sc g fs lo)(w:Wh g fs lo nm q){a b:Int}{f}{Q:β->Prop}(k:Ok (f (q,g,fs,a,b,lo)) Q):Ok (Option.bind (f127 nm g fs a b lo) f) Q:=by
 refine agN h (P:=λz=>z=q) (λj=>?_) (λj=>?_) λz y=>by subst y;exact k
 .cases w with
  |loc _=>rfl
  |glo h _=>exact absurd j h
  |arr h _=>exact absurd j h
  |fn h _=>exact absurd j h
 .cases w with
  |loc h=>exact absurd h j
  |glo _ m=>exact⟨2,JH h.gn m,rfl⟩
  |arr _ m=>exact⟨3,JH h.gn m,rfl⟩
  |fn _ m=>exact⟨4,aj3 h.gn h.fn m,rfl⟩
theorem Yv{β:Type}(h:Sc g fs lo){k o v i:Int}{nm:List UInt8}{ar:List aU}{p q z a b:Int}(w:Wh g fs lo nm z)(B:z=p\/z=q){f}{Q:β->Prop}(H:Ok (f (g,fs,a,b,lo)) Q):Ok (Option.bind (f140 k o v i nm ar p q g fs a b lo) f) Q:=by
 have j:z≠0:=by cases w<;>omega
 refine bF (λy=>y=(g,fs,a,b,lo)) ?_ λy e=>by subst e;exact H
 refine bF (λy=>y=(g,fs,a,b,lo)) ?_ λy e=>by subst e;exact goK rfl (aI rfl)
 unfold af7;refine bF (λy=>y=(g,fs,a,b,lo)) ?_ λy e=>by subst e;exact bK (by simp) (aI rfl)
 refine aj7 h w (bF (λy=>y=(g,fs,a,b)) ?_ λy e=>by subst e;exact aI rfl);refine b_ (Qt j) (bF (λy=>y=zv) ?_ λy e=>by subst e;exact bF (λy=>y=(g,fs,a,b)) (b_ rfl (aI rfl)) λy e=>by subst e;exact aI rfl);refine dA (λm=>aI ?_) λ_=>aI rfl;have m:z≠p:=by simpa using m
 have:z=q:=B.resolve_left m;simp[this]
inductive QX(g:List aF)(sg:List (List UInt8×Nat))(lo:List (List UInt8)):Nat->aU->Prop
 |leaf {n:Nat} {k o v i:Int} {nm:List UInt8}:k=1\/k=12->QX g sg lo (n+1) (aU.mk k o v i nm [])
 |loc {n:Nat} {o v i:Int} {nm:List UInt8}:nm∈lo->QX g sg lo (n+1) (aU.mk 2 o v i nm [])
 |glo {n:Nat} {o v i:Int} {nm:List UInt8}:PG zv g nm->QX g sg lo (n+1) (aU.mk 3 o v i nm [])
 |func {n:Nat} {o v i:Int} {nm:List UInt8} {q:Nat}:(nm,q)∈sg->QX g sg lo (n+1) (aU.mk 11 o v i nm [])
 |elem {n:Nat} {o v i:Int} {nm:List UInt8} {a:aU}:PG zj g nm->QX g sg lo n a->QX g sg lo (n+1) (aU.mk 4 o v i nm [a])
 |un {n:Nat} {o v i:Int} {nm:List UInt8} {a:aU}:o=1\/o=2->QX g sg lo n a->QX g sg lo (n+1) (aU.mk 5 o v i nm [a])
 |bin {n:Nat} {o v i:Int} {nm:List UInt8} {a b:aU}:3<=o/\o<=11->QX g sg lo n a->QX g sg lo n b->QX g sg lo (n+1) (aU.mk 6 o v i nm [a,b])
 |lazy {n:Nat} {k o v i:Int} {nm:List UInt8} {a b:aU}:k=7\/k=8->QX g sg lo n a->QX g sg lo n b->QX g sg lo (n+1) (aU.mk k o v i nm [a,b])
 |call {n:Nat} {o v i:Int} {nm:List UInt8} {ar:List aU}:(nm,ar.length)∈sg->ar.length<=2->(∀y∈ar,QX g sg lo n y)->QX g sg lo (n+1) (aU.mk 9 o v i nm ar)
 |value {n:Nat} {o v i:Int} {nm:List UInt8} {f:aU} {ar:List aU}:ar.length<=2->QX g sg lo n f->(∀y∈ar,QX g sg lo n y)->QX g sg lo (n+1) (aU.mk 10 o v i nm (f::ar))
theorem QX.mono{sg:List (List UInt8×Nat)}{j:List (List UInt8)}(q :∀x∈lo,x∈j){n:Nat}{x:aU}(h:QX g sg lo n x):QX g sg j n x:=by
 induction h with
 |leaf h=>exact .leaf h
 |loc h=>exact .loc (q _ h)
 |glo h=>exact .glo h
 |func h=>exact .func h
 |elem h _ m=>exact .elem h m
 |un h _ m=>exact .un h m
 |bin h _ _ i1 i2=>exact .bin h i1 i2
 |lazy h _ _ i1 i2=>exact .lazy h i1 i2
 |call w y _ m=>exact .call w y m
 |value z _ _ i1 i2=>exact .value z i1 i2
def vk(lo:List (List UInt8))(nm:List UInt8):Int:=if nm∈lo then 2 else 3
theorem arS{sg:List (List UInt8×Nat)}{nm:List UInt8}(j:NV g lo nm){n:Nat}{o v i:Int}:QX g sg lo (n+1) (aU.mk (vk lo nm) o v i nm []):=by
 unfold vk;split
 .rename_i h;exact .loc h
 .rename_i h;exact .glo (j.resolve_left h)
def awv(lo:List (List UInt8))(nm:List UInt8)(i:Int):aU:=aU.mk (vk lo nm) 0 0 i nm []
theorem aaU{β:Type}(h:Sc g fs lo){i a b:Int}{nm:List UInt8}(q:NV g lo nm){f}{Q:β->Prop}(w:Ok (f (vk lo nm,0,0,i,nm,g,fs,a,b,lo)) Q):Ok (Option.bind (f141 nm i g fs a b lo) f) Q:=by
 refine bF (λy=>y=(vk lo nm,0,0,i,nm,g,fs,a,b,lo)) ?_ λy e=>by subst e;exact w
 refine bF (λy=>y=(vk lo nm,0,0,i,nm,g,fs,a,b,lo)) ?_ λy e=>by subst e;exact goK rfl (aI rfl)
 unfold af9;refine bF (λy=>y=(vk lo nm,0,0,i,nm,g,fs,a,b,lo)) ?_ λy e=>by subst e;exact bK (by simp) (aI rfl)
 obtain⟨k,m,z⟩:=an1 h q;refine aj7 h m (bF (λy=>y=vk lo nm) ?_ λy e=>by subst e;exact aI rfl);unfold vk;cases m with
 |loc j=>rw[QR j];exact b_ rfl (aI rfl)
 |glo j _=>rw[QP j];exact goT rfl (aI rfl)
 |arr _ _=>omega
 |fn _ _=>omega
def PX(n:Nat)(g:List aF)(fs:List aH)(lo:List (List UInt8))(a b:Int)(y:Int×Int×Int×Int×List UInt8×List aF×List aH×Int×Int×List (List UInt8)×List aU):Prop:=∃k o v i h ar,y=(k,o,v,i,h,g,fs,a,b,lo,ar)/\QX g (jo fs) lo n (aU.mk k o v i h ar)
def PXs(n m:Nat)(g:List aF)(fs:List aH)(lo:List (List UInt8))(a b:Int)(y:List aF×List aH×Int×Int×List (List UInt8)×List aU):Prop:=∃ar,y=(g,fs,a,b,lo,ar)/\ar.length=m/\∀x∈ar,QX g (jo fs) lo n x
theorem Yw{rec:Yb}{w:acK}{n:Nat}{a b:Int}{j:List aU}(L:j.length<=10)(H :∀x∈j,Ok (rec x.kind x.op x.value x.line x.name x.args g fs a b lo) (PX n g fs lo a b)):
  Ok (aaj rec w j g fs a b lo) (PXs n j.length g fs lo a b):=by
 unfold aaj;refine bF (PXs n j.length g fs lo a b) ?_ λy ⟨ar,e,h⟩=>by subst e;exact bK (by simp) (aI ⟨ar,rfl,h⟩)
 refine bF (λy=>∃ar,y=(g,fs,a,b,ar)/\ar.length=j.length/\∀x∈ar,QX g (jo fs) lo n x) ?_ λy ⟨ar,e,h⟩=>by subst e;exact aI ⟨ar,rfl,h⟩
 refine bD (λs:Int×List aF×List aH×Int×Int×List aU=>∃q ar,s=(q,g,fs,a,b,ar)/\(ar.length:Int)=q/\ar.length<=j.length/\∀x∈ar,QX g (jo fs) lo n x) (λs=>(j.length-s.1).toNat) ⟨0,[],rfl,rfl,by simp,λx h=>by cases h⟩ λs ⟨q,ar,e,J,M,B⟩=>?_;subst e;subst J;refine dA (λm=>?_) λm=>aI ⟨ar,rfl,?_,B⟩
 .have m:ar.length<j.length:=by simp at m;omega
  refine bK (aC.2 ⟨by simp only;omega,by simp only;omega⟩) (bF _ (H _ (by rw[getD_at _ (by simpa using m)];exact Xs _)) λy ⟨k,o,v,i,N,T,e,K⟩=>?_);subst e;refine bK (by unfold aV;simp;omega) (aI ⟨⟨_,_,rfl,?_,?_,λx z=>?_⟩,?_⟩)
  all_goals try simp only[aG (x:=(ar.length:Int)+1) (by omega)]
  .simp
  .simp;omega
  .rcases Z0.1 z with h|h
   .exact B x h
   .rw [X2]at h;subst h;exact K
  .omega
 .have m:¬ (ar.length:Int)<j.length:=by simpa using m
  omega
theorem xE{n:Nat}{sg:List (List UInt8×Nat)}{ar:List aU}(h:ar.length=1)(j :∀x∈ar,QX g sg lo n x):∃x,ar=[x]/\QX g sg lo n x:=by obtain⟨x,e⟩:=List.length_eq_one_iff.1 h;subst e;exact⟨x,rfl,j x (by simp)⟩
theorem agP{n:Nat}{sg:List (List UInt8×Nat)}{ar:List aU}(h:ar.length=2)(j :∀x∈ar,QX g sg lo n x):∃x z,ar=[x,z]/\QX g sg lo n x/\QX g sg lo n z:=by
 match ar,h with
 | [x,z],_=>exact⟨x,z,rfl,j x (by simp),j z (by simp)⟩
theorem RX.args{sg:List (List UInt8×Nat)}{n:Nat}{x:aU}(h:RX g sg lo (n+1) x):x.args.length<=3/\∀y∈x.args,RX g sg lo n y:=by
 cases h with
 |leaf _=>exact⟨by simp,λy h=>by cases h⟩
 |name _=>exact⟨by simp,λy h=>by cases h⟩
 |func _=>exact⟨by simp,λy h=>by cases h⟩
 |elem _ h=>exact⟨by simp,ql h⟩
 |un _ h=>exact⟨by simp,ql h⟩
 |bin _ m j=>exact⟨by simp,λy q=>by rcases XN.1 q with e|e;(· subst e;exact m);exact ql j y e⟩
 |lazy _ m j=>exact⟨by simp,λy q=>by rcases XN.1 q with e|e;(· subst e;exact m);exact ql j y e⟩
 |call _ _ m j=>exact⟨by simp only;omega,j⟩
 |value m j w=>exact⟨by simp only[Wm];omega,λy q=>by rcases XN.1 q with e|e;(· subst e;exact j);exact w y e⟩
theorem agQ{rec:Yb}{H:acK}{n:Nat}(h:Sc g fs lo){k o v i a b:Int}{nm:List UInt8}{ar:List aU}(K:RX g (jo fs) lo (n+1) (aU.mk k o v i nm ar))(hr:Ok (H ar g fs a b lo) (PXs n ar.length g fs lo a b)):
  Ok (aai rec H k o v i nm ar g fs a b lo) (PX (n+1) g fs lo a b):=by
 have h3:=K.args.1;simp only at h3;unfold aai;refine bF (PX (n+1) g fs lo a b) ?_ λy ⟨k,o,v,i,nm,ar,e,h⟩=>by subst e;exact bK (by simp) (aI ⟨k,o,v,i,nm,ar,rfl,h⟩)
 have fin:(∀q,q.length=ar.length->(∀z∈q,QX g (jo fs) lo n z)->QX g (jo fs) lo (n+1) (aU.mk k o v i nm q))->∀y:List aF×List aH×Int×Int,y=(g,fs,a,b)->Ok (Option.bind (H ar y.1 y.2.1 y.2.2.1 y.2.2.2 lo) λJ=>zw (k,o,v,i,nm,J.1,J.2.1,J.2.2.1,J.2.2.2.1,lo,J.2.2.2.2.2)) (PX (n+1) g fs lo a b):=λhq y e=>by subst e;refine bF _ hr λy ⟨q,e,M,N⟩=>?_;subst e;exact aI ⟨k,o,v,i,nm,q,rfl,hq q M N⟩
 have pass:¬ k=13->¬ k=4->¬ k=11->¬ k=9->∀{P:Int×Int×Int×Int×List UInt8×List aF×List aH×Int×Int×List (List UInt8)×List aU->Prop} (fn:List aF×List aH×Int×Int->Option _),(∀y,y=(g,fs,a,b)->Ok (fn y) P)->True:=λ_ _ _ _ _ _ _=>trivial;clear pass;cases K with
 |name hv=>obtain⟨z,X,L⟩:=an1 h hv;exact goT rfl (Yv h X L (aaU h hv (aI ⟨_,_,_,_,_,_,rfl,arS hv⟩)))
 |elem hp U=>refine b_ rfl (iI (λy=>y=(g,fs,a,b)) (goT rfl (Yv h (awu h hp) (.inl rfl) (aI rfl))) (fin λq M N=>?_));obtain⟨x,e,K⟩:=xE M N;subst e;exact .elem hp K
 |func T=>refine b_ rfl (iI (λy=>y=(g,fs,a,b)) (b_ rfl (iI (λy=>y=(g,fs,a,b)) (goT rfl (Yv h (arR h T) (.inl rfl) (aI rfl))) λy e=>by subst e;exact aI rfl)) (fin λq M N=>?_));have:q=[]:=WF.1 M;subst this;exact .func T
 |call M N h3' h4=>
  rcases N with T|hv
  .refine b_ rfl (iI (λy=>y=(g,fs,a,b)) (b_ rfl (iI (λy=>y=(g,fs,a,b)) (b_ rfl (iI (λy=>y=(g,fs,a,b)) (goT rfl (aj7 h (arR h T) (iI (λy=>y=(g,fs,a,b)) (b_ rfl (iI (λy=>y=(g,fs,a,b)) (b_ rfl (goT rfl (bF _ (Sv h.fn T) λc ⟨j,e,j1,j2⟩=>?_))) λy e=>by subst e;exact aI rfl)) λy e=>by subst e;exact aI rfl))) λy e=>by subst e;exact aI rfl)) λy e=>by subst e;exact aI rfl)) (fin λq w B=>.call (by rw[w];exact T) (by omega) B));subst e;refine bK (aC.2 ⟨by omega,by simp only;omega⟩) (bF (λy=>y=(g,fs,a,b)) (b_ ?_ (aI rfl)) λy e=>by subst e;exact aI rfl);rw[va];refine YY ?_;simp only[Q4];omega
  .obtain ⟨m,rfl⟩ :∃m,n=m+1:=⟨n-1,by omega⟩;obtain⟨z,X,L⟩:=an1 h hv;refine b_ rfl (iI (λy=>False) (b_ rfl (iI (λy=>False) (b_ rfl (iI (λy=>False) (goT rfl (aj7 h X (iI (λy=>False) (b_ (Qt (by simp only;omega)) (iI (λy=>False) (b_ (Qt (by simp only;omega)) (b_ (Qt (by simp only;omega)) (bF (λy=>y=(g,fs,a,b)) (b_ (Qt (by omega)) (aI rfl)) λy e=>?_))) λy e=>e.elim)) λy e=>e.elim))) λy e=>e.elim)) λy e=>e.elim)) λy e=>e.elim);subst e;refine aaU h hv (bF _ hr λy ⟨q,e,w,B⟩=>?_);subst e;exact bK (by unfold aV;simp;omega) (aI ⟨_,_,_,_,_,awv lo nm i::q,rfl,.value (by omega) (arS hv) B⟩)
 |value M N h4=>
  refine b_ rfl (iI (λy=>y=(g,fs,a,b)) (b_ rfl (iI (λy=>y=(g,fs,a,b)) (b_ rfl (iI (λy=>y=(g,fs,a,b)) (b_ rfl (bF (λy=>y=(g,fs,a,b)) (goT rfl (bF (λy=>y=(g,fs,a,b)) (b_ (Qt (by omega)) (aI rfl)) λy e=>by subst e;exact aI rfl)) λy e=>by subst e;exact aI rfl)) λy e=>by subst e;exact aI rfl)) λy e=>by subst e;exact aI rfl)) (fin λq w B=>?_))
  match q,w with
  |f::q,w=>exact .value (by simp at w;omega) (B _ (by simp)) λy U=>B y (by simp[U])
 |leaf Y=>refine b_ (Qt (by omega)) (iI (λy=>y=(g,fs,a,b)) (b_ (Qt (by omega)) (iI (λy=>y=(g,fs,a,b)) (b_ (Qt (by omega)) (iI (λy=>y=(g,fs,a,b)) (b_ (Qt (by omega)) (bF (λy=>y=(g,fs,a,b)) (b_ (Qt (by omega)) (aI rfl)) λy e=>by subst e;exact aI rfl)) λy e=>by subst e;exact aI rfl)) λy e=>by subst e;exact aI rfl)) (fin λq w B=>?_));have:q=[]:=WF.1 w;subst this;exact .leaf Y
 |un Z U=>refine b_ rfl (iI (λy=>y=(g,fs,a,b)) (b_ rfl (iI (λy=>y=(g,fs,a,b)) (b_ rfl (iI (λy=>y=(g,fs,a,b)) (b_ rfl (bF (λy=>y=(g,fs,a,b)) (b_ rfl (aI rfl)) λy e=>by subst e;exact aI rfl)) λy e=>by subst e;exact aI rfl)) λy e=>by subst e;exact aI rfl)) (fin λq w B=>?_));obtain⟨x,e,K⟩:=xE w B;subst e;exact .un Z K
 |bin Z U L=>refine b_ rfl (iI (λy=>y=(g,fs,a,b)) (b_ rfl (iI (λy=>y=(g,fs,a,b)) (b_ rfl (iI (λy=>y=(g,fs,a,b)) (b_ rfl (bF (λy=>y=(g,fs,a,b)) (b_ rfl (aI rfl)) λy e=>by subst e;exact aI rfl)) λy e=>by subst e;exact aI rfl)) λy e=>by subst e;exact aI rfl)) (fin λq w B=>?_));obtain⟨x,z,e,K,L⟩:=agP w B;subst e;exact .bin Z K L
 |lazy Y U L=>refine b_ (Qt (by omega)) (iI (λy=>y=(g,fs,a,b)) (b_ (Qt (by omega)) (iI (λy=>y=(g,fs,a,b)) (b_ (Qt (by omega)) (iI (λy=>y=(g,fs,a,b)) (b_ (Qt (by omega)) (bF (λy=>y=(g,fs,a,b)) (b_ (Qt (by omega)) (aI rfl)) λy e=>by subst e;exact aI rfl)) λy e=>by subst e;exact aI rfl)) λy e=>by subst e;exact aI rfl)) (fin λq w B=>?_));obtain⟨x,z,e,K,L⟩:=agP w B;subst e;exact .lazy Y K L
theorem adg(n:Nat):(qh (n+1)).1=aai (aak n) (alq n):=rfl
theorem adh(n:Nat):(qh (n+1)).2=aaj (aak n) (alq n):=rfl
theorem P6(h:Sc g fs lo){a b:Int}:∀n:Nat,∀k,2*n<=k->∀x,RX g (jo fs) lo n x->Ok (aak k x.kind x.op x.value x.line x.name x.args g fs a b lo) (PX n g fs lo a b)
 |0,_,_=>λ_ h=>by cases h
 |n+1,0,j=>by omega
 |n+1,1,j=>by omega
 |n+1,k+2,j=>λx m=>by
  have q:=P6 h (a:=a) (b:=b) n k (by omega);obtain⟨w1,w⟩:=m.args;obtain⟨K,L,M,N,T,B⟩:=x;refine bF (PX (n+1) g fs lo a b) ?_ λy ⟨k,o,v,i,H,ar,e,h⟩=>by subst e;exact goK rfl (aI ⟨k,o,v,i,H,ar,rfl,h⟩)
  rw[adg];refine agQ h m ?_;refine bF (PXs n B.length g fs lo a b) ?_ λy ⟨ar,e,h⟩=>by subst e;exact goK rfl (aI ⟨ar,rfl,h⟩)
  rw[adh];exact Yw (JS w1 (by omega)) λz J=>q z (w z J)
theorem P7{sg:List (List UInt8×Nat)}:∀n k:Nat,n<=k->n<=1000->∀x,RX g sg lo n x->Ok (aac k x.kind x.op x.value x.line x.name x.args) λy=>0<=y/\y<=n
 |0,_,_,_,_,h=>by cases h
 |n+1,0,B,_,_,_=>by omega
 |n+1,k+1,B,hn,x,h=>by
  have H :∀x,RX g sg lo n x->Ok (aac k x.kind x.op x.value x.line x.name x.args) λy=>0<=y/\y<=n:=P7 n k (by omega) (by omega);show Ok (afT (aac k) x.kind x.op x.value x.line x.name x.args) _;obtain⟨M,J⟩:=h.args;unfold afT;refine bF (λy=>0<=y/\y<=n) ?_ λy K=>aI (by rw[aG (by omega)];omega);refine bD (λs:Int×Int=>(0<=s.2/\s.2<=x.args.length)/\0<=s.1/\s.1<=n) (λs=>(x.args.length-s.2).toNat) ⟨⟨by simp,by simp⟩,by simp,by simp only;omega⟩ λ⟨z,q⟩ ⟨⟨m,L⟩,w⟩=>dA (λj=>?_) λ_=>aI w;have j:q<x.args.length:=by simpa using j
  simp only at m L w;refine bK (aC.2 ⟨m,j⟩) (bF _ (H _ (J _ (by rw[getD_at _ (by simp only;omega)];exact Xs _))) λy K=>aI ⟨⟨⟨?_,?_⟩,?_⟩,?_⟩)
  .simp only[aG (x:=q+1) (by omega)];omega
  .simp only[aG (x:=q+1) (by omega)];omega
  .rw [Ju];omega
  .simp only[aG (x:=q+1) (by omega)];omega
end
theorem Yx{α:Type}{l:List α}{q:Int}(d:α)(h:0<=q)(j:q<l.length):l.getD q.toNat d∈l:=by rw[getD_at _ (by omega)];exact Xs _
inductive QS1(g:List aF)(sg:List (List UInt8×Nat))(L:List (List UInt8))(P:List (List UInt8)->dw->List (List UInt8)->Nat->Nat->Prop)(lo:List (List UInt8)):dw->List (List UInt8)->Nat->Nat->Prop
 |var {i:Int} {nm:List UInt8} {x:aU}:nm∈L->QX g sg L 3 x->QS1 g sg L P lo (dw.mk 1 i nm [x] [] []) (lo++[nm]) 1 1
 |assign {i:Int} {nm:List UInt8} {x:aU}:NV g L nm->QX g sg L 3 x->QS1 g sg L P lo (dw.mk 2 i nm [x] [] []) lo 1 1
 |step {i:Int} {nm:List UInt8} {x:aU}:NV g L nm->QX g sg L 2 x->QS1 g sg L P lo (dw.mk 2 i nm [x] [] []) lo 0 1
 |store {i:Int} {nm:List UInt8} {x z:aU}:PG zj g nm->QX g sg L 2 x->QX g sg L 3 z->QS1 g sg L P lo (dw.mk 3 i nm [x,z] [] []) lo 1 1
 |if' {i:Int} {nm:List UInt8} {x:aU} {th el:List dw} {l1 l2:List (List UInt8)} {c1 c2 k1 k2:Nat}:QX g sg L 3 x->th.length<=10->el.length<=10->Ch P lo th l1 c1 k1->Ch P l1 el l2 c2 k2->QS1 g sg L P lo (dw.mk 4 i nm [x] th el) l2 (1+c1+c2) (1+k1+k2)
 |sF {i:Int} {nm:List UInt8} {x:aU} {th:List dw} {l1:List (List UInt8)} {c1 k1:Nat}:QX g sg L 3 x->th.length<=10->Ch P lo th l1 c1 k1->QS1 g sg L P lo (dw.mk 5 i nm [x] th []) l1 (1+c1) (1+k1)
 |plain {k i:Int} {nm:List UInt8} {x:aU}:k=6\/k=7\/k=8->QX g sg L 3 x->QS1 g sg L P lo (dw.mk k i nm [x] [] []) lo 1 1
def QS(g:List aF)(sg:List (List UInt8×Nat))(L:List (List UInt8)):Nat->List (List UInt8)->dw->List (List UInt8)->Nat->Nat->Prop
 |0=>λ_ _ _ _ _=>False
 |n+1=>λlo s h c k=>QS1 g sg L (QS g sg L n) lo s h c k
abbrev Rel:=Nat->List (List UInt8)->dw->List (List UInt8)->Nat->Nat->Prop
def View(P:Rel)(n:Nat)(lo:List (List UInt8))(s:dw)(lo':List (List UInt8)):Prop:=∃h j m q w y,(s.kind=1->h=lo++[s.name])/\(s.kind≠1->h=lo)/\Ch (P n) h s.then' j m w/\Ch (P n) j s.else' lo' q y/\s.then'.length<=10/\s.else'.length<=10
theorem aaV{g:List aF}{sg:List (List UInt8×Nat)}{n:Nat}{lo j:List (List UInt8)}{s:dw}{c k:Nat}(h:RS g sg (n+1) lo s j c k):View (RS g sg) n lo s j:=by
 cases (show RS1 g sg (RS g sg n) lo s j c k from h)with
 |var _ _ _=>exact⟨_,_,0,0,0,0,λ_=>rfl,λh=>absurd rfl h,.nil,.nil,by simp,by simp⟩
 |assign _ _=>exact⟨_,_,0,0,0,0,λh=>absurd h (by simp),λ_=>rfl,.nil,.nil,by simp,by simp⟩
 |step _=>exact⟨_,_,0,0,0,0,λh=>absurd h (by simp),λ_=>rfl,.nil,.nil,by simp,by simp⟩
 |store _ _ _=>exact⟨_,_,0,0,0,0,λh=>absurd h (by simp),λ_=>rfl,.nil,.nil,by simp,by simp⟩
 |if' _ m q a b=>exact⟨_,_,_,_,_,_,λh=>absurd h (by simp),λ_=>rfl,a,b,m,q⟩
 |sF _ m a=>exact⟨_,_,_,0,_,0,λh=>absurd h (by simp),λ_=>rfl,a,.nil,m,by simp⟩
 |plain w _=>exact⟨_,_,0,0,0,0,λh=>by simp only at h;omega,λ_=>rfl,.nil,.nil,by simp,by simp⟩
theorem aj8{g:List aF}{sg:List (List UInt8×Nat)}{L:List (List UInt8)}{n:Nat}{lo j:List (List UInt8)}{s:dw}{c k:Nat}(h:QS g sg L (n+1) lo s j c k):View (QS g sg L) n lo s j:=by
 cases (show QS1 g sg L (QS g sg L n) lo s j c k from h)with
 |var _ _=>exact⟨_,_,0,0,0,0,λ_=>rfl,λh=>absurd rfl h,.nil,.nil,by simp,by simp⟩
 |assign _ _=>exact⟨_,_,0,0,0,0,λh=>absurd h (by simp),λ_=>rfl,.nil,.nil,by simp,by simp⟩
 |step _ _=>exact⟨_,_,0,0,0,0,λh=>absurd h (by simp),λ_=>rfl,.nil,.nil,by simp,by simp⟩
 |store _ _ _=>exact⟨_,_,0,0,0,0,λh=>absurd h (by simp),λ_=>rfl,.nil,.nil,by simp,by simp⟩
 |if' _ m q a b=>exact⟨_,_,_,_,_,_,λh=>absurd h (by simp),λ_=>rfl,a,b,m,q⟩
 |sF _ m a=>exact⟨_,_,_,0,_,0,λh=>absurd h (by simp),λ_=>rfl,a,.nil,m,by simp⟩
 |plain w _=>exact⟨_,_,0,0,0,0,λh=>by simp only at h;omega,λ_=>rfl,.nil,.nil,by simp,by simp⟩
theorem Ch.at{P:List (List UInt8)->dw->List (List UInt8)->Nat->Nat->Prop}{lo l1:List (List UInt8)}{j:List dw}{c k i:Nat}(h:Ch P lo (j.drop i) l1 c k)(hi:i<j.length):∃l2 c1 c2 k1 m,P lo (j.getD i qg) l2 c1 k1/\Ch P l2 (j.drop (i+1)) l1 c2 m/\c=c1+c2/\k=k1+m:=by
 rw[Ks hi]at h;cases h with
 |cons a b=>rw[getD_at _ hi];exact⟨_,_,_,_,_,a,b,rfl,rfl⟩
theorem Ch.fin{P:List (List UInt8)->dw->List (List UInt8)->Nat->Nat->Prop}{lo l1:List (List UInt8)}{j:List dw}{c k i:Nat}(h:Ch P lo (j.drop i) l1 c k)(hi:j.length<=i):lo=l1/\c=0/\k=0:=by
 rw[vQ hi]at h;cases h with
 |nil=>exact⟨rfl,rfl,rfl⟩
theorem Ch.len{P:List (List UInt8)->dw->List (List UInt8)->Nat->Nat->Prop}(j :∀lo s l1 c k,P lo s l1 c k->lo.length<=l1.length/\l1.length<=lo.length+k){lo l1:List (List UInt8)}{m:List dw}{c k:Nat}(h:Ch P lo m l1 c k):lo.length<=l1.length/\l1.length<=lo.length+k:=by
 induction h with
 |nil=>omega
 |cons a _ q=>have:=j _ _ _ _ _ a;omega
theorem GV{g:List aF}{sg:List (List UInt8×Nat)}:∀n lo s l1 c k,RS g sg n lo s l1 c k->lo.length<=l1.length/\l1.length<=lo.length+k
 |0,_,_,_,_,_,h=>h.elim
 |n+1,lo,s,l1,c,k,h=>by
  have j:=GV (g:=g) (sg:=sg) n;cases (show RS1 g sg (RS g sg n) lo s l1 c k from h)with
  |var _ _ _=>simp
  |assign _ _=>omega
  |step _=>omega
  |store _ _ _=>omega
  |if' _ _ _ a b=>have:=a.len j;have:=b.len j;omega
  |sF _ _ a=>have:=a.len j;omega
  |plain _ _=>omega
theorem JI{P:Rel}(J :∀lo s l1 c k,¬ P 0 lo s l1 c k)(K :∀n lo s l1 c k,P (n+1) lo s l1 c k->View P n lo s l1):∀n k:Nat,n+1<=k->∀j:List dw,j.length<=10->∀l B c q,Ch (P n) l j B c q->B.length<=1000->(∀n lo s l1 c k,P n lo s l1 c k->lo.length<=l1.length)->ant k j l=zw B
 |_,0,H,_,_,_,_,_,_,_,_,_=>by omega
 |n,k+1,H,j,hs,l,B,c,q,w,hl,L=>by
  apply ok_eq;show Ok (anr (ant k) j l) _;have z :∀{n:Nat} {a b:List (List UInt8)} {j:List dw} {c q:Nat},Ch (P n) a j b c q->a.length<=b.length:=λh=>by
   induction h with
   |nil=>exact Z1 _
   |cons a _ ih=>exact JS (L _ _ _ _ _ _ a) ih
  unfold anr;refine bF (λy=>y=B) ?_ λy M=>aI M;refine bD (λs:Int×List (List UInt8)=>∃i c q:Nat,s.1=i/\i<=j.length/\Ch (P n) s.2 (j.drop i) B c q) (λs=>(j.length-s.1).toNat) ⟨0,c,q,rfl,by omega,w⟩ λ⟨i',N⟩ ⟨i,c,q,U,e2,T⟩=>?_;simp only at U T;subst U;refine dA (λw=>?_) λw=>aI (T.fin (by simpa using w)).1;have w:(i:Int)<j.length:=by simpa using w
  have m:=aC.2 (show 0<=(i:Int)/\(i:Int)<j.length from ⟨by omega,w⟩);obtain⟨l2,c1,c2,k1,k2,X,Y,_,_⟩:=T.at (by omega);cases n with
  |zero=>exact absurd X (J _ _ _ _ _)
  |succ n=>
   obtain⟨Z,m2,d1,d2,q1,q2,v1,v2,v3,v4,v5,v6⟩:=K _ _ _ _ _ _ X;have b1:=z Y;have b2:=z v4;have b3:=z v3;refine bK m (bF (λy=>y=Z) ?_ λy M=>?_)
   .refine dA (λH=>bK m (bK ?_ (aI ?_))) λH=>aI ?_
    .have:=v1 (by simpa using H);have b4:Z.length=N.length+1:=by rw[this];simp
     unfold aV;simp;omega
    .exact (v1 (by simpa using H)).symm
    .exact (v2 (by simpa using H)).symm
   subst M;refine bK m (eP (JI J K n k (by omega) _ v5 _ _ _ _ v3 (by omega) L) (bK m (eP (JI J K n k (by omega) _ v6 _ _ _ _ v4 (by omega) L) (aI ⟨⟨i+1,c2,k2,?_,by omega,Y⟩,?_⟩))))
   .show bT ((i:Int)+1)=_;rw[aG (by omega)];rfl
   .show ((j.length:Int)-bT ((i:Int)+1)).toNat<((j.length:Int)-i).toNat;rw[aG (by omega)];omega
theorem Sz{P:Rel}(w :∀lo s l1 c k,¬ P 0 lo s l1 c k)(B :∀n lo s l1 c k,P (n+1) lo s l1 c k->View P n lo s l1):∀n k:Nat,n+1<=k->n<=1000->∀h:List dw,h.length<=10->∀l H c q,Ch (P n) l h H c q->Ok (anv k h) λy=>0<=y/\y<=n
 |_,0,M,_,_,_,_,_,_,_,_=>by omega
 |n,k+1,M,hn,h,hs,l,H,c,q,j=>by
  show Ok (anu (anv k) h) _;unfold anu;refine bF (λy=>0<=y/\y<=n) ?_ λy N=>aI N;refine bD (λs:Int×Int=>(0<=s.1/\s.1<=n)/\∃i c q:Nat,∃l,s.2=i/\i<=h.length/\Ch (P n) l (h.drop i) H c q) (λs=>(h.length-s.2).toNat) ⟨⟨by simp,by simp only;omega⟩,0,c,q,l,rfl,by omega,j⟩ λ⟨z,i'⟩ ⟨J,i,c,q,l,K,e2,T⟩=>?_;simp only at K J;subst K;refine dA (λj=>?_) λj=>aI J;have j:(i:Int)<h.length:=by simpa using j
  have m:=aC.2 (show 0<=(i:Int)/\(i:Int)<h.length from ⟨by omega,j⟩);obtain⟨U,c1,X,k1,Y,L,Z,_,_⟩:=T.at (by omega);cases n with
  |zero=>exact absurd L (w _ _ _ _ _)
  |succ n=>
   obtain⟨m1,m2,d1,d2,q1,q2,v1,v2,v3,v4,v5,v6⟩:=B _ _ _ _ _ _ L;refine bK m (bF _ (Sz w B n k (by omega) (by omega) _ v5 _ _ _ _ v3) λy1 hy1=>bK m (bF _ (Sz w B n k (by omega) (by omega) _ v6 _ _ _ _ v4) λy2 hy2=>aI ⟨⟨?_,i+1,X,Y,U,?_,by omega,Z⟩,?_⟩))
   .simp only[Ju];rw[aG (x:=1+y1) (by omega),aG (x:=1+y2) (by omega)];omega
   .show bT ((i:Int)+1)=_;rw[aG (by omega)];rfl
   .show ((h.length:Int)-bT ((i:Int)+1)).toNat<((h.length:Int)-i).toNat;rw[aG (by omega)];omega
section
variable {g:List aF} {fs:List aH}
theorem aaW:∀x∈frN,cls x=1:=by decide
def EZ(g:List aF)(sg:List (List UInt8×Nat))(L:List (List UInt8))(n:Nat)(lo:List (List UInt8))(s:dw)(lo':List (List UInt8))(c k:Nat):Prop:=
 ∃h j w y z B,∃q:Nat->Nat,(s.kind=1->h=lo++[s.name]/\s.name∈frN/\¬ s.name∈lo)/\(s.kind≠1->h=lo)/\(s.kind=2->NV g lo s.name)/\(s.kind=3->PG zj g s.name)/\
  Ch (RS g sg n) h s.then' j w z/\Ch (RS g sg n) j s.else' lo' y B/\(s.then'.length<=10/\s.else'.length<=10/\s.exprs.length<=2)/\(∀i,i<s.exprs.length->q i<=3/\RX g sg lo (q i) (s.exprs.getD i fA))/\
  ∀es m el,es.length=s.exprs.length->(∀i,i<s.exprs.length->QX g sg L (q i) (es.getD i fA))->m.length<=10->el.length<=10->Ch (QS g sg L n) h m j w z->Ch (QS g sg L n) j el lo' y B->(m.length=s.then'.length/\el.length=s.else'.length)->QS g sg L (n+1) lo (dw.mk s.kind s.line s.name es m el) lo' c k
theorem Ar{es:List aU}(h:es.length=1):es=[es.getD 0 fA]:=by
 match es,h with
 | [x],_=>rfl
theorem aj9{es:List aU}(h:es.length=2):es=[es.getD 0 fA,es.getD 1 fA]:=by
 match es,h with
 | [x,z],_=>rfl
theorem an2{sg:List (List UInt8×Nat)}{L:List (List UInt8)}{n:Nat}{lo B:List (List UInt8)}{s:dw}{c k:Nat}(X :∀x∈B,x∈L)(h:RS g sg (n+1) lo s B c k):EZ g sg L n lo s B c k:=by
 have K :∀x∈lo,x∈L:=λx j=>X x (JC _ _ _ _ _ _ h x j);have one :∀{x:aU} {m:Nat},m<=3->RX g sg lo m x->∀i,i<([x]:List aU).length->m<=3/\RX g sg lo m (([x]:List aU).getD i fA):=λhm j i M=>by
  have:i=0:=by simpa using M
  subst this;exact⟨hm,j⟩
 cases (show RS1 g sg (RS g sg n) lo s B c k from h)with
 |var q N j=>refine⟨_,_,0,0,0,0,λ_=>3,λ_=>⟨rfl,q,N⟩,λh=>absurd rfl h,λh=>absurd h (by simp),λh=>absurd h (by simp),.nil,.nil,by simp,one (by omega) j,λes J el y w _ _ _ _ ⟨H,z⟩=>?_⟩;rw[Ar y,WF.1 H,WF.1 z];exact .var (X _ (by simp)) (w 0 (by simp))
 |assign q j=>refine⟨_,_,0,0,0,0,λ_=>3,λh=>absurd h (by simp),λ_=>rfl,λ_=>q,λh=>absurd h (by simp),.nil,.nil,by simp,one (by omega) j,λes J el y w _ _ _ _ ⟨H,z⟩=>?_⟩;rw[Ar y,WF.1 H,WF.1 z];exact .assign (q.mono K) (w 0 (by simp))
 |step q=>refine⟨_,_,0,0,0,0,λ_=>2,λh=>absurd h (by simp),λ_=>rfl,λ_=>q,λh=>absurd h (by simp),.nil,.nil,by simp,one (by omega) (.bin (by omega) (.name q) (.leaf (.inl rfl))),λes J el y w _ _ _ _ ⟨H,z⟩=>?_⟩;rw[Ar y,WF.1 H,WF.1 z];exact .step (q.mono K) (w 0 (by simp))
 |store q j hz=>
  refine⟨_,_,0,0,0,0,λi=>if i=0 then 2 else 3,λh=>absurd h (by simp),λ_=>rfl,λh=>absurd h (by simp),λ_=>q,.nil,.nil,by simp,λi M=>?_,λes J el y w _ _ _ _ ⟨H,z⟩=>?_⟩
  .have:i=0\/i=1:=by simp at M;omega
   rcases this with rfl|rfl
   .exact ⟨by simp,j⟩
   .exact ⟨by simp,hz⟩
  .rw [aj9 y,WF.1 H,WF.1 z];exact .store q (w 0 (by simp)) (w 1 (by simp))
 |if' j q N a b=>refine⟨_,_,_,_,_,_,λ_=>3,λh=>absurd h (by simp),λ_=>rfl,λh=>absurd h (by simp),λh=>absurd h (by simp),a,b,⟨q,N,by simp⟩,one (by omega) j,λes J el y w T Y U Z _=>?_⟩;rw[Ar y];exact .if' (w 0 (by simp)) T Y U Z
 |sF j q a=>refine⟨_,_,_,0,_,0,λ_=>3,λh=>absurd h (by simp),λ_=>rfl,λh=>absurd h (by simp),λh=>absurd h (by simp),a,.nil,⟨q,by simp,by simp⟩,one (by omega) j,λes J el y w T Y U Z ⟨_,z⟩=>?_⟩;rw[Ar y,WF.1 z];exact .sF (w 0 (by simp)) T U
 |plain hk j=>refine⟨_,_,0,0,0,0,λ_=>3,λh=>by simp only at h;omega,λ_=>rfl,λh=>by simp only at h;omega,λh=>by simp only at h;omega,.nil,.nil,by simp,one (by omega) j,λes J el y w _ _ _ _ ⟨H,z⟩=>?_⟩;rw[Ar y,WF.1 H,WF.1 z];exact .plain hk (w 0 (by simp))
def PR(n m:Nat)(g:List aF)(fs:List aH)(L lo:List (List UInt8))(a:Int)(lo':List (List UInt8))(c q:Nat)(y:List aF×List aH×Int×Int×List dw×List (List UInt8)):Prop:=∃h,y=(g,fs,a,0,h,lo')/\h.length=m/\Ch (QS g (jo fs) L n) lo h lo' c q
theorem GX(hg:GN g)(Z:FN fs){L:List (List UInt8)}{a:Int}:∀n k:Nat,n+1<=k->∀j:List dw,j.length<=10->∀lo m c q,Ch (RS g (jo fs) n) lo j m c q->LN lo->m.length<=1000->(∀x∈m,x∈L)->Ok (agm k j g fs a 0 lo) λy=>PR n j.length g fs L lo a m c q y/\LN m
 |_,0,w,_,_,_,_,_,_,_,_,_,_=>by omega
 |n,k+1,w,j,hs,lo,m,c,q,hch,hln,hl,hL=>by
  show Ok (agk (agm k) j g fs a 0 lo) _;unfold agk;refine bF (λy=>PR n j.length g fs L lo a m c q y/\LN m) ?_ λy ⟨⟨j,e,h⟩,h2⟩=>by subst e;exact aI ⟨⟨j,rfl,h⟩,h2⟩
  refine bD (λs:Int×List aF×List aH×Int×Int×List dw×List (List UInt8)=>∃i c1 q1 c2 q2:Nat,∃Y N,s=((i:Int),g,fs,a,0,Y,N)/\i<=j.length/\Y.length=i/\Ch (QS g (jo fs) L n) lo Y N c1 q1/\Ch (RS g (jo fs) n) N (j.drop i) m c2 q2/\c=c1+c2/\q=q1+q2/\LN N) (λs=>(j.length-s.1).toNat)
   ⟨0,0,0,c,q,[],lo,rfl,by omega,rfl,.nil,hch,by omega,by omega,hln⟩ λs ⟨i,c1,q1,c2,q2,Y,N,e,e1,e2,e3,e4,e5,e6,e7⟩=>?_
  subst e;refine dA (λB=>?_) λB=>?_
  rotate_left
  .have B:¬ (i:Int)<j.length:=by simpa using B
   obtain⟨f1,f2,f3⟩:=e4.fin (by omega);subst f1;subst f2;subst f3;have:i=j.length:=by omega
   subst this;subst e5;subst e6;exact aI ⟨⟨Y,rfl,e2,e3⟩,e7⟩
  have B:(i:Int)<j.length:=by simpa using B
  have J:=aC.2 (show 0<=(i:Int)/\(i:Int)<j.length from ⟨by omega,B⟩);obtain⟨l2,c3,c4,k3,k4,hx,hr,d1,d2⟩:=e4.at (by omega);obtain⟨x,T⟩ :∃x,j.getD (i:Int).toNat qg=x:=⟨_,rfl⟩;rw[Q4]at T;rw[T]at hx;simp only[Q4,T];cases n with
  |zero=>exact hx.elim
  |succ n=>
   have hl2:l2.length<=1000:=by have:=(hr.len (GV _)).1;omega
   have hl1:N.length<=1000:=by have:=(GV _ _ _ _ _ _ hx).1;omega
   have K :∀z∈l2,z∈L:=λz hz=>hL z (Sm hr z hz);obtain⟨m1,m2,p1,p2,r1,r2,ht,w1,w2,w3,w4,w5,w6,⟨w7,w8,w9⟩,w10,w11⟩:=an2 K hx;have U:Sc g fs N:=⟨hg,Z,e7,by omega⟩;have awy :∀z∈N,z∈L:=λz hz=>K z (JC _ _ _ _ _ _ hx z hz);refine bK J (bF (λy=>∃ar,y=(g,fs,a,0,ar)/\ar.length=x.exprs.length/\∀i,i<x.exprs.length->QX g (jo fs) L (ht i) (ar.getD i fA)) ?_ λy ⟨ar,e,f1,f2⟩=>?_)
   .refine bD (λs:Int×List aF×List aH×Int×Int×List aU=>∃ar,s=((ar.length:Int),g,fs,a,0,ar)/\ar.length<=x.exprs.length/\∀i,i<ar.length->QX g (jo fs) L (ht i) (ar.getD i fA)) (λs=>(x.exprs.length-s.1).toNat) ⟨[],rfl,by simp,λi h=>by simp at h⟩ λs ⟨ar,e,f1,f2⟩=>?_;subst e;refine dA (λB=>?_) λB=>?_
    rotate_left
    .have B:¬ (ar.length:Int)<x.exprs.length:=by simpa using B
     exact aI ⟨ar,rfl,by omega,λi hi=>f2 i (by omega)⟩
    have B:(ar.length:Int)<x.exprs.length:=by simpa using B
    have J:=aC.2 (show 0<=(ar.length:Int)/\(ar.length:Int)<x.exprs.length from ⟨by omega,B⟩);obtain⟨hh,hz⟩:=w10 ar.length (by omega);simp only[Q4];refine bK J (bF _ (P7 (ht ar.length) 1048576 (by omega) (by omega) _ hz) λy hy=>bF (λy=>y=(g,fs,a,0)) (b_ (Qt (by omega)) (aI rfl)) λy e=>?_);subst e;refine bK J (bF _ (P6 U (ht ar.length) 1048576 (by omega) _ hz) λy ⟨k,o,v,i,nm,Nq,e,hr⟩=>?_);subst e;refine bK (by unfold aV;simp;omega) (aI ⟨⟨ar++[aU.mk k o v i nm Nq],?_,by simp;omega,λi hi=>?_⟩,?_⟩)
    .simp only[aG (x:=(ar.length:Int)+1) (by omega)];simp
    .rw [mW];simp only[XX,W5]at hi;by_cases e:i<ar.length
     .rw [QR e];exact f2 i e
     .have:i=ar.length:=by omega
      subst this;rw[QP e,QR rfl];exact hr.mono awy
    .simp only[aG (x:=(ar.length:Int)+1) (by omega)];omega
   subst e;refine agN U (P:=λz=>(x.kind=1->z=0)/\(x.kind=2->z=1\/z=2)/\(x.kind=3->z=3)) (λhm=>⟨λw=>absurd hm (w1 w).2.2,λ_=>.inl rfl,λw=>absurd hm (Yu U (by rw[agL hg (w4 w)];omega))⟩) (λhm=>?_) λz ⟨z1,z2,z3⟩=>?_
   .by_cases H:x.kind=1
    .exact ⟨0,aaT hg Z (aaW _ (w1 H).2.1),λ_=>rfl,λh=>by omega,λh=>by omega⟩
    .by_cases hk2:x.kind=2
     .exact ⟨2,JH hg ((w3 hk2).resolve_left hm),λh=>by omega,λ_=>.inr rfl,λh=>by omega⟩
     .by_cases hk3:x.kind=3
      .exact ⟨3,JH hg (w4 hk3),λh=>by omega,λh=>by omega,λ_=>rfl⟩
      .exact kJ (agM hg Z) λy _=>⟨λh=>absurd h H,λh=>absurd h hk2,λh=>absurd h hk3⟩
   refine bF (λy=>y=(g,fs,a,0,m1)) ?_ λy e=>?_
   .refine dA (λw=>?_) λw=>?_
    .have w:x.kind=1:=by simpa using w
     refine bF (λy=>y=(g,fs,a,0)) (b_ (by rw[z1 w];rfl) (aI rfl)) λy e=>?_;subst e;exact bK (by unfold aV;simp;omega) (aI (by rw[(w1 w).1]))
    .have w:x.kind≠1:=by simpa using w
     rw[w2 w];refine bF (λu=>u=decide (x.kind=2\/x.kind=3)) ?_ λu hu=>?_
     .refine dA (λh=>aI ?_) λh=>aI ?_
      .have h:x.kind=2:=by simpa using h
       simp[h]
      .have h:¬ x.kind=2:=by simpa using h
       simp[h]
     subst hu;refine bF (λy=>y=(g,fs,a,0)) ?_ λy e=>by subst e;exact aI rfl
     refine dA (λM=>?_) λ_=>aI rfl;have M:x.kind=2\/x.kind=3:=by simpa using M
     refine bF (λy=>y=(g,fs,a,0)) ?_ λy e=>by subst e;exact aI rfl
     refine b_ (Qt (by rcases M with h|h;(· have:=z2 h;omega);(· have:=z3 h;omega))) (bF (λu=>u=zv) ?_ λu hu=>?_)
     .refine dA (λh=>?_) λh=>?_
      .have h:x.kind=2:=by simpa using h
       have h3:¬ x.kind=3:=by omega
       refine dA (λX=>?_) λ_=>b_ (Qt h3) (aI rfl);have X:¬ z=1:=by simpa using X
       exact b_ (by have:=(z2 h).resolve_left X;rw[this];rfl) (b_ (Qt h3) (aI rfl))
      .have h:¬ x.kind=2:=by simpa using h
       have h3:=M.resolve_left h;exact goT (YY h3) (aI (by rw[z3 h3];rfl))
     subst hu;exact bF (λy=>y=(g,fs,a,0)) (b_ rfl (aI rfl)) λy e=>by subst e;exact aI rfl
   subst e;have hm1:LN m1:=by
    by_cases H:x.kind=1
    .rw [(w1 H).1];intro z hz;rcases Z0.1 hz with hz|hz
     .exact e7 z hz
     .rw [X2]at hz;subst hz;exact aaW _ (w1 H).2.1
    .rw [w2 H];exact e7
   have hl3:=(w6.len (GV _)).1;refine bF _ (GX hg Z (L:=L) (a:=a) n k (by omega) _ w7 _ _ _ _ w5 hm1 (by omega) λz hz=>K z (Sm w6 z hz)) λy ⟨⟨s1,e,g1,g2⟩,g3⟩=>?_;subst e;refine bF _ (GX hg Z (L:=L) (a:=a) n k (by omega) _ w8 _ _ _ _ w6 g3 hl2 K) λy ⟨⟨s2,e,g4,g5⟩,g6⟩=>?_;subst e;refine bK (by unfold aV;simp;omega) (aI ⟨⟨i+1,_,_,_,_,Y++[dw.mk x.kind x.line x.name ar s1 s2],l2,?_,by omega,?_,e3.snoc (w11 ar s1 s2 f1 f2 (by omega) (by omega) g2 g5 ⟨g1,g4⟩),hr,by omega,by omega,g6⟩,?_⟩)
   .show (bT ((i:Int)+1),_)=_;rw[aG (by omega)];rfl
   .simp;exact e2
   .show ((j.length:Int)-bT ((i:Int)+1)).toNat<((j.length:Int)-i).toNat;rw[aG (by omega)];omega
end
structure an3(g:List aF)(fs:List aH):Prop where
 gn:GN g
 fn:FN fs
 bd :∀i,i<fs.length->(fs.getD i bM).body.length<=10/\∃L c q,Ch (QS g (jo fs) L 3) (fs.getD i bM).params (fs.getD i bM).body L c q/\c<=7/\q<=14/\LN L/\L.length<=16
theorem PN.cls{ps:List (List UInt8)}(h:PN ps):LN ps:=λx m=>by obtain⟨k,j,e⟩:=WN m;have:=h.2 k j;rw[getD_at _ j,e]at this;rw[this];rfl
theorem Yy{g:List aF}{sg:List (List UInt8×Nat)}{L:List (List UInt8)}:∀n lo s l1 c k,QS g sg L n lo s l1 c k->lo.length<=l1.length/\l1.length<=lo.length+k
 |0,_,_,_,_,_,h=>h.elim
 |n+1,lo,s,l1,c,k,h=>by
  have j:=Yy (g:=g) (sg:=sg) (L:=L) n;cases (show QS1 g sg L (QS g sg L n) lo s l1 c k from h)with
  |var _ _=>simp
  |assign _ _=>omega
  |step _ _=>omega
  |store _ _ _=>omega
  |if' _ _ _ a b=>have:=a.len j;have:=b.len j;omega
  |sF _ _ a=>have:=a.len j;omega
  |plain _ _=>omega
theorem agS{α:Type}{l m:List α}{d:α}(q:l.length=m.length)(h :∀i,i<m.length->l.getD i d=m.getD i d):l=m:=by refine Kl q λi w j=>?_;have:=h i j;rw[getD_at _ w,getD_at _ j]at this;exact this
theorem Yz{g:List aF}{fs:List aH}(h:Src g fs):Ok (f80 g fs) λy=>an3 y.2.2.1 y.2.2.2:=by
 have hg:=h.gn;have X:=h.fn;have hg4:=hg.1;obtain⟨⟨Y,hf4⟩,Z,N⟩:=id X;have M:inB (0:Int) fs.length=zj:=aC.2 ⟨by omega,by omega⟩;unfold f80;refine bF (λy=>y=zv) (b_ (Qt (by omega)) (aI (Qt (by omega)))) λs5 e=>?_;subst e;refine b_ rfl (bF (λy=>y=zv) (b_ (Qt (by omega)) (bK M (b_ ?_ (bK M (aI ?_))))) λs15 e=>?_)
 .have:=(N 0 Y).1;rw[QR rfl]at this;rw[show Int.toNat 0=0 from rfl,this];rfl
 .rw [show Int.toNat 0=0 from rfl,Z];rfl
 subst e;refine b_ rfl (iI (λ_=>True) (jA g.length (λ_=>True) (by omega) (λi J _=>goT (YY (by omega)) (bK (aC.2 ⟨by omega,by omega⟩) (bF (λy=>y=(i:Int)) ?_ λy e=>by subst e;exact b_ (by simp) (aI ⟨rfl,trivial⟩)))) λ_=>b_ (Qt (by omega)) (aI trivial)) λ_ _=>?_)
 .refine kJ (JE (by omega)) λy hy=>?_;simp only[Q4]at hy;rcases hy with⟨_,hn⟩|⟨j,e,h2,h3⟩
  .exact absurd rfl (hn i J)
  .rw [e,hg.inj h2 J h3]
 refine iI (λ_=>True) (jA fs.length (λ_=>True) (by omega) (λi J _=>goT (YY (by omega)) (bF (λy=>y=zv) ?_ λy e=>by subst e;exact b_ rfl (aI ⟨rfl,trivial⟩))) λ_=>b_ (Qt (by omega)) (aI trivial)) λ_ _=>?_
 .refine bK (aC.2 ⟨by omega,by omega⟩) ?_;simp only[Q4];refine eP (Sr hg (by rw[X.cls i J];omega)) (b_ rfl (bK (aC.2 ⟨by omega,by omega⟩) (bF _ (JG (by omega)) λy hy=>aI ?_)));rcases hy with⟨_,hn⟩|⟨j,e,h2,h3⟩
  .exact absurd rfl (hn i J)
  .rw [e,X.inj h2 J h3];simp
 refine bK (by unfold aV;simp;omega) (iI (λH=>(H.length=fs.length/\∀i,i<fs.length->(H.getD i bM).name=(fs.getD i bM).name/\(H.getD i bM).params=(fs.getD i bM).params)/\∀i,i<fs.length->(H.getD i bM).body.length<=10/\∃L c q,Ch (QS g (jo fs) L 3) (fs.getD i bM).params (H.getD i bM).body L c q/\c<=7/\q<=14/\LN L/\L.length<=16) ?_ λH ⟨⟨r1,r2⟩,r3⟩=>aI ?_)
 rotate_left
 .have hsg:jo H=jo fs:=by
   refine agS (d:=([],0)) (by unfold jo;simp[r1]) λi w=>?_;have w:i<fs.length:=by simpa[jo]using w
   unfold jo;rw[getD_at _ (by simpa using r1▸w),getD_at _ (by simpa using w)];simp only[Kh];have:=r2 i w;rw[getD_at _ (by omega),getD_at _ w]at this;rw[this.1,this.2]
  have e0:fC++g=g:=by simp
  simp only[e0];refine⟨hg,⟨⟨by omega,by omega⟩,by rw[(r2 0 Y).2];exact Z,λi w=>?_⟩,λi w=>?_⟩
  .rw [(r2 i (by omega)).1,(r2 i (by omega)).2];exact N i (by omega)
  .rw [hsg,(r2 i (by omega)).2];exact r3 i (by omega)
 refine bD (λs:Int×List aH=>∃n:Nat,s.1=n/\n<=fs.length/\(s.2.length=n/\∀i,i<n->(s.2.getD i bM).name=(fs.getD i bM).name/\(s.2.getD i bM).params=(fs.getD i bM).params)/\∀i,i<n->(s.2.getD i bM).body.length<=10/\∃L c q,Ch (QS g (jo fs) L 3) (fs.getD i bM).params (s.2.getD i bM).body L c q/\c<=7/\q<=14/\LN L/\L.length<=16) (λs=>(fs.length-s.1).toNat) ⟨0,rfl,by omega,⟨rfl,λi w=>by omega⟩,λi w=>by omega⟩ λ⟨q,H⟩ ⟨n,e1,e2,⟨e3,e4⟩,e5⟩=>?_;simp only at e1 e3 e4 e5;subst e1;refine dA (λT=>?_) (λT=>?_)
 rotate_left
 .have:¬ (n:Int)<fs.length:=by simpa using T
  have:n=fs.length:=by omega
  subst this;exact aI ⟨⟨e3,e4⟩,e5⟩
 have T:n<fs.length:=by simpa using T
 obtain⟨hb,lo,c,q,z,hc7,arT⟩:=h.bd n T;obtain⟨_,m⟩:=N n T;obtain⟨f,K⟩ :∃f,fs.getD n bM=f:=⟨_,rfl⟩;rw[K]at hb z m;simp only[Q4,K];have hp2:=m.1;have hlen:=(z.len (GV 3)).2;have B:(zj&&decide ((List.length kK+f.params.length)*16<=140737488355328))=zj:=by simp;omega
 have he:kK++f.params=f.params:=by simp
 have hR0 :∀lo s l1 c k,¬ RS g (jo fs) 0 lo s l1 c k:=λ_ _ _ _ _ h=>h;refine bK (aC.2 ⟨by omega,by omega⟩) (bF (λy=>y=zv) ?_ λy e=>?_)
 .refine b_ (Qt (by omega)) ?_;refine eP (y:=lo) ?_ (b_ (Qt (by omega)) (bF _ (Sz hR0 (λ_ _ _ _ _ _=>aaV) 3 1048576 (by omega) (by omega) _ hb _ _ _ _ z) λy hy=>aI (Qt (by omega))));apply ok_eq;unfold f74;refine bK B ?_;rw[he];exact eP (JI hR0 (λ_ _ _ _ _ _=>aaV) 3 1048576 (by omega) _ hb _ _ _ _ z (by omega) λn lo s l1 c k h=>(GV n lo s l1 c k h).1) (aI rfl)
 subst e;refine b_ rfl (iI (λ_=>True) (jA f.params.length (λ_=>True) (by omega) (λi J _=>goT (YY (by omega)) (bF (λy=>y=zv) ?_ λy e=>by subst e;exact b_ rfl (aI ⟨rfl,trivial⟩))) λ_=>b_ (Qt (by omega)) (aI trivial)) λ_ _=>?_)
 .refine bK (MX.2 ⟨⟨by omega,by omega⟩,by omega⟩) (bK (aC.2 ⟨by omega,by omega⟩) ?_);simp only[Q4,vz,List.drop_zero];refine eP (agI (by simp;omega)) (b_ (Qt λhm=>?_) (bK (aC.2 ⟨by omega,by omega⟩) (eP (aaT hg X (m.cls _ (by rw[getD_at _ J];exact Xs _))) (aI rfl))));obtain⟨k,hk,e⟩:=WN hm;have hk':k<i:=by rw[VM]at hk;omega
  rw[List.getElem_take]at e;have U:=m.2 k (by omega);have a2:=m.2 i J;rw[getD_at _ (by omega:k<f.params.length),e,a2]at U;injection U with _ U;injection U with U _
  have:=GR (by omega) (by omega) U;omega
 refine bK B ?_;rw[he];refine bF _ (GX hg X (L:=lo) (a:=0) 3 1048576 (by omega) _ hb _ _ _ _ z m.cls (by omega) λx hx=>hx) λy ⟨⟨ss,e,c1,c2⟩,c3⟩=>?_;subst e;refine b_ rfl (bK B (bK (by unfold aV;simp;omega) (aI ⟨⟨n+1,?_,by omega,⟨by simp[e3],λi w=>?_⟩,λi w=>?_⟩,?_⟩)))
 .simp only;rw[aG (by omega)];rfl
 .simp only;rw[mW];by_cases e:i<H.length
  .rw [QR e];exact e4 i (by omega)
  .have:i=n:=by omega
   subst this;rw[QP e,QR e3.symm,K];exact⟨rfl,rfl⟩
 .simp only;rw[mW];by_cases e:i<H.length
  .rw [QR e];exact e5 i (by omega)
  .have:i=n:=by omega
   subst this;rw[QP e,QR e3.symm,K];exact⟨by simp only;omega,lo,c,q,c2,hc7,arT,c3,by omega⟩
 .simp only;rw[aG (by omega)];omega
def RG(re x:Int):Prop:=0<=x/\x<re
def GI(a:Bool)(g:List aF)(v:Int):Prop:=(0<=v/\v<g.length)/\decide (0<(g.getD v.toNat (aF.mk bJ 0)).size)=a
inductive IV(g:List aF)(sg:List (List UInt8×Nat))(cl re:Int):dK->Prop
 |const {o d a b v:Int} {ar:List Int}:RG re d->ar.length<=10->IV g sg cl re (dK.mk 1 o d a b v ar)
 |move {o d a b v:Int} {ar:List Int}:RG re d->RG re a->ar.length<=10->IV g sg cl re (dK.mk 2 o d a b v ar)
 |un {o d a b v:Int} {ar:List Int}:RG re d->RG re a->o=1\/o=2->ar.length<=10->IV g sg cl re (dK.mk 3 o d a b v ar)
 |bin {o d a b v:Int} {ar:List Int}:RG re d->RG re a->RG re b->3<=o/\o<=11->ar.length<=10->IV g sg cl re (dK.mk 4 o d a b v ar)
 |load {o d a b v:Int} {ar:List Int}:RG re d->GI zv g v->ar.length<=10->IV g sg cl re (dK.mk 5 o d a b v ar)
 |store {o d a b v:Int} {ar:List Int}:RG re a->GI zv g v->ar.length<=10->IV g sg cl re (dK.mk 6 o d a b v ar)
 |elem {o d a b v:Int} {ar:List Int}:RG re d->RG re a->GI zj g v->ar.length<=10->IV g sg cl re (dK.mk 7 o d a b v ar)
 |set {o d a b v:Int} {ar:List Int}:RG re a->RG re b->GI zj g v->ar.length<=10->IV g sg cl re (dK.mk 8 o d a b v ar)
 |read {o d a b v:Int} {ar:List Int}:RG re d->ar.length<=10->IV g sg cl re (dK.mk 9 o d a b v ar)
 |print {o d a b v:Int} {ar:List Int}:RG re a->ar.length<=10->IV g sg cl re (dK.mk 10 o d a b v ar)
 |call {o d a b v:Int} {ar:List Int}:RG re d->(0<=v/\v<sg.length)->(sg.getD v.toNat ([],0)).2=ar.length->(∀x∈ar,RG re x)->ar.length<=10->IV g sg cl re (dK.mk 11 o d a b v ar)
 |IW {o d a b v:Int} {ar:List Int}:RG re d->RG re a->(∀x∈ar,RG re x)->ar.length<=10->IV g sg cl re (dK.mk 12 o d a b v ar)
 |func {o d a b v:Int} {ar:List Int}:RG re d->(0<=v/\v<cl)->ar.length<=10->IV g sg cl re (dK.mk 14 o d a b v ar)
variable {g:List aF} {sg:List (List UInt8×Nat)} {cl re re':Int}
theorem RG.mono(j:re<=re'){x:Int}(h:RG re x):RG re' x:=⟨h.1,by have:=h.2;omega⟩
theorem IV.mono(j:re<=re'){i:dK}(h:IV g sg cl re i):IV g sg cl re' i:=by
 cases h with
 |const a b=>exact .const (a.mono j) b
 |move a b c=>exact .move (a.mono j) (b.mono j) c
 |un a b c d=>exact .un (a.mono j) (b.mono j) c d
 |bin a b c d e=>exact .bin (a.mono j) (b.mono j) (c.mono j) d e
 |load a b c=>exact .load (a.mono j) b c
 |store a b c=>exact .store (a.mono j) b c
 |elem a b c d=>exact .elem (a.mono j) (b.mono j) c d
 |set a b c d=>exact .set (a.mono j) (b.mono j) c d
 |read a b=>exact .read (a.mono j) b
 |print a b=>exact .print (a.mono j) b
 |call a b c d e=>exact .call (a.mono j) b c (λx m=>(d x m).mono j) e
 |IW a b c d=>exact .IW (a.mono j) (b.mono j) (λx m=>(c x m).mono j) d
 |func a b c=>exact .func (a.mono j) b c
structure TV(re:Int)(n:Nat)(k a t e:Int):Prop where
 kind:k=1\/k=2\/k=3
 reg:k≠1->RG re a
 suc :∀x∈succs k t e,0<=x/\x<n
theorem TV.mono{n j:Nat}{k a t e:Int}(m:re<=re')(hn:n<=j)(h:TV re n k a t e):TV re' j k a t e:=⟨h.kind,λq=>(h.reg q).mono m,λx w=>by have:=h.suc x w;omega⟩
def tvB(re:Int)(n:Nat)(b:aO):Prop:=TV re n b.bV b.lJ b.f_ b.dI
def Bo(bl:List aO):Nat:=(bl.map λb=>b.instrs.length+1).sum
structure Inv(g:List aF)(sg:List (List UInt8×Nat))(cl re:Int)(w n:Nat)(bl:List aO)(O:Nat->Prop)(P:Nat->Nat->Prop):Prop where
 wt:Bo bl<=w
 len:bl.length<=n
 ins :∀b∈bl,∀i∈b.instrs,IV g sg cl re i
 trm :∀b,b<bl.length->¬ O b->tvB re bl.length (bl.getD b aA)
 opn :∀b,O b->b<bl.length
 src :∀a b,P a b->O a/\b<bl.length
 con :∀S:Nat->Prop,S 0->(∀b,b<bl.length->¬ O b->S b->∀x∈oZ bl b,S x.toNat)->(∀a b,P a b->S a->S b)->∀b,b<bl.length->S b
theorem Inv.up{w n m q:Nat}{bl:List aO}{O:Nat->Prop}{P:Nat->Nat->Prop}(h:Inv g sg cl re w n bl O P)(y:re<=re')(z:w<=m)(hn:n<=q):Inv g sg cl re' m q bl O P:=⟨JS h.wt z,JS h.len hn,λb j i B=>(h.ins b j i B).mono y,λb j H=>(h.trm b j H).mono y (Z1 _),h.opn,h.src,h.con⟩
theorem Inv.cast{w n:Nat}{bl:List aO}{O j:Nat->Prop}{P m:Nat->Nat->Prop}(h:Inv g sg cl re w n bl O P)(q :∀x,O x↔j x)(y :∀a b,P a b↔m a b):Inv g sg cl re w n bl j m:=by have z:O=j:=funext λx=>propext (q x);have B:P=m:=funext λa=>funext λb=>propext (y a b);rw[<-z,<-B];exact h
theorem agT(bl:List aO):bl.length<=Bo bl:=by
 unfold Bo
 induction bl with
 |nil=>simp
 |cons b bl h=>simp only[Qf,K4,Wm];omega
theorem YA{bl:List aO}:∀b∈bl,b.instrs.length+1<=Bo bl:=by
 unfold Bo
 induction bl with
 |nil=>intro b h;cases h
 |cons c bl j=>
  intro b hb;simp only[Qf,K4];rcases XN.1 hb with e|hb
  .subst e;omega
  .have:=j b hb;omega
theorem YB:∀{bl:List aO} {a:Nat} {b:aO},a<bl.length->Bo (bl.set a b)+((bl.getD a aA).instrs.length+1)=Bo bl+(b.instrs.length+1)
 | [],a,b,h=>by simp at h
 |c::bl,0,b,h=>by unfold Bo;simp;omega
 |c::bl,a+1,b,h=>by have:=YB (bl:=bl) (a:=a) (b:=b) (by simpa using h);unfold Bo at this ⊢;simp only[List.set_cons_succ,Qf,K4,List.getD_cons_succ];omega
section
variable {fs:List aH} {lo:List (List UInt8)} {nu:Int}
theorem SA{bl j:List aO}{b:Nat}(h:j.getD b aA=bl.getD b aA):oZ j b=oZ bl b:=by unfold oZ;rw[h]
theorem oU{β:Type}{w n a:Nat}{L ln:Int}{bl:List aO}{O:Nat->Prop}{P:Nat->Nat->Prop}{f}{Q:β->Prop}(h:Inv g sg cl re w n bl O P)(K:O a)(hk:w<=1000000)(c :∀j,j.length=bl.length+1->Inv g sg cl re (w+1) (n+1) j (λx=>x=bl.length\/O x) (λx y=>(x=a/\y=bl.length)\/P x y)->Ok (f ((bl.length:Int),g,fs,lo,nu,re,(bl.length:Int),j)) Q):
  Ok (Option.bind (f75 ln g fs lo nu re L bl) f) Q:=by
 have hl:=agT bl;have M:=h.wt;have B:=h.opn a K;have hg :∀(x:aO) b,b<bl.length->(bl++[x]).getD b aA=bl.getD b aA:=λx b hb=>by rw[mW,QR hb]
 refine bF (λy=>∃j,y=((bl.length:Int),g,fs,lo,nu,re,(bl.length:Int),j)/\j.length=bl.length+1/\Inv g sg cl re (w+1) (n+1) j (λx=>x=bl.length\/O x) (λx y=>(x=a/\y=bl.length)\/P x y)) (bK (by unfold aV;simp;omega) (aI ⟨bl++[_],rfl,by simp,⟨?_,by have:=h.len;simp;omega,λb hb=>?_,λb hb q=>?_,λb hb=>?_,λx y hp=>?_,λS N H z b hb=>?_⟩⟩)) λy ⟨j,e,H,z⟩=>by subst e;exact c j H z
 .unfold Bo at M ⊢;simp;omega
 .rcases Z0.1 hb with hb|hb
  .exact h.ins b hb
  .rw [X2]at hb;subst hb;exact λi T=>by cases T
 .simp only[XX,W5]at hb;have U:b≠bl.length:=λe=>q (.inl e);rw[hg _ b (by omega)];exact(h.trm b (by omega) λhb=>q (.inr hb)).mono (Uq _) (by simp)
 .rcases hb with hb|hb
  .simp;omega
  .have:=h.opn b hb;simp;omega
 .rcases hp with⟨X,e2⟩|hp
  .exact ⟨.inr (X▸K),by simp;omega⟩
  .have:=h.src x y hp;exact⟨.inr this.1,by simp;omega⟩
 .simp only[XX,W5]at hb;have m :∀b,b<bl.length->S b:=h.con S N (λb hb q J x Y=>H b (by simp;omega) (λZ=>Z.elim (λe=>by omega) q) J x (by rw[SA (hg _ b hb)];exact Y)) λx y hp J=>z x y (.inr hp) J;by_cases e:b=bl.length
  .rw [e];exact z a bl.length (.inl ⟨rfl,rfl⟩) (m a B)
  .exact m b (by omega)
theorem Wn{β:Type}{w n a:Nat}{p0 p1 p2 p3 p4 p5:Int}{ar:List Int}{bl:List aO}{O:Nat->Prop}{P:Nat->Nat->Prop}{f}{Q:β->Prop}(h:Inv g sg cl re w n bl O P)(L:O a)(hk:w<=1000000)(hi:IV g sg cl re (dK.mk p0 p1 p2 p3 p4 p5 ar))(c :∀j,j.length=bl.length->Inv g sg cl re (w+1) n j O P->Ok (f (g,fs,lo,nu,re,(a:Int),j)) Q):
  Ok (Option.bind (f77 p0 p1 p2 p3 p4 p5 ar g fs lo nu re a bl) f) Q:=by
 have m:=h.opn a L;have hw:=h.wt;have B:=aC.2 (show 0<=(a:Int)/\(a:Int)<bl.length by omega);have M:bl.getD a aA∈bl:=by rw[getD_at _ m];exact Xs _
 have T:=YA _ M;have H:=λb=>YB (bl:=bl) (a:=a) (b:=b) m;refine bF (λy=>∃j,y=(g,fs,lo,nu,re,(a:Int),j)/\j.length=bl.length/\Inv g sg cl re (w+1) n j O P) ?_ λy ⟨j,e,q,J⟩=>by subst e;exact c j q J
 unfold f77;refine bF (λy=>∃j,y=(g,fs,lo,nu,re,(a:Int),j)/\j.length=bl.length/\Inv g sg cl re (w+1) n j O P) ?_ λy ⟨j,e,q,J⟩=>by subst e;exact bK (by simp[q]) (aI ⟨j,rfl,q,J⟩)
 simp only[Q4];obtain⟨x,N⟩ :∃x,bl.getD a aA=x:=⟨_,rfl⟩;simp only[N]at M T H ⊢;have hg :∀b,(bl.set a (aO.mk (x.instrs++[dK.mk p0 p1 p2 p3 p4 p5 ar]) x.bV x.lJ x.f_ x.dI x.line x.iG x.gZ)).getD b aA=if b=a then _ else bl.getD b aA:=λb=>iO m
 refine bK B (bK ?_ (bK B (bK (by simp) (aI ⟨_,rfl,by simp,⟨?_,by simpa using h.len,λb hb=>?_,λb hb K=>?_,λb hb=>by simpa using h.opn b hb,λx y U=>by simpa using h.src x y U,λS X q J b hb=>?_⟩⟩))))
 .show (zj&&decide _)=zj;simp only[Bool.true_and,Wa,W5];omega
 .have:=H (aO.mk (x.instrs++[dK.mk p0 p1 p2 p3 p4 p5 ar]) x.bV x.lJ x.f_ x.dI x.line x.iG x.gZ);simp only[XX,W5]at this;omega
 .rcases qu hb with hb|hb
  .exact h.ins b hb
  .subst hb;intro i hi';rcases Z0.1 hi' with hi'|hi'
   .exact h.ins x M i hi'
   .rw [X2]at hi';subst hi';exact hi
 .rw [hg,QP (show ¬ b=a from λe=>K (e▸L))];simp only[J0]at hb ⊢;exact h.trm b hb K
 .simp only[J0]at hb;refine h.con S X (λb hb K Y z Z=>q b (by simpa using hb) K Y z ?_) J b hb;rw[SA (bl:=bl) (by rw[hg,QP (show ¬ b=a from λe=>K (e▸L))])];exact Z
theorem sG{β:Type}{w n b0:Nat}{a p1 p2 p3 p4:Int}{bl:List aO}{O:Nat->Prop}{P:Nat->Nat->Prop}{f}{Q:β->Prop}(h:Inv g sg cl re w n bl O P)(B:O b0)(Z:TV re bl.length p1 p2 p3 p4)(L :∀y,P b0 y->(y:Int)∈succs p1 p3 p4)
  (c :∀j,j.length=bl.length->Inv g sg cl re w n j (λx=>O x/\x≠b0) (λx y=>P x y/\x≠b0)->Ok (f (g,fs,lo,nu,re,a,j)) Q) :
  Ok (Option.bind (f78 b0 p1 p2 p3 p4 g fs lo nu re a bl) f) Q:=by
 have m:=h.opn b0 B;have hw:=h.wt;refine bF (λy=>∃j,y=(g,fs,lo,nu,re,a,j)/\j.length=bl.length/\Inv g sg cl re w n j (λx=>O x/\x≠b0) (λx y=>P x y/\x≠b0)) ?_ λy ⟨j,e,q,H⟩=>by subst e;exact c j q H
 unfold f78;refine bF (λy=>∃j,y=(g,fs,lo,nu,re,a,j)/\j.length=bl.length/\Inv g sg cl re w n j (λx=>O x/\x≠b0) (λx y=>P x y/\x≠b0)) ?_ λy ⟨j,e,q,H⟩=>by subst e;exact bK (by simp[q]) (aI ⟨j,rfl,q,H⟩)
 have Y:bl.getD b0 aA∈bl:=by rw[getD_at _ m];exact Xs _
 have J:=λb=>YB (bl:=bl) (a:=b0) (b:=b) m;simp only[Q4];obtain⟨x,T⟩ :∃x,bl.getD b0 aA=x:=⟨_,rfl⟩;simp only[T]at Y J ⊢;have hg :∀b,(bl.set b0 (aO.mk x.instrs p1 p2 p3 p4 x.line x.iG x.gZ)).getD b aA=if b=b0 then aO.mk x.instrs p1 p2 p3 p4 x.line x.iG x.gZ else bl.getD b aA:=λb=>iO m
 refine bK (aC.2 (by omega)) (aI ⟨_,rfl,by simp,⟨?_,by simpa using h.len,λb hb=>?_,λb hb M=>?_,λb hb=>by simpa using h.opn b hb.1,λx y L=>?_,λS h0 q H b hb=>?_⟩⟩)
 .have:=J (aO.mk x.instrs p1 p2 p3 p4 x.line x.iG x.gZ);simp only at this;omega
 .rcases qu hb with hb|hb
  .exact h.ins b hb
  .subst hb;exact h.ins x Y
 .rw [hg];simp only[J0]at hb ⊢;by_cases e:b=b0
  .rw [QR e];exact Z
  .rw [QP e];exact h.trm b hb λU=>M ⟨U,e⟩
 .have:=h.src x y L.1;exact⟨⟨this.1,L.2⟩,by simpa using this.2⟩
 .simp only[J0]at hb;refine h.con S h0 (λb hb M N z hz=>q b (by simpa using hb) (λX=>M X.1) N z ?_) (λx y K N=>?_) b hb
  .rw [SA (bl:=bl) (by rw[hg,QP (show ¬ b=b0 from λe=>M (e▸B))])];exact hz
  .by_cases e:x=b0
   .subst e;have:=q x (by simpa using m) (λX=>X.2 rfl) N (y:Int) (by unfold oZ;rw[hg,QR rfl];exact L y K)
    rwa [Q4]at this
   .exact H x y ⟨K,e⟩ N
theorem aaX{β:Type}{nm:List UInt8}{re a:Int}{bl:List aO}{f}{Q:β->Prop}(H:lo.length<=1000000)(c :∀q:Int,(nm∈lo->0<=q/\q<lo.length)->(¬ nm∈lo->q=-1)->Ok (f (q,g,fs,lo,nu,re,a,bl)) Q):Ok (Option.bind (f119 nm g fs lo nu re a bl) f) Q:=by
 refine bF (λy=>∃q:Int,((nm∈lo->0<=q/\q<lo.length)/\(¬ nm∈lo->q=-1))/\y=(q,g,fs,lo,nu,re,a,bl)) ?_ λy ⟨q,⟨m,z⟩,e⟩=>by subst e;exact c q m z
 refine bF (λy=>∃q:Int,((nm∈lo->0<=q/\q<lo.length)/\(¬ nm∈lo->q=-1))/\y=(q,g,fs,lo,nu,re,a,bl)) ?_ λy ⟨q,h,e⟩=>by subst e;exact goK rfl (aI ⟨q,h,rfl⟩)
 unfold afP;refine bF (λy=>∃q:Int,((nm∈lo->0<=q/\q<lo.length)/\(¬ nm∈lo->q=-1))/\y=(q,g,fs,lo,nu,re,a,bl)) ?_ λy ⟨q,h,e⟩=>by subst e;exact bK (by simp) (aI ⟨q,h,rfl⟩)
 refine iI (λ_=>¬ nm∈lo) (jA lo.length (λi=>lo.getD i bJ≠nm) (by omega) (λi m _=>goT (YY (by omega)) (bK (aC.2 (by omega)) (dA (λj=>aI ⟨_,⟨λ_=>by omega,λhn=>?_⟩,rfl⟩) λj=>aI ⟨rfl,by simpa using j⟩))) λhn=>b_ (Qt (by omega)) (aI λB=>?_)) λ_ hn=>aI ⟨-1,⟨λh=>absurd h hn,λ_=>rfl⟩,rfl⟩
 .have j:lo.getD i bJ=nm:=by simpa using j
  exact absurd (by rw[<-j,getD_at _ m];exact Xs _) hn
 .obtain ⟨i,w,e⟩:=WN B;have:=hn i w;rw[getD_at _ w]at this;exact this e
end
def BX:Nat->Nat
 |0=>0
 |1=>0
 |n+2=>3*BX (n+1)+4
def WX:Nat->Nat
 |0=>0
 |n+1=>3*WX n+7
def KX(n:Nat):Int:=2*n+1
theorem an5{q n:Nat}(h:q<=3):q*BX n<=BX (n+1):=by
 cases n with
 |zero=>simp[BX]
 |succ n=>have:=W2 (BX (n+1)) h;simp only[BX]at this ⊢;omega
theorem aj_{n:Nat}(h:1<=n):BX n+BX n+4<=BX (n+1):=by
 cases n with
 |zero=>omega
 |succ n=>simp only[BX];omega
structure Lw(g:List aF)(fs:List aH)(lo:List (List UInt8)):Prop where
 gn:GN g
 fn:FN fs
 ln:LN lo
 lo:lo.length<=16
theorem aaY{g:List aF}{fs:List aH}(m:FN fs){nm:List UInt8}{q:Nat}(h:(nm,q)∈jo fs):Ok (f98 g fs nm) λy=>(0<=y/\y<(jo fs).length)/\((jo fs).getD y.toNat ([],0)).2=q/\y<fs.length:=by
 refine kJ (Sv m h) λy ⟨i,e,w,j⟩=>?_;subst e;have z:(jo fs).length=fs.length:=by unfold jo;simp
 refine⟨by omega,?_,by omega⟩;rw[Q4,getD_at _ (by omega)];unfold jo;simp only[Kh];rw[getD_at _ w]at j;exact j
theorem JJ{g:List aF}{fs:List aH}(hg:GN g){nm:List UInt8}{a:Bool}(h:PG a g nm):Ok (f97 g fs nm) λy=>GI a g y:=by refine kJ (aaS hg h) λy ⟨i,e,m,_,j⟩=>?_;subst e;exact⟨by omega,by rw[Q4];exact j⟩
section
variable {g:List aF} {fs:List aH} {lo:List (List UInt8)} {nu:Int}
structure Pre(g:List aF)(fs:List aH)(lo:List (List UInt8))(re:Int)(w m:Nat)(bl:List aO)(a:Nat)(O:Nat->Prop)(P:Nat->Nat->Prop):Prop where
 inv:Inv g (jo fs) fs.length re w m bl (λx=>x=a\/O x) P
 na:¬ O a
 np :∀y,¬ P a y
 re:lo.length<=re
def PV(w m:Nat)(g:List aF)(fs:List aH)(lo:List (List UInt8))(nu re t k:Int)(bl:List aO)(a:Nat)(O:Nat->Prop)(P:Nat->Nat->Prop)(y:List aF×List aH×List (List UInt8)×Int×Int×Int×List aO):Prop:=∃re' h j,y=(g,fs,lo,nu,re',((h:Nat):Int),j)/\re<=re'/\t+1<=re'/\(re'<=re\/re'<=t+k)/\bl.length<=j.length/\(h=a\/bl.length<=h)/\Pre g fs lo re' w m j h O P
theorem Pre.lt{re:Int}{w m:Nat}{bl:List aO}{a:Nat}{O:Nat->Prop}{P:Nat->Nat->Prop}(h:Pre g fs lo re w m bl a O P):a<bl.length/\(∀x,O x->x<bl.length/\x≠a)/\∀x y,P x y->x<bl.length/\x≠a/\y<bl.length:=⟨h.inv.opn a (.inl rfl),λx q=>⟨h.inv.opn x (.inr q),λe=>h.na (e▸q)⟩,λx y j=>⟨h.inv.opn x (h.inv.src x y j).1,λe=>h.np y (e▸j),(h.inv.src x y j).2⟩⟩
def VS(g:List aF)(fs:List aH)(lo:List (List UInt8))(nu:Int)(rec:Jb)(n:Nat)(x:aU)(t:Int):Prop:=∀(re:Int) (a:Nat) h w m O P,Pre g fs lo re w m h a O P->w+WX n<=900000->Ok (rec x.kind x.op x.value x.line x.name x.args t g fs lo nu re a h) (PV (w+WX n) (m+BX n) g fs lo nu re t (KX n) h a O P)
theorem pX{t e:Int}(h:e≠t):succs 2 t e=[t,e]:=by unfold succs;rw[QR ⟨rfl,h⟩]
theorem wE{t e:Int}:succs 1 t e=[t]:=by unfold succs;rw[QP (by omega),QR (by omega)]
theorem GY{re a t e:Int}{n:Nat}(q:RG re a)(w:0<=t/\t<n)(y:0<=e/\e<n)(j:e≠t):TV re n 2 a t e:=
 ⟨by omega,λ_=>q,λx m=>by
  rw[pX j]at m;rcases XN.1 m with h|h
  .rw [h];exact w
  .rw [X2]at h;rw[h];exact y⟩
theorem CZ{re a t e:Int}{n:Nat}(m:0<=t/\t<n):TV re n 1 a t e:=⟨by omega,λh=>absurd rfl h,λx j=>by rw[wE,X2]at j;rw[j];exact m⟩
theorem adi{rec:Jb}{N:acJ}{wC:VE}{n:Nat}{p0 p1 p2 p3 t re:Int}{p4:List UInt8}{x z:aU}(hn:1<=n)(hx:VS g fs lo nu rec n x t)(hz:VS g fs lo nu rec n z t)
  {a w m:Nat} {bl:List aO} {O:Nat->Prop} {P:Nat->Nat->Prop} (h:Pre g fs lo re w m bl a O P) (h0:0<=t) (h1:t<=1000) (hw:w+WX (n+1)<=900000) :
  Ok (aag rec N wC p0 p1 p2 p3 p4 [x,z] t g fs lo nu re a bl) (PV (w+WX (n+1)) (m+BX (n+1)) g fs lo nu re t (KX (n+1)) bl a O P):=by
 have hW:WX (n+1)=3*WX n+7:=rfl;have hB:=aj_ hn;obtain⟨q1,q2,q3⟩:=h.lt;unfold aag;refine bK rfl (bF _ (hx re a bl w m O P h (by omega)) λy ⟨U,j,J,e,d1,d2,d3,d4,d5,d6⟩=>?_);subst e;obtain⟨u1,u2,u3⟩:=d6.lt;refine oU (bl:=J) (re:=U) d6.inv (.inl rfl) (by omega) λb2 l2 i2=>bK rfl ?_;have X:Pre g fs lo U (w+WX n+1) (m+BX n+1) b2 J.length (λx=>x=j\/O x) (λx y=>(x=j/\y=J.length)\/P x y):=⟨i2,λhh=>by rcases hh with hh|hh;(· omega);(· have:=u2 _ hh;omega),λy hh=>by rcases hh with hh|hh;(· omega);(· have:=u3 _ _ hh;omega),d6.re⟩
 refine bF _ (hz U J.length b2 _ _ _ _ X (by omega)) λy ⟨q,a3,H,e,e1,e2,e3,e4,e5,e6⟩=>?_;subst e;obtain⟨v1,v2,v3⟩:=e6.lt;have B:RG q t:=⟨h0,by omega⟩;have hc :∀{o d a b v},RG q d->IV g (jo fs) fs.length q (dK.mk 1 o d a b v eInt):=λhd=>.const hd (by simp);refine oU (bl:=H) (re:=q) (a:=a3) e6.inv (.inl rfl) (by omega) λb4 l4 i4=>Wn (bl:=b4) (re:=q) (a:=H.length) i4 (.inl rfl) (by omega) (hc B) λK l5 i5=>oU (bl:=K) (re:=q) (a:=a3) i5 (.inr (.inl rfl)) (by omega) λb6 l6 i6=>Wn (bl:=b6) (re:=q) (a:=K.length) i6 (.inl rfl) (by omega) (hc B) λL l7 i7=>oU (bl:=L) (re:=q) (a:=H.length) i7 (.inr (.inl rfl)) (by omega) λb8 l8 i8=>?_;have T:j≠a3:=by omega
 have M :∀x y,P x y->x<bl.length/\x≠a:=λx y hp=>⟨(q3 x y hp).1,(q3 x y hp).2.1⟩;refine sG (bl:=b8) (re:=q) i8 (b0:=a3) (.inr (.inr (.inr (.inl rfl)))) (GY B (by omega) (by omega) (by omega)) (λy hp=>?_) λY l9 i9=>?_
 .rw [pX (by omega)];rcases hp with hp|hp|hp|hp|hp
  .omega
  .simp [hp.2]
  .simp [hp.2]
  .omega
  .have:=M _ _ hp;omega
 refine bF (λy=>∃Z,y=(g,fs,lo,nu,q,(L.length:Int),Z)/\Z.length=Y.length/\Inv g (jo fs) fs.length q (w+WX n+1+WX n+1+1+1+1+1) (m+BX n+1+BX n+1+1+1) Z (λx=>((x=L.length\/x=K.length\/x=H.length\/x=a3\/x=j\/O x)/\x≠a3)/\x≠j)
   (λx y=>(((x=H.length/\y=L.length)\/(x=a3/\y=K.length)\/(x=a3/\y=H.length)\/(x=j/\y=J.length)\/P x y)/\x≠a3)/\x≠j)) ?_ λy ⟨b10,e,l10,i10⟩=>?_
 .have hp :∀y,(((j=H.length/\y=L.length)\/(j=a3/\y=K.length)\/(j=a3/\y=H.length)\/(j=j/\y=J.length)\/P j y)/\j≠a3)->y=J.length:=λy hp=>by
   rcases hp.1 with hp|hp|hp|hp|hp
   .omega
   .omega
   .omega
   .exact hp.2
   .have:=M _ _ hp;omega
  refine dA (λ_=>?_) λ_=>?_
  .refine sG (bl:=Y) (re:=q) i9 (b0:=j) ⟨.inr (.inr (.inr (.inr (.inl rfl)))),T⟩ (GY B (by omega) (by omega) (by omega)) (λy hh=>?_) λb l i=>aI ⟨b,rfl,l,i⟩;rw[pX (by omega),hp y hh];simp
  .refine sG (bl:=Y) (re:=q) i9 (b0:=j) ⟨.inr (.inr (.inr (.inr (.inl rfl)))),T⟩ (GY B (by omega) (by omega) (by omega)) (λy hh=>?_) λb l i=>aI ⟨b,rfl,l,i⟩;rw[pX (by omega),hp y hh];simp
 subst e;refine sG (bl:=b10) (re:=q) i10 (b0:=H.length) ⟨⟨.inr (.inr (.inl rfl)),by omega⟩,by omega⟩ (CZ (by omega)) (λy hp=>?_) λb11 l11 i11=>sG (bl:=b11) (re:=q) i11 (b0:=K.length) ⟨⟨⟨.inr (.inl rfl),by omega⟩,by omega⟩,by omega⟩ (CZ (by omega)) (λy hp=>?_) λb12 l12 i12=>aI ⟨q,L.length,b12,rfl,by omega,by omega,?_,by omega,by omega,⟨?_,λhh=>?_,λy hh=>?_,?_⟩⟩
 .rw [wE];rcases hp.1.1 with hp|hp|hp|hp|hp
  .simp [hp.2]
  .omega
  .omega
  .omega
  .have:=M _ _ hp;omega
 .exfalso;rcases hp.1.1.1 with hp|hp|hp|hp|hp
  .omega
  .omega
  .omega
  .omega
  .have:=M _ _ hp;omega
 .unfold KX at d3 e3 ⊢;omega
 .refine ((i12.up (Uq _) (by omega) (by omega)).cast (λx=>⟨λhh=>?_,λhh=>?_⟩) λx y=>⟨λhh=>?_,λhh=>?_⟩)
  .rcases hh.1.1.1.1 with e|e|e|e|e|e
   .exact .inl e
   .exact absurd e hh.2
   .exact absurd e hh.1.2
   .exact absurd e hh.1.1.1.2
   .exact absurd e hh.1.1.2
   .exact .inr e
  .rcases hh with e|e
   .subst e;exact⟨⟨⟨⟨.inl rfl,by omega⟩,by omega⟩,by omega⟩,by omega⟩
   .have:=q2 x e;exact⟨⟨⟨⟨.inr (.inr (.inr (.inr (.inr e)))),by omega⟩,by omega⟩,by omega⟩,by omega⟩
  .rcases hh.1.1.1.1 with e|e|e|e|e
   .exact absurd e.1 hh.1.2
   .exact absurd e.1 hh.1.1.1.2
   .exact absurd e.1 hh.1.1.1.2
   .exact absurd e.1 hh.1.1.2
   .exact e
  .have:=M _ _ hh;exact⟨⟨⟨⟨.inr (.inr (.inr (.inr hh))),by omega⟩,by omega⟩,by omega⟩,by omega⟩
 .have:=q2 _ hh;omega
 .have:=M _ _ hh;omega
 .have:=h.re;omega
def PVs(w m q:Nat)(g:List aF)(fs:List aH)(lo:List (List UInt8))(nu re t k:Int)(bl:List aO)(a:Nat)(O:Nat->Prop)(P:Nat->Nat->Prop)(y:List aF×List aH×List (List UInt8)×Int×Int×Int×List Int×List aO):Prop:=∃re' h j z,y=(g,fs,lo,nu,re',((h:Nat):Int),j,z)/\(j.length=q/\∀x∈j,RG re' x)/\re<=re'/\t+q<=re'/\(re'<=re\/re'<=t+2+k)/\bl.length<=z.length/\(h=a\/bl.length<=h)/\Pre g fs lo re' w m z h O P
theorem Wp{rec:Jb}{H:acJ}{wC:VE}{n:Nat}{t re:Int}{ar:List aU}(har:ar.length<=3)(hr :∀x∈ar,∀i:Int,0<=i/\i<=3->VS g fs lo nu rec n x (t+i))
  {a w m:Nat} {bl:List aO} {O:Nat->Prop} {P:Nat->Nat->Prop} (h:Pre g fs lo re w m bl a O P) (h0:0<=t) (h1:t<=990) (hw:w+WX (n+1)<=900000) (ht:t+1<=re) :
  Ok (aah rec H wC ar t g fs lo nu re a bl) (PVs (w+ar.length*WX n) (m+ar.length*BX n) ar.length g fs lo nu re t (KX n) bl a O P):=by
 have hW:WX (n+1)=3*WX n+7:=rfl;unfold aah;refine bF (PVs (w+ar.length*WX n) (m+ar.length*BX n) ar.length g fs lo nu re t (KX n) bl a O P) ?_ λy ⟨re',B,j,J,e,hh⟩=>by subst e;exact aI ⟨re',B,j,J,rfl,hh⟩
 refine bD (λs:Int×List aF×List aH×List (List UInt8)×Int×Int×Int×List Int×List aO=>∃q:Nat,∃re' B j J,s=((q:Int),g,fs,lo,nu,re',((B:Nat):Int),j,J)/\q<=ar.length/\(j.length=q/\∀x∈j,RG re' x)/\re<=re'/\t+q<=re'/\(re'<=re\/re'<=t+2+KX n)/\bl.length<=J.length/\(B=a\/bl.length<=B)/\Pre g fs lo re' (w+q*WX n) (m+q*BX n) J B O P) (λs=>(ar.length-s.1).toNat)
  ⟨0,re,a,[],bl,rfl,by omega,⟨rfl,λx hx=>by cases hx⟩,by omega,by omega,by omega,by omega,.inl rfl,by simpa using h⟩ λs ⟨q,N,T,j,U,e,c0,⟨X,K⟩,c2,c3,Y,c5,c6,Z⟩=>?_
 subst e;refine dA (λz=>?_) λz=>?_
 rotate_left
 .have z:¬ (q:Int)<ar.length:=by simpa using z
  have:q=ar.length:=by omega
  subst this;exact aI ⟨N,T,j,U,rfl,⟨X,K⟩,c2,c3,Y,c5,c6,Z⟩
 have z:(q:Int)<ar.length:=by simpa using z
 have hm:=L (WX n) (show q<3 by omega);have hm2:=L (BX n) (show q<3 by omega);have M:bT (t+q)=t+q:=aG (by omega);refine bK (aC.2 ⟨by simp only;omega,z⟩) ?_;simp only[M];refine bF _ (hr _ (Yx fA (by omega) z) q (by omega) N T U _ _ O P Z (by omega)) λy ⟨r2,a2,b2,e,d1,d2,d3,d4,d5,d6⟩=>?_;subst e;refine bK (by unfold aV;simp;omega) (aI ⟨⟨q+1,r2,a2,j++[t+q],b2,?_,by omega,⟨by simp[X],λx hx=>?_⟩,by omega,by omega,?_,by omega,by omega,?_⟩,?_⟩)
 .show (bT ((q:Int)+1),_)=_;rw[aG (by omega)];rfl
 .rcases Z0.1 hx with hx|hx
  .exact (K x hx).mono d1
  .rw [X2]at hx;subst hx;exact⟨by omega,by omega⟩
 .unfold KX at d3 Y ⊢;omega
 .exact ⟨d6.inv.up (Uq _) (by omega) (by omega),d6.na,d6.np,d6.re⟩
 .show ((ar.length:Int)-bT ((q:Int)+1)).toNat<((ar.length:Int)-q).toNat;rw[aG (by omega)];omega
where
 L {q m:Nat} (V:Nat) (h:q<m):(q+1)*V=q*V+V/\q*V+V<=m*V:=by have e:(q+1)*V=q*V+V:=Nat.succ_mul q V;exact⟨e,e▸W2 V h⟩
theorem gV{x:Option (List aF×List aH×List (List UInt8)×Int×Int×Int×List aO)}{Q:List aF×List aH×List (List UInt8)×Int×Int×Int×List aO->Prop}(h:Ok x Q):Ok (Option.bind x λs=>zw (s.1,s.2.1,s.2.2.1,s.2.2.2.1,s.2.2.2.2.1,s.2.2.2.2.2.1,s.2.2.2.2.2.2)) Q:=bF _ h λy h=>aI h
theorem QX.args{sg:List (List UInt8×Nat)}{n:Nat}{x:aU}(h:QX g sg lo (n+1) x):x.args.length<=3/\∀y∈x.args,QX g sg lo n y:=by
 cases h with
 |leaf _=>exact⟨by simp,λy h=>by cases h⟩
 |loc _=>exact⟨by simp,λy h=>by cases h⟩
 |glo _=>exact⟨by simp,λy h=>by cases h⟩
 |func _=>exact⟨by simp,λy h=>by cases h⟩
 |elem _ h=>exact⟨by simp,ql h⟩
 |un _ h=>exact⟨by simp,ql h⟩
 |bin _ m j=>exact⟨by simp,λy q=>by rcases XN.1 q with e|e;(· subst e;exact m);exact ql j y e⟩
 |lazy _ m j=>exact⟨by simp,λy q=>by rcases XN.1 q with e|e;(· subst e;exact m);exact ql j y e⟩
 |call _ m j=>exact⟨by simp only;omega,j⟩
 |value m j w=>exact⟨by simp only[Wm];omega,λy q=>by rcases XN.1 q with e|e;(· subst e;exact j);exact w y e⟩
theorem YC{rec:Jb}{H:acJ}{wC:VE}{n:Nat}(M:Lw g fs lo){x:aU}(hx:QX g (jo fs) lo (n+1) x){t re:Int}{a w m:Nat}{bl:List aO}{O:Nat->Prop}{P:Nat->Nat->Prop}(h:Pre g fs lo re w m bl a O P)(h0:0<=t)(h1:t<=990)(hw:w+WX (n+1)<=900000)
  (hl:x.kind=7\/x.kind=8->∀re,Pre g fs lo re w m bl a O P->Ok (H x.kind x.op x.value x.line x.name x.args t g fs lo nu re a bl) (PV (w+WX (n+1)) (m+BX (n+1)) g fs lo nu re t (KX (n+1)) bl a O P))
  (hv :∀re,Pre g fs lo re w m bl a O P->t+1<=re->Ok (wC x.args t g fs lo nu re a bl) (PVs (w+x.args.length*WX n) (m+x.args.length*BX n) x.args.length g fs lo nu re t (KX n) bl a O P)) :
  Ok (aae rec H wC x.kind x.op x.value x.line x.name x.args t g fs lo nu re a bl) (PV (w+WX (n+1)) (m+BX (n+1)) g fs lo nu re t (KX (n+1)) bl a O P):=by
 have hW:WX (n+1)=3*WX n+7:=rfl;have N:=hx.args.1;have hB:=an5 (n:=n) N;have hWm:=W2 (WX n) N;obtain⟨K,T⟩ :∃K,FP re (bT (t+1))=K:=⟨_,rfl⟩;have hr1':K=max re (t+1):=by rw[<-T,Ju,aG (by omega)]
 have U:Pre g fs lo K w m bl a O P:=⟨h.inv.up (by omega) (Z1 _) (Z1 _),h.na,h.np,by have:=h.re;omega⟩;have J :∀y,PV (w+WX (n+1)) (m+BX (n+1)) g fs lo nu K t (KX (n+1)) bl a O P y->PV (w+WX (n+1)) (m+BX (n+1)) g fs lo nu re t (KX (n+1)) bl a O P y:=λy ⟨r,a',b,e,c1,c2,c3,c4⟩=>⟨r,a',b,e,by omega,c2,by unfold KX at c3 ⊢;omega,c4⟩;unfold aae;dsimp only;rw[T];refine bF (λs=>s=decide (x.kind=7\/x.kind=8)) ?_ λs X=>?_
 .refine dA (λe=>aI ?_) λe=>aI ?_
  .have e:x.kind=7:=by simpa using e
   simp[e]
  .have e:¬ x.kind=7:=by simpa using e
   simp[e]
 subst X;refine dA (λe=>gV (kJ (hl (by simpa using e) K U) J)) λe=>?_;have e:¬ (x.kind=7\/x.kind=8):=by simpa using e
 refine bF _ (hv K U (by omega)) λy ⟨L,a2,rs,b2,e',⟨c1,c2⟩,c3,c4,c5,c6,c7,Y⟩=>?_;subst e';have j:RG L t:=⟨h0,by omega⟩;have put :∀{p0 p1 p2 p3 p4 p5:Int} {ar:List Int},IV g (jo fs) fs.length L (dK.mk p0 p1 p2 p3 p4 p5 ar)->Ok (f77 p0 p1 p2 p3 p4 p5 ar g fs lo nu L a2 b2) (PV (w+WX (n+1)) (m+BX (n+1)) g fs lo nu re t (KX (n+1)) bl a O P):=λ{p0 p1 p2 p3 p4 p5 ar} hi=>by
  have:=Wn (g:=g) (sg:=jo fs) (cl:=fs.length) (fs:=fs) (lo:=lo) (nu:=nu) (re:=L) (p0:=p0) (p1:=p1) (p2:=p2) (p3:=p3) (p4:=p4) (p5:=p5) (ar:=ar) (f:=zw) (Q:=PV (w+WX (n+1)) (m+BX (n+1)) g fs lo nu re t (KX (n+1)) bl a O P) Y.inv (.inl rfl) (by omega) hi λb l hh=>aI ⟨L,a2,b,rfl,by omega,by omega,by unfold KX at c5 ⊢;omega,by omega,c7,⟨hh.up (Uq _) (by omega) (by omega),Y.na,Y.np,Y.re⟩⟩
  rwa [show∀z:Option (List aF×List aH×List (List UInt8)×Int×Int×Int×List aO),Option.bind z zw=z from λz=>by cases z<;>rfl]at this
 have hlo:lo.length<=1000000:=by have:=M.lo;omega
 have hlr:=Y.re;clear J hv hl;cases hx with
 |leaf hk=>
  rcases hk with hk|hk
  .subst hk;exact gV (goT rfl (gV (put (.const j (by simp)))))
  .subst hk;exact gV (b_ rfl (gV (b_ rfl (gV (b_ rfl (gV (b_ rfl (gV (b_ rfl (gV (b_ rfl (gV (b_ rfl (gV (b_ rfl (gV (b_ rfl (gV (goT rfl (gV (put (.read j (by simp)))))))))))))))))))))))
 |loc hm=>exact gV (b_ rfl (gV (goT rfl (aaX hlo λq q1 _=>gV (put (.move j ⟨(q1 hm).1,by have:q<lo.length:=(q1 hm).2;omega⟩ (by simp)))))))
 |glo hg=>exact gV (b_ rfl (gV (b_ rfl (gV (goT rfl (bF _ (JJ M.gn hg) λy B=>gV (put (.load j B (by simp)))))))))
 |func X=>exact gV (b_ rfl (gV (b_ rfl (gV (b_ rfl (gV (b_ rfl (gV (b_ rfl (gV (b_ rfl (gV (b_ rfl (gV (b_ rfl (gV (goT rfl (bF _ (aaY M.fn X) λy B=>gV (put (.func j ⟨B.1.1,B.2.2⟩ (by simp)))))))))))))))))))))
 |elem hg _=>exact gV (b_ rfl (gV (b_ rfl (gV (b_ rfl (gV (goT rfl (bF _ (JJ M.gn hg) λy B=>gV (put (.elem j j B (by simp)))))))))))
 |un ho _=>exact gV (b_ rfl (gV (b_ rfl (gV (b_ rfl (gV (b_ rfl (gV (goT rfl (gV (put (.un j j ho (by simp)))))))))))))
 |bin ho _ _=>
  have hb:RG L (bT (t+1)):=by rw[aG (by omega)];simp only[Wm,Kd]at c4;exact⟨by omega,by omega⟩
  exact gV (b_ rfl (gV (b_ rfl (gV (b_ rfl (gV (b_ rfl (gV (b_ rfl (gV (goT rfl (gV (put (.bin j j hb ho (by simp)))))))))))))))
 |lazy hk _ _=>exact absurd hk e
 |call X Z _=>simp only at c1;exact gV (b_ rfl (gV (b_ rfl (gV (b_ rfl (gV (b_ rfl (gV (b_ rfl (gV (b_ rfl (gV (goT rfl (bF _ (aaY M.fn X) λy B=>gV (put (.call j B.1 (by rw[B.2.1];exact c1.symm) c2 (show rs.length<=10 by omega)))))))))))))))))
 |value Z _ _=>simp only[Wm]at c1;refine gV (b_ rfl (gV (b_ rfl (gV (b_ rfl (gV (b_ rfl (gV (b_ rfl (gV (b_ rfl (gV (b_ rfl (gV (goT rfl (bK (MX.2 ⟨⟨by omega,by simp only;omega⟩,by simp only;omega⟩) (gV (put (.IW j j (λx hx=>c2 x (Wl (UB hx))) ?_)))))))))))))))))));simp;omega
theorem adk(n:Nat):(iZ (n+1)).1=aae (VW n) (afW n) (afX n):=rfl
theorem adl(n:Nat):(iZ (n+1)).2.1=aag (VW n) (afW n) (afX n):=rfl
theorem adn(n:Nat):(iZ (n+1)).2.2=aah (VW n) (afW n) (afX n):=rfl
theorem SB(N:Lw g fs lo):∀n k:Nat,2*n<=k->n<=10->∀x,QX g (jo fs) lo n x->∀(t re:Int) (a:Nat) bl w m O P,Pre g fs lo re w m bl a O P->0<=t->t+4*n<=980->w+WX n<=900000->Ok (VW k x.kind x.op x.value x.line x.name x.args t g fs lo nu re a bl) (PV (w+WX n) (m+BX n) g fs lo nu re t (KX n) bl a O P)
 |0,_,_,_=>λ_ h=>by cases h
 |n+1,0,j,_=>by omega
 |n+1,1,j,_=>by omega
 |n+1,k+2,j,hn=>λx H t re a bl w m O P h B Z q=>by
  have J:=SB N n k (by omega) (by omega);obtain⟨K,L⟩:=H.args;show Ok ((iZ (k+2)).1 x.kind x.op x.value x.line x.name x.args t g fs lo nu re a bl) _;rw[adk];refine YC N H h B (by omega) q (λj re y=>?_) λre y U=>?_
  .show Ok ((iZ (k+1)).2.1 x.kind x.op x.value x.line x.name x.args t g fs lo nu re a bl) _;rw[adl];cases H with
   |lazy _ T X=>
    have M:1<=n:=by
     cases n with
     |zero=>cases T
     |succ n=>omega
    exact adi M (λre a bl w m O P y q=>J _ T t re a bl w m O P y B (by omega) q) (λre a bl w m O P y q=>J _ X t re a bl w m O P y B (by omega) q) y B (by omega) q
   |leaf h=>simp only at j;omega
   |loc _=>simp only at j;omega
   |glo _=>simp only at j;omega
   |func _=>simp only at j;omega
   |elem _ _=>simp only at j;omega
   |un _ _=>simp only at j;omega
   |bin _ _ _=>simp only at j;omega
   |call _ _ _=>simp only at j;omega
   |value _ _ _=>simp only at j;omega
  .show Ok ((iZ (k+1)).2.2 x.args t g fs lo nu re a bl) _;rw[adn];exact Wp K (λz Y i hi re a bl w m O P y q=>J z (L z Y) (t+i) re a bl w m O P y (by omega) (by omega) q) y B (by omega) q U
end
section
variable {g:List aF} {fs:List aH} {lo:List (List UInt8)} {nu:Int}
theorem wx2:WX 2=28:=rfl
theorem wx3:WX 3=91:=rfl
theorem bx2:BX 2=4:=rfl
theorem bx3:BX 3=16:=rfl
def PW(w m:Nat)(g:List aF)(fs:List aH)(lo:List (List UInt8))(nu re:Int)(bl:List aO)(a:Nat)(O:Nat->Prop)(P:Nat->Nat->Prop)(y:Bool×List aF×List aH×List (List UInt8)×Int×Int×Int×List aO):Prop:=∃on re' h j,y=(on,g,fs,lo,nu,re',((h:Nat):Int),j)/\re<=re'/\(re'<=re\/re'<=lo.length+10)/\bl.length<=j.length/\(h=a\/bl.length<=h)/\Inv g (jo fs) fs.length re' w m j (λx=>(on=zj/\x=h)\/O x) P
def sW(ht:Nat->Nat):Nat->Nat
 |0=>0
 |q+1=>sW ht q+WX (ht q)
def sB(ht:Nat->Nat):Nat->Nat
 |0=>0
 |q+1=>sB ht q+BX (ht q)
theorem alF{n:Nat}(h:n<=3):WX n<=91:=by
 have:n=0\/n=1\/n=2\/n=3:=by omega
 rcases this with rfl|rfl|rfl|rfl<;>decide
theorem alG{j:Nat->Nat}(h :∀i,j i<=3):∀q,sW j q<=91*q
 |0=>by simp[sW]
 |q+1=>by have:=alG h q;have:=alF (h q);simp only[sW];omega
def PE2(w m:Nat)(q:Nat)(g:List aF)(fs:List aH)(lo:List (List UInt8))(nu re:Int)(bl:List aO)(a:Nat)(O:Nat->Prop)(P:Nat->Nat->Prop)(y:List aF×List aH×List (List UInt8)×Int×Int×Int×List aO):Prop:=∃re' h j,y=(g,fs,lo,nu,re',((h:Nat):Int),j)/\re<=re'/\(lo.length:Int)+q<=re'/\(re'<=re\/re'<=lo.length+10)/\bl.length<=j.length/\(h=a\/bl.length<=h)/\Pre g fs lo re' w m j h O P
theorem ado(K:Lw g fs lo){es:List aU}{j:Nat->Nat}(he:es.length<=2)(J :∀i,j i<=3)(U :∀i,i<es.length->QX g (jo fs) lo (j i) (es.getD i fA)){re:Int}{a w m:Nat}{bl:List aO}{O:Nat->Prop}{P:Nat->Nat->Prop}(h:Pre g fs lo re w m bl a O P)(hw:w+182<=800000)
  {body:Int×List aF×List aH×List (List UInt8)×Int×Int×Int×List aO->Option ((Int×List aF×List aH×List (List UInt8)×Int×Int×Int×List aO) ⊕ (List aF×List aH×List (List UInt8)×Int×Int×Int×List aO))}
  (X :∀(q:Nat) (re:Int) (a:Int) (b:List aO),body ((q:Int),g,fs,lo,nu,re,a,b)=bif decide ((q:Int)<(es.length:Int))then ck (inB (q:Int) es.length) <| OB (f118 (List.getD es q fA).kind (List.getD es q fA).op (List.getD es q fA).value (List.getD es q fA).line (List.getD es q fA).name (List.getD es q fA).args (bT ((lo.length:Int)+q)) g fs lo nu re a b) λz=>zw (.inl ((bT ((q:Int)+1)),z.1,z.2.1,z.2.2.1,z.2.2.2.1,z.2.2.2.2.1,z.2.2.2.2.2.1,z.2.2.2.2.2.2))else zw (.inr (g,fs,lo,nu,re,a,b))) :
  Ok (bn body ((0:Int),g,fs,lo,nu,re,(a:Int),bl)) (PE2 (w+sW j es.length) (m+sB j es.length) es.length g fs lo nu re bl a O P):=by
 have hL:=K.lo;refine bD (λs=>∃q:Nat,∃re' H b,s=((q:Int),g,fs,lo,nu,re',((H:Nat):Int),b)/\q<=es.length/\re<=re'/\(lo.length:Int)+q<=re'/\(re'<=re\/re'<=lo.length+10)/\bl.length<=b.length/\(H=a\/bl.length<=H)/\Pre g fs lo re' (w+sW j q) (m+sB j q) b H O P) (λs=>(es.length-s.1).toNat)
  ⟨0,re,a,bl,rfl,by omega,by omega,by have:=h.re;omega,by omega,by omega,.inl rfl,by simpa[sW,sB]using h⟩ λs ⟨q,L,M,N,e,c0,Y,Z,c3,c4,c5,T⟩=>?_
 subst e;rw[X];refine dA (λB=>?_) λB=>?_
 rotate_left
 .have B:¬ (q:Int)<es.length:=by simpa using B
  have:q=es.length:=by omega
  subst this;exact aI ⟨L,M,N,rfl,Y,Z,c3,c4,c5,T⟩
 have B:(q:Int)<es.length:=by simpa using B
 have hsw:=alG J q;have hwx:=alF (J q);have hhq:=J q;refine bK (aC.2 ⟨by omega,B⟩) ?_;rw[aG (x:=(lo.length:Int)+q) (by omega)];refine bF _ (SB K (j q) 1048576 (by omega) (by omega) _ (U q (by omega)) (lo.length+q) L M N _ _ O P T (by omega) (by omega) (by omega)) λy ⟨r2,a2,b2,e,d1,d2,d3,d4,d5,d6⟩=>?_;subst e;refine aI ⟨⟨q+1,r2,a2,b2,?_,by omega,by omega,by omega,?_,by omega,by omega,?_⟩,?_⟩
 .show (bT ((q:Int)+1),_)=_;rw[aG (by omega)];rfl
 .unfold KX at d3;omega
 .simp only[sW,sB];rw[<-J1,<-J1];exact d6
 .show ((es.length:Int)-bT ((q:Int)+1)).toNat<((es.length:Int)-q).toNat;rw[aG (by omega)];omega
def SS(g:List aF)(fs:List aH)(lo:List (List UInt8))(nu:Int)(rec:T76)(ss:List dw)(c k:Nat):Prop:=∀(re:Int) (a:Nat) h w m O P,Pre g fs lo re w m h a O P->w+130*k<=700000->Ok (rec ss g fs lo nu re a h) (PW (w+130*k) (m+(20*c+4*k)) g fs lo nu re h a O P)
theorem YD{rec:T76}{B:T95}{Wq:Og}{Ws:Oh}{c k:Nat}{p0 p1 re:Int}{nm:List UInt8}{x:aU}{Y el:List dw}(Z:Lw g fs lo)(hx:QX g (jo fs) lo 3 x)
  (hr:SS g fs lo nu rec Y c k) {a w m:Nat} {bl:List aO} {O:Nat->Prop} {P:Nat->Nat->Prop} (h:Pre g fs lo re w m bl a O P) (hw:w+130*(1+k)<=700000) :
  Ok (aaq rec B Wq Ws p0 p1 nm [x] Y el (lo.length:Int) g fs lo nu re a bl) λy=>PW (w+130*(1+k)) (m+(20*(1+c)+4*(1+k))) g fs lo nu re bl a O P (zj,y):=by
 have hL:=Z.lo;obtain⟨q1,q2,q3⟩:=h.lt;have J :∀x y,P x y->x<bl.length/\x≠a:=λx y hp=>⟨(q3 x y hp).1,(q3 x y hp).2.1⟩;unfold aaq;refine oU (bl:=bl) (re:=re) (a:=a) h.inv (.inl rfl) (by omega) λb1 l1 i1=>sG (bl:=b1) (re:=re) (b0:=a) i1 (.inr (.inl rfl)) (CZ (by omega)) (λy hp=>?_) λb2 l2 i2=>bK rfl ?_
 .rw [wE];rcases hp with hp|hp
  .simp [hp.2]
  .exact absurd rfl (J _ _ hp).2
 have K:Pre g fs lo re (w+1) (m+1) b2 bl.length O P:=by
  refine⟨i2.cast (λz=>⟨λhh=>?_,λhh=>?_⟩) λz y=>⟨λhh=>?_,λhh=>?_⟩,λhh=>?_,λy hh=>?_,h.re⟩
  .rcases hh.1 with e|e|e
   .exact .inl e
   .exact absurd e hh.2
   .exact .inr e
  .rcases hh with e|e
   .exact ⟨.inl e,by omega⟩
   .exact ⟨.inr (.inr e),(q2 z e).2⟩
  .rcases hh.1 with e|e
   .exact absurd e.1 hh.2
   .exact e
  .exact ⟨.inr hh,(J _ _ hh).2⟩
  .have:=q2 _ hh;omega
  .have:=J _ _ hh;omega
 refine bF _ (SB Z 3 1048576 (by omega) (by omega) x hx lo.length re bl.length b2 _ _ O P K (by omega) (by omega) (by rw[wx3];omega)) λy ⟨L,a3,H,e,d1,d2,d3,d4,d5,d6⟩=>?_;subst e;rw[wx3,bx3]at d6;obtain⟨u1,u2,u3⟩:=d6.lt;refine oU (bl:=H) (re:=L) (a:=a3) d6.inv (.inl rfl) (by omega) λb4 l4 i4=>?_;have M:Pre g fs lo L (w+1+91+1) (m+1+16+1) b4 H.length (λx=>x=a3\/O x) (λx y=>(x=a3/\y=H.length)\/P x y):=⟨i4,λhh=>by rcases hh with hh|hh;(· omega);(· have:=u2 _ hh;omega),λy hh=>by rcases hh with hh|hh;(· omega);(· have:=u3 _ _ hh;omega),d6.re⟩
 refine bF _ (hr L H.length b4 _ _ _ _ M (by omega)) λy ⟨on,q,a5,N,e,e1,e2,e3,e4,T⟩=>?_;subst e;have U:=T.opn;refine bF (λy=>∃X,y=(g,fs,lo,nu,q,(a5:Int),X)/\X.length=N.length/\Inv g (jo fs) fs.length q (w+1+91+1+130*k) (m+1+16+1+(20*c+4*k)) X (λx=>x=a3\/O x) (λx y=>(x=a3/\y=H.length)\/P x y)) ?_ λy ⟨b6,e,l6,i6⟩=>?_
 .refine dA (λj=>?_) λj=>aI ⟨N,rfl,rfl,T.cast (λz=>⟨λhh=>hh.resolve_left λhh=>?_,.inr⟩) λz y=>Iff.rfl⟩
  rotate_left
  .have j:on=zv:=j;rw[j]at hh;exact absurd hh.1 (by simp)
  have j:on=zj:=j;refine sG (bl:=N) (re:=q) (b0:=a5) T (.inl ⟨j,rfl⟩) (CZ (by omega)) (λy hp=>?_) λb l i=>aI ⟨b,rfl,l,i.cast (λz=>⟨λhh=>?_,λhh=>?_⟩) λz y=>⟨λhh=>hh.1,λhh=>⟨hh,?_⟩⟩⟩
  .rcases hp with hp|hp
   .omega
   .have:=u3 _ _ hp;omega
  .exact hh.1.resolve_left λhz=>hh.2 hz.2
  .refine ⟨.inr hh,?_⟩;rcases hh with hh|hh
   .omega
   .have:=u2 _ hh;omega
  .rcases hh with hh|hh
   .omega
   .have:=u3 _ _ hh;omega
 subst e;refine oU (bl:=b6) (re:=q) (a:=a3) i6 (.inl rfl) (by omega) λb7 l7 i7=>sG (bl:=b7) (re:=q) (b0:=a3) i7 (.inr (.inl rfl)) (GY ⟨by omega,by omega⟩ (by omega) (by omega) (by omega)) (λy hp=>?_) λb8 l8 i8=>aI ⟨zj,q,b6.length,b8,rfl,by omega,?_,by omega,by omega,?_⟩
 .rw [pX (by omega)];rcases hp with hp|hp|hp
  .simp [hp.2]
  .simp [hp.2]
  .have:=u3 _ _ hp;omega
 .unfold KX at d3;omega
 .refine (i8.up (Uq _) (by omega) (by omega)).cast (λz=>⟨λhh=>?_,λhh=>?_⟩) λz y=>⟨λhh=>?_,λhh=>?_⟩
  .rcases hh.1 with e|e|e
   .exact .inl ⟨rfl,e⟩
   .exact absurd e hh.2
   .exact .inr e
  .rcases hh with e|e
   .exact ⟨.inl e.2,by omega⟩
   .have:=u2 _ e;exact⟨.inr (.inr e),by omega⟩
  .rcases hh.1 with e|e|e
   .exact absurd e.1 hh.2
   .exact absurd e.1 hh.2
   .exact e
  .have:=u3 _ _ hh;exact⟨.inr (.inr hh),by omega⟩
theorem Wu{rec:T76}{rec':T95}{Wq:Og}{Ws:Oh}{c1 c2 k1 X:Nat}{p0 p1 re:Int}{nm:List UInt8}{es:List aU}{th el:List dw}(hS:Lw g fs lo)
  (hr:SS g fs lo nu rec th c1 k1) (hr':SS g fs lo nu rec el c2 X) {a w m:Nat} {bl:List aO} {O:Nat->Prop} {P:Nat->Nat->Prop} (h:Pre g fs lo re w m bl a O P) (hre:(lo.length:Int)+1<=re) (hw:w+3+130*k1+130*X<=700000) :
  Ok (aar rec rec' Wq Ws p0 p1 nm es th el (lo.length:Int) g fs lo nu re a bl) (PW (w+3+130*k1+130*X) (m+3+(20*c1+4*k1)+(20*c2+4*X)) g fs lo nu re bl a O P):=by
 have hL:=hS.lo;obtain⟨q1,q2,q3⟩:=h.lt;have pf :∀x y,P x y->x<bl.length/\x≠a:=λx y hp=>⟨(q3 x y hp).1,(q3 x y hp).2.1⟩;unfold aar;refine oU (bl:=bl) (re:=re) (a:=a) h.inv (.inl rfl) (by omega) λb1 l1 i1=>?_;have hp1:Pre g fs lo re (w+1) (m+1) b1 bl.length (λx=>x=a\/O x) (λx y=>(x=a/\y=bl.length)\/P x y):=⟨i1,λhh=>by rcases hh with hh|hh;(· omega);(· have:=q2 _ hh;omega),λy hh=>by rcases hh with hh|hh;(· omega);(· have:=pf _ _ hh;omega),h.re⟩
 refine bF _ (hr re bl.length b1 _ _ _ _ hp1 (by omega)) λy ⟨on,L,a2,Y,e,e1,e2,e3,e4,e5⟩=>?_;subst e;have B :∀x,O x->x<b1.length/\x≠a/\x≠a2:=λx Z=>by have:=q2 x Z;omega
 have H :∀x y,P x y->x<b1.length/\x≠a/\x≠a2:=λx y Z=>by have:=pf x y Z;omega
 have ha2:a≠a2:=by omega
 have hrg :∀{r:Int},L<=r->RG r (lo.length:Int):=λhr=>⟨by omega,by omega⟩;refine dA (λ_=>?_) λ_=>?_
 .refine oU (bl:=Y) (re:=L) (a:=a) e5 (.inr (.inl rfl)) (by omega) λb3 l3 i3=>sG (bl:=b3) (re:=L) (b0:=a) i3 (.inr (.inr (.inl rfl))) (GY (hrg (Uq _)) (by omega) (by omega) (by omega)) (λy hp=>?_) λb4 l4 i4=>?_
  .rw [pX (by omega)];rcases hp with hp|hp|hp
   .simp [hp.2]
   .simp [hp.2]
   .have:=pf _ _ hp;omega
  refine bF (λy=>∃M,y=(g,fs,lo,nu,L,(Y.length:Int),M)/\M.length=b4.length/\Inv g (jo fs) fs.length L (w+1+130*k1+1) (m+1+(20*c1+4*k1)+1) M (λx=>(zj=zj/\x=Y.length)\/O x) P) ?_ λy ⟨J,e,l5,i5⟩=>by subst e;exact aI ⟨zj,L,Y.length,J,rfl,by omega,by omega,by omega,by omega,i5.up (Uq _) (by omega) (by omega)⟩
  have ob:=e5.opn;refine dA (λj=>?_) λj=>aI ⟨b4,rfl,rfl,i4.cast (λz=>⟨λhh=>?_,λhh=>?_⟩) λz y=>⟨λhh=>?_,λhh=>?_⟩⟩
  .have j:on=zj:=j;have:=ob a2 (.inl ⟨j,rfl⟩);refine sG (bl:=b4) (re:=L) (b0:=a2) i4 ⟨.inr (.inl ⟨j,rfl⟩),by omega⟩ (CZ (by omega)) (λy hp=>?_) λb l i=>aI ⟨b,rfl,l,i.cast (λz=>⟨λhh=>?_,λhh=>?_⟩) λz y=>⟨λhh=>?_,λhh=>?_⟩⟩
   .exfalso;rcases hp.1 with hp|hp|hp
    .omega
    .omega
    .have:=H _ _ hp;omega
   .rcases hh.1.1 with e|e|e|e
    .exact .inl ⟨rfl,e⟩
    .exact absurd e.2 hh.2
    .exact absurd e hh.1.2
    .exact .inr e
   .rcases hh with e|e
    .exact ⟨⟨.inl e.2,by omega⟩,by omega⟩
    .have:=B _ e;exact⟨⟨.inr (.inr (.inr e)),by omega⟩,by omega⟩
   .rcases hh.1.1 with e|e|e
    .exact absurd e.1 hh.1.2
    .exact absurd e.1 hh.1.2
    .exact e
   .have:=H _ _ hh;exact⟨⟨.inr (.inr hh),by omega⟩,by omega⟩
  .have j:on=zv:=j;rcases hh.1 with e|e|e|e
   .exact .inl ⟨rfl,e⟩
   .rw [j]at e;exact absurd e.1 (by simp)
   .exact absurd e hh.2
   .exact .inr e
  .rcases hh with e|e
   .exact ⟨.inl e.2,by omega⟩
   .have:=B _ e;exact⟨.inr (.inr (.inr e)),by omega⟩
  .rcases hh.1 with e|e|e
   .exact absurd e.1 hh.2
   .exact absurd e.1 hh.2
   .exact e
  .have:=H _ _ hh;exact⟨.inr (.inr hh),by omega⟩
 .refine oU (bl:=Y) (re:=L) (a:=a) e5 (.inr (.inl rfl)) (by omega) λb3 l3 i3=>sG (bl:=b3) (re:=L) (b0:=a) i3 (.inr (.inr (.inl rfl))) (GY (hrg (Uq _)) (by omega) (by omega) (by omega)) (λy hp=>?_) λb4 l4 i4=>?_
  .rw [pX (by omega)];rcases hp with hp|hp|hp
   .simp [hp.2]
   .simp [hp.2]
   .have:=pf _ _ hp;omega
  have ob:=e5.opn;have an_:on=zj->a2<Y.length:=λj=>ob a2 (.inl ⟨j,rfl⟩);have hp4:Pre g fs lo L (w+1+130*k1+1) (m+1+(20*c1+4*k1)+1) b4 Y.length (λx=>(on=zj/\x=a2)\/O x) P:=by
   refine⟨i4.cast (λz=>⟨λhh=>?_,λhh=>?_⟩) λz y=>⟨λhh=>?_,λhh=>?_⟩,λhh=>?_,λy hh=>?_,by have:=h.re;omega⟩
   .rcases hh.1 with e|e|e|e
    .exact .inl e
    .exact .inr (.inl e)
    .exact absurd e hh.2
    .exact .inr (.inr e)
   .rcases hh with e|e|e
    .exact ⟨.inl e,by omega⟩
    .exact ⟨.inr (.inl e),by omega⟩
    .have:=B _ e;exact⟨.inr (.inr (.inr e)),by omega⟩
   .rcases hh.1 with e|e|e
    .exact absurd e.1 hh.2
    .exact absurd e.1 hh.2
    .exact e
   .have:=H _ _ hh;exact⟨.inr (.inr hh),by omega⟩
   .rcases hh with hh|hh
    .have:=an_ hh.1;omega
    .have:=B _ hh;omega
   .have:=H _ _ hh;omega
  refine bF _ (hr' L Y.length b4 _ _ _ _ hp4 (by omega)) λy ⟨q,N,a5,J,e,f1,f2,f3,F4,F5⟩=>?_;subst e;have ob5:=F5.opn;have hO5 :∀x,O x->x<J.length/\x≠a5:=λx Z=>by have:=B x Z;omega
  refine bF (λy=>y=(!on&&!q)) ?_ λy hy=>?_
  .exact dA (λhh=>aI (by have hh:on=zv:=(by simpa using hh);rw[hh];rfl)) λhh=>aI (by have hh:on=zj:=(by simpa using hh);rw[hh];rfl)
  subst hy;refine dA (λhh=>aI ⟨zv,N,a5,J,rfl,by omega,by omega,by omega,by omega,?_⟩) λhh=>?_
  .have hh:on=zv/\q=zv:=by simpa using hh
   refine(F5.up (Uq _) (by omega) (by omega)).cast (λz=>⟨λhz=>?_,λhz=>?_⟩) λz y=>Iff.rfl
   .rcases hz with hz|hz|hz
    .rw [hh.2]at hz;exact absurd hz.1 (by simp)
    .rw [hh.1]at hz;exact absurd hz.1 (by simp)
    .exact .inr hz
   .rcases hz with hz|hz
    .exact absurd hz.1 (by simp)
    .exact .inr (.inr hz)
  have hor:on=zj\/q=zj:=by
   cases on with
   |true=>exact .inl rfl
   |false=>cases q with
    |true=>exact .inr rfl
    |false=>simp at hh
  obtain⟨src,hsrc,hsv⟩ :∃src,((q=zj/\src=a5)\/(on=zj/\src=a2)\/O src)/\((on=zj/\src=a2)\/(q=zj/\src=a5)):=by
   rcases hor with hh|hh
   .exact ⟨a2,.inr (.inl ⟨hh,rfl⟩),.inl ⟨hh,rfl⟩⟩
   .exact ⟨a5,.inl ⟨hh,rfl⟩,.inr ⟨hh,rfl⟩⟩
  refine oU (bl:=J) (re:=N) (a:=src) F5 hsrc (by omega) λb6 l6 i6=>?_;have T :∀x y,P x y->x≠a2/\x≠a5/\x<J.length:=λx y Z=>by have:=H x y Z;omega
  have awD:on=zj->a2≠a5:=λj=>by have:=an_ j;omega
  refine bF (λy=>∃M,y=(g,fs,lo,nu,N,(J.length:Int),M)/\M.length=b6.length/\Inv g (jo fs) fs.length N (w+1+130*k1+1+130*X+1) (m+1+(20*c1+4*k1)+1+(20*c2+4*X)+1) M (λx=>x=J.length\/(q=zj/\x=a5)\/O x) (λx y=>(x=src/\src≠a2/\y=J.length)\/(on=zv/\x=src/\y=J.length)\/P x y)) ?_ λy ⟨b7,e,l7,i7⟩=>?_
  .refine dA (λj=>?_) λj=>aI ⟨b6,rfl,rfl,i6.cast (λz=>⟨λhz=>?_,λhz=>?_⟩) λz y=>⟨λhz=>?_,λhz=>?_⟩⟩
   .have j:on=zj:=j;have:=an_ j;refine sG (bl:=b6) (re:=N) (b0:=a2) i6 (.inr (.inr (.inl ⟨j,rfl⟩))) (CZ (by omega)) (λy hp=>?_) λb l i=>aI ⟨b,rfl,l,i.cast (λz=>⟨λhz=>?_,λhz=>?_⟩) λz y=>⟨λhz=>?_,λhz=>?_⟩⟩
    .rw [wE];rcases hp with hp|hp
     .simp [hp.2]
     .have:=T _ _ hp;omega
    .rcases hz.1 with e|e|e|e
     .exact .inl e
     .exact .inr (.inl e)
     .exact absurd e.2 hz.2
     .exact .inr (.inr e)
    .rcases hz with e|e|e
     .exact ⟨.inl e,by omega⟩
     .exact ⟨.inr (.inl e),by have:=awD j;omega⟩
     .have:=B _ e;exact⟨.inr (.inr (.inr e)),by omega⟩
    .rcases hz.1 with e|e
     .exact .inl ⟨e.1,λe'=>hz.2 (e.1.trans e'),e.2⟩
     .exact .inr (.inr e)
    .rcases hz with e|e|e
     .exact ⟨.inl ⟨e.1,e.2.2⟩,λe'=>e.2.1 (e.1.symm.trans e')⟩
     .rw [j]at e;exact absurd e.1 (by simp)
     .exact ⟨.inr e,(T _ _ e).1⟩
   .have j:on=zv:=j;rcases hz with e|e|e|e
    .exact .inl e
    .exact .inr (.inl e)
    .rw [j]at e;exact absurd e.1 (by simp)
    .exact .inr (.inr e)
   .rcases hz with e|e|e
    .exact .inl e
    .exact .inr (.inl e)
    .exact .inr (.inr (.inr e))
   .have j:on=zv:=j;rcases hz with e|e
    .exact .inr (.inl ⟨j,e⟩)
    .exact .inr (.inr e)
   .rcases hz with e|e|e
    .exact .inl ⟨e.1,e.2.2⟩
    .exact .inl e.2
    .exact .inr e
  subst e;have U:(src≠a2\/on=zv)->src=a5/\q=zj:=λhs=>by
   rcases hsv with e|e
   .rcases hs with hs|hs
    .exact absurd e.2 hs
    .rw [hs]at e;exact absurd e.1 (by simp)
   .exact ⟨e.2,e.1⟩
  refine bF (λy=>∃M,y=(g,fs,lo,nu,N,(J.length:Int),M)/\M.length=b7.length/\Inv g (jo fs) fs.length N (w+1+130*k1+1+130*X+1) (m+1+(20*c1+4*k1)+1+(20*c2+4*X)+1) M (λx=>(zj=zj/\x=J.length)\/O x) P) ?_ λy ⟨b8,e,l8,i8⟩=>by subst e;exact aI ⟨zj,N,J.length,b8,rfl,by omega,by omega,by omega,by omega,i8.up (Uq _) (by omega) (by omega)⟩
  refine dA (λK=>?_) λK=>aI ⟨b7,rfl,rfl,i7.cast (λz=>⟨λhz=>?_,λhz=>?_⟩) λz y=>⟨λhz=>?_,λhz=>.inr (.inr hz)⟩⟩
  .have K:q=zj:=K;have:=ob5 a5 (.inl ⟨K,rfl⟩);refine sG (bl:=b7) (re:=N) (b0:=a5) i7 (.inr (.inl ⟨K,rfl⟩)) (CZ (by omega)) (λy hp=>?_) λb l i=>aI ⟨b,rfl,l,i.cast (λz=>⟨λhz=>?_,λhz=>?_⟩) λz y=>⟨λhz=>?_,λhz=>?_⟩⟩
   .rw [wE];rcases hp with hp|hp|hp
    .simp [hp.2.2]
    .simp [hp.2.2]
    .have:=T _ _ hp;omega
   .rcases hz.1 with e|e|e
    .exact .inl ⟨rfl,e⟩
    .exact absurd e.2 hz.2
    .exact .inr e
   .rcases hz with e|e
    .exact ⟨.inl e.2,by omega⟩
    .have:=hO5 _ e;exact⟨.inr (.inr e),by omega⟩
   .rcases hz.1 with e|e|e
    .exact absurd (e.1.trans (U (.inl e.2.1)).1) hz.2
    .exact absurd (e.2.1.trans (U (.inr e.1)).1) hz.2
    .exact e
   .have:=T _ _ hz;exact⟨.inr (.inr hz),by omega⟩
  .have K:q=zv:=K;rcases hz with e|e|e
   .exact .inl ⟨rfl,e⟩
   .rw [K]at e;exact absurd e.1 (by simp)
   .exact .inr e
  .rcases hz with e|e
   .exact .inl e.2
   .exact .inr (.inr e)
  .have K:q=zv:=K;rcases hz with e|e|e
   .have:=(U (.inl e.2.1)).2;rw[K]at this;cases this
   .have:=(U (.inr e.1)).2;rw[K]at this;cases this
   .exact e
end
section
variable {g:List aF} {fs:List aH} {lo:List (List UInt8)} {nu:Int}
theorem YE{rec:T76}{rec':T95}{Wq:Og}{Ws:Oh}{n c k:Nat}{s:dw}{l1 l2:List (List UInt8)}{re:Int}(hS:Lw g fs lo)(hs:QS g (jo fs) lo (n+1) l1 s l2 c k)
  {a w m:Nat} {bl:List aO} {O:Nat->Prop} {P:Nat->Nat->Prop} (h:Pre g fs lo re w m bl a O P) (hw:w+130*k<=700000)
  (h5 :∀x th c1 k1 l3,s.exprs=[x]->s.then'=th->QX g (jo fs) lo 3 x->th.length<=10->Ch (QS g (jo fs) lo n) l1 th l3 c1 k1->w+130*(1+k1)<=700000->Ok (Wq s.kind s.line s.name s.exprs s.then' s.else' (lo.length:Int) g fs lo nu re a bl) λy=>PW (w+130*(1+k1)) (m+(20*(1+c1)+4*(1+k1))) g fs lo nu re bl a O P (zj,y))
  (h4 :∀c1 c2 k1 U l3 l4,s.then'.length<=10->s.else'.length<=10->Ch (QS g (jo fs) lo n) l1 s.then' l3 c1 k1->Ch (QS g (jo fs) lo n) l3 s.else' l4 c2 U->∀(re':Int) (a':Nat) b w' m',Pre g fs lo re' w' m' b a' O P->(lo.length:Int)+1<=re'->w'+3+130*k1+130*U<=700000->Ok (Ws s.kind s.line s.name s.exprs s.then' s.else' (lo.length:Int) g fs lo nu re' a' b) (PW (w'+3+130*k1+130*U) (m'+3+(20*c1+4*k1)+(20*c2+4*U)) g fs lo nu re' b a' O P)) :
  Ok (ajx rec rec' Wq Ws s.kind s.line s.name s.exprs s.then' s.else' g fs lo nu re a bl) (PW (w+130*k) (m+(20*c+4*k)) g fs lo nu re bl a O P):=by
 have hL:=hS.lo;have hlo:lo.length<=1000000:=by omega
 unfold ajx;dsimp only;have ex :∀(es:List aU) (ht:Nat->Nat),es.length<=2->(∀i,ht i<=3)->(∀i,i<es.length->QX g (jo fs) lo (ht i) (es.getD i fA))->w+182<=800000->Ok (bn (λ(J:(Int×fD×(List aH)×bP×Int×Int×Int×ng))=>
   bif(decide (J.1<(es.length:Int)))then ck (inB J.1 es.length) <| OB (f118 (List.getD es J.1.toNat fA).kind (List.getD es J.1.toNat fA).op (List.getD es J.1.toNat fA).value (List.getD es J.1.toNat fA).line (List.getD es J.1.toNat fA).name (List.getD es J.1.toNat fA).args (bT ((lo.length:Int)+J.1)) J.2.1 J.2.2.1 J.2.2.2.1 J.2.2.2.2.1 J.2.2.2.2.2.1 J.2.2.2.2.2.2.1 J.2.2.2.2.2.2.2) λc8=>zw (.inl ((bT (J.1+1)),c8.1,c8.2.1,c8.2.2.1,c8.2.2.2.1,c8.2.2.2.2.1,c8.2.2.2.2.2.1,c8.2.2.2.2.2.2))else
   zw (.inr (J.2.1,J.2.2.1,J.2.2.2.1,J.2.2.2.2.1,J.2.2.2.2.2.1,J.2.2.2.2.2.2.1,J.2.2.2.2.2.2.2))) ((0:Int),g,fs,lo,nu,re,(a:Int),bl)) (PE2 (w+sW ht es.length) (m+sB ht es.length) es.length g fs lo nu re bl a O P):=λes ht h1 h2 h3 h4=>ado hS h1 h2 h3 h h4 λq re a b=>rfl
 have X :∀{x:aU} {d:Nat},QX g (jo fs) lo d x->∀i,i<([x]:List aU).length->QX g (jo fs) lo d (([x]:List aU).getD i fA):=λL i hi=>by
  have:i=0:=by simpa using hi
  subst this;exact L
 have put :∀{p0 p1 p2 p3 p4 p5:Int} {ar:List Int} {r2:Int} {a2 w2 m2:Nat} {K:List aO},Pre g fs lo r2 w2 m2 K a2 O P->re<=r2->(r2<=re\/r2<=lo.length+10)->bl.length<=K.length->(a2=a\/bl.length<=a2)->w2+1<=w+130*k->m2<=m+(20*c+4*k)->IV g (jo fs) fs.length r2 (dK.mk p0 p1 p2 p3 p4 p5 ar)->
   Ok (f77 p0 p1 p2 p3 p4 p5 ar g fs lo nu r2 a2 K) λy=>PW (w+130*k) (m+(20*c+4*k)) g fs lo nu re bl a O P (zj,y):=λ{p0 p1 p2 p3 p4 p5 ar r2 a2 w2 m2 K} hp g1 g2 g3 g4 g5 g6 hi=>by
  have:=Wn (g:=g) (sg:=jo fs) (cl:=fs.length) (fs:=fs) (lo:=lo) (nu:=nu) (re:=r2) (p0:=p0) (p1:=p1) (p2:=p2) (p3:=p3) (p4:=p4) (p5:=p5) (ar:=ar) (bl:=K) (f:=zw) (Q:=λy=>PW (w+130*k) (m+(20*c+4*k)) g fs lo nu re bl a O P (zj,y)) hp.inv (.inl rfl) (by omega) hi λb l hh=>aI ⟨zj,r2,a2,b,rfl,g1,g2,by omega,g4,(hh.up (Uq _) (by omega) (by omega)).cast (λx=>by simp) λx y=>Iff.rfl⟩
  rwa [show∀z:Option (List aF×List aH×List (List UInt8)×Int×Int×Int×List aO),Option.bind z zw=z from λz=>by cases z<;>rfl]at this
 have asg :∀{nm:List UInt8} {r2:Int} {a2 w2 m2:Nat} {K:List aO} {k1:Int},(k1=1\/k1=2)->(nm∈lo\/PG zv g nm)->Pre g fs lo r2 w2 m2 K a2 O P->re<=r2->(r2<=re\/r2<=lo.length+10)->bl.length<=K.length->(a2=a\/bl.length<=a2)->w2+1<=w+130*k->m2<=m+(20*c+4*k)->(lo.length:Int)+1<=r2->
   Ok (Option.bind (f119 nm g fs lo nu r2 a2 K) λB=>Option.bind (bif(decide (0<=B.1))then OB (f77 2 0 B.1 (lo.length:Int) 0 0 eInt B.2.1 B.2.2.1 B.2.2.2.1 B.2.2.2.2.1 B.2.2.2.2.2.1 B.2.2.2.2.2.2.1 K) λM=>zw (M.1,M.2.1,M.2.2.1,M.2.2.2.1,M.2.2.2.2.1,M.2.2.2.2.2.1,M.2.2.2.2.2.2)else
    OB (f97 B.2.1 B.2.2.1 nm) λc17=>OB (f77 6 0 0 (lo.length:Int) 0 c17 eInt B.2.1 B.2.2.1 B.2.2.2.1 B.2.2.2.2.1 B.2.2.2.2.2.1 B.2.2.2.2.2.2.1 K) λN=>zw (N.1,N.2.1,N.2.2.1,N.2.2.2.1,N.2.2.2.2.1,N.2.2.2.2.2.1,N.2.2.2.2.2.2)) λuS=>(zw (.inl (uS.1,uS.2.1,uS.2.2.1,uS.2.2.2.1,uS.2.2.2.2.1,uS.2.2.2.2.2.1,uS.2.2.2.2.2.2)):Option ((List aF×List aH×List (List UInt8)×Int×Int×Int×List aO) ⊕ (Bool×List aF×List aH×List (List UInt8)×Int×Int×Int×List aO))))
    (MW (λy=>PW (w+130*k) (m+(20*c+4*k)) g fs lo nu re bl a O P (zj,y)) (PW (w+130*k) (m+(20*c+4*k)) g fs lo nu re bl a O P)):=λ{nm r2 a2 w2 m2 K k1} _ hnm hp g1 g2 g3 g4 g5 g6 g7=>by
  have hrt:RG r2 (lo.length:Int):=⟨by omega,by omega⟩;refine aaX hlo λq q1 q2=>bF (λy=>PW (w+130*k) (m+(20*c+4*k)) g fs lo nu re bl a O P (zj,y)) ?_ λy H=>aI H;by_cases hm:nm∈lo
  .obtain ⟨z1,z2⟩:=q1 hm;exact goT (YY z1) (gV (put (r2:=r2) hp g1 g2 g3 g4 g5 g6 (.move ⟨z1,by omega⟩ hrt (by simp))))
  .have z:=q2 hm;subst z;exact b_ rfl (bF _ (JJ hS.gn (hnm.resolve_left hm)) λy H=>gV (put hp g1 g2 g3 g4 g5 g6 (.store hrt H (by simp))))
 have out :∀{y:List aF×List aH×List (List UInt8)×Int×Int×Int×List aO},PW (w+130*k) (m+(20*c+4*k)) g fs lo nu re bl a O P (zj,y)->PW (w+130*k) (m+(20*c+4*k)) g fs lo nu re bl a O P (zj,y.1,y.2.1,y.2.2.1,y.2.2.2.1,y.2.2.2.2.1,y.2.2.2.2.2.1,y.2.2.2.2.2.2):=λh=>h;cases (show QS1 g (jo fs) lo (QS g (jo fs) lo n) l1 s l2 c k from hs)with
 |var hm L=>refine b_ rfl (bF _ (ex _ (λ_=>3) (by simp) (λ_=>Z1 _) (X L) (by omega)) λy ⟨r2,a2,K,e,f1,f2,f3,Y,T,f6⟩=>?_);subst e;simp only[sW,sB,W5,wx3,bx3]at f2 f6;exact bF (λy=>y=zj) (goT rfl (aI rfl)) λy e=>by subst e;exact iI (λy=>PW (w+130*1) (m+(20*1+4*1)) g fs lo nu re bl a O P (zj,y)) (goT rfl (asg (k1:=1) (by omega) (.inl hm) f6 f1 f3 Y T (by omega) (by omega) (by omega))) λy H=>aI (out H)
 |assign hm L=>refine b_ rfl (bF _ (ex _ (λ_=>3) (by simp) (λ_=>Z1 _) (X L) (by omega)) λy ⟨r2,a2,K,e,f1,f2,f3,Y,T,f6⟩=>?_);subst e;simp only[sW,sB,W5,wx3,bx3]at f2 f6;exact bF (λy=>y=zj) (b_ rfl (aI rfl)) λy e=>by subst e;exact iI (λy=>PW (w+130*1) (m+(20*1+4*1)) g fs lo nu re bl a O P (zj,y)) (goT rfl (asg (k1:=1) (by omega) hm f6 f1 f3 Y T (by omega) (by omega) (by omega))) λy H=>aI (out H)
 |step hm L=>refine b_ rfl (bF _ (ex _ (λ_=>2) (by simp) (λ_=>by omega) (X L) (by omega)) λy ⟨r2,a2,K,e,f1,f2,f3,Y,T,f6⟩=>?_);subst e;simp only[sW,sB,W5,wx2,bx2]at f2 f6;exact bF (λy=>y=zj) (b_ rfl (aI rfl)) λy e=>by subst e;exact iI (λy=>PW (w+130*1) (m+(20*0+4*1)) g fs lo nu re bl a O P (zj,y)) (goT rfl (asg (k1:=1) (by omega) hm f6 f1 f3 Y T (by omega) (by omega) (by omega))) λy H=>aI (out H)
 |store hp L hz=>
  refine b_ rfl (bF _ (ex _ (λi=>if i=0 then 2 else 3) (by simp) (λi=>by split<;>omega) (λi hi=>?_) (by omega)) λy ⟨r2,a2,K,e,f1,f2,f3,Y,T,f6⟩=>?_)
  .have:i=0\/i=1:=by simp at hi;omega
   rcases this with rfl|rfl
   .exact L
   .exact hz
  subst e;have e2:sW (λi=>if i=0 then 2 else 3) 2=119:=rfl;have e3:sB (λi=>if i=0 then 2 else 3) 2=20:=rfl;simp only[Wm,Kd,Vi,e2,e3]at f2 f6;have hr2:RG r2 (bT ((lo.length:Int)+1)):=by rw[aG (by omega)];exact⟨by omega,by omega⟩
  exact bF (λy=>y=zv) (b_ rfl (aI rfl)) λy e=>by subst e;exact iI (λy=>PW (w+130*1) (m+(20*1+4*1)) g fs lo nu re bl a O P (zj,y)) (b_ rfl (iI (λy=>PW (w+130*1) (m+(20*1+4*1)) g fs lo nu re bl a O P (zj,y)) (goT rfl (bF _ (JJ hS.gn hp) λy H=>bF _ (put (r2:=r2) f6 f1 f3 Y T (by omega) (by omega) (.set ⟨by omega,by omega⟩ hr2 H (by simp))) λy H=>aI H)) λy H=>aI H)) λy H=>aI (out H)
 |@plain k0 i nm x hk L=>
  have Z :∀j:Int,j=5\/j=1\/j=2\/j=3\/j=4->k0≠j:=λj hj e=>by rcases hk with h|h|h<;>omega
  refine b_ (Qt (Z 5 (by simp))) (bF _ (ex _ (λ_=>3) (by simp) (λ_=>Z1 _) (X L) (by omega)) λy ⟨r2,a2,K,e,f1,f2,f3,Y,T,f6⟩=>?_);subst e;simp only[sW,sB,W5,wx3,bx3]at f2 f6;refine bF (λy=>y=zv) (b_ (Qt (Z 1 (by simp))) (aI (Qt (Z 2 (by simp))))) λy e=>?_;subst e;refine iI (λy=>PW (w+130*1) (m+(20*1+4*1)) g fs lo nu re bl a O P (zj,y)) (b_ rfl (iI (λy=>PW (w+130*1) (m+(20*1+4*1)) g fs lo nu re bl a O P (zj,y)) (b_ (Qt (Z 3 (by simp))) ?_) λy H=>aI H)) λy H=>aI (out H);have u:=f6.lt;refine dA (λ_=>?_) λ_=>iI (λy=>PW (w+130*1) (m+(20*1+4*1)) g fs lo nu re bl a O P (zj,y)) (dA (λ_=>bF _ (put (r2:=r2) f6 f1 f3 Y T (by omega) (by omega) (.print ⟨by omega,by omega⟩ (by simp))) λy H=>aI H) λ_=>b_ (Qt (Z 4 (by simp))) (aI ⟨zj,r2,a2,K,rfl,f1,f3,Y,T,(f6.inv.up (Uq _) (by omega) (by omega)).cast (λx=>by simp) λx y=>Iff.rfl⟩)) λy H=>aI H;refine sG (bl:=K) (re:=r2) (b0:=a2) f6.inv (.inl rfl) ⟨by omega,λ_=>⟨by omega,by omega⟩,λx L=>by unfold succs at L;rw[QP (by omega),QP (by omega)]at L;cases L⟩ (λy hp=>absurd hp (f6.np y)) λb l i=>aI ⟨zv,r2,a2,b,rfl,f1,f3,by omega,T,(i.up (Uq _) (by omega) (by omega)).cast (λz=>⟨λhh=>?_,λhh=>?_⟩) λz y=>⟨λhh=>hh.1,λhh=>⟨hh,(u.2.2 _ _ hh).2.1⟩⟩⟩
  .exact hh.1.elim (λe=>absurd e hh.2) .inr
  .rcases hh with hh|hh
   .exact absurd hh.1 (by simp)
   .exact ⟨.inr hh,(u.2.1 _ hh).2⟩
 |sF L ht hc=>exact goT rfl (bF _ (h5 _ _ _ _ _ rfl rfl L ht hc (by omega)) λy H=>aI H)
 |@if' i nm x th el l3 l4 c1 c2 k1 U L ht he hc1 hc2=>
  refine b_ rfl (bF _ (ex _ (λ_=>3) (by simp) (λ_=>Z1 _) (X L) (by omega)) λy ⟨r2,a2,K,e,f1,f2,f3,Y,T,f6⟩=>?_);subst e;simp only[sW,sB,W5,wx3,bx3]at f2 f6;refine bF (λy=>y=zv) (b_ rfl (aI rfl)) λy e=>?_;subst e;refine iI (λy=>PW (w+130*(1+k1+U)) (m+(20*(1+c1+c2)+4*(1+k1+U))) g fs lo nu re bl a O P (zj,y)) (b_ rfl (iI (λy=>PW (w+130*(1+k1+U)) (m+(20*(1+c1+c2)+4*(1+k1+U))) g fs lo nu re bl a O P (zj,y)) (b_ rfl (b_ rfl (iI (λy=>PW (w+130*(1+k1+U)) (m+(20*(1+c1+c2)+4*(1+k1+U))) g fs lo nu re bl a O P (zj,y)) (b_ rfl (goT rfl (bF _ (h4 _ _ _ _ _ _ ht he hc1 hc2 r2 a2 K _ _ f6 (by omega) (by omega)) λy ⟨on,r3,a3,b3,e,g1,g2,g3,g4,g5⟩=>?_))) λy H=>aI H))) λy H=>aI H)) λy H=>aI (out H);subst e;exact aI ⟨on,r3,a3,b3,rfl,by omega,by omega,by omega,by omega,g5.up (Uq _) (by omega) (by omega)⟩
theorem IX{rec:T76}{z:T95}{Wq:Og}{Ws:Oh}{n c k:Nat}{j:List dw}{l1 l2:List (List UInt8)}(hs:j.length<=10)(B:Ch (QS g (jo fs) lo n) l1 j l2 c k)
  (hr :∀x∈j,∀K L c1 k1,QS g (jo fs) lo n K x L c1 k1->∀(re:Int) (a:Nat) bl w m O P,Pre g fs lo re w m bl a O P->w+130*k1<=700000->Ok (z x.kind x.line x.name x.exprs x.then' x.else' g fs lo nu re a bl) (PW (w+130*k1) (m+(20*c1+4*k1)) g fs lo nu re bl a O P))
  {re:Int} {a w m:Nat} {bl:List aO} {O:Nat->Prop} {P:Nat->Nat->Prop} (h:Pre g fs lo re w m bl a O P) (hw:w+130*k<=700000) :
  Ok (ajw rec z Wq Ws j g fs lo nu re a bl) (PW (w+130*k) (m+(20*c+4*k)) g fs lo nu re bl a O P):=by
 obtain⟨q1,q2,q3⟩:=h.lt;unfold ajw;refine iI (λy=>PW (w+130*k) (m+(20*c+4*k)) g fs lo nu re bl a O P (zj,y)) ?_ λy hy=>aI hy;refine bD (λs:Int×List aF×List aH×List (List UInt8)×Int×Int×Int×List aO=>∃q c1 k1 M N:Nat,∃K re' H b,s=((q:Int),g,fs,lo,nu,re',((H:Nat):Int),b)/\q<=j.length/\Ch (QS g (jo fs) lo n) K (j.drop q) l2 M N/\c=c1+M/\k=k1+N/\re<=re'/\(re'<=re\/re'<=lo.length+10)/\bl.length<=b.length/\(H=a\/bl.length<=H)/\Pre g fs lo re' (w+130*k1) (m+(20*c1+4*k1)) b H O P) (λs=>(j.length-s.1).toNat)
  ⟨0,0,0,c,k,l1,re,a,bl,rfl,by omega,B,by omega,by omega,by omega,by omega,by omega,.inl rfl,h⟩ λs ⟨q,c1,k1,M,N,K,re',H,b,e,d1,d2,d3,d4,d5,d6,d7,d8,d9⟩=>?_
 subst e;refine dA (λB=>?_) λB=>?_
 rotate_left
 .have B:¬ (q:Int)<j.length:=by simpa using B
  obtain⟨e1,X,e3⟩:=d2.fin (by omega);subst X;subst e3;exact aI ⟨zj,re',H,b,rfl,d5,d6,d7,d8,(d9.inv.up (Uq _) (by omega) (by omega)).cast (λx=>by simp) λx y=>Iff.rfl⟩
 have B:(q:Int)<j.length:=by simpa using B
 obtain⟨L,c3,c4,k3,k4,hx,T,e1,X⟩:=d2.at (by omega);refine bK (aC.2 ⟨by simp only;omega,B⟩) ?_;simp only[Q4];refine bF _ (hr _ (by rw[getD_at _ (by omega:q<j.length)];exact Xs _) _ _ _ _ hx re' H b _ _ O P d9 (by omega)) λy ⟨on,Y,a2,Z,e,f1,f2,f3,F4,F5⟩=>?_;subst e;refine dA (λJ=>?_) λJ=>?_
 .have J:on=zv:=by simpa using J
  exact aI ⟨zv,Y,a2,Z,rfl,by omega,by omega,by omega,by omega,(F5.up (Uq _) (by omega) (by omega)).cast (λx=>by rw[J]) λx y=>Iff.rfl⟩
 .have J:on=zj:=by simpa using J
  subst J;have u:=d9.lt;refine aI ⟨⟨q+1,c1+c3,k1+k3,c4,k4,L,Y,a2,Z,?_,by omega,T,by omega,by omega,by omega,by omega,by omega,by omega,⟨(F5.up (Uq _) (by omega) (by omega)).cast (λx=>by simp) λx y=>Iff.rfl,λU=>?_,λy U=>?_,by have:=d9.re;omega⟩⟩,?_⟩
  .show (bT ((q:Int)+1),_)=_;rw[aG (by omega)];rfl
  .have:=u.2.1 _ U;omega
  .have:=u.2.2 _ _ U;omega
  .show ((j.length:Int)-bT ((q:Int)+1)).toNat<((j.length:Int)-q).toNat;rw[aG (by omega)];omega
theorem Wv(n:Nat):(gY (n+1)).1=ajw (acT n) (ajy n) (aas n) (aat n):=rfl
theorem agW(n:Nat):(gY (n+1)).2.1=ajx (acT n) (ajy n) (aas n) (aat n):=rfl
theorem agX(n:Nat):(gY (n+1)).2.2.1=aaq (acT n) (ajy n) (aas n) (aat n):=rfl
theorem agY(n:Nat):(gY (n+1)).2.2.2=aar (acT n) (ajy n) (aas n) (aat n):=rfl
theorem aaZ(H:Lw g fs lo):∀n k:Nat,3*n+1<=k->∀y:List dw,y.length<=10->∀l1 l2 c q,Ch (QS g (jo fs) lo n) l1 y l2 c q->SS g fs lo nu (acT k) y c q
 |_,0,J=>by omega
 |0,k+1,J=>λy K l1 l2 c q L re a B w m O P h j=>by show Ok ((gY (k+1)).1 y g fs lo nu re a B) _;rw[Wv];exact IX K L (λx hx M l4 N T U=>U.elim) h j
 |n+1,1,J=>by omega
 |n+1,2,J=>by omega
 |n+1,k+3,J=>λy K l1 l2 c q L re a B w m O P h j=>by
  have X:=aaZ H n k (by omega);show Ok ((gY (k+3)).1 y g fs lo nu re a B) _;rw[Wv];refine IX K L (λx hx M l4 N T U re a B w m O P h j=>?_) h j;show Ok ((gY (k+2)).2.1 x.kind x.line x.name x.exprs x.then' x.else' g fs lo nu re a B) _;rw[agW];refine YE H U h j (λz th N T M e1 e2 hz Y Z j=>?_) λN c2 T k2 M l4 Y he hc1 hc2 re' a' b w' m' hp hre j=>?_
  .show Ok ((gY (k+1)).2.2.1 x.kind x.line x.name x.exprs x.then' x.else' (lo.length:Int) g fs lo nu re a B) _;rw[agX,e1,e2];exact YD H hz (X th Y _ _ _ _ Z) h j
  .show Ok ((gY (k+1)).2.2.2 x.kind x.line x.name x.exprs x.then' x.else' (lo.length:Int) g fs lo nu re' a' b) _;rw[agY];exact Wu H (X _ Y _ _ _ _ hc1) (X _ he _ _ _ _ hc2) hp hre j
end
structure Rt(g:List aF)(sg:List (List UInt8×Nat))(cl:Int)(f:aQ):Prop where
 good:Good f
 len:f.blocks.length<=256
 wt:Bo f.blocks<=2048
 reg:0<=f.regs/\f.regs<=250
 par:0<=f.params/\f.params<=f.regs
 ins :∀b∈f.blocks,∀i∈b.instrs,IV g sg cl f.regs i
 trm :∀b,b<f.blocks.length->tvB f.regs f.blocks.length (f.blocks.getD b aA)
structure RtP(g:List aF)(sg:List (List UInt8×Nat))(cl:Int)(fs:List aQ):Prop where
 gl:g.length<=32
 gs :∀x∈g,0<=x.size/\x.size<=1024
 f0:0<fs.length
 f1:fs.length<=5
 sgl:sg.length=fs.length
 cll:0<=cl/\cl<=fs.length
 par :∀i,i<fs.length->(fs.getD i ah).params=((sg.getD i ([],0)).2:Int)
 p0:(fs.getD 0 ah).params=0
 rt :∀f∈fs,Rt g sg cl f
section
variable {g:List aF} {fs:List aQ} {sg:List (List UInt8×Nat)} {cl re:Int}
theorem uj{l:List Int}{n:Int}{R:Type}{Q:R->Prop}{er:R}(q:l.length<=1000)(h :∀x∈l,0<=x/\x<n):
  Ok (bn (λ(s:Int)=>bif(decide (s<(l.length:Int)))then OB (ck (inB s l.length) <| bif(decide ((List.getD l s.toNat 0)<0))then zw zj else ck (inB s l.length) <| some (decide (n<=(List.getD l s.toNat 0)))) λm=>bif m then zw (.inr (.inr er))else zw (.inl (bT (s+1)))else zw (.inr (.inl ()))) (0:Int)) (MW (λ_:Unit=>True) Q):=by
 refine jA l.length (λ_=>True) (by omega) (λi j _=>?_) λ_=>b_ (Qt (by omega)) (aI trivial);have w:=h _ (Xs j);refine goT (YY (by omega)) (bF (λy=>y=zv) (bK (aC.2 (by omega)) ?_) λy e=>by subst e;exact b_ rfl (aI ⟨rfl,trivial⟩));simp only[Q4,getD_at _ j];exact b_ (Qt (by omega)) (bK (aC.2 (by omega)) (aI (Qt (by omega))))
theorem JK{a:Bool}{v c1 c2:Int}(h:GI a g v):f139 g fs c1 c2 v a=zw zj:=by apply ok_eq;obtain⟨⟨j,m⟩,q⟩:=h;unfold f139;refine bF (λy=>y=zj) (goT (YY j) (goT (YY m) (bK (aC.2 ⟨j,m⟩) (aI ?_)))) λy w=>aI w;rw[q];simp
theorem rg2{x y:Int}(h:RG re x)(j:RG re y):∀z∈[x,y],0<=z/\z<re:=λz m=>by
 rcases XN.1 m with e|e
 .rw [e];exact h
 .rw [X2]at e;rw[e];exact j
theorem rg1{x:Int}(h:RG re x):∀z∈[x],0<=z/\z<re:=ql h
theorem rg3{x y w:Int}(h:RG re x)(j:RG re y)(m:RG re w):∀z∈[x,y,w],0<=z/\z<re:=λz q=>by
 rcases XN.1 q with e|e
 .rw [e];exact h
 .exact rg2 j m z e
theorem instrC_ok{nm:List UInt8}{pa:Int}{bl:List aO}{i:dK}(L:sg.length=fs.length)(K :∀i,i<fs.length->(fs.getD i ah).params=((sg.getD i ([],0)).2:Int))(h:IV g sg cl re i):Ok (f122 g fs cl 0 nm pa re bl i.kind i.op i.dst i.a i.b i.value i.args) λy=>y=0:=by
 unfold f122;cases h with
 |const hd m=>exact eP rfl (b_ rfl (eP rfl (eP rfl (eP rfl (iI (λ_=>True) (uj (by simp) (rg1 hd)) λ_ _=>⟨0,rfl,rfl⟩)))))
 |move hd j m=>exact eP rfl (b_ rfl (eP rfl (eP rfl (eP rfl (iI (λ_=>True) (uj (by simp) (rg2 j hd)) λ_ _=>⟨0,rfl,rfl⟩)))))
 |un hd j J m=>rcases J with rfl|rfl<;>exact eP rfl (b_ rfl (eP rfl (eP rfl (eP rfl (iI (λ_=>True) (uj (by simp) (rg2 j hd)) λ_ _=>⟨0,rfl,rfl⟩)))))
 |bin hd j B J m=>refine bF (λy=>y=zv) (b_ rfl (b_ rfl (b_ rfl (b_ rfl (goT rfl (b_ (Qt (by simp only;omega)) (aI (Qt (by simp only;omega))))))))) λy e=>?_;subst e;exact b_ rfl (eP rfl (eP rfl (eP rfl (iI (λ_=>True) (uj (by simp) (rg3 j B hd)) λ_ _=>⟨0,rfl,rfl⟩))))
 |load hd q m=>exact eP rfl (b_ rfl (eP rfl (eP rfl (eP rfl (iI (λ_=>True) (uj (by simp) (rg1 hd)) λ_ _=>eP rfl (iI (λ_=>True) (goT rfl (eP (JK q) (b_ rfl (aI trivial)))) λ_ _=>aI rfl))))))
 |store j q m=>exact eP rfl (b_ rfl (eP rfl (eP rfl (eP rfl (iI (λ_=>True) (uj (by simp) (rg1 j)) λ_ _=>eP rfl (iI (λ_=>True) (goT rfl (eP (JK q) (b_ rfl (aI trivial)))) λ_ _=>aI rfl))))))
 |elem hd j q m=>exact eP rfl (b_ rfl (eP rfl (eP rfl (eP rfl (iI (λ_=>True) (uj (by simp) (rg2 j hd)) λ_ _=>eP rfl (iI (λ_=>True) (b_ rfl (eP rfl (iI (λ_=>True) (goT rfl (eP (JK q) (b_ rfl (aI trivial)))) λ_ _=>aI trivial))) λ_ _=>aI rfl))))))
 |set j B q m=>exact eP rfl (b_ rfl (eP rfl (eP rfl (eP rfl (iI (λ_=>True) (uj (by simp) (rg2 j B)) λ_ _=>eP rfl (iI (λ_=>True) (b_ rfl (eP rfl (iI (λ_=>True) (goT rfl (eP (JK q) (b_ rfl (aI trivial)))) λ_ _=>aI trivial))) λ_ _=>aI rfl))))))
 |read hd m=>exact eP rfl (b_ rfl (eP rfl (eP rfl (eP rfl (iI (λ_=>True) (uj (by simp) (rg1 hd)) λ_ _=>⟨0,rfl,rfl⟩)))))
 |print j m=>exact eP rfl (b_ rfl (eP rfl (eP rfl (eP rfl (iI (λ_=>True) (uj (by simp) (rg1 j)) λ_ _=>⟨0,rfl,rfl⟩)))))
 |@call o d a b v ar hd q w H m=>
  have z:=K v.toNat (by omega);rw[w]at z;refine eP rfl (b_ rfl (bF (λy=>y=ar) (by unfold f137;exact eP rfl (b_ rfl (eP rfl (b_ rfl (goT rfl (bK (by unfold aV;simp;omega) (aI (by simp)))))))) λar e=>?_));subst e;refine eP rfl (bF (λl=>l=ar++[d]) (goT rfl (bK (by unfold aV;simp;omega) (aI rfl))) λl e=>?_);subst e;refine iI (λ_=>True) (uj (by simp;omega) λx hx=>?_) λ_ _=>eP rfl (iI (λ_=>True) (b_ rfl (eP rfl (iI (λ_=>True) (b_ rfl (iI (λ_=>True) (goT rfl (bF (λy=>y=zv) (b_ (Qt (by simp only;omega)) (aI (Qt (by simp only;omega)))) λy e=>by subst e;exact b_ rfl (bK (aC.2 (by simp only;omega)) (b_ (by rw[va];exact YY z) (aI trivial))))) λ_ _=>aI trivial)) λ_ _=>aI trivial))) λ_ _=>aI rfl);rcases Z0.1 hx with hx|hx
  .exact H x hx
  .exact rg1 hd x hx
 |@IW o d a b v ar hd j H m=>
  refine eP rfl (b_ rfl (bF (λy=>y=a::ar) (by unfold f137;exact eP rfl (b_ rfl (eP rfl (b_ rfl (b_ rfl (goT rfl (bK (by unfold aV;simp;omega) (aI rfl)))))))) λy e=>?_));subst e;refine eP rfl (bF (λl=>l=(a::ar)++[d]) (goT rfl (bK (by unfold aV;simp;omega) (aI rfl))) λl e=>?_);subst e;refine iI (λ_=>True) (uj (by simp;omega) λx hx=>?_) λ_ _=>eP rfl (iI (λ_=>True) (b_ rfl (eP rfl (iI (λ_=>True) (b_ rfl (iI (λ_=>True) (b_ rfl (iI (λ_=>True) (goT rfl (b_ (Qt (by simp only;omega)) (aI trivial))) λ_ _=>aI trivial)) λ_ _=>aI trivial)) λ_ _=>aI trivial))) λ_ _=>aI rfl);rcases Z0.1 hx with hx|hx
  .rcases XN.1 hx with hx|hx
   .rw [hx];exact j
   .exact H x hx
  .exact rg1 hd x hx
 |func hd q m=>exact eP rfl (b_ rfl (eP rfl (eP rfl (eP rfl (iI (λ_=>True) (uj (by simp) (rg1 hd)) λ_ _=>eP rfl (iI (λ_=>True) (b_ rfl (eP rfl (iI (λ_=>True) (b_ rfl (iI (λ_=>True) (b_ rfl (iI (λ_=>True) (b_ rfl (iI (λ_=>True) (goT rfl (bF (λy=>y=zv) (b_ (Qt (by simp only;omega)) (aI (Qt (by simp only;omega)))) λy e=>by subst e;exact b_ rfl (aI trivial))) λ_ _=>aI trivial)) λ_ _=>aI trivial)) λ_ _=>aI trivial)) λ_ _=>aI trivial))) λ_ _=>aI rfl))))))
theorem akb{nm:List UInt8}{pa re:Int}{bl:List aO}{k a t e:Int}(h:TV re bl.length k a t e):Ok (f123 nm pa re bl k a t e) λy=>y=0:=by
 have m:=h.kind;unfold f123;refine bF (λy=>y=zv) (b_ (Qt (by omega)) (aI (Qt (by omega)))) λy j=>?_;subst j;refine b_ rfl (bF (λy=>y=zv) ?_ λy j=>?_)
 .refine dA (λhn=>?_) λ_=>aI rfl;have hn:k≠1:=by simpa using hn
  obtain⟨q,w⟩:=h.reg hn;exact b_ (Qt (by omega)) (aI (Qt (by omega)))
 subst j;have z:(succs k t e).length<=2:=by
  unfold succs;split
  .simp
  .split<;>simp
 exact b_ rfl (eP (V7 k a t e) (iI (λ_=>True) (uj (by omega) h.suc) λ_ _=>aI rfl))
theorem adp{nm:List UInt8}{pa re:Int}{bl:List aO}(h:Bo bl<=1000000):f121 nm pa re bl=zw (Bo bl:Int):=by
 apply ok_eq;have B:=agT bl;unfold f121;refine bF (λy=>y=(Bo bl:Int)) ?_ λy w=>aI w;have key :∀i,i<=bl.length->Bo (bl.take i)<=Bo bl:=λi _=>by
  have:Bo (bl.take i)+Bo (bl.drop i)=Bo bl:=by unfold Bo;rw[<-vb,<-Ys,K2]
  omega
 refine bD (λs:Int×Int=>∃i:Nat,s.2=i/\i<=bl.length/\s.1=(Bo (bl.take i):Int)) (λs=>(bl.length-s.2).toNat) ⟨0,rfl,by omega,rfl⟩ λ⟨n,H⟩ ⟨i,m,J,q⟩=>?_;simp only at m q;subst m;subst q;refine dA (λj=>?_) (λj=>?_)
 .have j:i<bl.length:=by simpa using j
  have z:Bo (bl.take (i+1))=Bo (bl.take i)+(bl[i].instrs.length+1):=by unfold Bo;rw[take_snoc j];simp only[Ys,vb,Qf,V2,K4,List.sum_nil];omega
  have:=key (i+1) (by omega);refine bK (aC.2 (by simp only;omega)) (aI ⟨⟨i+1,?_,by omega,?_⟩,?_⟩)
  .simp only;rw[aG (by omega)];rfl
  .simp only[Q4,getD_at _ j];rw[aG (x:=(bl[i].instrs.length:Int)+1) (by omega),aG (by omega),z];simp
  .simp only;rw[aG (by omega)];omega
 .have:i=bl.length:=by simp at j;omega
  subst this;rw[K7];exact aI rfl
theorem Wx{f:aQ}(L:sg.length=fs.length)(M :∀i,i<fs.length->(fs.getD i ah).params=((sg.getD i ([],0)).2:Int))(h:Rt g sg cl f):Ok (f96 g fs cl 0 f.name f.params f.regs f.blocks) λy=>y=0:=by
 obtain⟨⟨_,g1,g2,g3⟩,hl,hw,hr,N,T,U⟩:=h;unfold f96;refine bF (λy=>y=zv) (b_ (Qt (by omega)) (b_ (Qt (by omega)) (eP (adp (by omega)) (aI (Qt (by omega)))))) λy e=>?_;subst e;refine b_ rfl (bF (λy=>y=zv) (b_ (Qt (by omega)) (b_ (Qt (by omega)) (b_ (Qt (by omega)) (aI (Qt (by omega)))))) λy e=>?_);subst e;refine b_ rfl (iI (λ_=>True) (jA f.blocks.length (λ_=>True) (by omega) (λb q _=>?_) λ_=>b_ (Qt (by omega)) (aI trivial)) λ_ _=>?_)
 .have w:=aC.2 (show 0<=(b:Int)/\(b:Int)<f.blocks.length by omega);have z:f.blocks.getD b aA∈f.blocks:=by rw[getD_at _ q];exact Xs _
  have X:=YA _ z;refine goT (YY (by omega)) (iI (λ_=>True) (jA (f.blocks.getD b aA).instrs.length (λ_=>True) (by omega) (λj Y _=>?_) λ_=>bK w (b_ (Qt (by simp only[Q4];omega)) (aI trivial))) λ_ _=>?_)
  .refine bK w ?_;simp only[Q4];refine goT (YY (by omega)) (bK w (bK (aC.2 (by omega)) (bF _ (instrC_ok L M (T _ z _ (by rw[getD_at _ Y];exact Xs _))) λy e=>by subst e;exact b_ rfl (aI ⟨rfl,trivial⟩))))
  .refine bK w ?_;simp only[Q4];exact bF _ (akb (U b q)) λy e=>by subst e;exact b_ rfl (aI ⟨rfl,trivial⟩)
 refine bF _ (V9 g2 g1 (by omega)) λm ⟨H,J⟩=>?_;have Z:=H.len;have B :∀b,b<f.blocks.length->m.getD b zv=zj:=by
  refine λb q=>(g3 (λb=>b<f.blocks.length/\m.getD b zv=zj) ⟨g1,H.zero⟩ (λb q K=>?_) b q).2;obtain⟨e1,e2⟩:=g2.1 b q;have hk:=g2.2 b q;refine⟨λhn=>?_,λhn=>?_⟩
  .have h1:=e1 hn;exact⟨by omega,J b q K.2 _ (ER.1 (by omega))⟩
  .have h1:=e2 hn;exact⟨by omega,J b q K.2 _ (ER.2 hn)⟩
 refine iI (λ_=>True) (jA m.length (λ_=>True) (by omega) (λb q _=>?_) λ_=>b_ (Qt (by omega)) (aI trivial)) λ_ _=>aI rfl;refine goT (YY (by omega)) (bK (aC.2 (by omega)) (b_ ?_ (aI ⟨rfl,trivial⟩)));rw[Q4,B b (by omega)];rfl
theorem ag0(h:RtP g sg cl fs):Ok (f79 g fs cl 0) λy=>y=0:=by
 have q:=h.gl;have w:=h.f0;have z:=h.f1;have B:=h.cll;unfold f79;refine bF (λy=>y=zv) (b_ (Qt (by omega)) (b_ (Qt (by omega)) (b_ (Qt (by omega)) (b_ rfl (aI rfl))))) λy e=>?_;subst e;refine b_ rfl (iI (λ_=>True) (jA g.length (λ_=>True) (by omega) (λi m _=>?_) λ_=>b_ (Qt (by omega)) (aI trivial)) λ_ _=>?_)
 .have H:=h.gs _ (by rw[getD_at _ m];exact Xs _:g.getD i (aF.mk bJ 0)∈g);have j:=aC.2 (show 0<=(i:Int)/\(i:Int)<g.length by omega);refine goT (YY (by omega)) (bF (λy=>y=zv) (bK j ?_) λy e=>by subst e;exact b_ rfl (aI ⟨rfl,trivial⟩));simp only[Q4];exact b_ (Qt (by omega)) (bK j (aI (Qt (by omega))))
 refine bF (λy=>y=zv) (b_ (Qt (by omega)) (aI (Qt (by omega)))) λy e=>?_;subst e;refine b_ rfl (bK (aC.2 (by omega)) (b_ ?_ (iI (λ_=>True) (jA fs.length (λ_=>True) (by omega) (λi m _=>?_) λ_=>b_ (Qt (by omega)) (aI trivial)) λ_ _=>aI rfl)))
 .rw [va];exact YY h.p0
 .refine goT (YY (by omega)) (bK (aC.2 (by omega)) ?_);simp only[Q4];exact bF _ (Wx h.sgl h.par (h.rt _ (by rw[getD_at _ m];exact Xs _))) λy e=>by subst e;exact b_ rfl (aI ⟨rfl,trivial⟩)
end
variable {g:List aF} {fs:List aQ} {sg:List (List UInt8×Nat)} {ca re:Int}
def DI(g:List aF)(sg:List (List UInt8×Nat))(ca re:Int)(l:List Int)(s:List Int×Int×Int×Int×Int×Int×Int×Int×List Int):Prop:=s.1=l/\0<=s.2.1/\RG re s.2.2.2.2.1/\IV g sg ca re (dK.mk s.2.2.1 s.2.2.2.1 s.2.2.2.2.1 s.2.2.2.2.2.1 s.2.2.2.2.2.2.1 s.2.2.2.2.2.2.2.1 s.2.2.2.2.2.2.2.2)
theorem instr_ok{ct:Int}{nm:List UInt8}{pa:Int}{bl:List aO}{l:List Int}{i:Int}(J:Bytes l)(hi:0<=i)(X:1<=re/\re<=65536)(hca:0<=ca/\ca<=65536)
  (Y:GI zv g 0) (Z:GI zj g 1) (hfs:0<fs.length/\fs.length<=65536) (hsg:sg.length=fs.length) (hpa :∀i,i<fs.length->(fs.getD i ah).params=((sg.getD i ([],0)).2:Int)/\(sg.getD i ([],0)).2<=10) :
  Ok (f48 g fs ca ct nm pa re bl l i) λy=>y.2.2.2.2.2.2.1=l/\0<=y.2.2.2.2.2.2.2.1/\IV g sg ca re (dK.mk y.1 y.2.1 y.2.2.1 y.2.2.2.1 y.2.2.2.2.1 y.2.2.2.2.2.1 y.2.2.2.2.2.2.2.2):=by
 unfold f48;refine goN J hi (by omega) λx0 j0 h0 a0 b0=>goN J h0 (by omega) λx1 j1 h1 a1 b1=>goN J h1 (by omega) λx2 j2 h2 a2 b2=>goN J h2 (by omega) λx3 j3 M a3 b3=>?_;have b0:=b0 (by omega);have w:RG re x1:=⟨a1,b1 (by omega)⟩;have N:RG re x2:=⟨a2,b2 (by omega)⟩;have r3:RG re x3:=⟨a3,b3 (by omega)⟩;obtain⟨n,hn,n1,n2⟩ :∃n:Int,bT (1+x0)=n/\1<=n/\n<=12:=⟨_,rfl,by rw[aG (by omega)];omega,by rw[aG (by omega)];omega⟩;simp only[hn];clear hn;have m:(eInt:List Int).length<=10:=by simp
 refine bF (DI g sg ca re l) ?_ λs ⟨e1,e2,e3,e4⟩=>?_
 .refine dA (λe=>goN J M (by omega) λx j K _ _=>?_) (λm1=>bF (DI g sg ca re l) ?_ λs B=>aI B)
  .have e:n=1:=by simpa using e
   subst e;exact aI ⟨rfl,K,w,.const w m⟩
  refine dA (λe=>goN J M (by omega) λx j K T H=>?_) (λm3=>bF (DI g sg ca re l) ?_ λs B=>aI B)
  .have e:n=3:=by simpa using e
   have H:=H (by omega);subst e;exact aI ⟨rfl,K,w,.un w N (by simp only;rw[aG (by omega)];omega) m⟩
  refine dA (λe=>goN J M (by omega) λx j K T H=>?_) (λm4=>bF (λy=>y=decide (n=7\/n=8)) ?_ λy U=>bF (DI g sg ca re l) ?_ λs B=>aI B)
  .have e:n=4:=by simpa using e
   have H:=H (by omega);subst e;exact aI ⟨rfl,K,w,.bin w N r3 (by simp only;rw[aG (by omega)];omega) m⟩
  .refine dA (λe=>aI ?_) λe=>aI ?_
   .have e:n=7:=by simpa using e
    exact(YY (Or.inl e)).symm
   .have e:¬ n=7:=by simpa using e
    exact decide_eq_decide.2 (by omega)
  refine dA (λe=>?_) (λe=>bF (DI g sg ca re l) ?_ λs B=>aI B)
  .rw [U]at e;have e:n=7\/n=8:=ZS e;rcases e with e|e
   .subst e;exact aI ⟨rfl,M,w,.elem w N Z m⟩
   .subst e;exact aI ⟨rfl,M,w,.set N r3 Z m⟩
  rw[U]at e;have m78:¬ (n=7\/n=8):=ZZ e;have m1:¬ n=1:=by simpa using m1
  have m3:¬ n=3:=by simpa using m3
  have m4:¬ n=4:=by simpa using m4
  refine dA (λe=>goN J M (by omega) λx j K T H=>bF (DI g sg ca re l) ?_ λs B=>aI B) (λm11=>bF (DI g sg ca re l) ?_ λs B=>aI B)
  .have e:n=11:=by simpa using e
   have H:=H (by omega);subst e;obtain⟨p1,p2⟩:=hpa x.toNat (by omega);refine bD (λs:Int×List Int×Int×Int×Int×Int×Int×Int×Int×List Int=>∃(j:Int) (ar:List Int),s=((ar.length:Int),l,j,11,0,x1,x2,x3,x,ar)/\0<=j/\ar.length<=(sg.getD x.toNat ([],0)).2/\∀y∈ar,RG re y) (λs=>(10-s.1).toNat)
    ⟨j,[],rfl,K,by simp,λy U=>by cases U⟩ λs ⟨j,ar,e,q1,q2,q3⟩=>?_
   subst e;refine bK (aC.2 ⟨T,H⟩) ?_;simp only;refine dA (λL=>?_) (λL=>aI ⟨rfl,q1,w,.call w ⟨T,by simp only;omega⟩ ?_ q3 (by simp only;omega)⟩)
   .have L:(ar.length:Int)<(fs.getD x.toNat ah).params:=ZS L;rw[p1]at L;refine goN J q1 X.2 λy k hk ay bY=>bK (by unfold aV;simp;omega) (aI ⟨⟨k,ar++[y],?_,hk,by rw[XX,W5];omega,λz hz=>?_⟩,?_⟩)
    .simp only[XX,Wm,Kd];rw[aG (by omega)];rfl
    .rcases Z0.1 hz with hz|hz
     .exact q3 z hz
     .rw [X2]at hz;rw[hz];exact⟨ay,bY (by omega)⟩
    .simp only[aG (x:=(ar.length:Int)+1) (by omega)];omega
   .have L:¬ (ar.length:Int)<(fs.getD x.toNat ah).params:=ZZ L;rw[p1]at L;simp only;omega
  have m11:¬ n=11:=by simpa using m11
  refine dA (λe=>goN J M (by omega) λx j K T H=>bF (DI g sg ca re l) ?_ λs B=>aI B) (λm12=>aI ?_)
  .have e:n=12:=by simpa using e
   have H:=H (by omega);subst e;refine bD (λs:Int×List Int×Int×Int×Int×Int×Int×Int×Int×List Int=>∃(q j:Int) (ar:List Int),s=(q,l,j,12,0,x1,x2,x3,0,ar)/\0<=j/\0<=q/\(ar.length:Int)+q<=3/\∀y∈ar,RG re y) (λs=>s.1.toNat)
    ⟨x,j,[],rfl,K,T,by simp only[Kd];omega,λy U=>by cases U⟩ λs ⟨q,j,ar,e,q1,q0,q2,q3⟩=>?_
   subst e;simp only;refine dA (λL=>?_) (λL=>aI ⟨rfl,q1,w,.IW w N q3 (by simp only;omega)⟩);have L:0<q:=by simpa using L
   refine goN J q1 X.2 λy k hk ay bY=>bK (by unfold aV;simp;omega) (aI ⟨⟨q-1,k,ar++[y],?_,hk,by omega,by simp;omega,λz hz=>?_⟩,?_⟩)
   .rw [aG (by omega)]
   .rcases Z0.1 hz with hz|hz
    .exact q3 z hz
    .rw [X2]at hz;rw[hz];exact⟨ay,bY (by omega)⟩
   .simp only[aG (x:=q-1) (by omega)];omega
  have m12:¬ n=12:=by simpa using m12
  have:n=2\/n=5\/n=6\/n=9\/n=10:=by omega
  rcases this with e|e|e|e|e<;>subst e
  .exact ⟨rfl,M,w,.move w N m⟩
  .exact ⟨rfl,M,w,.load w Y m⟩
  .exact ⟨rfl,M,w,.store N Y m⟩
  .exact ⟨rfl,M,w,.read w m⟩
  .exact ⟨rfl,M,w,.print N m⟩
 obtain⟨t1,t2,s⟩:=s;simp only at e1 e2 e3 e4;subst e1;refine bF (λs=>s.2.1=t1/\0<=s.2.2/\(s.1=zj->0<ca)) ?_ λ⟨s1,s2,s3⟩ ⟨e5,e6,e7⟩=>?_
 .refine dA (λ_=>dA (λL=>goN J e2 (by omega) λx j K _ _=>aI ⟨rfl,K,λ_=>by simpa using L⟩) λ_=>aI ⟨rfl,e2,λh=>by cases h⟩) λ_=>aI ⟨rfl,e2,λh=>by cases h⟩
 simp only at e5 e6 e7;subst e5;refine dA (λB=>goN J e6 hca.2 λx j K T H=>aI ⟨rfl,K,.func e3 ⟨T,H (by have:=e7 B;omega)⟩ m⟩) λ_=>aI ⟨rfl,e6,e4⟩
theorem ac3.of{bl:List aO}(h :∀S:Nat->Prop,S 0->(∀b,b<bl.length->S b->∀x∈oZ bl b,S x.toNat)->∀b,b<bl.length->S b):ac3 bl:=λS w y b m=>h S w (λb m z x j=>by
 obtain⟨q,B⟩:=y b m z;unfold oZ succs at j;split at j
 .rename_i H;rcases XN.1 j with e|e
  .rw [e];exact q (by omega)
  .rw [X2]at e;rw[e];exact B H.1
 .split at j
  .rw [X2]at j;rw[j];exact q (by omega)
  .cases j) b m
theorem Wy:∀{bl:List aO},(∀b∈bl,b.instrs.length<=3)->Bo bl<=4*bl.length
 | [],_=>by simp[Bo]
 |b::bl,h=>by have:=Wy (bl:=bl) λx j=>h x (V1 _ j);have:=h b Kb;unfold Bo at *;simp only[Qf,K4,Wm];omega
theorem aoa{re:Int}{bl:List aO}{b:Nat}(j:zU bl)(m:b<bl.length)(h:RG re (bl.getD b aA).lJ):tvB re bl.length (bl.getD b aA):=⟨j.2 b m,λ_=>h,Yp j m⟩
def HG(g:List aF)(sg:List (List UInt8×Nat))(ca:Int)(N i:Nat)(P:aQ->Prop)(fs:List aQ):Prop:=fs.length=N/\∀k,k<N->((fs.getD k ah).params=((sg.getD k ([],0)).2:Int)/\(sg.getD k ([],0)).2<=10)/\(0<=(fs.getD k ah).params/\(fs.getD k ah).params<=(fs.getD k ah).regs)/\(1<=(fs.getD k ah).regs/\(fs.getD k ah).regs<=4)/\(k<i->Rt g sg ca (fs.getD k ah))/\(k=i->P (fs.getD k ah))/\(i<k->(fs.getD k ah).blocks=[])
theorem HG.put{N i:Nat}{P Q:aQ->Prop}{fs:List aQ}{nm:List UInt8}{pa re:Int}{bl:List aO}(h:HG g sg ca N i P fs)(hi:i<N)(j:pa=(fs.getD i ah).params)(m:re=(fs.getD i ah).regs)(w:Q (aQ.mk nm pa re bl)):HG g sg ca N i Q (fs.set i (aQ.mk nm pa re bl)):=by
 refine⟨by simp[h.1],λk y=>?_⟩;rw[iO (by rw[h.1];exact hi)];obtain⟨q,a2,a3,a4,a5,z⟩:=h.2 k y;split
 .rename_i e;subst e;exact⟨by simp only[j];exact q,by simp only[j,m];exact a2,by simp only[m];exact a3,λe=>absurd e (qi _),λ_=>w,λe=>absurd e (qi _)⟩
 .rename_i e;exact⟨q,a2,a3,a4,λB=>absurd B e,z⟩
theorem HG.mono{N i:Nat}{P Q:aQ->Prop}(h:HG g sg ca N i P fs)(j :∀f,P f->Q f):HG g sg ca N i Q fs:=⟨h.1,λk m=>have ⟨q,a2,a3,a4,a5,w⟩:=h.2 k m;⟨q,a2,a3,a4,λe=>j _ (a5 e),w⟩⟩
theorem HG.next{N i:Nat}(h:HG g sg ca N i (Rt g sg ca) fs):HG g sg ca N (i+1) (λf=>f.blocks=[]) fs:=⟨h.1,λk m=>have ⟨q,a2,a3,a4,a5,j⟩:=h.2 k m;⟨q,a2,a3,λe=>(by rcases zc k i with e'|e';exact a4 e';exact a5 (by omega)),λe=>j (by omega),λe=>j (by omega)⟩⟩
theorem set_self{fs:List aQ}{i:Nat}(hi:i<fs.length):fs.set i (aQ.mk (fs.getD i ah).name (fs.getD i ah).params (fs.getD i ah).regs (fs.getD i ah).blocks)=fs:=by
 have:aQ.mk (fs.getD i ah).name (fs.getD i ah).params (fs.getD i ah).regs (fs.getD i ah).blocks=fs[i]:=by rw[getD_at _ hi]
 rw[this,List.set_getElem_self]
def BI(g:List aF)(sg:List (List UInt8×Nat))(ca:Int)(f:aQ):Prop :=∀b∈f.blocks,b.instrs.length<=3/\∀i∈b.instrs,IV g sg ca f.regs i
def SC(g:List aF)(sg:List (List UInt8×Nat))(ca:Int)(m b:Nat)(f:aQ):Prop:=f.blocks.length=m/\BI g sg ca f/\∀k,k<b->((f.blocks.getD k aA).bV=1\/(f.blocks.getD k aA).bV=2\/(f.blocks.getD k aA).bV=3)/\RG f.regs (f.blocks.getD k aA).lJ/\(0<=(f.blocks.getD k aA).f_/\(f.blocks.getD k aA).f_<m)/\0<=(f.blocks.getD k aA).dI/\(f.blocks.getD k aA).dI<m
theorem SC.ends{m:Nat}{f:aQ}(h:SC g sg ca m m f):zU f.blocks:=⟨λb j=>have:=(h.2.2 b (h.1▸j)).2.2;h.1▸⟨λ_=>this.1,λ_=>this.2⟩,λb j=>(h.2.2 b (h.1▸j)).1⟩
theorem ag1{l:List Int}{i:Int}(m:Bytes l)(hi:0<=i):Ok (f26 l i) λy=>(∃sg,RtP y.2.2.2.2.1 sg y.1 y.2.2.2.2.2)/\y.2.1=0/\y.2.2.1=l/\0<=y.2.2.2.1:=by
 unfold f26;refine goN m hi (by omega) λx0 j0 h0 a0 b0=>goN m h0 (by omega) λx1 j1 h1 a1 b1=>?_;have b0:=b0 (by omega);have b1:=b1 (by omega);obtain⟨N,hN'⟩ :∃N:Nat,1+x1=N:=⟨(1+x1).toNat,by omega⟩;obtain⟨g,hg⟩ :∃g,[(aF.mk [(103:UInt8),(48:UInt8)] 0),(aF.mk [(103:UInt8),(49:UInt8)] (bT (1+x0)))]=g:=⟨_,rfl⟩;simp only[show bT (1+x1)=N from (aG (by omega)).trans hN',hg];have hg0:GI zv g 0:=by subst hg;exact⟨⟨by simp,by simp⟩,rfl⟩
 have hg1:GI zj g 1:=by subst hg;refine⟨⟨by simp,by simp⟩,YY ?_⟩;show 0<bT (1+x0);rw[aG (by omega)];omega
 have hgl:g.length=2:=by subst hg;rfl
 have hgs :∀x∈g,0<=x.size/\x.size<=1024:=by
  subst hg;intro x hx;rcases XN.1 hx with e|e
  .subst e;simp
  .rw [X2]at e;subst e;simp only;rw[aG (by omega)];omega
 clear hg;refine bF (λs=>s.1=l/\0<=s.2.1/\s.2.2.2.1=0/\s.2.2.2.2.length=N/\(∀f∈s.2.2.2.2,(0<=f.params/\f.params<=f.regs)/\f.params<=10/\(1<=f.regs/\f.regs<=4)/\f.blocks=[])/\(s.2.2.2.2.getD 0 ah).params=0) ?_ λs ⟨e1,e2,e0,U,X,Y⟩=>?_
 .refine bD (λs:Int×List Int×Int×Int×Int×List aQ=>s.2.1=l/\0<=s.2.2.1/\s.2.2.2.2.1=0/\(s.2.2.2.2.2.length:Int)=s.1/\s.1<=N/\(∀f∈s.2.2.2.2.2,(0<=f.params/\f.params<=f.regs)/\f.params<=10/\(1<=f.regs/\f.regs<=4)/\f.blocks=[])/\(s.2.2.2.2.2.getD 0 ah).params=0) (λs=>(N-s.1).toNat)
   ⟨rfl,h1,rfl,rfl,by simp,(λf hf=>by cases hf),rfl⟩ λ⟨q,l',j,z1,z2,fs⟩ ⟨e1,e2,e0,U,X,Y,e6⟩=>?_
  simp only at e1 e2 e0 U X Y e6;subst e1;subst U;subst e0;refine dA (λK=>?_) (λK=>aI ⟨rfl,e2,rfl,?_,Y,e6⟩)
  .have K:(fs.length:Int)<N:=by simpa using K
   refine bF _ (ac6 (by omega) (by omega)) λnm hnm=>bK (pJ.2 (by simp;omega)) (goN m e2 (by omega) λL j2 h2 a2 b2=>?_);have b2:=b2 (by omega);have hw:bT (1+L)=1+L:=aG (by omega);refine bF (λs=>s.1=l'/\0<=s.2.1/\((0<=s.2.2.2.1/\s.2.2.2.1<=s.2.2.2.2)/\s.2.2.2.1<=10/\(1<=s.2.2.2.2/\s.2.2.2.2<=4))/\(fs.length=0->s.2.2.2.1=0)) ?_ λ⟨Z,s2,s3,s4,s5⟩ ⟨g1,g2,⟨g3,g4,g5⟩,g6⟩=>bK (by unfold aV;simp;omega) (aI ⟨⟨g1,g2,rfl,?_,?_,λf hf=>?_,?_⟩,?_⟩)
   .refine dA (λhl=>?_) (λ_=>aI ⟨rfl,h2,⟨by simp only[hw];omega,by simp,by simp only[hw];omega⟩,λ_=>rfl⟩);have hl:(0:Int)<fs.length:=by simpa using hl
    have hm:bT (min (1+L) 2+1)=min (1+L) 2+1:=aG (by omega);rw[aiQ,hw,hm];exact goN m h2 (by omega) λx3 j3 h3 a3 b3=>aI ⟨rfl,h3,⟨by have:=b3 (by omega);simp only;omega,by have:=b3 (by omega);simp only;omega,by simp only;omega⟩,λh=>by omega⟩
   all_goals try simp only[aG (x:=(fs.length:Int)+1) (by omega)]
   .simp
   .omega
   .rcases Z0.1 hf with hf|hf
    .exact Y f hf
    .rw [X2]at hf;subst hf;exact⟨g3,g4,g5,rfl⟩
   .rcases qa fs.length with h|h
    .rw [WF]at h;subst h;exact g6 rfl
    .rw [getD_at _ h]at e6;rw[getD_at _ (by simp),List.getElem_append_left h];exact e6
   .omega
  .have K:¬ (fs.length:Int)<N:=by simpa using K
   simp only at X ⊢;omega
 obtain⟨Z,s2,s3,s4,B⟩:=s;simp only at e1 e2 e0 U X Y;subst e1;subst e0;obtain⟨sg,hsg⟩ :∃sg:List (List UInt8×Nat),B.map (λf=>(f.name,f.params.toNat))=sg:=⟨_,rfl⟩;have hsl:sg.length=N:=by subst hsg;simpa using U
 have hsp :∀k,k<N->(B.getD k ah).params=((sg.getD k ([],0)).2:Int)/\(sg.getD k ([],0)).2<=10:=by
  intro k H;have h:=X (B.getD k ah) (by rw[getD_at _ (by omega)];exact Xs _);have:(sg.getD k ([],0)).2=(B.getD k ah).params.toNat:=by subst hsg;rw[getD_at _ (by simpa using U▸H),Kh,getD_at _ (by omega)]
  omega
 clear hsg;rw[show bT ((N:Int)+1)=N+1 from aG (by omega)];refine goN m e2 (by omega) λca jc hjc ac bc=>?_;have bc:=bc (by omega);have p00:((sg.getD 0 ([],0)).2:Int)=0:=by rw[<-(hsp 0 (by omega)).1];exact Y
 have e6:HG g sg ca N 0 (λf=>f.blocks=[]) B:=⟨U,λk H=>by obtain⟨z1,z2,z3,z4⟩:=X (B.getD k ah) (by rw[getD_at _ (by omega)];exact Xs _);exact⟨hsp k H,z1,z3,λh=>absurd h (KK _),λ_=>z4,λ_=>z4⟩⟩
 refine bF (λs=>s.1=Z/\0<=s.2.1/\RtP g sg ca s.2.2) ?_ λs ⟨k1,k2,k3⟩=>aI ⟨⟨sg,k3⟩,rfl,k1,k2⟩;clear X Y hsp;refine bD (λs:Int×List Int×Int×List aQ=>∃i:Nat,s.1=i/\i<=N/\s.2.1=Z/\0<=s.2.2.1/\HG g sg ca N i (λf=>f.blocks=[]) s.2.2.2) (λs=>(N-s.1).toNat)
  ⟨0,rfl,by omega,rfl,hjc,e6⟩ λ⟨q,l',j,fs⟩ ⟨i,g1,g2,g3,g4,g5⟩=>?_
 simp only at g1 g3 g4 g5;subst g1;subst g3;refine dA (λK=>?_) (λK=>aI ⟨rfl,g4,?_⟩)
 rotate_left
 .have K:¬ (i:Int)<N:=by simpa using K
  have hl:=g5.1;refine⟨by omega,hgs,by simp only;omega,by simp only;omega,by simp only;omega,⟨ac,by simp only;omega⟩,λk H=>(g5.2 k (by simp only at H;omega)).1.1,?_,λf hf=>?_⟩
  .rw [(g5.2 0 (by omega)).1.1];exact p00
  .obtain ⟨k,H,e⟩:=WN hf;have hk2:k<N:=by simp only at H;omega
   have:=(g5.2 k hk2).2.2.2.1 (by omega);rw[getD_at _ H,e]at this;exact this
 have hi:i<N:=by simp at K;omega
 refine bK (aC.2 ⟨by simp only;omega,by have:=g5.1;simp only;omega⟩) (goN m g4 (by omega) λL j2 h2 a2 b2=>?_);have b2:=b2 (by omega);obtain⟨M,hM⟩ :∃M:Nat,1+L=M:=⟨(1+L).toNat,by omega⟩;simp only[Q4,show bT (1+L)=M from (aG (by omega)).trans hM];refine bF (λs=>s.1=l'/\0<=s.2.1/\HG g sg ca N i (λf=>f.blocks.length=M/\BI g sg ca f) s.2.2) ?_ λ⟨Z,s2,s3⟩ ⟨k1,k2,k3⟩=>?_
 .refine bD (λs:Int×List Int×Int×List aQ=>s.2.1=l'/\0<=s.2.2.1/\(0<=s.1/\s.1<=M)/\HG g sg ca N i (λf=>(f.blocks.length:Int)=M-s.1/\BI g sg ca f) s.2.2.2) (λs=>s.1.toNat)
   ⟨rfl,h2,⟨by simp,by simp⟩,g5.mono λf hf=>⟨by rw[hf];simp,λb m=>by rw[hf]at m;cases m⟩⟩ λ⟨c,l2,j,fs⟩ ⟨r1,r2,r3,z⟩=>?_
  simp only at r1 r2 r3 z;subst r1;have hfl:i<fs.length:=by rw[z.1];exact hi
  obtain⟨y1,y2,y3,y4,w,y6⟩:=z.2 i hi;have w:=w rfl;refine dA (λJ=>?_) (λJ=>aI ⟨rfl,r2,?_⟩)
  rotate_left
  .have J:¬ 0<c:=by simpa using J
   exact z.mono λf hf=>⟨by have:=hf.1;omega,hf.2⟩
  have J:0<c:=by simpa using J
  refine goN m r2 (by omega) λx3 j3 h3 a3 b3=>goN m h3 (by omega) λx4 j4 h4 a4 b4=>?_;have b4:=b4 (by omega);refine bF (λs=>s.1=l2/\0<=s.2.1/\s.2.2.1=fs/\s.2.2.2.2.2.2.2.2.2.2.length<=3/\∀T∈s.2.2.2.2.2.2.2.2.2.2,IV g sg ca (fs.getD i ah).regs T) ?_ λs ⟨k1,k2,k3,k4,k5⟩=>?_
  .refine bD (λs:Int×List Int×Int×List aQ×Int×Int×Int×Int×Int×Int×Int×List dK=>s.2.1=l2/\0<=s.2.2.1/\s.2.2.2.1=fs/\(0<=s.1/\s.1<=3)/\(s.2.2.2.2.2.2.2.2.2.2.2.length:Int)<=3-s.1/\∀T∈s.2.2.2.2.2.2.2.2.2.2.2,IV g sg ca (fs.getD i ah).regs T) (λs=>s.1.toNat)
    ⟨rfl,h4,rfl,⟨a4,by simp only;omega⟩,by simp only[Kd];omega,λT h=>by cases h⟩ λ⟨c',l3,j3,fs',v1,v2,v3,v4,v5,v6,v7,is⟩ ⟨u1,u2,u3,u4,u5,u6⟩=>?_
   simp only at u1 u2 u3 u4 u5 u6;subst u1;subst u3;refine dA (λhp'=>?_) (λ_=>aI ⟨rfl,u2,rfl,by simp only;omega,u6⟩);have hp':0<c':=by simpa using hp'
   simp only[set_self hfl];refine bF _ (instr_ok m u2 ⟨y3.1,by omega⟩ ⟨ac,by omega⟩ hg0 hg1 ⟨by omega,by have:=z.1;omega⟩ (by rw[hsl,z.1]) λk H=>(z.2 k (by rw[<-z.1];exact H)).1) λy ⟨y1,y2,y3⟩=>bK (by unfold aV;simp;omega) (aI ⟨⟨y1,y2,rfl,?_,?_,λT hi'=>?_⟩,?_⟩)
   all_goals try simp only[aG (x:=c'-1) (by omega)]
   .omega
   .simp;omega
   .rcases Z0.1 hi' with h|h
    .exact u6 T h
    .rw [X2]at h;rw[h];exact y3
   .omega
  obtain⟨Z,s2,s3,s4,s5,s6,s7,s8,s9,s10,s11⟩:=s;simp only at k1 k2 k3 k4 k5;subst k1;subst k3;refine bK (by simp[-List.getD_eq_getElem?_getD];omega) (bK (by simp) (aI ⟨⟨rfl,k2,?_,z.put hi rfl rfl ⟨?_,λb m=>?_⟩⟩,?_⟩))
  all_goals try simp only[aG (x:=c-1) (by omega)]
  .omega
  .simp [-List.getD_eq_getElem?_getD];omega
  .rcases Z0.1 m with h|h
   .exact w.2 b h
   .rw [X2]at h;rw[h];exact⟨k4,k5⟩
  .omega
 simp only at k1 k2 k3;subst k1;refine bF (λs=>s.1=Z/\0<=s.2.1/\HG g sg ca N i (SC g sg ca M M) s.2.2) ?_ λ⟨t1,t2,t3⟩ ⟨k4,k5,k6⟩=>?_
 .refine bD (λs:Int×List Int×Int×List aQ=>∃b:Nat,s.1=b/\b<=M/\s.2.1=Z/\0<=s.2.2.1/\HG g sg ca N i (SC g sg ca M b) s.2.2.2) (λs=>(M-s.1).toNat)
   ⟨0,rfl,by omega,rfl,k2,k3.mono λf hf=>⟨hf.1,hf.2,λ_ h=>absurd h (KK _)⟩⟩ λ⟨c,l2,j,fs⟩ ⟨b,r0,r1,r2,r3,z⟩=>?_
  simp only at r0 r2 r3 z;subst r0;subst r2;have hfl:i<fs.length:=by rw[z.1];exact hi
  obtain⟨y1,y2,y3,y4,w,y6⟩:=z.2 i hi;have w:=w rfl;simp only[Kf,w.1];refine dA (λJ=>?_) (λJ=>aI ⟨rfl,r3,?_⟩)
  rotate_left
  .have J:¬ (b:Int)<M:=by simpa using J
   have:b=M:=by omega
   subst this;exact z
  have J:b<M:=by simp at J;omega
  refine goN m r3 (by omega) λx3 j3 h3 a3 b3=>bK (aC.2 ⟨a3,by have:=b3 (by omega);simp;omega⟩) (goN m h3 (by omega) λx4 j4 h4 a4 b4=>goN m h4 (by omega) λx5 j5 h5 a5 b5=>goN m h5 (by omega) λx6 j6 h6 a6 b6=>bK (aC.2 ⟨by omega,by omega⟩) (aI ⟨⟨b+1,?_,by omega,rfl,h6,?_⟩,?_⟩))
  .simp only[aG (x:=(b:Int)+1) (by omega)];simp
  .refine z.put hi rfl rfl ⟨by simp only;rw[J0];exact w.1,λb' hb'=>?_,λk H=>?_⟩
   .simp only[Q4]at hb' ⊢;rcases qu hb' with h|h
    .exact w.2.1 b' h
    .rw [h];exact w.2.1 ((fs.getD i ah).blocks.getD b aA) (by rw[getD_at (l:=(fs.getD i ah).blocks) aA (by rw[w.1];exact J)];exact Xs _)
   .simp only[Q4];rw[iO (by rw[w.1];exact J)];split
    .refine ⟨?_,⟨a4,b4 (by omega)⟩,⟨a5,b5 (by omega)⟩,a6,b6 (by omega)⟩;have:=b3 (by omega);have:x3=0\/x3=1\/x3=2\/x3=3:=by omega
     rcases this with e|e|e|e<;>subst e<;>simp
    .exact w.2.2 k (by omega)
  .simp only[aG (x:=(b:Int)+1) (by omega)];omega
 simp only at k4 k5 k6;subst k4;obtain⟨y1,y2,y3,y4,w,y6⟩:=k6.2 i hi;have w:=w rfl;refine bF _ (Yq (bs:=(t3.getD i ah).blocks) w.ends (by have:=w.1;omega) (by have:=w.1;omega)) λ⟨c1,c2,c3,c4⟩ ⟨p1,p2,p3,p4,p5,p6,p7,p8⟩=>bK (by simp) (aI ⟨⟨i+1,?_,by omega,rfl,k5,HG.next (k6.put hi p2 p3 ?_)⟩,?_⟩)
 .show bT ((i:Int)+1)=_;rw[aG (by omega)];rfl
 .simp only at p2 p3 p4 p5 p6 p7 p8;have hM5:=w.1;have hin :∀b∈c4,b.instrs.length<=3/\∀T∈b.instrs,IV g sg ca c3 T:=λb m=>by obtain⟨t,ht,e,_⟩:=p8 b m;rw[e,p3];exact w.2.1 t ht
  have hw:=Wy λb m=>(hin b m).1;refine⟨⟨by simp only;omega,p4,p6,p7⟩,by simp only;omega,by simp only;omega,by simp only;omega,by simp only;omega,λb m=>(hin b m).2,λb m=>aoa p6 m ?_⟩;obtain⟨t,ht,_,_,e⟩:=p8 (c4.getD b aA) (by rw[getD_at _ m];exact Xs _);simp only;rw[e,p3];obtain⟨k,H,e⟩:=WN ht;have:=(w.2.2 k (by omega)).2.1;rw[getD_at _ H,e]at this;exact this
 .show ((N:Int)-bT ((i:Int)+1)).toNat<((N:Int)-i).toNat;rw[aG (by omega)];omega
theorem Inv.rt{g:List aF}{sg:List (List UInt8×Nat)}{cl re pa:Int}{nm:List UInt8}{bl:List aO}{O:Nat->Prop}{P:Nat->Nat->Prop}(h:Inv g sg cl re 2048 256 bl O P)(w :∀x,¬ O x)(y:0<bl.length)(z:re<=250)(q:0<=pa/\pa<=re):Rt g sg cl (aQ.mk nm pa re bl):=by
 have B:=h.len;have m :∀b,b<bl.length->tvB re bl.length (bl.getD b aA):=λb j=>h.trm b j (w b);have H:zU bl:=by refine⟨λb j=>?_,λb j=>(m b j).kind⟩;have L:=(m b j).kind;exact⟨λhn=>(m b j).suc _ (ER.1 (by omega)),λhn=>(m b j).suc _ (ER.2 hn)⟩
 exact⟨⟨by simp only;omega,y,H,ac3.of λS J K=>h.con S J (λb j _=>K b j) λa b q=>absurd (h.src a b q).1 (w a)⟩,B,h.wt,⟨by simp only;omega,z⟩,q,h.ins,m⟩
theorem ag2{g:List aF}{fs:List aH}(h:an3 g fs):Ok (f45 g fs) λy=>(∃sg,RtP y.2.2.2.1 sg y.1 y.2.2.2.2)/\y.2.1=0:=by
 obtain⟨hg,hf,hbd⟩:=h;obtain⟨⟨hf0,hf4⟩,hp0,hfn⟩:=id hf;have hg4:=hg.1;have hsl:(jo fs).length=fs.length:=by unfold jo;simp
 have N :∀k,k<fs.length->((jo fs).getD k ([],0)).2=(fs.getD k bM).params.length:=λk m=>by unfold jo;rw[getD_at _ (by simpa using m),Kh,getD_at _ m]
 unfold f45;refine bK (by unfold aV;simp;omega) ?_;have e0:fC++g=g:=by simp
 simp only[e0];refine bF (λs=>s.1=fs.length/\s.2.1=0/\RtP g (jo fs) fs.length s.2.2) ?_ λNc ⟨h1,T,H⟩=>?_
 rotate_left
 .obtain ⟨s1,s2,s3⟩:=Nc;simp only at h1 T H;subst h1;subst T;exact bF _ (ag0 H) λy e=>by subst e;exact b_ rfl (aI ⟨⟨_,H⟩,rfl⟩)
 refine bD (λs:Int×Int×Int×List aQ=>∃(i:Nat) (M:List aQ),s=((i:Int),(fs.length:Int),0,M)/\i<=fs.length/\M.length=i/\∀k,k<i->(M.getD k ah).params=(((jo fs).getD k ([],0)).2:Int)/\Rt g (jo fs) fs.length (M.getD k ah)) (λs=>(fs.length-s.1).toNat) ⟨0,[],rfl,by omega,rfl,λk m=>by omega⟩ λs ⟨i,M,e,h1,T,H⟩=>?_;subst e;refine dA (λw=>?_) (λw=>?_)
 rotate_left
 .have w:¬ (i:Int)<fs.length:=by simpa using w
  have:i=fs.length:=by omega
  subst this;refine aI ⟨rfl,rfl,by omega,λx z=>?_,by simp only;omega,by simp only;omega,by simp only;omega,⟨by omega,by simp only;omega⟩,λk m=>(H k (by simp only at m;omega)).1,?_,λf hf=>?_⟩
  .obtain ⟨k,m,e⟩:=WN z;have:=(hg.2 k m).2;rw[getD_at _ m,e]at this;omega
  .simp only;rw[(H 0 (by omega)).1,N 0 hf0,hp0];rfl
  .obtain ⟨k,m,e⟩:=WN hf;have:=(H k (by simp only at m;omega)).2;rw[getD_at _ m,e]at this;exact this
 have w:i<fs.length:=by simpa using w
 obtain⟨hb,L,c,q,B,hc7,arT,hLN,awF⟩:=hbd i w;obtain⟨_,hpn⟩:=hfn i w;have U:=N i w;obtain⟨f,X⟩ :∃f,fs.getD i bM=f:=⟨_,rfl⟩;rw[X]at hb B U;simp only[Q4,X];have hlen:=(B.len (Yy 3)).1;have hS:Lw g fs L:=⟨hg,hf,hLN,awF⟩;refine bK (aC.2 ⟨by omega,by omega⟩) (bF (λy=>y=(g,fs,L,(i:Int),(0:Int),(0:Int),([]:List aO))) ?_ λs7 e=>?_)
 .refine eP (y:=L) ?_ (aI rfl);apply ok_eq;unfold f74;refine bK (by simp;omega) ?_;have he:kK++f.params=f.params:=by simp
  rw[he];exact eP (JI (λ_ _ _ _ _ h=>h) (λ_ _ _ _ _ _=>aj8) 3 1048576 (by omega) _ hb _ _ _ _ B (by omega) λn lo s l1 c k h=>(Yy n lo s l1 c k h).1) (aI rfl)
 subst e;refine bF (λy=>∃b:aO,y=((0:Int),g,fs,L,(i:Int),(L.length:Int),((0:Nat):Int),[b])/\b.instrs=[]) (by unfold f75;exact bK (by unfold aV;simp) (aI ⟨_,rfl,rfl⟩)) λc9 ⟨b,e,Y⟩=>?_;subst e;have hP:Pre g fs L L.length 1 1 [b] 0 (λ_=>False) (λ_ _=>False):=by
  refine⟨⟨by unfold Bo;simp[Y],by simp,λb' j=>?_,λb' j ho=>?_,λb' j=>?_,λ_ _ h=>h.elim,λS hS _ _ b' j=>?_⟩,λh=>h,λ_ h=>h,Uq _⟩
  .rw [X2]at j;subst j;rw[Y];intro i w;cases w
  .simp only[W5]at j;exact absurd (Or.inl (by omega)) ho
  .rcases j with h|h
   .subst h;simp
   .exact h.elim
  .simp only[W5]at j;have:b'=0:=by omega
   subst this;exact hS
 refine bF _ (aaZ (nu:=(i:Int)) hS 3 1048576 (by omega) f.body hb _ _ _ _ B _ _ _ _ _ _ _ hP (by omega)) λc10 ⟨on,re,a,bl,e,r1,r2,r3,r4,hI⟩=>?_;subst e;simp only at r1 r2 r3 ⊢;refine bF (λy=>∃re' a' jM,y=(g,fs,L,(i:Int),re',a',jM)/\Rt g (jo fs) fs.length (aQ.mk f.name (f.params.length:Int) re' jM)) ?_ λs16 ⟨re',a',jM,e,hR⟩=>?_
 .have hl1:=hI.len;refine dA (λJ=>?_) (λJ=>?_)
  .subst J;have hm:FP re (bT ((L.length:Int)+1))=max re (L.length+1):=by rw[Ju,aG (by omega)]
   obtain⟨K,Z⟩ :∃K,FP re (bT ((L.length:Int)+1))=K:=⟨_,rfl⟩;rw[Z]at hm;simp only[Z];have hI5:=hI.up (re':=K) (by omega) (Z1 _) (Z1 _);have arX:RG K L.length:=⟨by omega,by omega⟩;refine Wn (a:=a) (bl:=bl) (re:=K) hI5 (.inl ⟨rfl,rfl⟩) (by omega) (.const arX (by simp)) λb2 l2 i2=>sG (bl:=b2) (re:=K) (b0:=a) i2 (.inl ⟨rfl,rfl⟩) ⟨.inr (.inr rfl),λ_=>arX,λx z=>?_⟩ (λy hp=>hp.elim) λb3 l3 i3=>aI ⟨K,a,b3,rfl,(i3.up (Uq _) (by omega) (by omega)).rt (λx z=>?_) ?_ (by omega) ⟨by omega,by omega⟩⟩
   .unfold succs at z;rw[QP (by omega),QP (by omega)]at z;cases z
   .rcases z.1 with h|h
    .exact z.2 h.2
    .exact h
   .simp only[W5]at r3;omega
  .subst J;exact aI ⟨re,a,bl,rfl,(hI.up (Uq _) (by omega) (by omega)).rt (λx z=>by rcases z with h|h;exact absurd h.1 (by simp);exact h) (by simp only[W5]at r3;omega) (by omega) ⟨by omega,by omega⟩⟩
 subst e;refine bK (by unfold aV;simp;omega) (aI ⟨⟨i+1,M++[aQ.mk f.name (f.params.length:Int) re' jM],?_,by omega,by rw[XX,W5,T],λk m=>?_⟩,?_⟩)
 .rw [aG (by omega)];rfl
 .rw [mW];split
  .exact H k (by omega)
  .have:k=i:=by omega
   subst this;rw[QR T.symm];exact⟨by rw[U],hR⟩
 .simp only[aG (x:=(i:Int)+1) (by omega)];omega
theorem akc{l:List Int}{i:Int}(m:Bytes l)(hi:0<=i):Ok (f8 l i) λy=>(∃sg,RtP y.2.2.2.2.2 sg y.2.1 y.1)/\y.2.2.1=0/\y.2.2.2.1=l/\0<=y.2.2.2.2.1:=by unfold f8;refine goN m hi (by omega) λc j q _ _=>dA (λ_=>bF (λy=>(∃sg,RtP y.2.2.2.2.1 sg y.1 y.2.2.2.2.2)/\y.2.1=0/\y.2.2.1=l/\0<=y.2.2.2.1) ?_ λy h=>aI h) λ_=>bF _ (ag1 m q) λy h=>aI h;unfold f25;refine bF (λy=>an3 y.2.2.1 y.2.2.2/\y.1=l/\0<=y.2.1) ?_ λy ⟨w,B,H⟩=>bF _ (ag2 w) λz ⟨J,z2⟩=>aI ⟨J,z2,B,H⟩;unfold f46;exact bF _ (adf m q) λy h=>bF _ (Yz h.2.2) λz K=>aI ⟨K,h.1,h.2.1⟩
def Ascii(s:List UInt8):Prop :=∀x∈s,x.toNat<128
theorem SE(s:List UInt8)(i:Nat):Ri s (i:Int)=decide (i<s.length):=by unfold Ri;rw[Q4]
theorem decode_at{s:List UInt8}(h:Ascii s){i:Nat}(hi:i<s.length):Utf8.decode ⟨s.toArray⟩ i=(s[i].toNat,1):=Go.decode_ascii ⟨s.toArray⟩ i (by simpa[ByteArray.size]using hi) (h _ (Xs _))
theorem GZ{s:List UInt8}(h:Ascii s){i:Nat}(hi:i<s.length):j_ s (i:Int)=(s[i].toNat:Int):=by unfold j_;rw[Q4,decode_at h hi]
theorem yt{s:List UInt8}(h:Ascii s){i:Nat}(hi:i<s.length):rH s (i:Int)=(i:Int)+1:=by unfold rH;rw[Q4,decode_at h hi];simp
theorem IY(x lo hi:Int):f65 x lo hi=zw (decide (lo<=x)&&decide (x<=hi)):=by unfold f65;cases decide (lo<=x)<;>rfl
def nM(op v:Int)(wd:Bool):Bool:=
 if 5<=op/\op<=8 then decide (0<=v)&&decide (v<=31)else if op=11 then decide (0<=v)&&decide (v<=1048576)else if op=17 then decide (0<=v)&&decide (v<=4095)
 else if op=18 then decide (0<=v)&&decide (v<=63)else if 13<=op/\op<=15 then(if wd then decide (-2147483648<=v)&&decide (v<=2147483647)else decide (-128<=v)&&decide (v<=127))else zj
theorem ops{op:Int}(h:1<=op/\op<=18):op=1\/op=2\/op=3\/op=4\/op=5\/op=6\/op=7\/op=8\/op=9\/op=10\/op=11\/op=12\/op=13\/op=14\/op=15\/op=16\/op=17\/op=18:=by omega
theorem arY{op ar d a b v:Int}{wd:Bool}{args:List Int}(h:1<=op/\op<=18):f91 op ar d a b v wd args=zw (nM op v wd):=by unfold f91 nM;rcases ops h with rfl|rfl|rfl|rfl|rfl|rfl|rfl|rfl|rfl|rfl|rfl|rfl|rfl|rfl|rfl|rfl|rfl|rfl<;>(cases wd<;>simp[IY,dN])
theorem arZ{a b:Bool}:(bif a then zw b else zw zv)=zw (a&&b):=by cases a<;>rfl
theorem ar0{op ar d a b v:Int}{wd:Bool}{args:List Int}(h:1<=op/\op<=18):f71 op ar d a b v wd args=zw (nM op v wd):=by unfold f71 nM;rcases ops h with rfl|rfl|rfl|rfl|rfl|rfl|rfl|rfl|rfl|rfl|rfl|rfl|rfl|rfl|rfl|rfl|rfl|rfl<;>(cases wd<;>simp[arZ,dN])
structure VC(op ar d a b v:Int)(wd:Bool)(args:List Int):Prop where
 o:1<=op/\op<=18
 w:wd=zj->13<=op/\op<=15
 a3:op=3->1<=ar/\ar<=2
 a4:op=4->3<=ar/\ar<=11
 d:0<=d/\d<=249
 a:0<=a/\a<=249
 b:0<=b/\b<=249
 s :∀x∈args,0<=x/\x<=249
 n:args.length<=250
 v:nM op v wd=zj
def IsLetter(x:UInt8):Prop:=x.toNat=111\/x.toNat=100\/x.toNat=97\/x.toNat=98\/x.toNat=106\/x.toNat=110\/x.toNat=49\/x.toNat=50\/x.toNat=52\/x.toNat=56
instance (x:UInt8):Decidable (IsLetter x):=by unfold IsLetter;infer_instance
def rowOf(op:Int):List UInt8:=M_.getD op.toNat bJ
theorem C9(op:Int):(rowOf op).length<=4/\∀x∈rowOf op,IsLetter x:=by
 have j :∀r∈M_,r.length<=4/\∀x∈r,IsLetter x:=by decide
 unfold rowOf;by_cases h:op.toNat<M_.length
 .rw [getD_at _ h];exact j _ (Xs _)
 .rw [Q2,Vn (by omega)];exact⟨by simp,λx m=>by cases m⟩
theorem G5(op:Int):Ascii (rowOf op):=λx h=>by have:=(C9 op).2 x h;unfold IsLetter at this;omega
def szm(wd:Bool)(n:Nat)(x:UInt8):Nat:=if x.toNat=106 then(if wd then 4 else 1)else if x.toNat=110 then 1+n else if x.toNat=49 then 1 else if x.toNat=50 then 2 else if x.toNat=52 then 4 else if x.toNat=56 then 8 else 1
def szc(op:Int)(wd:Bool)(n:Nat):Nat:=1+((rowOf op).map (szm wd n)).sum
section
variable {op ar d a b v:Int} {wd:Bool} {args:List Int}
theorem aob(h:VC op ar d a b v wd args):Ok (f88 op ar d a b v wd args) λy=>(∀x∈y,0<=x/\x<=249)/\y.length<=1004:=by
 have K:=h.o;have hn:=h.n;obtain⟨L,M⟩:=C9 op;have w:=G5 op;unfold f88;refine bK (aC.2 (by omega)) (bF (λy=>(∀x∈y,0<=x/\x<=249)/\y.length<=1004) ?_ λy j=>aI j);show Ok (bn _ (eInt,rowOf op,(0:Int))) _;refine bD (λs:List Int×List UInt8×Int=>∃i:Nat,s.2=(rowOf op,(i:Int))/\i<=(rowOf op).length/\(∀x∈s.1,0<=x/\x<=249)/\s.1.length<=i*251) (λs=>(rowOf op).length-s.2.2.toNat) ⟨0,rfl,by omega,λx hx=>(by cases hx),by simp⟩ λ⟨l,s⟩ ⟨i,e,N,m,B⟩=>?_;simp only at e m B;subst e;rw[SE];refine dA (λq=>?_) λ_=>aI ⟨m,by simp only;omega⟩;have q:i<(rowOf op).length:=by simpa using q
 rw[GZ w q,yt w q];refine bF (λy=>(∀x∈y,0<=x/\x<=249)/\y.length<=l.length+251) ?_ λy ⟨H,T⟩=>aI ⟨⟨i+1,by simp,q,H,by simp only;omega⟩,by simp only;omega⟩;have one :∀z:Int,0<=z/\z<=249->((∀x∈l++[z],0<=x/\x<=249)/\(l++[z]).length<=l.length+251):=λz J=>⟨λx hx=>by
  rcases Z0.1 hx with hx|hx
  .exact m x hx
  .rw [X2]at hx;rw[hx];exact J,by simp⟩
 refine dA (λ_=>bK (by unfold aV;simp;omega) (aI (one _ h.d))) λ_=>bF _ ?_ λy j=>aI j;refine dA (λ_=>bK (by unfold aV;simp;omega) (aI (one _ h.a))) λ_=>bF _ ?_ λy j=>aI j;refine dA (λ_=>bK (by unfold aV;simp;omega) (aI (one _ h.b))) λ_=>bF _ ?_ λy j=>aI j;refine dA (λ_=>bK (by unfold aV;simp;omega) (aI ⟨λx hx=>?_,by show (l++args).length<=l.length+251;rw[XX];omega⟩)) λ_=>aI ⟨m,Nat.le_add_right _ _⟩;rcases Z0.1 hx with hx|hx
 .exact m x hx
 .exact h.s x hx
theorem aoc{l:List Int}(h :∀x∈l,0<=x/\x<=249)(m:l.length<=100000):f89 l=zw zv:=by apply ok_eq;unfold f89;refine bF (λy=>y=-1) ?_ λy e=>aI (Qt (by omega));unfold f116;refine iI (λ_=>True) (jA l.length (λ_=>True) (by omega) (λi j _=>goT (YY (by omega)) (bK (aC.2 (by omega)) (eP (y:=zv) ?_ (b_ rfl (aI ⟨rfl,trivial⟩))))) λ_=>b_ (Qt (by omega)) (aI trivial)) λ_ _=>aI rfl;have:=h _ (Xs j);simp only[Q4,getD_at _ j];apply ok_eq;unfold f90;exact eP (IY _ _ _) (aI (by simp;omega))
theorem alI(h:VC op ar d a b v wd args):f58 op ar d a b v wd args=zw 0:=by
 apply ok_eq;have j:=h.o;have hn:=h.n;unfold f58;refine eP (y:=zj) ?_ (b_ rfl (bF _ (aob h) λl ⟨m,H⟩=>bF (λy=>y=zv) (eP (aoc m (by omega)) (b_ rfl (b_ (Qt (by omega)) (aI rfl)))) λy e=>by subst e;exact b_ rfl (eP (arY j) (b_ (by rw[h.v];rfl) (aI rfl)))));apply ok_eq;unfold f87;refine eP (IY _ _ _) (bF (λy=>y=zv) (b_ (by simp;omega) (bF (λy=>y=zv) (dA (λq=>eP (y:=zj) ?_ (aI rfl)) λ_=>aI rfl) λy e=>aI e)) λy e=>?_)
 .have:=h.w q;apply ok_eq;unfold f66;exact eP (IY _ _ _) (aI (by simp;omega))
 subst e;refine b_ rfl (dA (λz=>eP (IY _ _ _) (aI ?_)) λ_=>dA (λB=>eP (IY _ _ _) (aI ?_)) λ_=>aI rfl)
 .have:=h.a3 (by simpa using z);simp;omega
 .have:=h.a4 (by simpa using B);simp;omega
def szr(wd:Bool)(n:Nat)(x:UInt8):Nat:=if x.toNat=110 then 1+n else if x.toNat=119 then 2 else if x.toNat=99 then 4 else if x.toNat=107 then 8 else if x.toNat=106/\wd=zj then 4 else 1
theorem ar1(h:1<=op/\op<=18):∃r,f37 op=zw r/\(r==bJ)=zv/\r.length<=4/\∀wd n,1+(r.map (szr wd n)).sum=szc op wd n:=by rcases ops h with rfl|rfl|rfl|rfl|rfl|rfl|rfl|rfl|rfl|rfl|rfl|rfl|rfl|rfl|rfl|rfl|rfl|rfl<;>exact⟨_,rfl,rfl,by decide,λwd n=>by cases wd<;>simp[szc,szr,szm,rowOf,M_]⟩
theorem aa1{x:Int}(h:0<=x/\x<=249):f92 x=zw zj:=by apply ok_eq;unfold f92;exact bF (λy=>y=zj) (goT (YY h.1) (aI (YY (by omega)))) λy e=>aI e
theorem alJ(h:VC op ar d a b v wd args):f40 op ar d a b v wd args=zw 0:=by
 apply ok_eq;have m:=h.o;have hn:=h.n;obtain⟨r,q,B,N,_⟩:=ar1 m;unfold f40;refine bF (λy=>y=zv) (eP q (b_ B (eP (y:=zj) ?_ (b_ rfl (dA (λH=>eP (y:=zj) ?_ (aI rfl)) λ_=>aI rfl))))) λy e=>?_
 .apply ok_eq;unfold f69;refine dA (λJ=>bF (λy=>y=zj) ?_ λy e=>aI e) λ_=>dA (λK=>bF (λy=>y=zj) ?_ λy e=>aI e) λ_=>aI rfl
  .have:=h.a3 (by simpa using J);exact dA (λ_=>aI rfl) λhn=>aI (YY (by have:=ZZ hn;omega))
  .have:=h.a4 (by simpa using K);exact goT (YY (by omega)) (aI (YY (by omega)))
 .have:=h.w H;apply ok_eq;unfold f38;exact bF (λy=>y=zj) (dA (λ_=>aI rfl) λL=>dA (λ_=>aI rfl) λM=>aI (YY (by have:=ZZ L;have:=ZZ M;omega))) λy e=>aI e
 subst e;refine b_ rfl (eP (y:=zj) ?_ (b_ rfl (eP (ar0 m) (b_ (by rw[h.v];rfl) (aI rfl)))));apply ok_eq;unfold f70;refine eP q (iI (λ_=>True) (jA r.length (λ_=>True) (by omega) (λi T _=>goT (YY (by omega)) (bK (aC.2 (by omega)) (iI (λ_=>True) ?_ λ_ _=>aI ⟨rfl,trivial⟩))) λ_=>b_ (Qt (by omega)) (aI trivial)) λ_ _=>aI rfl);refine dA (λ_=>eP (aa1 h.d) (b_ rfl (aI trivial))) λ_=>iI (λ_=>True) ?_ λ_ _=>aI trivial;refine dA (λ_=>eP (aa1 h.a) (b_ rfl (aI trivial))) λ_=>iI (λ_=>True) ?_ λ_ _=>aI trivial;refine dA (λ_=>eP (aa1 h.b) (b_ rfl (aI trivial))) λ_=>iI (λ_=>True) ?_ λ_ _=>aI trivial;refine dA (λ_=>iI (λ_=>True) (jA args.length (λ_=>True) (by omega) (λj z _=>goT (YY (by omega)) (bK (aC.2 (by omega)) (eP (aa1 ?_) (b_ rfl (aI ⟨rfl,trivial⟩))))) λ_=>b_ (Qt (by omega)) (aI trivial)) λ_ _=>b_ (Qt (by omega)) (aI trivial)) λ_=>aI trivial;rw[Q4,getD_at _ z];exact h.s _ (Xs z)
end
def nN(v:Int):Nat:=(Go.IntKind.wrap .u64 v).toNat
theorem wrap_u64(v:Int):Go.IntKind.wrap .u64 v=v % 18446744073709551616:=by
 have h:((2:Int) ^ (Go.IntKind.u64).bits)=18446744073709551616:=by decide
 unfold Go.IntKind.wrap;rw[h];simp[Go.IntKind.signed]
theorem wrap_u8(v:Int):Go.IntKind.wrap .u8 v=v % 256:=by
 have h:((2:Int) ^ (Go.IntKind.u8).bits)=256:=by decide
 unfold Go.IntKind.wrap;rw[h];simp[Go.IntKind.signed]
theorem aa2(v:Int):Go.IntKind.wrap .i8 v=if 128<=v % 256 then v % 256-256 else v % 256:=by
 have h:((2:Int) ^ (Go.IntKind.i8).bits)=256:=by decide
 have j:((2:Int) ^ ((Go.IntKind.i8).bits-1))=128:=by decide
 unfold Go.IntKind.wrap;rw[h,j];simp[Go.IntKind.signed]
theorem wrap_i32(v:Int):Go.IntKind.wrap .i32 v=if 2147483648<=v % 4294967296 then v % 4294967296-4294967296 else v % 4294967296:=by
 have h:((2:Int) ^ (Go.IntKind.i32).bits)=4294967296:=by decide
 have j:((2:Int) ^ ((Go.IntKind.i32).bits-1))=2147483648:=by decide
 unfold Go.IntKind.wrap;rw[h,j];simp[Go.IntKind.signed]
theorem wrap_i64(v:Int):bT v=if 9223372036854775808<=v % 18446744073709551616 then v % 18446744073709551616-18446744073709551616 else v % 18446744073709551616:=by
 have h:((2:Int) ^ (Go.IntKind.i64).bits)=18446744073709551616:=by decide
 have j:((2:Int) ^ ((Go.IntKind.i64).bits-1))=9223372036854775808:=by decide
 show Go.IntKind.wrap .i64 v=_;unfold Go.IntKind.wrap;rw[h,j];simp[Go.IntKind.signed]
theorem oC(v:Int):(nN v:Int)=v % 18446744073709551616:=by unfold nN;rw[wrap_u64,JP (Int.emod_nonneg _ (by decide))]
theorem akd(v:Int):nN v<18446744073709551616:=by have:=oC v;omega
def um(v:Int)(i:Nat):Int:=((nN v/256 ^ i % 256:Nat):Int)
def sH(v:Int)(n:Nat):List Int:=(List.range n).map (um v)
theorem kU(v:Int)(n:Nat):(sH v n).length=n:=by simp[sH]
theorem ake(i:Nat):(2:Nat) ^ (8*i)=256 ^ i:=by rw[Nat.pow_mul]
theorem put_eq(v:Int){n:Nat}(hn:n<=8){l:List Int}(m:l.length<=1000000):f59 v (n:Int) l=zw (l++sH v n):=by
 apply ok_eq;unfold f59;dsimp only;refine bF (λy=>y=l++sH v n) ?_ λy q=>aI q;refine X8 (List.range n) (λi s=>(i,s)) (λs i=>s++[um v i]) (λi s=>s.length<=1000000+i) rfl m ?_ ?_
 .intro i j s w _;dsimp only;simp only[qr]at j;refine goT (by simpa using j) ?_;rw[aG (x:=8*(i:Int)) (by omega),aG (x:=(i:Int)+1) (by omega)];refine bK (by simp;omega) (bK (by unfold aV;simp;omega) (aI ?_));refine⟨?_,by rw[XX,W5];omega⟩;have z:min (Int.toNat (8*(i:Int))) 64=8*i:=by omega
  have B:((2:Int) ^ (8*i))=((256 ^ i:Nat):Int):=by rw[<-ake];simp
  rw[z,B,vd,wrap_u8,Int.fdiv_eq_ediv_of_nonneg _ (Int.natCast_nonneg _)];have H:Go.IntKind.wrap .u64 v=(nN v:Int):=by rw[oC,wrap_u64]
  rw[H];rfl
 .intro s w J;dsimp only;refine b_ (by simp) (aI ?_);show s=_;rw[J];have :∀(l:List Nat) (h:List Int),l.foldl (λs i=>s++[um v i]) h=h++l.map (um v):=by
   intro l
   induction l with
   |nil=>simp
   |cons x l K=>intro h;rw[vn,K];simp
  exact this _ _
def At(data:List Int)(p:Nat)(bs:List Int):Prop :=∀i,i<bs.length->data[p+i]?=bs[i]?
theorem wF{data:List Int}{p:Nat}{a b:List Int}(h:At data p (a++b)):At data p a/\At data (p+a.length) b:=by
 refine⟨λi j=>?_,λi j=>?_⟩
 .rw [h i (by rw[XX];omega),Wf j]
 .rw [J1,h (a.length+i) (by rw[XX];omega),Wc (by omega)];congr 1;omega
theorem aod(head bs tail:List Int):At (head++bs++tail) head.length bs:=by intro i h;rw[W4,Wc (by omega),Wf (by omega)];congr 1;omega
theorem at_len{data:List Int}{p:Nat}{bs:List Int}(h:At data p bs)(j:0<bs.length):p+bs.length<=data.length:=by have:=h (bs.length-1) (by omega);rw[Q1 (l:=bs) (by omega)]at this;have:=(Q3.1 this).1;omega
theorem akf{a b:Nat}(m:a<18446744073709551616)(q:b<18446744073709551616):Go.bits .or .u64 (a:Int) (b:Int)=((a ||| b:Nat):Int):=by
 unfold Go.bits;dsimp only;rw[wrap_u64];have e :∀n:Nat,n<18446744073709551616->(BitVec.ofInt (Go.IntKind.u64).bits (n:Int)).toNat=n:=by
  intro n h;rw[BitVec.toNat_ofInt];have:(((2 ^ (Go.IntKind.u64).bits:Nat)):Int)=18446744073709551616:=by decide
  rw[this];omega
 rw[BitVec.toNat_or,e a m,e b q];have j:a ||| b<2 ^ 64:=Nat.or_lt_two_pow (by simpa using m) (by simpa using q);have:a ||| b<18446744073709551616:=by simpa using j
 omega
theorem ag3{v:Int}{n:Nat}(hn:1<=n/\n<=8){data:List Int}{p:Nat}(h:At data p (sH v n))(hd:data.length<=1000000000):
  bn (λ(j:Int×Int)=>bif(decide (j.2<(n:Int)))then ck (inB (bT ((p:Int)+j.2)) data.length) <| ck (decide (0<=(bT (8*j.2)))) <| some (.inl ((Go.bits .or .u64 j.1 (Go.IntKind.wrap .u64 ((Go.IntKind.wrap .u64 (List.getD data (bT ((p:Int)+j.2)).toNat 0))*((2:Int) ^ (min (bT (8*j.2)).toNat (64:Nat)))))),(bT (j.2+1))))else zw (.inr j.1)) ((0:Int),(0:Int))=zw ((nN v % 256 ^ n:Nat):Int):=by
 have q:=at_len h (by rw[kU];omega);rw[kU]at q;apply ok_eq;refine X8 (List.range n) (λi s=>(s,i)) (λs i=>((nN v % 256 ^ (i+1):Nat):Int)) (λi s=>s=((nN v % 256 ^ i:Nat):Int)) rfl (by simp[Nat.mod_one]) ?_ ?_
 .intro i z s B _;simp only[qr]at z;dsimp only;refine goT (by simpa using z) ?_;rw[aG (x:=(p:Int)+i) (by omega)];refine bK (aC.2 ⟨by omega,by omega⟩) ?_;rw[aG (x:=8*(i:Int)) (by omega),aG (x:=(i:Int)+1) (by omega)];refine bK (by simp;omega) (aI ?_);have L:data.getD (Int.toNat ((p:Int)+i)) 0=um v i:=by
   have e:Int.toNat ((p:Int)+i)=p+i:=by omega
   have:=h i (by rw[kU];exact z);rw[e,Q2,this];simp[sH,z]
  have M:min (Int.toNat (8*(i:Int))) 64=8*i:=by omega
  have N:((2:Int) ^ (8*i))=((256 ^ i:Nat):Int):=by rw[<-ake];simp
  have H:nN v/256 ^ i % 256<256:=Nat.mod_lt _ (by decide);have T:256*256 ^ i<=18446744073709551616:=by
   have:256*256 ^ i=256 ^ (i+1):=by rw[Nat.pow_succ,qb]
   rw[this];exact JS (Nat.pow_le_pow_right (by decide) (show i+1<=8 by omega)) (by decide)
  have m:0<256 ^ i:=Nat.pow_pos (by decide);have w:nN v/256 ^ i % 256*256 ^ i<18446744073709551616:=by have:nN v/256 ^ i % 256*256 ^ i<256*256 ^ i:=(Nat.mul_lt_mul_right m).2 H;omega
  have y:nN v % 256 ^ i<256 ^ i:=Nat.mod_lt _ m;have U:Go.IntKind.wrap .u64 (um v i)=um v i:=by rw[wrap_u64];unfold um;omega
  have J:Go.IntKind.wrap .u64 (um v i*((256 ^ i:Nat):Int))=((nN v/256 ^ i % 256*256 ^ i:Nat):Int):=by rw[wrap_u64];unfold um;rw[<-Int.natCast_mul];omega
  rw[L,M,N,U,J,B,akf (by omega) w,vd];have X:(nN v % 256 ^ i ||| nN v/256 ^ i % 256*256 ^ i)=nN v % 256 ^ (i+1):=by have K:=Nat.shiftLeft_add_eq_or_of_lt (b:=nN v % 256 ^ i) (i:=8*i) (by rw[ake];exact y) (nN v/256 ^ i % 256);rw[Nat.shiftLeft_eq,ake]at K;rw[Nat.or_comm,<-K,Nat.pow_succ,Nat.mod_mul,qb (256 ^ i),Nat.add_comm]
  rw[X];exact⟨rfl,rfl⟩
 .intro s B _;dsimp only;rw[qr]at B;exact b_ (by simp) (aI B)
theorem get_eq{v:Int}{n:Nat}(hn:1<=n/\n<=8){data:List Int}{p:Nat}(h:At data p (sH v n))(hd:data.length<=1000000000):
  f67 (n:Int) data (p:Int) zv=zw (bT ((nN v % 256 ^ n:Nat):Int),(data,((p:Int)+n,zv))):=by
 have j:=at_len h (by rw[kU];omega);rw[kU]at j;apply ok_eq;unfold f67;refine bF (λy=>y=(data,((p:Int),zv))) (b_ rfl (aI ?_)) λy m=>?_
 .rw [aG (by omega)];have:decide (((data.length:Int)-(p:Int))<(n:Int))=zv:=by simp;omega
  rw[this]
 subst m;refine b_ rfl (eP (ag3 hn h hd) (aI ?_));rw[aG (x:=(p:Int)+n) (by omega)]
theorem adq{v:Int}{wd:Bool}{data:List Int}{p:Nat}(h:At data p (sH v (if wd then 4 else 1)))(hd:data.length<=1000000000)
  (j:if wd then -2147483648<=v/\v<=2147483647 else -128<=v/\v<=127) :
  f68 wd data (p:Int) zv=zw (v,(data,((p:Int)+(if wd then 4 else 1),zv))):=by
 unfold f68 f60;have hu:=oC v;cases wd with
 |true=>
  simp only[if_true]at h j;have:=get_eq (n:=4) ⟨by decide,by decide⟩ h hd;rw[show ((4:Nat):Int)=4 from rfl]at this;simp only[cond_true,Option.bind,this,if_true];have e:bT (Go.IntKind.wrap .i32 (bT ((nN v % 256 ^ 4:Nat):Int)))=v:=by rw[aG (x:=((nN v % 256 ^ 4:Nat):Int)) (by omega),wrap_i32];rw[aG (by split<;>omega)];split<;>omega
  rw[e]
 |false=>
  simp only[if_false,Wb]at h j;have:=get_eq (n:=1) ⟨by decide,by decide⟩ h hd;rw[show ((1:Nat):Int)=1 from rfl]at this;simp only[cond_false,Option.bind,this,if_false,Wb];have e:bT (Go.IntKind.wrap .i8 (bT ((nN v % 256 ^ 1:Nat):Int)))=v:=by rw[aG (x:=((nN v % 256 ^ 1:Nat):Int)) (by omega),aa2];rw[aG (by split<;>omega)];split<;>omega
  rw[e]
def VCc(c:dM):Prop:=VC c.op c.arith c.dst c.a c.b c.value c.wide c.args
def Dh(c:dM):Nat:=szc c.op c.wide c.args.length
abbrev F6:=Int×Int×Int×Int×Int×List Int
section
variable (ar d a b v:Int) (args:List Int)
def qI(k:Nat):Int:=if k=0 then ar else if k=1 then d else if k=2 then a else if k=3 then b else if k=6 then args.length else v
def mZ(k:Nat×Nat):List Int:=sH (qI ar d a b v args k.1) k.2++(if k.1=6 then args.flatMap λy=>sH y 1 else[])
def C_(s:F6)(k:Nat×Nat):F6:=
 if k.1=0 then(ar,s.2)else if k.1=1 then(s.1,d,s.2.2)else if k.1=2 then(s.1,s.2.1,a,s.2.2.2)else if k.1=3 then(s.1,s.2.1,s.2.2.1,b,s.2.2.2.2)
 else if k.1=6 then(s.1,s.2.1,s.2.2.1,s.2.2.2.1,s.2.2.2.2.1,s.2.2.2.2.2++args)else(s.1,s.2.1,s.2.2.1,s.2.2.2.1,(if k.2=8 then bT v else v),s.2.2.2.2.2)
def SH(wd:Bool)(k:Nat×Nat):Prop:=(1<=k.2/\k.2<=8)/\(k.1<=6)/\(k.1=4/\k.2=8\/k.1≠5/\k.2≠8/\0<=qI ar d a b v args k.1/\qI ar d a b v args k.1<((256 ^ k.2:Nat):Int)\/k.1=5/\k.2=(if wd then 4 else 1)/\(if wd then -2147483648<=v/\v<=2147483647 else -128<=v/\v<=127))/\(k.1=6->k.2=1/\args.length<=250/\∀y∈args,0<=y/\y<=249)
end
def kM(wd:Bool)(x:UInt8):Nat×Nat:=if x.toNat=111 then(0,1)else if x.toNat=100 then(1,1)else if x.toNat=97 then(2,1)else if x.toNat=98 then(3,1)else if x.toNat=106 then(5,if wd then 4 else 1)else if x.toNat=110 then(6,1)else(4,x.toNat-48)
def ksM(op:Int)(wd:Bool):List (Nat×Nat):=(rowOf op).map (kM wd)
def P8(op:Int)(wd:Bool):Int:=if wd then op+128 else op
def gW(c:dM):List Int:=P8 c.op c.wide::(ksM c.op c.wide).flatMap (mZ c.arith c.dst c.a c.b c.value c.args)
def vD(c:dM):Int:=if c.op=1 then bT c.value else c.value
def Can(c:dM):Prop:=(ksM c.op c.wide).foldl (C_ c.arith c.dst c.a c.b c.value c.args) (0,0,0,0,0,[])=(c.arith,c.dst,c.a,c.b,vD c,c.args)
theorem wG(args:List Int):(args.flatMap (λy=>sH y 1)).length=args.length:=by
 induction args with
 |nil=>rfl
 |cons x l h=>rw[ZD,XX,h,kU,Wm];omega
theorem Nr{data:List Int}:∀{args:List Int} {p:Nat},At data p (args.flatMap λy=>sH y 1)->∀{j:Nat},j<args.length->At data (p+j) (sH (args.getD j 0) 1)
 | [],_,_,j,m=>absurd m (KK _)
 |x::l,p,h,j,m=>by
  rw[ZD]at h;obtain⟨w,q⟩:=wF h;rw[kU]at q;cases j with
  |zero=>exact w
  |succ j=>have:=Nr q (j:=j) (by simpa using m);rw[show p+(j+1)=p+1+j by omega];exact this
theorem zW(ar d a b v:Int)(args:List Int)(k:Nat×Nat):(mZ ar d a b v args k).length=k.2+(if k.1=6 then args.length else 0):=by
 unfold mZ;rw[XX,kU];split
 .rw [wG]
 .rfl
theorem qJ(c:dM):(gW c).length=Dh c:=by
 have key :∀l:List UInt8,(∀x∈l,IsLetter x)->((l.map (kM c.wide)).flatMap (mZ c.arith c.dst c.a c.b c.value c.args)).length=(l.map (szm c.wide c.args.length)).sum:=λl=>by
  induction l with
  |nil=>intro _;rfl
  |cons x l m=>intro h;have j:=h x Kb;simp only[Qf,ZD,XX,K4];rw[m λy q=>h y (V1 _ q),zW];congr 1;unfold kM szm;unfold IsLetter at j;rcases j with e|e|e|e|e|e|e|e|e|e<;>simp[e]
 unfold gW Dh szc ksM;rw[Wm,key _ (C9 c.op).2];omega
theorem akg{v:Int}(h:0<=v/\v<=255):sH v 1=[v]:=by
 have e:nN v=v.toNat:=by have:=oC v;omega
 show [um v 0]=[v];unfold um;rw[e];congr 1;simp;omega
section
variable {c:dM}
theorem good(h:VCc c):∀x∈rowOf c.op,SH c.arith c.dst c.a c.b c.value c.args c.wide (kM c.wide x):=by
 obtain⟨op,ar,d,a,b,v,wd,args⟩:=c;obtain⟨o,w,a3,a4,hd,T,U,K,hn,q⟩:=h;simp only at o w a3 a4 hd T U K hn q ⊢;have L:(0<=ar/\ar<=255)->SH ar d a b v args wd (0,1):=λh=>⟨by simp,by simp,.inr (.inl (by simp[qI];omega)),λh=>by simp at h⟩;have z:SH ar d a b v args wd (1,1):=⟨by simp,by simp,.inr (.inl (by simp[qI];omega)),λh=>by simp at h⟩;have m:SH ar d a b v args wd (2,1):=⟨by simp,by simp,.inr (.inl (by simp[qI];omega)),λh=>by simp at h⟩;have M:SH ar d a b v args wd (3,1):=⟨by simp,by simp,.inr (.inl (by simp[qI];omega)),λh=>by simp at h⟩;have N:SH ar d a b v args wd (6,1):=⟨by simp,by simp,.inr (.inl (by simp[qI];omega)),λ_=>⟨rfl,hn,K⟩⟩;have B:(0<=v/\v<=255)->SH ar d a b v args wd (4,1):=λh=>⟨by simp,by simp,.inr (.inl (by simp[qI];omega)),λh=>by simp at h⟩;have H:(0<=v/\v<=65535)->SH ar d a b v args wd (4,2):=λh=>⟨by simp,by simp,.inr (.inl (by simp[qI];omega)),λh=>by simp at h⟩;have X:(0<=v/\v<=4294967295)->SH ar d a b v args wd (4,4):=λh=>⟨by simp,by simp,.inr (.inl (by simp[qI];omega)),λh=>by simp at h⟩;have Y:SH ar d a b v args wd (4,8):=⟨by simp,by simp,.inl (by simp),λh=>by simp at h⟩;have J:(if wd then -2147483648<=v/\v<=2147483647 else -128<=v/\v<=127)->SH ar d a b v args wd (5,if wd then 4 else 1):=λh=>⟨by cases wd<;>simp,by simp,.inr (.inr ⟨rfl,rfl,h⟩),λh=>by simp at h⟩;have cons :∀{x:UInt8} {l:List UInt8} {y:UInt8},y∈x::l->(y=x->SH ar d a b v args wd (kM wd y))->(y∈l->SH ar d a b v args wd (kM wd y))->SH ar d a b v args wd (kM wd y):=λh B H=>(XN.1 h).elim B H;have nil :∀{y:UInt8},y∈([]:List UInt8)->SH ar d a b v args wd (kM wd y):=λh=>by cases h
 intro x j;rcases ops o with rfl|rfl|rfl|rfl|rfl|rfl|rfl|rfl|rfl|rfl|rfl|rfl|rfl|rfl|rfl|rfl|rfl|rfl
 .exact cons j (λe=>by subst e;exact z) λj=>cons j (λe=>by subst e;exact Y) nil
 .exact cons j (λe=>by subst e;exact z) λj=>cons j (λe=>by subst e;exact m) nil
 .exact cons j (λe=>by subst e;exact L (by have:=a3 rfl;omega)) λj=>cons j (λe=>by subst e;exact z) λj=>cons j (λe=>by subst e;exact m) nil
 .exact cons j (λe=>by subst e;exact L (by have:=a4 rfl;omega)) λj=>cons j (λe=>by subst e;exact z) λj=>cons j (λe=>by subst e;exact m) λj=>cons j (λe=>by subst e;exact M) nil
 .exact cons j (λe=>by subst e;exact z) λj=>cons j (λe=>by subst e;exact B (by simp[nM]at q;omega)) nil
 .exact cons j (λe=>by subst e;exact m) λj=>cons j (λe=>by subst e;exact B (by simp[nM]at q;omega)) nil
 .exact cons j (λe=>by subst e;exact z) λj=>cons j (λe=>by subst e;exact m) λj=>cons j (λe=>by subst e;exact B (by simp[nM]at q;omega)) nil
 .exact cons j (λe=>by subst e;exact m) λj=>cons j (λe=>by subst e;exact M) λj=>cons j (λe=>by subst e;exact B (by simp[nM]at q;omega)) nil
 .exact cons j (λe=>by subst e;exact z) nil
 .exact cons j (λe=>by subst e;exact m) nil
 .exact cons j (λe=>by subst e;exact z) λj=>cons j (λe=>by subst e;exact X (by simp[nM]at q;omega)) λj=>cons j (λe=>by subst e;exact N) nil
 .exact cons j (λe=>by subst e;exact z) λj=>cons j (λe=>by subst e;exact m) λj=>cons j (λe=>by subst e;exact N) nil
 .exact cons j (λe=>by subst e;exact J (by cases wd<;>simp[nM]at q ⊢ <;> omega)) nil
 .exact cons j (λe=>by subst e;exact m) λj=>cons j (λe=>by subst e;exact J (by cases wd<;>simp[nM]at q ⊢ <;> omega)) nil
 .exact cons j (λe=>by subst e;exact m) λj=>cons j (λe=>by subst e;exact J (by cases wd<;>simp[nM]at q ⊢ <;> omega)) nil
 .exact cons j (λe=>by subst e;exact m) nil
 .exact cons j (λe=>by subst e;exact H (by simp[nM]at q;omega)) nil
 .exact cons j (λe=>by subst e;exact z) λj=>cons j (λe=>by subst e;exact B (by simp[nM]at q;omega)) nil
theorem JL(h:VCc c):1<=P8 c.op c.wide/\P8 c.op c.wide<=255/\Int.tmod (bT (P8 c.op c.wide)) 128=c.op/\decide (128<=P8 c.op c.wide)=c.wide:=by have j:=h.o;have m:bT (P8 c.op c.wide)=P8 c.op c.wide:=aG (by unfold P8;split<;>omega);rw[m];unfold P8;rcases ops j with e|e|e|e|e|e|e|e|e|e|e|e|e|e|e|e|e|e<;>rw[e]<;>cases c.wide<;>exact⟨by decide,by decide,by decide,by decide⟩
theorem alK(h:VCc c):f33 c.op c.arith c.dst c.a c.b c.value c.wide c.args=zw (0,gW c):=by
 have hlen:=qJ c;have Z:VC c.op c.arith c.dst c.a c.b c.value c.wide c.args:=h;have ho:=Z.o;have hn:=Z.n;obtain⟨hl,hL⟩:=C9 c.op;have hA:=G5 c.op;obtain⟨q1,q2,_,_⟩:=JL h;apply ok_eq;unfold f33;refine eP (alI Z) (b_ rfl (bF (λy=>y=[P8 c.op c.wide]) (dA (λH=>bK rfl (bK rfl (aI ?_))) λH=>aI ?_) λl0 e0=>bK (aC.2 (by omega)) (bF (λy=>y=gW c) ?_ λy e=>aI (by rw[e]))))
 .show [Go.IntKind.wrap .u8 (Go.IntKind.wrap .u8 c.op+128)]=_;unfold P8 at *;rw[H]at *;rw[wrap_u8,wrap_u8];simp at *;omega
 .show [Go.IntKind.wrap .u8 c.op]=_;unfold P8 at *;rw[H]at *;rw[wrap_u8];simp at *;omega
 subst e0;show Ok (bn _ ([P8 c.op c.wide],rowOf c.op,(0:Int))) _;refine bD (λs:List Int×List UInt8×Int=>∃i:Nat,s.2=(rowOf c.op,(i:Int))/\i<=(rowOf c.op).length/\s.1=P8 c.op c.wide::(((rowOf c.op).take i).map (kM c.wide)).flatMap (mZ c.arith c.dst c.a c.b c.value c.args)/\s.1.length<=1+i*260) (λs=>(rowOf c.op).length-s.2.2.toNat) ⟨0,rfl,by omega,rfl,by simp⟩ λ⟨l,s⟩ ⟨i,e,h1,L,h3⟩=>?_;simp only at e L h3;subst e;rw[SE];refine dA (λm=>?_) λm=>aI ?_
 rotate_left
 .have m:¬ i<(rowOf c.op).length:=by simpa using m
  rw[WD (by omega)]at L;exact L
 have m:i<(rowOf c.op).length:=by simpa using m
 rw[GZ hA m,yt hA m];have hg:=good h _ (Xs m);have hx:=hL _ (Xs m);obtain⟨x,J⟩ :∃x,(rowOf c.op)[i]=x:=⟨_,rfl⟩;have htk:(rowOf c.op).take (i+1)=(rowOf c.op).take i++[x]:=by rw[take_snoc m,J]
 simp only[J]at hx hg ⊢;have hkl:=zW c.arith c.dst c.a c.b c.value c.args (kM c.wide x);refine bF (λy=>y=l++mZ c.arith c.dst c.a c.b c.value c.args (kM c.wide x)) ?_ λy e=>aI ⟨⟨i+1,by simp,m,?_,?_⟩,by simp only;omega⟩
 rotate_left
 .subst e;simp only;rw[htk,Ys,K0,L];simp
 .subst e;simp only;rw[XX,hkl];have:=hg.1;have:(if(kM c.wide x).1=6 then c.args.length else 0)<=250:=by split<;>omega
  omega
 have key :∀n:Int,0<=n->decide ((x.toNat:Int)=n)=zj->x.toNat=n.toNat:=λn _ h=>by have:=ZS h;omega
 have neg :∀n:Int,0<=n->decide ((x.toNat:Int)=n)=zv->¬ x.toNat=n.toNat:=λn _ h=>by have:=ZZ h;omega
 have one :∀(k:Nat×Nat) (z n:Int),kM c.wide x=k->n=(k.2:Nat)->k.1≠6->k.2<=8->z=qI c.arith c.dst c.a c.b c.value c.args k.1->f59 z n l=zw (l++mZ c.arith c.dst c.a c.b c.value c.args (kM c.wide x)):=λk z n K hn h6 h8 hz=>by rw[K,hn,put_eq z h8 (by omega),hz];unfold mZ;rw[QP h6,K6]
 refine dA (λq=>eP (one (0,1) _ _ (by simp[kM,key _ (by omega) q]) rfl (by simp) (by simp) rfl) (aI rfl)) λM=>bF _ ?_ λy w=>aI w;refine dA (λq=>eP (one (1,1) _ _ (by simp[kM,key _ (by omega) q]) rfl (by simp) (by simp) rfl) (aI rfl)) λN=>bF _ ?_ λy w=>aI w;refine dA (λq=>eP (one (2,1) _ _ (by simp[kM,key _ (by omega) q]) rfl (by simp) (by simp) rfl) (aI rfl)) λT=>bF _ ?_ λy w=>aI w;refine dA (λq=>eP (one (3,1) _ _ (by simp[kM,key _ (by omega) q]) rfl (by simp) (by simp) rfl) (aI rfl)) λU=>bF _ ?_ λy w=>aI w;refine dA (λq=>eP (y:=(((if c.wide then 4 else 1):Nat):Int)) (by unfold f60;cases c.wide<;>rfl) (eP (one (5,if c.wide then 4 else 1) _ _ (by simp[kM,key _ (by omega) q]) rfl (by simp) (by simp only;split<;>omega) rfl) (aI rfl))) λX=>bF _ ?_ λy w=>aI w;refine dA (λq=>?_) λY=>bF (λy=>y=l++mZ c.arith c.dst c.a c.b c.value c.args (kM c.wide x)) ?_ λy w=>aI w
 .have K:kM c.wide x=(6,1):=by simp[kM,key _ (by omega) q]
  rw[K];refine eP (put_eq (c.args.length:Int) (n:=1) (by omega) (by omega)) (bF (λy=>y=l++mZ c.arith c.dst c.a c.b c.value c.args (6,1)) ?_ λy e=>aI e);refine bD (λs:Int×List Int=>∃j:Nat,s.1=j/\j<=c.args.length/\s.2=l++sH (c.args.length:Int) 1++(c.args.take j).flatMap λy=>sH y 1) (λs=>c.args.length-s.1.toNat) ⟨0,rfl,by omega,by simp⟩ λ⟨j',l3⟩ ⟨j,e,g1,g2⟩=>?_;simp only at e g2;subst e;subst g2;refine dA (λB=>?_) λB=>?_
  .have B:j<c.args.length:=by simpa using B
   refine bK (aC.2 (by simp only;omega)) (eP (put_eq _ (n:=1) (by omega) ?_) (aI ⟨⟨j+1,?_,by omega,?_⟩,?_⟩))
   .simp only[XX,kU,wG,VM];omega
   all_goals simp only[aG (x:=(j:Int)+1) (by omega)]
   .rfl
   .rw [take_snoc B,K0,Q4,getD_at _ B];simp
   .omega
  .have B:¬ j<c.args.length:=by simpa using B
   refine aI (show _=l++mZ c.arith c.dst c.a c.b c.value c.args (6,1) from ?_);rw[WD (by omega),W4];rfl
 .have M:=neg _ (by omega) M;have N:=neg _ (by omega) N;have T:=neg _ (by omega) T;have U:=neg _ (by omega) U;have X:=neg _ (by omega) X;have Y:=neg _ (by omega) Y;simp only[Int.reduceToNat]at M N T U X Y;have K:kM c.wide x=(4,x.toNat-48):=by unfold kM;rw[QP M,QP N,QP T,QP U,QP X,QP Y]
  have H:bT (Go.IntKind.wrap .i32 ((x.toNat:Int)-48))=((x.toNat-48:Nat):Int)/\x.toNat-48<=8:=by
   unfold IsLetter at hx;have:x.toNat=49\/x.toNat=50\/x.toNat=52\/x.toNat=56:=by omega
   rcases this with e|e|e|e<;>rw[e]<;>exact⟨rfl,by simp⟩
  exact afs (one (4,x.toNat-48) _ _ K H.1 (by simp) H.2 rfl) rfl
end
def kR(wd:Bool)(x:UInt8):Nat×Nat:=if x.toNat=111 then(0,1)else if x.toNat=100 then(1,1)else if x.toNat=97 then(2,1)else if x.toNat=98 then(3,1)else if x.toNat=110 then(6,1)else if x.toNat=106 then(5,if wd then 4 else 1)else(4,if x.toNat=119 then 2 else if x.toNat=99 then 4 else if x.toNat=107 then 8 else 1)
theorem alL{op:Int}(h:1<=op/\op<=18):∃r,f37 op=zw r/\(r==bJ)=zv/\r.length<=4/\∀wd,r.map (kR wd)=ksM op wd:=by rcases ops h with rfl|rfl|rfl|rfl|rfl|rfl|rfl|rfl|rfl|rfl|rfl|rfl|rfl|rfl|rfl|rfl|rfl|rfl<;>exact⟨_,rfl,rfl,by decide,λwd=>by cases wd<;>rfl⟩
theorem aa4{op ar d a b v:Int}{wd:Bool}{args:List Int}{x:UInt8}:f39 op ar d a b v wd args (x.toNat:Int)=zw ((kR wd x).2:Int):=by
 apply ok_eq;unfold f39;have key :∀n:Nat,decide ((x.toNat:Int)=(n:Int))=zj->x.toNat=n:=λn h=>by have:=ZS h;omega
 have neg :∀n:Nat,decide ((x.toNat:Int)=(n:Int))=zv->¬ x.toNat=n:=λn h=>by have:=ZZ h;omega
 refine dA (λh=>aI (by simp[kR,key 119 h])) λm=>dA (λh=>aI (by simp[kR,key 99 h])) λq=>dA (λh=>aI (by simp[kR,key 107 h])) λw=>?_;have m:=neg 119 m;have q:=neg 99 q;have w:=neg 107 w;have fin:¬ (x.toNat=106/\wd=zj)->((1:Int))=((kR wd x).2:Int):=λh=>by
  unfold kR;rw[QP m,QP q,QP w]
  repeat' split
  all_goals try rfl
  rename_i y j;exact absurd ⟨y,j⟩ h
 refine iI (λ_=>¬ (x.toNat=106/\wd=zj)) (dA (λh=>dA (λj=>aI ?_) λj=>aI ?_) λh=>aI ?_) λ_ h=>aI (fin h)
 .show (4:Int)=_;simp[kR,key 106 h,j]
 .show ¬ _;simp[j]
 .show ¬ _;have:=neg 106 h;simp[this]
theorem aoe(v:Int):sH v 1=[Go.IntKind.wrap .u8 v]:=by show [um v 0]=_;unfold um;have:=oC v;rw[wrap_u8];congr 1;simp;omega
section
variable {c:dM}
theorem ag5(h:VCc c){r:List UInt8}(j:r.map (kR c.wide)=ksM c.op c.wide):∀x∈r,SH c.arith c.dst c.a c.b c.value c.args c.wide (kR c.wide x):=λx m=>by
 have:kR c.wide x∈ksM c.op c.wide:=by rw[<-j];exact XS.2 ⟨x,m,rfl⟩
 obtain⟨y,q,e⟩:=XS.1 this;rw[<-e];exact good h y q
theorem aof(h:VCc c):f73 c.op c.arith c.dst c.a c.b c.value c.wide c.args=zw (0,gW c):=by
 have Z:VC c.op c.arith c.dst c.a c.b c.value c.wide c.args:=h;have ho:=Z.o;have hn:=Z.n;obtain⟨q1,q2,_,_⟩:=JL h;obtain⟨r,hr,_,hl,H⟩:=alL ho;have H:=H c.wide;apply ok_eq;unfold f73;refine eP (alJ Z) (b_ rfl (bF (λy=>y=P8 c.op c.wide) (dA (λhw=>aI ?_) λhw=>aI ?_) λy e=>eP hr (bF (λy=>y=gW c) ?_ λy e=>aI (by rw[e]))))
 .unfold P8;rw[QR hw,aG (by omega)]
 .unfold P8;rw[hw];rfl
 subst e;have hwu:Go.IntKind.wrap .u8 (P8 c.op c.wide)=P8 c.op c.wide:=by rw[wrap_u8];omega
 refine bD (λs:Int×List Int=>∃i:Nat,s.1=(i:Int)/\i<=r.length/\s.2=P8 c.op c.wide::((r.take i).map (kR c.wide)).flatMap (mZ c.arith c.dst c.a c.b c.value c.args)/\s.2.length<=1+i*260) (λs=>r.length-s.1.toNat) ⟨0,rfl,by omega,by simp[hwu],by simp⟩ λ⟨i',l⟩ ⟨i,e,h1,M,h3⟩=>?_;simp only at e M h3;subst e;refine dA (λq=>?_) λq=>aI ?_
 rotate_left
 .have q:¬ i<r.length:=by simpa using q
  rw[WD (by omega),H]at M;exact M
 have q:i<r.length:=by simpa using q
 have hg:=ag5 h H _ (Xs q);obtain⟨x,J⟩ :∃x,r[i]=x:=⟨_,rfl⟩;have hxd:r.getD i 0=x:=by rw[getD_at _ q,J]
 have htk:r.take (i+1)=r.take i++[x]:=by rw[take_snoc q,J]
 rw[J]at hg;have L:=aC.2 (show 0<=(i:Int)/\(i:Int)<r.length by omega);have hkl:=zW c.arith c.dst c.a c.b c.value c.args (kR c.wide x);refine bK L ?_;simp only[Q4,hxd];refine bF (λy=>y=l++mZ c.arith c.dst c.a c.b c.value c.args (kR c.wide x)) ?_ λy e=>aI ⟨⟨i+1,?_,q,?_,?_⟩,?_⟩
 rotate_left
 .simp only[aG (x:=(i:Int)+1) (by omega)];rfl
 .subst e;simp only;rw[htk,Ys,K0,M];simp
 .subst e;simp only;rw[XX,hkl];have:=hg.1;have:(if(kR c.wide x).1=6 then c.args.length else 0)<=250:=by split<;>omega
  omega
 .simp only[aG (x:=(i:Int)+1) (by omega)];omega
 have key :∀n:Nat,decide ((x.toNat:Int)=(n:Int))=zj->x.toNat=n:=λn h=>by have:=ZS h;omega
 have neg :∀n:Nat,decide ((x.toNat:Int)=(n:Int))=zv->¬ x.toNat=n:=λn h=>by have:=ZZ h;omega
 have m :∀z:Int,aV l.length [z].length 1=zj:=λz=>by unfold aV;simp;omega
 have one :∀(k:Nat) (z:Int),kR c.wide x=(k,1)->k≠6->z=qI c.arith c.dst c.a c.b c.value c.args k->l++[Go.IntKind.wrap .u8 z]=l++mZ c.arith c.dst c.a c.b c.value c.args (kR c.wide x):=λk z H h6 hz=>by rw[H,hz];unfold mZ;rw[QP h6,K6,aoe]
 refine dA (λw=>bK (m _) (aI (one 0 _ (by simp[kR,key 111 w]) (by simp) rfl))) λN=>bF _ ?_ λy B=>aI B;refine dA (λw=>bK (m _) (aI (one 1 _ (by simp[kR,key 100 w]) (by simp) rfl))) λT=>bF _ ?_ λy B=>aI B;refine dA (λw=>bK (m _) (aI (one 2 _ (by simp[kR,key 97 w]) (by simp) rfl))) λU=>bF _ ?_ λy B=>aI B;refine dA (λw=>bK (m _) (aI (one 3 _ (by simp[kR,key 98 w]) (by simp) rfl))) λX=>bF _ ?_ λy B=>aI B;refine dA (λw=>bK (m _) (bF (λy=>y=l++mZ c.arith c.dst c.a c.b c.value c.args (kR c.wide x)) ?_ λy B=>aI B)) λY=>?_
 .have H:kR c.wide x=(6,1):=by simp[kR,key 110 w]
  rw[H];refine bD (λs:Int×List Int=>∃j:Nat,s.1=j/\j<=c.args.length/\s.2=l++sH (c.args.length:Int) 1++(c.args.take j).flatMap λy=>sH y 1) (λs=>c.args.length-s.1.toNat) ⟨0,rfl,by omega,by rw[aoe];simp⟩ λ⟨j',l3⟩ ⟨j,e,g1,g2⟩=>?_;simp only at e g2;subst e;subst g2;refine dA (λK=>?_) λK=>?_
  .have K:j<c.args.length:=by simpa using K
   refine bK (aC.2 (by simp only;omega)) (bK ?_ (aI ⟨⟨j+1,?_,by omega,?_⟩,?_⟩))
   .unfold aV;simp only[XX,kU,wG,VM,W5];simp;omega
   all_goals simp only[aG (x:=(j:Int)+1) (by omega)]
   .rfl
   .rw [take_snoc K,K0,Q4,getD_at _ K];simp[aoe]
   .omega
  .have K:¬ j<c.args.length:=by simpa using K
   refine aI (show _=l++mZ c.arith c.dst c.a c.b c.value c.args (6,1) from ?_);rw[WD (by omega),W4];rfl
 .have N:=neg 111 N;have T:=neg 100 T;have U:=neg 97 U;have X:=neg 98 X;have Y:=neg 110 Y;have h6:(kR c.wide x).1≠6:=by unfold kR;rw[QP N,QP T,QP U,QP X,QP Y];split<;>simp
  have hf:qI c.arith c.dst c.a c.b c.value c.args (kR c.wide x).1=c.value:=by unfold kR;rw[QP N,QP T,QP U,QP X,QP Y];split<;>rfl
  refine bK L (eP aa4 (eP (y:=l++sH c.value (kR c.wide x).2) (put_eq c.value hg.1.2 (by omega)) (aI ?_)));unfold mZ;rw[QP h6,hf,K6]
theorem ag6{op ar d a b v:Int}{wd:Bool}{args:List Int}(h:VC op ar d a b v wd args):Ok (f33 op ar d a b v wd args) λy=>y.1=0/\y.2.length=szc op wd args.length:=afs (alK (c:=dM.mk op ar d a b v wd args) h) ⟨rfl,qJ _⟩
theorem ar2{op ar d a b v:Int}{wd:Bool}{args:List Int}(h:VC op ar d a b v wd args):Ok (f73 op ar d a b v wd args) λy=>y.1=0/\y.2.length=szc op wd args.length:=afs (aof (c:=dM.mk op ar d a b v wd args) h) ⟨rfl,qJ _⟩
end
theorem aog(v:Int):bT (nN v:Int)=bT v:=by rw[oC,wrap_i64,wrap_i64];split<;>split<;>omega
def rdK(ar d a b v:Int)(args:List Int)(k:Nat×Nat):Int:=if k.2=8 then bT (qI ar d a b v args k.1)else qI ar d a b v args k.1
theorem ag7{ar d a b v:Int}{args:List Int}{wd:Bool}{k:Nat×Nat}(h:SH ar d a b v args wd k)(m:k.1≠5):bT ((nN (qI ar d a b v args k.1) % 256 ^ k.2:Nat):Int)=rdK ar d a b v args k:=by
 obtain⟨w,_,q,_⟩:=h;unfold rdK;rcases q with⟨_,j⟩|⟨_,j,y,z⟩|⟨h,_⟩
 .rw [QR j,j,Kk (akd _),aog]
 .rw [QP j];have B:256 ^ k.2<=72057594037927936:=JS (Nat.pow_le_pow_right (by decide) (show k.2<=7 by omega)) (by decide);have e:nN (qI ar d a b v args k.1)=(qI ar d a b v args k.1).toNat:=by have:=oC (qI ar d a b v args k.1);omega
  rw[e,Kk (by omega),aG (by omega)];omega
 .exact absurd h m
theorem alM{ar d a b v:Int}{args:List Int}{wd:Bool}{k:Nat×Nat}(h:SH ar d a b v args wd k)(m:k.1≠5){data:List Int}{p:Nat}(j:At data p (sH (qI ar d a b v args k.1) k.2))(hd:data.length<=1000000000):
  f67 (k.2:Int) data (p:Int) zv=zw (rdK ar d a b v args k,data,((p+k.2:Nat):Int),zv):=by
 rw[get_eq h.1 j hd,ag7 h m];rfl
theorem at_k{ar d a b v:Int}{args:List Int}{k:Nat×Nat}{data:List Int}{p:Nat}(h:At data p (mZ ar d a b v args k)):At data p (sH (qI ar d a b v args k.1) k.2)/\(k.1=6->At data (p+k.2) (args.flatMap λy=>sH y 1)):=by unfold mZ at h;obtain⟨m,j⟩:=wF h;refine⟨m,λq=>?_⟩;rw[QR q,kU]at j;exact j
theorem SI{data:List Int}{p:Nat}{x:Int}{l:List Int}(h:At data p (x::l)):p<data.length/\data.getD p 0=x/\At data (p+1) l:=by obtain⟨j,m⟩:=wF (a:=[x]) (b:=l) h;have:=j 0 (by simp);simp only[Jn]at this;have q:=(Q3.1 (this.trans rfl)).1;refine⟨q,?_,m⟩;rw[Q2,this];rfl
section
variable {c:dM}
def z6:F6:=(0,0,0,0,0,[])
def fK(c:dM)(ks:List (Nat×Nat)):F6:=ks.foldl (C_ c.arith c.dst c.a c.b c.value c.args) z6
theorem aa5(h:List (Nat×Nat))(k:Nat×Nat):fK c (h++[k])=C_ c.arith c.dst c.a c.b c.value c.args (fK c h) k:=by unfold fK;rw[List.foldl_append];rfl
abbrev DT:=Int×Int×Int×Int×Int×Int×Bool×List Int×Int×Bool×List Int
def dT(c:dM)(data:List Int)(p:Nat)(s:F6):DT:=(c.op,s.1,s.2.1,s.2.2.1,s.2.2.2.1,s.2.2.2.2.1,c.wide,data,(p:Int),zv,s.2.2.2.2.2)
theorem alN(h:VCc c):VC c.op c.arith c.dst c.a c.b (vD c) c.wide c.args:=by
 obtain⟨o,w,a3,a4,d,a,b,s,n,v⟩:=h;refine⟨o,w,a3,a4,d,a,b,s,n,?_⟩;unfold vD;split
 .rename_i e;rw[e];rfl
 .exact v
theorem ar4(h:VCc c)(hC:Can c){data:List Int}(hd:data.length<=1000000000){p:Nat}(L:At data p (gW c)):
  f36 data (p:Int)=zw (c.op,c.arith,c.dst,c.a,c.b,vD c,c.wide,(Dh c:Int),0,c.args):=by
 have N:=qJ c;have Z:VC c.op c.arith c.dst c.a c.b c.value c.wide c.args:=h;have ho:=Z.o;have hn:=Z.n;obtain⟨hl,hL⟩:=C9 c.op;have hA:=G5 c.op;obtain⟨q1,q2,q3,q4⟩:=JL h;have hpl:=at_len L (by rw[N];unfold Dh szc;omega);obtain⟨hp,hb,L⟩:=SI L;apply ok_eq;unfold f36;refine b_ (Qt (by omega)) (b_ (Qt (by omega)) (bK (aC.2 (by omega)) (bK (aC.2 (by omega)) ?_)));simp only[Q4,hb,q3,q4];refine bF (λy=>y=zv) (eP (IY _ _ _) (b_ (by simp;omega) (dA (λhw=>?_) λ_=>aI rfl))) λy e=>?_
 .have:=Z.w hw;unfold f66;rw[IY];refine eP (y:=zj) ?_ (aI rfl);show zw (decide (13<=c.op)&&decide (c.op<=15))=zw zj;rw[YY this.1,YY this.2];rfl
 subst e;refine b_ rfl (bK (aC.2 (by omega)) (bF (λy=>y=dT c data (p+Dh c) (fK c (ksM c.op c.wide))) ?_ λy e=>?_))
 rotate_left
 .subst e;have hf:fK c (ksM c.op c.wide)=_:=hC;rw[hf];refine b_ rfl (eP (alI (alN h)) (b_ rfl (aI ?_)));show (_,_,_,_,_,_,_,bT (((p+Dh c:Nat):Int)-p),_,_)=_;rw[aG (by omega),show (((p+Dh c:Nat):Int)-p)=Dh c by omega];rfl
 rw[show bT ((p:Int)+1)=((p+1:Nat):Int) from (aG (by omega)).trans rfl];show Ok (bn _ (c.op,(0:Int),(0:Int),(0:Int),(0:Int),(0:Int),c.wide,data,((p+1:Nat):Int),zv,rowOf c.op,(0:Int),([]:List Int))) _;have T:1+((ksM c.op c.wide).flatMap (mZ c.arith c.dst c.a c.b c.value c.args)).length=Dh c:=by rw[<-N];unfold gW;rw[Wm];omega
 refine bD (λs:Int×Int×Int×Int×Int×Int×Bool×List Int×Int×Bool×List UInt8×Int×List Int=>∃(i q:Nat) (F:F6),s=(c.op,F.1,F.2.1,F.2.2.1,F.2.2.2.1,F.2.2.2.2.1,c.wide,data,(q:Int),zv,rowOf c.op,(i:Int),F.2.2.2.2.2)/\i<=(rowOf c.op).length/\F=fK c (((rowOf c.op).take i).map (kM c.wide))/\At data q ((((rowOf c.op).drop i).map (kM c.wide)).flatMap (mZ c.arith c.dst c.a c.b c.value c.args))/\q+((((rowOf c.op).drop i).map (kM c.wide)).flatMap (mZ c.arith c.dst c.a c.b c.value c.args)).length=p+Dh c/\F.2.2.2.2.2.length<=i*250) (λs=>(rowOf c.op).length-s.2.2.2.2.2.2.2.2.2.2.2.1.toNat) ⟨0,p+1,z6,rfl,by omega,rfl,L,by rw[<-T];unfold ksM;rw[List.drop_zero];omega,by simp[z6]⟩ λs ⟨i,q,F,e,h1,h2,h3,h4,h5⟩=>?_;subst e;simp only;rw[SE];refine dA (λJ=>?_) λJ=>aI ?_
 rotate_left
 .have J:¬ i<(rowOf c.op).length:=by simpa using J
  rw[vQ (by omega)]at h4;rw[WD (by omega)]at h2;subst h2;have:q=p+Dh c:=by simpa using h4
  subst this;rfl
 have J:i<(rowOf c.op).length:=by simpa using J
 rw[GZ hA J,yt hA J];have hg:=good h _ (Xs J);have hx:=hL _ (Xs J);obtain⟨x,U⟩ :∃x,(rowOf c.op)[i]=x:=⟨_,rfl⟩;have htk:(rowOf c.op).take (i+1)=(rowOf c.op).take i++[x]:=by rw[take_snoc J,U]
 rw[Ks J,U,Qf,ZD]at h3 h4;obtain⟨z,h3⟩:=wF h3;obtain⟨z,h3b⟩:=at_k z;rw[XX]at h4;simp only[U]at hx hg ⊢;have X:=zW c.arith c.dst c.a c.b c.value c.args (kM c.wide x);refine bF (λy=>y=dT c data (q+(mZ c.arith c.dst c.a c.b c.value c.args (kM c.wide x)).length) (C_ c.arith c.dst c.a c.b c.value c.args F (kM c.wide x))) ?_ λy e=>aI ⟨⟨i+1,q+(mZ c.arith c.dst c.a c.b c.value c.args (kM c.wide x)).length,C_ c.arith c.dst c.a c.b c.value c.args F (kM c.wide x),?_,J,?_,h3,by omega,?_⟩,?_⟩
 rotate_left
 .subst e;rfl
 .rw [htk,Ys,h2,Qf,V2,aa5]
 .have:(C_ c.arith c.dst c.a c.b c.value c.args F (kM c.wide x)).2.2.2.2.2.length<=F.2.2.2.2.2.length+c.args.length:=by
   unfold C_
   repeat' split
   all_goals simp
  omega
 .show (rowOf c.op).length-((i:Int)+1).toNat<(rowOf c.op).length-(i:Int).toNat;omega
 have key :∀n:Int,0<=n->decide ((x.toNat:Int)=n)=zj->x.toNat=n.toNat:=λn _ h=>by have:=ZS h;omega
 have neg :∀n:Int,0<=n->decide ((x.toNat:Int)=n)=zv->¬ x.toNat=n.toNat:=λn _ h=>by have:=ZZ h;omega
 have B :∀k,kM c.wide x=k->k.1≠6->q+(mZ c.arith c.dst c.a c.b c.value c.args (kM c.wide x)).length=q+k.2:=λk m h6=>by rw[X,m,QP h6];rfl
 have one :∀(k:Nat×Nat) (n:Int),kM c.wide x=k->n=(k.2:Nat)->k.1≠5->f67 n data (q:Int) zv=zw (rdK c.arith c.dst c.a c.b c.value c.args k,data,((q+k.2:Nat):Int),zv):=λk n m hn h5=>by rw[hn];rw[m]at hg z;exact alM hg h5 z hd
 refine dA (λK=>?_) λn1=>bF _ ?_ λy M=>aI M
 .have m:kM c.wide x=(0,1):=by simp[kM,key _ (by omega) K]
  exact eP (one (0,1) 1 m rfl (by simp)) (aI (by rw[B _ m (by simp),m];rfl))
 refine dA (λK=>?_) λn2=>bF _ ?_ λy M=>aI M
 .have m:kM c.wide x=(1,1):=by simp[kM,key _ (by omega) K]
  exact eP (one (1,1) 1 m rfl (by simp)) (aI (by rw[B _ m (by simp),m];rfl))
 refine dA (λK=>?_) λn3=>bF _ ?_ λy M=>aI M
 .have m:kM c.wide x=(2,1):=by simp[kM,key _ (by omega) K]
  exact eP (one (2,1) 1 m rfl (by simp)) (aI (by rw[B _ m (by simp),m];rfl))
 refine dA (λK=>?_) λn4=>bF _ ?_ λy M=>aI M
 .have m:kM c.wide x=(3,1):=by simp[kM,key _ (by omega) K]
  exact eP (one (3,1) 1 m rfl (by simp)) (aI (by rw[B _ m (by simp),m];rfl))
 refine dA (λK=>?_) λn5=>bF _ ?_ λy M=>aI M
 .have m:kM c.wide x=(5,if c.wide then 4 else 1):=by simp[kM,key _ (by omega) K]
  rw[m]at hg z;have H:if c.wide then -2147483648<=c.value/\c.value<=2147483647 else -128<=c.value/\c.value<=127:=by
   rcases hg.2.2.1 with⟨h,_⟩|⟨h,_⟩|⟨_,_,h⟩
   .simp at h
   .simp at h
   .exact h
  have hq5:(q:Int)+(if c.wide then 4 else 1)=((q+(if c.wide then 4 else 1):Nat):Int):=by cases c.wide<;>simp
  refine eP ((adq z hd H).trans (by rw[hq5])) (aI ?_);rw[B _ m (by simp),m];unfold dT;cases c.wide<;>rfl
 refine dA (λK=>?_) λn6=>?_
 .have m:kM c.wide x=(6,1):=by simp[kM,key _ (by omega) K]
  have Y:=h3b (by rw[m]);rw[m]at X Y;have hq6:q+(mZ c.arith c.dst c.a c.b c.value c.args (kM c.wide x)).length=q+1+c.args.length:=by rw[m,X];simp;omega
  rw[hq6,m];refine eP (one (6,1) 1 m rfl (by simp)) ?_;show Ok (Option.bind (bn _ ((0:Int),dT c data (q+1) F)) _) _;refine bF (λy=>y=dT c data (q+1+c.args.length) (C_ c.arith c.dst c.a c.b c.value c.args F (6,1))) ?_ λy e=>aI e;refine bD (λs:Int×DT=>∃j:Nat,s=((j:Int),dT c data (q+1+j) (F.1,F.2.1,F.2.2.1,F.2.2.2.1,F.2.2.2.2.1,F.2.2.2.2.2++c.args.take j))/\j<=c.args.length) (λs=>c.args.length-s.1.toNat) ⟨0,by simp[dT],by omega⟩ λs ⟨j,e,g1⟩=>?_;subst e;refine dA (λH=>?_) λH=>?_
  .have H:j<c.args.length:=by simpa[rdK,qI]using H
   have ha:=Nr Y H;have hr:=Z.s _ (Xs H);rw[<-getD_at 0 H]at hr;have hkk:SH c.arith c.dst (c.args.getD j 0) c.b c.value c.args c.wide (2,1):=⟨by simp,by simp,.inr (.inl ⟨by simp,by simp,(show 0<=c.args.getD j 0 by omega),(show c.args.getD j 0<((256 ^ 1:Nat):Int) by omega)⟩),λh=>by simp at h⟩;refine eP (alM (k:=(2,1)) hkk (by simp) ha hd) (bK ?_ (aI ⟨⟨j+1,?_,H⟩,?_⟩))
   .unfold aV;simp[dT];omega
   .rw [aG (by omega)];show (_,_)=(_,_);simp only[dT];rw[take_snoc H,<-W4,<-getD_at 0 H];rfl
   .simp only[aG (x:=(j:Int)+1) (by omega)];omega
  .have H:¬ j<c.args.length:=by simpa[rdK,qI]using H
   have:j=c.args.length:=by omega
   subst this;refine aI (show dT c data (q+1+c.args.length) _=_ from ?_);rw[K7];rfl
 .have n1:=neg _ (by omega) n1;have n2:=neg _ (by omega) n2;have n3:=neg _ (by omega) n3;have n4:=neg _ (by omega) n4;have n5:=neg _ (by omega) n5;have n6:=neg _ (by omega) n6;simp only[Int.reduceToNat]at n1 n2 n3 n4 n5 n6;have m:kM c.wide x=(4,x.toNat-48):=by unfold kM;rw[QP n1,QP n2,QP n3,QP n4,QP n5,QP n6]
  have hw:bT (Go.IntKind.wrap .i32 ((x.toNat:Int)-48))=((x.toNat-48:Nat):Int):=by
   unfold IsLetter at hx;have:x.toNat=49\/x.toNat=50\/x.toNat=52\/x.toNat=56:=by omega
   rcases this with e|e|e|e<;>rw[e]<;>rfl
  exact eP (one (4,x.toNat-48) _ m hw (by simp)) (aI (by rw[B _ m (by simp),m];rfl))
end
end Go.Fg.YtoipcimfapppmaaGreatDoor

