/-
  The plain proofs: what the functions compute answers as the law says.
-/
import Derived.Test.YtoipcimfapppmaaGreatDoorFgB
import Derived.Test.YtoipcimfapppmaaGreatDoorZd
import Derived.Laws.RangeString
open Option renaming some->zw,none->zz
open Bool renaming true->zj,false->zv
set_option linter.unusedSimpArgs false
set_option linter.unusedVariables false
set_option linter.unusedSectionVars false
variable{u:Bool}{b d i p t v:Int}{L j:List (List UInt8)}{l:List Int}{s:List UInt8}{a c k n w:Nat}{A:Type}
namespace Go.Fg.YtoipcimfapppmaaGreatDoor
open Go.Fw
theorem ag4(j:n<l.length):(l.set n b).getD a 0=if a=n then b else l.getD a 0:=by
 rw[Q1,Q1];by_cases h:a=n
 .subst h;rw[vQ j,QQ rfl];rfl
 .rw [List.getElem?_set_ne (λe=>h e.symm),Qt h]
def Ends(bs:List aN):Prop :=∀b,b<bs.length->((bs.getD b aB).cu≠3->0<=(bs.getD b aB).gu/\(bs.getD b aB).gu<bs.length)/\((bs.getD b aB).cu=2->0<=(bs.getD b aB).dM/\(bs.getD b aB).dM<bs.length)
def adp(bs:List aN):Prop :=∀S:Nat->Prop,S 0->(∀b,b<bs.length->S b->((bs.getD b aB).cu≠3->S (bs.getD b aB).gu.toNat)/\((bs.getD b aB).cu=2->S (bs.getD b aB).dM.toNat))->∀b,b<bs.length->S b
def succs(k t e:Int):List Int:=if k=2/\e≠t then[t,e]else if k=1\/k=2 then[t]else[]
theorem WB(k a t e:Int):f104 k a t e=zw (succs k t e):=by
 apply ok_eq;unfold f104 succs;refine bG (λy=>y=decide (k=2/\e≠t)) ?_ λy j=>?_
 .refine dA (λh=>aG ?_) (λh=>aG ?_)
  .have h:k=2:=by simpa using h
   by_cases m:e=t<;>simp[h,m]
  .have h:¬ k=2:=by simpa using h
   simp[h]
 subst j;refine dA (λh=>aG ?_) (λh=>?_)
 .rw [QQ (by simpa using h)]
 .rw [Qt (by simpa using h)];refine bG (λy=>y=decide (k=1\/k=2)) ?_ λy j=>?_
  .refine dA (λh=>aG ?_) (λh=>aG ?_)
   .have h:k=1:=by simpa using h
    simp[h]
   .have h:¬ k=1:=by simpa using h
    simp[h]
  .subst j;refine dA (λh=>aG ?_) (λh=>aG ?_)
   .rw [QQ (by simpa using h)]
   .rw [Qt (by simpa using h)]
def pq(bs:List aN)(b:Nat):List Int:=succs (bs.getD b aB).cu (bs.getD b aB).gu (bs.getD b aB).dM
def Ad(bs:List aN):Prop:=Ends bs/\∀b,b<bs.length->(bs.getD b aB).cu=1\/(bs.getD b aB).cu=2\/(bs.getD b aB).cu=3
variable{bs:List aN}
theorem YF(h:Ad bs)(j:n<bs.length):∀x∈pq bs n,0<=x/\x<bs.length:=by
 obtain⟨w,y⟩:=h;obtain⟨m,z⟩:=w n j;have B:=y n j;intro x hx;unfold pq succs at hx;split at hx
 .rename_i q;rcases Xs.1 hx with rfl|hx
  .exact m (by omega)
  .rw [X1]at hx;rw[hx];exact z q.1
 .split at hx
  .rename_i q;rw[X1]at hx;rw[hx];exact m (by omega)
  .cases hx
def cntF(l:List Bool):Nat:=l.count zv
theorem WC{l:List Bool}(h:k<l.length)(j:l.getD k zv=zv):cntF (l.set k zj)+1=cntF l:=by unfold cntF;rw[getD_at _ h]at j;have m:0<l.count zv:=List.count_pos_iff.2 (j▸X2 h);rw[List.count_set h,j];simp;omega
theorem wG{l:List Bool}(j:n<l.length):(l.set n u).getD a zv=if a=n then u else l.getD a zv:=by
 rw[Q1,Q1];by_cases h:a=n
 .subst h;rw[vQ j,QQ rfl];rfl
 .rw [List.getElem?_set_ne (λe=>h e.symm),Qt h]
structure Mk(bs:List aN)(m:List Bool)(st:List Int):Prop where
 len:m.length=bs.length
 zero:m.getD 0 zv=zj
 stk :∀x∈st,(0<=x/\x<bs.length)/\m.getD x.toNat zv=zj
 all :∀S:Nat->Prop,S 0->(∀b,b<bs.length->S b->∀x∈pq bs b,S x.toNat)->∀b,b<bs.length->m.getD b zv=zj->S b
theorem WE(hE:Ad bs)(h0:0<bs.length)(hl:bs.length<=1000000):
  Ok (f82 s b i bs) λm=>Mk bs m []/\∀i,i<bs.length->m.getD i zv=zj->∀x∈pq bs i,m.getD x.toNat zv=zj:=by
 unfold f82;refine bK (o7.2 (by omega)) ?_;refine bW (ZS (by simp only[Kh,Q4];omega)) (bK (aQ.2 (by simp only[Kh,Q4];omega)) ?_);refine bG (λm=>Mk bs m []/\∀i,i<bs.length->m.getD i zv=zj->∀x∈pq bs i,m.getD x.toNat zv=zj) ?_ λy hy=>aG hy;have hz:(List.replicate ((bs.length:Int)).toNat zv).length=bs.length:=by simp
 refine bF (λa:List Bool×List Int=>Mk bs a.1 a.2/\a.2.length+cntF a.1<=bs.length/\∀i,i<bs.length->a.1.getD i zv=zj->(i:Int)∈a.2\/∀x∈pq bs i,a.1.getD x.toNat zv=zj) (λa=>2*cntF a.1+a.2.length)
  ⟨⟨by simp,by rw[wG (by rw[hz];exact h0)];simp,λx N=>?_,λS s0 _ i T w=>?_⟩,?_,λi T w=>.inl ?_⟩ λa ⟨U,hsz,h2⟩=>?_
 .rw [X1]at N;subst N;refine⟨by omega,?_⟩;rw[wG (by rw[hz];exact h0)];simp
 .simp only at w;rw[wG (by rw[hz];exact h0)]at w;split at w
  .rename_i e;rw[e];exact s0
  .rw [getD_at _ (by rw[hz];exact T)]at w;simp at w
 .have J:=WC (l:=List.replicate ((bs.length:Int)).toNat zv) (k:=0) (by rw[hz];exact h0) (by rw[getD_at _ (by rw[hz];exact h0)];simp);have:cntF (List.replicate ((bs.length:Int)).toNat zv)=bs.length:=by simp[cntF,List.count_replicate]
  simp only[W4,vA];omega
 .simp only at w;rw[wG (by rw[hz];exact h0)]at w;split at w
  .rename_i e;simp[e]
  .rw [getD_at _ (by rw[hz];exact T)]at w;simp at w
 obtain⟨m,st⟩:=a;simp only at U h2 hsz;refine dA (λhne=>?_) (λhe=>aG ?_)
 rotate_left
 .have:st=[]:=by simpa using he
  subst this;exact⟨U,λi T w=>(h2 i T w).resolve_left (by simp)⟩
 have hpos:0<st.length:=by simpa using hne
 have hw:bP ((st.length:Int)-1)=((st.length-1:Nat):Int):=by rw[aF (by omega)];omega
 simp only[hw,Q4];refine bK nZ (bK (by simp) ?_);have L:st.getD (st.length-1) 0∈st:=by rw[getD_at _ (by omega)];exact X2 _
 have K:st=st.take (st.length-1)++[st.getD (st.length-1) 0]:=by rw[getD_at _ (by omega),<-take_snoc (by omega),show st.length-1+1=st.length from by omega,K7]
 obtain⟨hx1,Y⟩:=U.stk _ L;generalize st.getD (st.length-1) 0=x at L K hx1 Y ⊢;obtain⟨q,rfl⟩ :∃n:Nat,x=n:=⟨x.toNat,by omega⟩;rw[Q4]at Y;have hq:q<bs.length:=by omega
 have htl:(st.take (st.length-1)).length=st.length-1:=by simp
 generalize st.take (st.length-1)=H at K htl ⊢;refine bK nZ ?_;simp only[Q4];refine d_ (WB _ _ _ _) ?_;have axJ:=YF hE hq;have asL:succs (bs.getD q aB).cu (bs.getD q aB).gu (bs.getD q aB).dM=pq bs q:=rfl;rw[asL];refine bG (λy=>Mk bs y.1 y.2/\2*cntF y.1+y.2.length<=2*cntF m+H.length/\y.2.length+cntF y.1<=H.length+cntF m/\(∀i,i<bs.length->m.getD i zv=zj->y.1.getD i zv=zj)/\(∀z∈H,z∈y.2)/\
   (∀i,i<bs.length->y.1.getD i zv=zj->m.getD i zv=zv->(i:Int)∈y.2)/\∀x∈pq bs q,y.1.getD x.toNat zv=zj) ?_ λy ⟨a1,a2,a3,a4,a5,a6,a7⟩=>aG ⟨⟨a1,?_,λi T w=>?_⟩,?_⟩
 .have hm0:Mk bs m H:=⟨U.len,U.zero,λx N=>U.stk x (by rw[K];exact W6 _ N),U.all⟩;refine Ym (pq bs q) (λnm a=>(nm,a.1,a.2)) (λa x=>if a.1.getD x.toNat zv then a else(a.1.set x.toNat zj,a.2++[x]))
   (λnm a=>Mk bs a.1 a.2/\2*cntF a.1+a.2.length<=2*cntF m+H.length/\a.2.length+cntF a.1<=H.length+cntF m/\(∀i,i<bs.length->m.getD i zv=zj->a.1.getD i zv=zj)/\(∀z∈H,z∈a.2)/\
    (∀i,i<bs.length->a.1.getD i zv=zj->m.getD i zv=zv->(i:Int)∈a.2)/\∀j,(Z:j<(pq bs q).length)->j<nm->a.1.getD ((pq bs q)[j]).toNat zv=zj)
   (s0:=(m,H)) rfl ⟨hm0,YY _,YY _,λ_ _ h=>h,λ_ h=>h,λi _ h h'=>(by rw[h]at h';cases h'),λj _ h=>by omega⟩ (λnm h a ⟨X,b2,b3,b4,b5,b6,b7⟩ _=>?_) (λa ⟨X,b2,b3,b4,b5,b6,b7⟩ _=>?_)
  rotate_left
  .refine bW (ZS (by simp only;omega)) (aG ⟨X,b2,b3,b4,b5,b6,λx N=>?_⟩);obtain⟨j,Z,e⟩:=Wz N;rw[<-e];exact b7 j Z Z
  obtain⟨mk,sk⟩:=a;simp only at X b2 b3 b4 b5 b6 b7;have hs2:(pq bs q).length<=2:=by unfold pq succs;(repeat' split)<;>simp
  have M:=X2 h;have hxr:=axJ _ M;have hlen:=X.len;refine goT (W5 (by simp only;omega)) (bK (aQ.2 ⟨by simp only;omega,by simp only;omega⟩) ?_);have e:(pq bs q).getD nm 0=(pq bs q)[nm]:=getD_at _ h;simp only[Q4,e];have hnew :∀(mk':List Bool) (b':Nat),b'<bs.length->mk'.getD b' zv=zj->True:=λ_ _ _ _=>trivial;refine bK nZ ?_;generalize hgx:(pq bs q)[nm]=x at M hxr ⊢;have hxl:x.toNat<mk.length:=by omega
  refine bG (λy=>y=if mk.getD x.toNat zv then(mk,sk)else(mk.set x.toNat zj,sk++[x])) ?_ λy hy=>?_
  .refine dA (λJ=>?_) (λJ=>aG ?_)
   .have J:mk.getD x.toNat zv=zv:=by simpa using J
    refine bK (aQ.2 ⟨by omega,by omega⟩) ?_;refine bK nZ (bK (aQ.2 ⟨by omega,by omega⟩) (bK (by unfold aX;simp;omega) (aG ?_)));rw[Qt (by rw[J];simp)]
   .have J:mk.getD x.toNat zv=zj:=by simpa using J
    rw[QQ J]
  .subst hy;refine aG ⟨by rw[aF (x:=(nm:Int)+1) (by omega)],?_⟩;by_cases J:mk.getD x.toNat zv=zj
   .simp only[QQ J];refine⟨X,b2,b3,b4,b5,b6,λj Z hji=>?_⟩;by_cases e2:j=nm
    .subst e2;rw[hgx];exact J
    .exact b7 j Z (by omega)
   .simp only[Qt J];have hcf:mk.getD x.toNat zv=zv:=by simpa using J
    have hcnt:=WC hxl hcf;have B :∀z,(mk.set x.toNat zj).getD z zv=if z=x.toNat then zj else mk.getD z zv:=λz=>wG hxl
    refine⟨⟨by simp[hlen],?_,λz hz=>?_,λS s0 hcl z hz w=>?_⟩,by simp;omega,by simp;omega,λz hz w=>?_,λz hz=>W6 _ (b5 z hz),λz hz w hf=>?_,λj Z hji=>?_⟩
    .rw [B];split
     .rfl
     .exact X.zero
    .rcases Ys.1 hz with hz|hz
     .obtain ⟨r1,r2⟩:=X.stk z hz;refine⟨r1,?_⟩;rw[B];split
      .rfl
      .exact r2
     .rw [X1]at hz;subst hz;refine⟨hxr,?_⟩;rw[B,QQ rfl]
    .rw [B]at w;split at w
     .rename_i e2;rw[e2];exact hcl q hq (U.all S s0 hcl q hq Y) x M
     .exact X.all S s0 hcl z hz w
    .rw [B];split
     .rfl
     .exact b4 z hz w
    .rw [B]at w;split at w
     .rename_i e2;refine UV _ ?_;rw[X1];omega
     .exact W6 _ (b6 z hz w hf)
    .rw [B];by_cases e2:j=nm
     .subst e2;rw[hgx,QQ rfl]
     .split;rfl;exact b7 j Z (by omega)
 .have:st.length=H.length+1:=by rw[K];simp
  (try simp only);omega
 .try simp only at w ⊢
  cases hmb:m.getD i zv with
  |false=>exact .inl (a6 i T w hmb)
  |true=>
   by_cases e:i=q
   .subst e;exact .inr a7
   .rcases h2 i T hmb with h|h
    .rw [K]at h;rcases Ys.1 h with h|h;exact .inl (a5 _ h);rw[X1]at h;omega
    .refine .inr λx N=>?_;have:=YF hE T x N;exact a4 x.toNat (by omega) (h x N)
 .have:st.length=H.length+1:=by rw[K];simp
  (try simp only);omega
def Good(f:aS):Prop:=f.blocks.length<=1000/\0<f.blocks.length/\Ad f.blocks/\adp f.blocks
def idx(m:List Bool):Nat->List Nat
 |0=>[]
 |i+1=>idx m i++if m.getD i zv then[i]else[]
def rk(m:List Bool)(i:Nat):Nat:=(idx m i).length
theorem aa_(m:List Bool)(i:Nat):rk m (i+1)=rk m i+if m.getD i zv then 1 else 0:=by show (idx m i++if m.getD i zv then[i]else[]).length=(idx m i).length+_;rw[XS];split<;>rfl
theorem E8{m:List Bool}:∀{n j:Nat},j∈idx m n->j<n/\m.getD j zv=zj
 |n+1,j,h=>by
  rcases Ys.1 h with h|h
  .have:=E8 h;exact⟨by omega,this.2⟩
  .split at h
   .rename_i e;rw[X1]at h;subst h;exact⟨by omega,e⟩
   .cases h
theorem Ny{m:List Bool}:∀{n j:Nat},j<n->m.getD j zv=zj->(idx m n)[rk m j]?=zw j
 |n+1,j,h,q=>by
  unfold idx;by_cases e:j=n
  .subst e;show (idx m j++if m.getD j zv then[j]else[])[(idx m j).length]?=_;rw[Wc (YY _),QQ q,Nat.sub_self];rfl
  .have:=Ny (n:=n) (by omega) q;rw[Wf (Q3.1 this).1];exact this
theorem ag5(m:List Bool)(i:Nat):rk m i<=i:=by
 induction i with
 |zero=>exact YY _
 |succ i h=>rw[aa_];split<;>omega
def ren(m:List Bool)(t:aN):aN:=
 { t with gu:=if t.cu=3 then t.gu else(rk m t.gu.toNat:Int),dM:=if t.cu=2 then(rk m t.dM.toNat:Int)else t.dM }
def yH(m:List Bool)(bs:List aN):List aN:=(idx m bs.length).map λj=>ren m (bs.getD j aB)
variable{b:Nat}
theorem E_:((bs.getD b aB).cu=1\/(bs.getD b aB).cu=2->(bs.getD b aB).gu∈pq bs b)/\((bs.getD b aB).cu=2->(bs.getD b aB).dM∈pq bs b):=by
 unfold pq succs;constructor
 .intro h;split;simp
  first
  |(rw[QQ h];simp)
  |simp
 .intro h;split;simp;rename_i j
  first
   |rw[QQ (.inr h)]
   |skip
  have:(bs.getD b aB).dM=(bs.getD b aB).gu:=Decidable.byContradiction λe=>j ⟨h,e⟩;rw[this];exact X1.2 rfl
theorem adq{m:List Bool}(hE:Ad bs)(h0:0<bs.length)(hM:Mk bs m [])(hc :∀b,b<bs.length->m.getD b zv=zj->∀x∈pq bs b,m.getD x.toNat zv=zj):
  0<(yH m bs).length/\(yH m bs).length<=bs.length/\Ad (yH m bs)/\adp (yH m bs):=by
 have L:(yH m bs).length=rk m bs.length:=by unfold yH rk;simp
 have H :∀j,j<bs.length->m.getD j zv=zj->rk m j<(yH m bs).length:=by intro j B y;have:=(Q3.1 (Ny B y)).1;rw[L];exact this
 have w :∀p,p<(yH m bs).length->∃j,j<bs.length/\m.getD j zv=zj/\rk m j=p/\(yH m bs).getD p aB=ren m (bs.getD j aB):=by
  intro p M;have J:p<(idx m bs.length).length:=by unfold yH at M;simpa using M
  have y:=E8 (X2 J);refine⟨(idx m bs.length)[p],y.1,y.2,?_,?_⟩
  .have h1:=Ny y.1 y.2;have key :∀n,∀a b:Nat,(idx m n)[a]?=(idx m n)[b]?->a<(idx m n).length->a=b:=by
    intro n
    induction n with
    |zero=>intro a b _ h;simp[idx]at h
    |succ n ih=>
     intro a b q U;unfold idx at q U;by_cases hn:m.getD n zv=zj
     .rw [QQ hn]at q U;rw[XS]at U;by_cases K:a<(idx m n).length
      .rw [Wf K]at q;by_cases z:b<(idx m n).length
       .rw [Wf z]at q;exact ih a b q K
       .rw [Wc (by omega),Q2 K]at q;have hbb:b-(idx m n).length=0:=by have:=(Q3.1 q.symm).1;simp at this;omega
        rw[hbb]at q;have:=E8 (X2 K);simp at q;omega
      .have haa:a=(idx m n).length:=by simp at U;omega
       rw[Wc (by omega),haa,Nat.sub_self]at q;by_cases z:b<(idx m n).length
       .rw [Wf z,Q2 z]at q;have:=E8 (X2 z);simp at q;omega
       .rw [Wc (by omega)]at q;have:=(Q3.1 q.symm).1;simp at this;omega
     .rw [Qt hn,K6]at q U;exact ih a b q U
   refine(key bs.length p _ ?_ J).symm;rw[h1,Q2 J]
  .unfold yH;rw[Q1,Z0,Q2 J];rfl
 have hz:rk m 0=0:=rfl;refine⟨by have:=H 0 h0 hM.zero;omega,by rw[L];exact ag5 _ _,⟨λp M=>?_,λp M=>?_⟩,λS s0 hS p M=>?_⟩
 .obtain ⟨j,B,y,_,e⟩:=w p M;obtain⟨e1,e2⟩:=hE.1 j B;have hk:=hE.2 j B;have hs:=E_ (bs:=bs) (b:=j);rw[e];unfold ren;simp only;refine⟨λX=>?_,λN=>?_⟩
  .rw [Qt X];have:=H _ (by have:=e1 X;omega) (hc j B y _ (hs.1 (by omega)));omega
  .rw [QQ N];have:=H _ (by have:=e2 N;omega) (hc j B y _ (hs.2 N));omega
 .obtain ⟨j,B,y,_,e⟩:=w p M;rw[e];exact hE.2 j B
 .obtain ⟨j,B,y,hr,_⟩:=w p M;have:=hM.all (λb=>m.getD b zv=zj/\S (rk m b)) ⟨hM.zero,s0⟩ (λb hb ⟨T,hbS⟩ x hx=>⟨hc b hb T x hx,?_⟩) j B y
  .rw [<-hr];exact this.2
  .have Y:=H b hb T;obtain⟨j',hj',hm',hr',e'⟩:=w _ Y;have hjb:j'=b:=by have h1:=Ny hj' hm';have h2:=Ny hb T;rw[hr',h2]at h1;exact(Wt h1).symm
   subst hjb;obtain⟨Z,c2⟩:=hS _ Y hbS;rw[e']at Z c2;unfold ren at Z c2;simp only at Z c2;unfold pq succs at hx;split at hx
   .rename_i hk;rcases Xs.1 hx with rfl|hx
    .have:=Z (by omega);rw[Qt (by omega)]at this;simpa using this
    .rw [X1]at hx;subst hx;have:=c2 hk.1;rw[QQ hk.1]at this;simpa using this
   .split at hx
    .rename_i hk;rw[X1]at hx;subst hx;have:=Z (by omega);rw[Qt (by omega)]at this;simpa using this
    .cases hx
theorem ag6(m:List Bool)(i:Nat):idx m (i+1)=idx m i++if m.getD i zv then[i]else[]:=rfl
theorem YG{b:Int}(L:Ad bs)(Y:0<bs.length)(hl:bs.length<=1000000):
  Ok (f49 s b i bs) λy=>y.1=s/\y.2.1=b/\y.2.2.1=i/\0<y.2.2.2.length/\y.2.2.2.length<=bs.length/\Ad y.2.2.2/\adp y.2.2.2/\∀x∈y.2.2.2,∃t∈bs,x.instrs=t.instrs/\x.cu=t.cu/\x.lN=t.lN:=by
 unfold f49;refine bG _ (WE L Y hl) λm ⟨Z,hc⟩=>?_;have M:=Z.len;refine bK (o7.2 (by omega)) ?_;refine bG (λy=>y.length=bs.length/\∀j,j<bs.length->y.getD j 0=(rk m j:Int)) ?_ λnums ⟨hn1,H⟩=>?_
 .refine bF (λa:Int×Int×List Int=>∃nm:Nat,a.2.1=nm/\nm<=bs.length/\a.1=(rk m nm:Int)/\a.2.2.length=bs.length/\∀j,j<nm->a.2.2.getD j 0=(rk m j:Int)) (λa=>bs.length-a.2.1.toNat)
   ⟨0,rfl,by omega,rfl,by simp[M],λj h=>by omega⟩ λa ⟨nm,e1,e2,e3,N,T⟩=>?_
  obtain⟨k,i',l⟩:=a;simp only at e1 e3 N T;subst e1;subst e3;refine dA (λz=>?_) (λz=>aG ⟨N,λj J=>T j ?_⟩)
  rotate_left
  .simp at z;omega
  have z:nm<bs.length:=by simp at z;omega
  have U:=ag5 m nm;refine bK (aQ.2 ⟨by simp only;omega,by simp only;omega⟩) (bK (aQ.2 ⟨by simp only;omega,by simp only;omega⟩) ?_);simp only[Q4];refine bG (λy=>y=(rk m (nm+1):Int)) ?_ λy B=>?_
  .rw [aa_];refine dA (λw=>aG ?_) (λw=>aG ?_)
   .rw [QQ w,aF (by omega)];simp
   .rw [Qt (by rw[w];simp)];simp
  .subst B;refine aG ⟨⟨nm+1,by simp only;rw[aF (x:=(nm:Int)+1) (by omega)];simp,by omega,rfl,by simp[N],λj J=>?_⟩,by simp only;rw[aF (x:=(nm:Int)+1) (by omega)];omega⟩;simp only;rw[ag4 (by omega)];split
   .rename_i e;rw[e]
   .exact T j (by omega)
 refine bG (λy=>y=(s,b,i,yH m bs)) ?_ λy B=>?_
 rotate_left
 .subst B;obtain⟨c1,c2,c3,c4⟩:=adq L Y Z hc;exact aG ⟨rfl,rfl,rfl,c1,c2,c3,c4,λx hx=>by obtain⟨j,J,e⟩:=XN.1 hx;have J:=(E8 J).1;exact⟨bs.getD j aB,by rw[getD_at _ J];exact X2 _,by subst e;exact⟨rfl,rfl,rfl⟩⟩⟩
 refine bF (λa:Int×List UInt8×Int×Int×List aN=>∃nm:Nat,nm<=bs.length/\a=((nm:Int),s,b,i,(idx m nm).map λj=>ren m (bs.getD j aB))) (λa=>bs.length-a.1.toNat)
  ⟨0,by omega,rfl⟩ λa ⟨nm,e2,e⟩=>?_
 subst e;refine dA (λz=>?_) (λz=>aG ?_)
 rotate_left
 .have:nm=bs.length:=by simp at z;omega
  subst this;rfl
 have z:nm<bs.length:=by simp at z;omega
 have U:=ag5 m nm;refine bG (λy=>y=(s,b,i,(idx m (nm+1)).map λj=>ren m (bs.getD j aB))) ?_ λy B=>?_
 rotate_left
 .subst B;refine aG ⟨⟨nm+1,by omega,?_⟩,by simp only;rw[aF (x:=(nm:Int)+1) (by omega)];omega⟩;simp only;rw[aF (x:=(nm:Int)+1) (by omega)];rfl
 refine bK (aQ.2 ⟨by simp only;omega,by simp only;omega⟩) ?_;simp only[Q4];rw[ag6];refine dA (λw=>aG ?_) (λw=>?_)
 .have w:m.getD nm zv=zv:=by simpa using w
  rw[Qt (by rw[w];simp),K6]
 have w:m.getD nm zv=zj:=by simpa using w
 rw[QQ w];obtain⟨t1,t2⟩:=L.1 nm z;refine bK nZ ?_;have jl:ren m (bs.getD nm aB)={ bs.getD nm aB with gu:=if(bs.getD nm aB).cu=3 then(bs.getD nm aB).gu else(rk m (bs.getD nm aB).gu.toNat:Int),dM:=if(bs.getD nm aB).cu=2 then(rk m (bs.getD nm aB).dM.toNat:Int)else(bs.getD nm aB).dM }:=rfl;have K:(idx m nm++[nm]).map (λj=>ren m (bs.getD j aB))=(idx m nm).map (λj=>ren m (bs.getD j aB))++[ren m (bs.getD nm aB)]:=by simp
 have X:((idx m nm).map λj=>ren m (bs.getD j aB)).length=rk m nm:=by unfold rk;simp
 rw[K];generalize (idx m nm).map (λj=>ren m (bs.getD j aB))=acc at X ⊢;rw[jl];refine bG (λy=>y=((bs.getD nm aB).instrs,(bs.getD nm aB).cu,(bs.getD nm aB).lN,(if(bs.getD nm aB).cu=3 then(bs.getD nm aB).gu else(rk m (bs.getD nm aB).gu.toNat:Int)),(bs.getD nm aB).dM,(bs.getD nm aB).line,(bs.getD nm aB).iJ,(bs.getD nm aB).h_)) ?_ λy B=>?_
 .refine dA (λq=>?_) (λq=>aG ?_)
  .have q:¬ (bs.getD nm aB).cu=3:=by simpa using q
   have:=t1 q;refine bK nZ (aG ?_);rw[Qt q,H _ (by omega)]
  .have q:(bs.getD nm aB).cu=3:=by simpa using q
   rw[QQ q]
 subst B;refine bG (λy=>y=((bs.getD nm aB).instrs,(bs.getD nm aB).cu,(bs.getD nm aB).lN,(if(bs.getD nm aB).cu=3 then(bs.getD nm aB).gu else(rk m (bs.getD nm aB).gu.toNat:Int)),(if(bs.getD nm aB).cu=2 then(rk m (bs.getD nm aB).dM.toNat:Int)else(bs.getD nm aB).dM),(bs.getD nm aB).line,(bs.getD nm aB).iJ,(bs.getD nm aB).h_)) ?_ λy B=>?_
 .refine dA (λq=>?_) (λq=>aG ?_)
  .have q:(bs.getD nm aB).cu=2:=by simpa using q
   have:=t2 q;refine bK (aQ.2 ⟨by simp only;omega,by simp only;omega⟩) (aG ?_);simp only;rw[QQ q,H _ (by omega)]
  .have q:¬ (bs.getD nm aB).cu=2:=by simpa using q
   (try simp only)
   rw[Qt q]
 subst B;refine bK (by unfold aX;simp;omega) (aG rfl)
def Bytes(l:List Int):Prop:=l.length<=9223372036854775807/\∀x∈l,0<=x/\x<=255
theorem bytes_at(h:Bytes l){b:Int}(j:0<=b)(m:b<l.length):0<=l.getD b.toNat 0/\l.getD b.toNat 0<=255:=by rw[getD_at 0 (by omega)];exact h.2 _ (X2 _)
def WG(n:Int)(l:List Int)(y:Int×(List Int×Int)):Prop:=y.2.1=l/\0<=y.2.2/\0<=y.1/\(1<=n->y.1<n)/\(n<=1->y.1=0)
theorem Qg{rec:Int->List Int->Int->Option (Int×(List Int×Int))}{n:Int}(q:Bytes l)(hi:0<=i)(hn:n<=65536)
  (m:256<n->∀j,0<=j->Ok (rec 256 l j) (WG 256 l)):Ok (ajE rec n l i) (WG n l):=by
 unfold ajE;simp only[JE,Yl,AP,afQ,aae,VP,aQ,not_iff];have tail:(n≥1)->i<l.length->(0<=i/\i<(l.length:Int))/\(256<n->Ok (rec 256 l (bP (i+1))) λy=>¬ n=0/\WG n l (Int.tmod (bP (bP (256*bP (l.getD i.toNat 0))+y.1)) n,y.2.1,y.2.2))/\(¬ 256<n->¬ n=0/\WG n l (Int.tmod (bP (l.getD i.toNat 0)) n,l,bP (i+1))):=by
  intro w z;have H:=bytes_at q hi z;have J:=q.1;rw[aF (x:=i+1) (by omega),aF (x:=l.getD i.toNat 0) (by omega),aF (x:=256*l.getD i.toNat 0) (by omega)];refine⟨⟨hi,z⟩,λB=>lC (m B (i+1) (by omega)) λy K=>?_,λB=>⟨by omega,?_⟩⟩
  .obtain ⟨q1,q2,q3,q4,q5⟩:=K;have q4:=q4 (by omega);rw[aF (by omega)];refine⟨by omega,q1,q2,?_⟩;have:=tmod_lt (a:=256*l.getD i.toNat 0+y.1) (b:=n) (by omega) (by omega);exact⟨this.1,λ_=>this.2,λ_=>by omega⟩
  .have:=tmod_lt (a:=l.getD i.toNat 0) (b:=n) H.1 (by omega);refine⟨rfl,by simp;omega,this.1,λ_=>this.2,λ_=>?_⟩;have e:n=1:=by omega
   subst e;have:=this.2;have:=this;simp only;omega
 refine⟨λh=>⟨λ_=>⟨rfl,hi,Vn _,λh=>by simp only;omega,λ_=>rfl⟩,λL=>by cases L⟩,λh=>⟨λw=>⟨rfl,hi,Vn _,λh=>by simp only;omega,λ_=>rfl⟩,λw=>?_⟩⟩;exact tail (by omega) (by omega)
theorem Qh(k:Nat):ajF (k+1)=ajE (ajF k):=rfl
theorem akC{b:Int}(m:Bytes l)(hi:0<=i)(hn:b<=65536):Ok (f24 b l i) (WG b l):=by have e:f24 b l i=ajF (1048574+2) b l i:=rfl;rw[e,Qh];refine Qg m hi hn λ_ j q=>?_;rw[Qh];exact Qg m q (by omega) λh=>absurd h (by omega)
theorem aoJ{b:Int}(j:Bytes l)(hn:0<=b):Ok (f7 l b) λy=>y.2=0/\Bytes y.1:=by unfold f7;simp only[JE,Yl,AP,afQ,aae,VP,Nj];refine⟨λh=>⟨⟨⟨by omega,hn⟩,by omega⟩,trivial,?_⟩,λh=>⟨trivial,j⟩⟩;simp only[vA,List.drop_zero];exact⟨by have:=j.1;simp;omega,λx m=>j.2 x (Wl m)⟩
theorem adr(k:Nat):Yu (k+1)=ajH (Yu k):=rfl
theorem I9:∀(k:Nat) (n:Int),0<=n->n<k->k<=1048576->Ok (Yu k n) λs=>s.length<=k
 |0,n,j,m,_=>by omega
 |k+1,n,j,m,w=>by
  rw[adr];unfold ajH;refine dA (λh=>?_) (λh=>aG (by simp));have h:10<=n:=by simpa using h
  have hd:Int.tdiv n 10=n/10:=Int.tdiv_eq_ediv_of_nonneg j;have q:bP (Int.tdiv n 10)=n/10:=by rw[hd];exact aF (by omega)
  rw[q];refine bG _ (I9 k (n/10) (by omega) (by omega) (by omega)) λy z=>bK (pU.2 (by simp;omega)) (aG (by simp;omega))
theorem ads{b:Int}(h:0<=b)(j:b<1048576):Ok (f47 b) λs=>s.length<=1048576:=I9 _ b h j (YY _)
theorem goN{β:Type}{b:Int}{f:Int×List Int×Int->Option β}{Q:β->Prop}(h:Bytes l)(hi:0<=i)(hn:b<=65536)
  (k :∀x j,0<=j->0<=x->(1<=b->x<b)->Ok (f (x,l,j)) Q):Ok (Option.bind (f24 b l i) f) Q:=
 bG _ (akC h hi hn) λ⟨x,m,j⟩ ⟨(e:m=l),q,w,y,_⟩=>by subst e;exact k x j q w y
theorem iM{α:Type}{l:List α}{v d:α}(j:n<l.length):(l.set n v).getD a d=if a=n then v else l.getD a d:=by
 rw[Q1,Q1];by_cases h:a=n
 .subst h;rw[vQ j,QQ rfl];rfl
 .rw [List.getElem?_set_ne (λe=>h e.symm),Qt h]
variable{α:Type}
theorem aoK{a b:A}{x:Option α}{Q:α->Prop}:Ok (zG a b x) Q↔a=b/\Ok x Q:=by
 unfold zG;split
 .rename_i e;exact⟨λh=>⟨e,h⟩,λh=>h.2⟩
 .rename_i e;exact⟨λ⟨_,h,_⟩=>(by cases h),λh=>absurd h.1 e⟩
theorem goK{a b:A}{x:Option α}{Q:α->Prop}(e:a=b)(h:Ok x Q):Ok (zG a b x) Q:=aoK.2 ⟨e,h⟩
def jw(fs:List aH):List (List UInt8×Nat):=fs.map λf=>(f.name,f.params.length)
def PG(a:Bool)(g:List aC)(nm:List UInt8):Prop :=∃x∈g,x.name=nm/\decide (0<x.size)=a
def NV(g:List aC)(lo:List (List UInt8))(nm:List UInt8):Prop:=nm∈lo\/PG zv g nm
inductive RX(g:List aC)(sg:List (List UInt8×Nat))(lo:List (List UInt8)):Nat->aW->Prop
 |leaf {n:Nat} {k o v i:Int} {nm:List UInt8}:k=1\/k=12->RX g sg lo (n+1) (aW.mk k o v i nm [])
 |name {n:Nat} {o v i:Int} {nm:List UInt8}:NV g lo nm->RX g sg lo (n+1) (aW.mk 13 o v i nm [])
 |func {n:Nat} {o v i:Int} {nm:List UInt8} {q:Nat}:(nm,q)∈sg->RX g sg lo (n+1) (aW.mk 11 o v i nm [])
 |elem {n:Nat} {o v i:Int} {nm:List UInt8} {a:aW}:PG zj g nm->RX g sg lo n a->RX g sg lo (n+1) (aW.mk 4 o v i nm [a])
 |un {n:Nat} {o v i:Int} {nm:List UInt8} {a:aW}:o=1\/o=2->RX g sg lo n a->RX g sg lo (n+1) (aW.mk 5 o v i nm [a])
 |bin {n:Nat} {o v i:Int} {nm:List UInt8} {a b:aW}:3<=o/\o<=11->RX g sg lo n a->RX g sg lo n b->RX g sg lo (n+1) (aW.mk 6 o v i nm [a,b])
 |lazy {n:Nat} {k o v i:Int} {nm:List UInt8} {a b:aW}:k=7\/k=8->RX g sg lo n a->RX g sg lo n b->RX g sg lo (n+1) (aW.mk k o v i nm [a,b])
 |call {n:Nat} {o v i:Int} {nm:List UInt8} {ar:List aW}:1<=n->(nm,ar.length)∈sg\/NV g lo nm->ar.length<=2->(∀y∈ar,RX g sg lo n y)->RX g sg lo (n+1) (aW.mk 9 o v i nm ar)
 |value {n:Nat} {o v i:Int} {nm:List UInt8} {f:aW} {ar:List aW}:ar.length<=2->RX g sg lo n f->(∀y∈ar,RX g sg lo n y)->RX g sg lo (n+1) (aW.mk 10 o v i nm (f::ar))
theorem NV.mono{g:List aC}{lo:List (List UInt8)}(m :∀x∈lo,x∈L)(h:NV g lo s):NV g L s:=h.imp (m s) id
variable{x:aW}
theorem RX.up{g:List aC}{sg:List (List UInt8×Nat)}{lo:List (List UInt8)}(h:RX g sg lo n x):RX g sg lo (n+1) x:=by
 induction h with
 |leaf h=>exact .leaf h
 |name h=>exact .name h
 |func h=>exact .func h
 |elem h _ j=>exact .elem h j
 |un h _ j=>exact .un h j
 |bin h _ _ i1 i2=>exact .bin h i1 i2
 |lazy h _ _ i1 i2=>exact .lazy h i1 i2
 |call m q w _ j=>exact .call (by omega) q w j
 |value m _ _ i1 i2=>exact .value m i1 i2
structure Env(l:List Int)(g:List aC)(fs:List aH)(lo:List (List UInt8)):Prop where
 b:Bytes l
 g:g.length<=100
 f0:0<fs.length
 f1:fs.length<=100
 fp :∀f∈fs,f.params.length<=2
 lo:lo.length<=100
section
variable {l:List Int} {g:List aC} {fs:List aH} {lo:List (List UInt8)}
theorem akD{b:Int}(h:Env l g fs lo)(hi:0<=i):Ok (aaH u b l i g fs lo) λy=>∃nm t j,0<=j/\(t=zj->PG u g nm)/\y=(nm,t,b,l,j,g,fs,lo):=by
 unfold aaH;refine bG (λy=>∃nm t j,0<=j/\(t=zj->PG u g nm)/\y=(nm,t,b,l,j,g,fs,lo)) ?_ λy ⟨nm,t,j,z,hn,e⟩=>by subst e;exact bK (by simp) (bK (by simp) (bK (by simp) (aG ⟨nm,t,j,z,hn,rfl⟩)))
 have hg:=h.g;refine bG (λs=>s.length<=100/\∀x∈s,PG u g x) ?_ λs ⟨Z,hn⟩=>?_
 .refine bF (λs:Int×List (List UInt8)=>(0<=s.1/\s.1<=g.length/\s.2.length<=s.1)/\∀x∈s.2,PG u g x) (λs=>(g.length-s.1).toNat) ⟨⟨by simp,by simp,by simp⟩,λx hx=>by cases hx⟩ λ⟨q,s⟩ ⟨⟨B,N,T⟩,w⟩=>?_;simp only at B N T w;refine dA (λm=>?_) (λm=>aG ⟨by simp only;omega,w⟩);have m:q<g.length:=by simpa using m
  have H:g.getD q.toNat (aC.mk bM 0)∈g:=by rw[getD_at _ (by omega:q.toNat<g.length)];exact X2 _
  refine bK (aQ.2 ⟨B,m⟩) (bG (λJ=>J.length<=s.length+1/\∀x∈J,PG u g x) ?_ λJ ⟨U,K⟩=>aG ⟨⟨⟨?_,?_,?_⟩,K⟩,?_⟩)
  .refine dA (λX=>bK (aQ.2 ⟨B,m⟩) (bK (by unfold aX;simp;omega) (aG ⟨by simp,λx hx=>?_⟩))) λ_=>aG ⟨by simp,w⟩;rcases Ys.1 hx with hx|hx;exact w x hx;rw[X1]at hx;subst hx;exact⟨_,H,rfl,by simpa using X⟩
  all_goals simp only[aF (x:=q+1) (by omega)];omega
 refine dA (λ_=>aG ⟨_,_,_,hi,λh=>(by cases h),rfl⟩) λm=>?_;have M:0<s.length:=by
  simp at m;cases s with
  |nil=>exact absurd rfl m
  |cons u s=>simp
 refine goN h.b hi (by omega) λx j z Y L=>bK (aQ.2 ⟨Y,L (by omega)⟩) (aG ⟨_,_,_,z,λ_=>?_,rfl⟩);have L:=L (by omega);exact hn _ (by rw[getD_at _ (by omega:x.toNat<s.length)];exact X2 _)
theorem goP{β:Type}{b:Int}{f:List UInt8×Bool×Int×List Int×Int×List aC×List aH×List (List UInt8)->Option β}{Q:β->Prop}(h:Env l g fs lo)(hi:0<=i)
  (k :∀nm t j,0<=j->(t=zj->PG u g nm)->Ok (f (nm,t,b,l,j,g,fs,lo)) Q):Ok (Option.bind (f146 u b l i g fs lo) f) Q:=by
 refine bG (λy=>∃nm t j,0<=j/\(t=zj->PG u g nm)/\y=(nm,t,b,l,j,g,fs,lo)) ?_ λy ⟨nm,t,j,m,hn,e⟩=>by subst e;exact k nm t j m hn
 exact bG _ (akD h hi) λy ⟨nm,t,j,m,hn,e⟩=>by subst e;exact goK rfl (goK rfl (goK rfl (aG ⟨nm,t,j,m,hn,rfl⟩)))
theorem akE{b:Int}(h:Env l g fs lo)(hi:0<=i):Ok (aaI b l i g fs lo) λy=>∃k v nm j,0<=j/\RX g (jw fs) lo 1 (aW.mk k 0 v 0 nm [])/\y=(k,0,v,0,nm,b,l,j,g,fs,lo):=by
 unfold aaI;refine bG (λy=>∃k v nm j,0<=j/\RX g (jw fs) lo 1 (aW.mk k 0 v 0 nm [])/\y=(k,0,v,0,nm,b,l,j,g,fs,lo)) ?_ λy ⟨k,v,nm,j,m,B,e⟩=>by subst e;exact bK (by simp) (bK (by simp) (bK (by simp) (aG ⟨k,v,nm,j,m,B,rfl⟩)))
 refine goN h.b hi (by omega) λN j0 q _ _=>dA (λ_=>aG ⟨12,_,_,_,q,.leaf (.inr rfl),rfl⟩) λ_=>iH (λy=>∃j,0<=j/\y=(b,l,j)) ?_ λy ⟨j,m,e⟩=>?_
 .refine dA (λ_=>goP h q λnm t j m hn=>dA (λH=>aG ⟨13,_,_,_,m,.name (.inr (hn H)),rfl⟩) λ_=>aG ⟨_,m,rfl⟩) λ_=>bG (λ_=>True) ?_ λs _=>iH (λ_=>True) ?_ λ_ _=>aG ⟨_,q,rfl⟩
  .exact dA (λ_=>aG trivial) λ_=>aG trivial
  .refine dA (λ_=>dA (λ_=>goN h.b q (by have:=h.lo;omega) λx j m J a2=>?_) λ_=>aG trivial) λ_=>aG trivial;rename_i w;have w:0<lo.length:=by simpa using w
   have a2:=a2 (by omega);exact bK (aQ.2 ⟨J,a2⟩) (aG ⟨13,_,_,_,m,.name (.inl (by rw[getD_at _ (by omega:x.toNat<lo.length)];exact X2 _)),rfl⟩)
 subst e;refine goN h.b m (by omega) λT j1 K _ _=>goN h.b K (by omega) λU j2 z _ _=>bG (λy=>∃v j,0<=j/\y=(v,l,j)) ?_ λy ⟨v,j,m,e⟩=>by subst e;exact aG ⟨1,_,_,_,m,.leaf (.inl rfl),rfl⟩
 exact dA (λ_=>goN h.b z (by omega) λX j3 L a3 M=>bK (aQ.2 ⟨a3,by have:=M (by omega);simp;omega⟩) (aG ⟨_,_,L,rfl⟩)) λ_=>aG ⟨_,_,z,rfl⟩
theorem goL{β:Type}{b:Int}{f:Int×Int×Int×Int×List UInt8×Int×List Int×Int×List aC×List aH×List (List UInt8)->Option β}{Q:β->Prop}(h:Env l g fs lo)(hi:0<=i)
  (k :∀q v nm j,0<=j->RX g (jw fs) lo 1 (aW.mk q 0 v 0 nm [])->Ok (f (q,0,v,0,nm,b,l,j,g,fs,lo)) Q):Ok (Option.bind (f151 b l i g fs lo) f) Q:=by
 refine bG (λy=>∃k v nm j,0<=j/\RX g (jw fs) lo 1 (aW.mk k 0 v 0 nm [])/\y=(k,0,v,0,nm,b,l,j,g,fs,lo)) ?_ λy ⟨q,v,nm,j,m,w,e⟩=>by subst e;exact k q v nm j m w
 exact bG _ (akE h hi) λy ⟨q,v,nm,j,m,w,e⟩=>by subst e;exact goK rfl (goK rfl (goK rfl (aG ⟨q,v,nm,j,m,w,rfl⟩)))
theorem RX.ag7{g:List aC}{sg:List (List UInt8×Nat)}{lo:List (List UInt8)}(h:RX g sg lo 1 x):∀n,RX g sg lo (n+1) x
 |0=>h
 |n+1=>(h.ag7 n).up
def PE(n:Nat)(b:Int)(l:List Int)(g:List aC)(fs:List aH)(lo:List (List UInt8))(y:Int×Int×Int×Int×List UInt8×List aW×Int×List Int×Int×List aC×List aH×List (List UInt8)):Prop:=∃x j,y=(x.kind,x.op,x.value,x.line,x.name,x.args,b,l,j,g,fs,lo)/\0<=j/\RX g (jw fs) lo n x
def PC(n:Nat)(b:Int)(l:List Int)(g:List aC)(fs:List aH)(lo:List (List UInt8))(y:Int×Int×Int×Int×List UInt8×Int×List Int×Int×List aC×List aH×List (List UInt8)×List aW):Prop:=∃x j,y=(x.kind,x.op,x.value,x.line,x.name,b,l,j,g,fs,lo,x.args)/\0<=j/\RX g (jw fs) lo n x
theorem abb{b:Int}{r}(h:Ok r (PE n i l g fs lo)):Ok (akd b i l v g fs lo r) (PE n i l g fs lo):=bG _ h λy ⟨x,j,e,h⟩=>by subst e;exact goK rfl (goK rfl (goK rfl (aG ⟨x,j,rfl,h⟩)))
theorem abd{b:Int}{r}(h:Ok r (PC n i l g fs lo)):Ok (ake b i l v g fs lo r) (PC n i l g fs lo):=bG _ h λy ⟨x,j,e,h⟩=>by subst e;exact goK rfl (goK rfl (goK rfl (aG ⟨x,j,rfl,h⟩)))
theorem goX{β:Type}{rec:SA}{d:Nat}(h :∀i v,0<=v->Ok (rec d i l v g fs lo) (PE a i l g fs lo)){b:Int}{f}{Q:β->Prop}(m:b=d)(hi:0<=v)
  (k :∀k o q v nm ar j,0<=j->RX g (jw fs) lo a (aW.mk k o q v nm ar)->Ok (f (k,o,q,v,nm,ar,i,l,j,g,fs,lo)) Q):Ok (Option.bind (rec b i l v g fs lo) f) Q:=by
 subst m;exact bG _ (h i v hi) λy ⟨⟨B,a2,a3,a4,a5,H⟩,j,e,w,z⟩=>by subst e;exact k _ _ _ _ _ _ j w z
theorem asN{β:Type}{rec:SB}{d:Nat}(h :∀i v,0<=v->Ok (rec d i l v g fs lo) (PC a i l g fs lo)){b:Int}{f}{Q:β->Prop}(m:b=d)(hi:0<=v)
  (k :∀k o q v nm ar j,0<=j->RX g (jw fs) lo a (aW.mk k o q v nm ar)->Ok (f (k,o,q,v,nm,i,l,j,g,fs,lo,ar)) Q):Ok (Option.bind (rec b i l v g fs lo) f) Q:=by
 subst m;exact bG _ (h i v hi) λy ⟨⟨B,a2,a3,a4,a5,H⟩,j,e,w,z⟩=>by subst e;exact k _ _ _ _ _ _ j w z
theorem Qi{rec:SA}{J:SB}(h:Env l g fs lo)(hd:n<=100)(hr :∀b i,0<=i->Ok (rec n b l i g fs lo) (PE (n+1) b l g fs lo)){b:Int}(hi:0<=i):
  Ok (aaS rec J (n+1:Nat) b l i g fs lo) (PC (n+2) b l g fs lo):=by
 have hw:bP (((n+1:Nat):Int)-1)=n:=by rw[aF (by omega)];omega
 have hf0:=h.f0;have hf1:=h.f1;unfold aaS;refine bG (PC (n+2) b l g fs lo) ?_ λy ⟨x,j,e,h⟩=>by subst e;exact bK (by simp) (bK (by simp) (bK (by simp) (aG ⟨x,j,rfl,h⟩)))
 refine goN h.b hi (by omega) λw j0 h0 a0 N=>bK (aQ.2 ⟨a0,N (by omega)⟩) (goN h.b h0 (by omega) λK j1 h1 a1 b1=>?_);have N:=N (by omega);have L:fs.getD w.toNat bQ∈fs:=by rw[getD_at _ (by omega:w.toNat<fs.length)];exact X2 _
 have M:((fs.getD w.toNat bQ).name,(fs.getD w.toNat bQ).params.length)∈jw fs:=XN.2 ⟨_,L,rfl⟩;have hp2:=h.fp _ L;refine bG (λy=>∃t j,0<=j/\(decide (K=2)=zv->t=zv)/\y=(t,l,j)) ?_ λy ⟨t,j2,h2,ht,e⟩=>?_
 .exact dA (λB=>goN h.b h1 (by omega) λx j m _ _=>aG ⟨_,_,m,λh=>Bool.noConfusion (h.symm.trans B),rfl⟩) λ_=>aG ⟨_,_,h1,λ_=>rfl,rfl⟩
 subst e;refine bG (λy=>∃(q:Int) (j:Int),0<=j/\(0<=q/\q<=2)/\(t=zv->q=(fs.getD w.toNat bQ).params.length)/\y=(q,l,j)) ?_ λy ⟨q,j3,h3,T,U,e⟩=>?_
 .refine dA (λB=>goN h.b h2 (by omega) λx j m c0 c=>aG ⟨x,_,m,⟨c0,by have:=c (by omega);omega⟩,λh=>Bool.noConfusion (h.symm.trans B),rfl⟩) λ_=>aG ⟨_,_,h2,?_,λ_=>rfl,rfl⟩;show 0<=((fs.getD w.toNat bQ).params.length:Int)/\((fs.getD w.toNat bQ).params.length:Int)<=2;omega
 subst e;refine bG (λy=>∃j ar,0<=j/\(ar.length:Int)=q/\(∀x∈ar,RX g (jw fs) lo (n+1) x)/\y=(b,l,j,ar)) ?_ λy ⟨j4,ar,h4,l1,X,e⟩=>?_
 .refine bF (λs:Int×Int×List Int×Int×List aW=>∃j,0<=j/\0<=s.1/\s.1<=q/\(s.2.2.2.2.length:Int)=s.1/\(∀x∈s.2.2.2.2,RX g (jw fs) lo (n+1) x)/\s=(s.1,b,l,j,s.2.2.2.2)) (λs=>(q-s.1).toNat)
   ⟨j3,h3,by simp,T.1,by simp,λx H=>(by cases H),rfl⟩ λ⟨c,b',l',j',ar⟩ ⟨j,m,e1,e2,e3,Y,e⟩=>?_
  simp only at e1 e2 e3 Y;injection e with _ e;injection e with f1 e;injection e with f2 e;injection e with f3 e
  subst f1;subst f2;subst f3;refine dA (λB=>?_) (λB=>aG ⟨j',ar,m,by have:¬ c<q:=(by simpa using B);omega,Y,rfl⟩);have B:c<q:=by simpa using B
  refine goX hr hw m λ_ _ _ _ _ _ j m H=>bK (by unfold aX;simp;omega) (aG ⟨⟨j,m,?_,?_,?_,λz hz=>?_,rfl⟩,?_⟩)
  all_goals try simp only[aF (x:=c+1) (by omega)]
  .omega
  .omega
  .simp;omega
  .rcases Ys.1 hz with hz|hz;exact Y z hz;rw[X1]at hz;subst hz;exact H
  .omega
 subst e;refine dA (λhn=>aG ⟨aW.mk 9 0 0 0 _ ar,j4,rfl,h4,.call (by omega) (.inl ?_) (by omega) X⟩) λ_=>goN h.b h4 (by omega) λZ j5 h5 _ _=>?_
 .have hn:decide (K=2)=zv:=by simpa using hn
  have:=U (ht hn);rw[show ar.length=(fs.getD w.toNat bQ).params.length from by omega];exact M
 refine bG (λy=>∃x j,0<=j/\RX g (jw fs) lo (n+1) x/\y=(b,l,j,x.kind,x.op,x.value,x.line,x.name,x.args)) ?_ λy ⟨⟨K,x2,x3,x4,Z,x6⟩,j6,h6,H,e⟩=>?_
 .refine dA (λ_=>goX hr hw h5 λ_ _ _ _ _ _ j m H=>aG ⟨aW.mk _ _ _ _ _ _,j,m,H,rfl⟩) λ_=>aG ⟨aW.mk 11 0 0 0 _ qV,j5,h5,.func M,rfl⟩
 subst e;refine dA (λhk=>aG ⟨aW.mk 9 0 0 0 Z ar,j6,rfl,h6,.call (by omega) (.inr ?_) (by omega) X⟩) λ_=>bK (by unfold aX;simp;omega) (aG ⟨aW.mk 10 0 0 0 bM (aW.mk K x2 x3 x4 Z x6::ar),j6,rfl,h6,.value (by omega) H X⟩);have hk:K=13:=by simpa using hk
 subst hk;cases H with
 |leaf h=>omega
 |name h=>exact h
 |lazy h _ _=>omega
theorem adt{rec:SA}{z:SB}(h:Env l g fs lo)(hd:n<=100)(B :∀b i,0<=i->Ok (rec n b l i g fs lo) (PE (n+1) b l g fs lo))
  (N :∀b i,0<=i->Ok (z (n+1:Nat) b l i g fs lo) (PC (n+2) b l g fs lo)) {b:Int} (hi:0<=i) :
  Ok (Qd rec z (n+1:Nat) b l i g fs lo) (PE (n+2) b l g fs lo):=by
 have H:bP (((n+1:Nat):Int)-1)=n:=by rw[aF (by omega)];omega
 unfold Qd;refine bG (PE (n+2) b l g fs lo) ?_ λy ⟨x,j,e,h⟩=>by subst e;exact bK (by simp) (bK (by simp) (bK (by simp) (aG ⟨x,j,rfl,h⟩)))
 refine bG (λy=>∃t j,0<=j/\y=(t,l,j)) ?_ λy ⟨t,j2,M,e⟩=>?_
 .exact dA (λ_=>aG ⟨_,_,hi,rfl⟩) λ_=>goN h.b hi (by omega) λx j m _ _=>aG ⟨_,_,m,rfl⟩
 subst e;refine dA (λ_=>goL h M λq v L j m T=>aG ⟨aW.mk q 0 v 0 L [],j,rfl,m,T.ag7 _⟩) λ_=>goN h.b M (by omega) λx3 j3 J _ _=>?_;refine dA (λ_=>goN h.b J (by omega) λx4 j4 U a4 X=>goX B H U λ_ _ _ _ _ _ j m w=>d_ rfl (aG ⟨aW.mk 5 _ 0 0 bM [_],j,rfl,m,.un (by have:=X (by omega);rw[aF (by omega)];omega) w⟩)) λ_=>?_;refine dA (λ_=>goX B H J λ_ _ _ _ _ _ j m w=>goX B H m λ_ _ _ _ _ _ j m K=>d_ rfl (aG ⟨aW.mk 7 _ 0 0 bM [_,_],j,rfl,m,.lazy (.inl rfl) w K⟩)) λ_=>?_;refine dA (λ_=>goX B H J λ_ _ _ _ _ _ j m w=>goX B H m λ_ _ _ _ _ _ j m K=>d_ rfl (aG ⟨aW.mk 8 _ 0 0 bM [_,_],j,rfl,m,.lazy (.inr rfl) w K⟩)) λ_=>?_;refine bG (λ_=>True) ?_ λs _=>?_
 .exact dA (λ_=>aG trivial) λ_=>aG trivial
 refine dA (λ_=>asN N rfl J λ_ _ _ _ _ _ j m w=>aG ⟨aW.mk _ _ _ _ _ _,j,rfl,m,w⟩) λ_=>iH (λy=>∃j,0<=j/\y=(b,l,j)) ?_ λy ⟨j,m,e⟩=>?_
 .exact dA (λ_=>goP h J λL t j m hn=>dA (λY=>goX B H m λ_ _ _ _ _ _ j m w=>aG ⟨aW.mk 4 0 0 0 L [_],j,rfl,m,.elem (hn Y) w⟩) λ_=>aG ⟨_,m,rfl⟩) λ_=>aG ⟨_,J,rfl⟩
 subst e;exact goN h.b m (by omega) λx5 j5 Z a5 b5=>goX B H Z λ_ _ _ _ _ _ j m w=>goX B H m λ_ _ _ _ _ _ j m K=>d_ rfl (aG ⟨aW.mk 6 _ 0 0 bM [_,_],j,rfl,m,.bin (by have:=b5 (by omega);rw[aF (by omega)];omega) w K⟩)
theorem adu{rec:SA}{m:SB}(h:Env l g fs lo){b:Int}(hi:0<=i):Ok (Qd rec m (0:Nat) b l i g fs lo) (PE 1 b l g fs lo):=by
 unfold Qd;refine bG (PE 1 b l g fs lo) ?_ λy ⟨x,j,e,h⟩=>by subst e;exact bK (by simp) (bK (by simp) (bK (by simp) (aG ⟨x,j,rfl,h⟩)))
 refine bG (λy=>y=(zj,l,i)) ?_ λy e=>?_
 .exact goT (W5 (by simp)) (aG rfl)
 subst e;exact goT rfl (goL h hi λq v w j z B=>aG ⟨aW.mk q 0 v 0 w [],j,rfl,z,B⟩)
theorem Qj(n:Nat):(qx (n+1)).1=Qd (aaT n) (aaU n):=rfl
theorem Qk(n:Nat):(qx (n+1)).2=aaS (aaT n) (aaU n):=rfl
theorem Ae(h:Env l g fs lo):∀d:Nat,d<=100->∀n,2*d+1<=n->(∀b i,0<=i->Ok (aaT n d b l i g fs lo) (PE (d+1) b l g fs lo))/\∀e,e+1=d->∀b i,0<=i->Ok (aaU n d b l i g fs lo) (PC (d+1) b l g fs lo)
 |_,_,0,hn=>by omega
 |0,_,n+1,hn=>⟨λb i j=>abb (by rw[Qj];exact adu h j),λe y=>by omega⟩
 |d+1,hd,n+1,hn=>by have w:=Ae h d (by omega) n (by omega);obtain⟨m,rfl⟩ :∃m,n=m+1:=⟨n-1,by omega⟩;have q:=Ae h d (by omega) m (by omega);refine⟨λb i j=>abb (by rw[Qj];exact adt h (by omega) w.1 (λb i j=>abd (by rw[Qk];exact Qi h (by omega) q.1 j)) j),λe y b i j=>abd (by rw[Qk];exact Qi h (by omega) w.1 j)⟩
end
def frN:List (List UInt8):=[[97],[98],[99],[100],[101],[102],[105],[107]]
inductive Ch{S:Type}(P:List (List UInt8)->S->List (List UInt8)->Nat->Nat->Prop):List (List UInt8)->List S->List (List UInt8)->Nat->Nat->Prop
 |nil {lo:List (List UInt8)}:Ch P lo [] lo 0 0
 |cons {lo l1 l2:List (List UInt8)} {s:S} {ss:List S} {c1 c2 k1 k2:Nat}:P lo s l1 c1 k1->Ch P l1 ss l2 c2 k2->Ch P lo (s::ss) l2 (c1+c2) (k1+k2)
theorem Ch.snoc{S:Type}{P:List (List UInt8)->S->List (List UInt8)->Nat->Nat->Prop}{lo l2:List (List UInt8)}{j:List S}{s:S}(h:Ch P lo j L n w)(hs:P L s l2 a k):Ch P lo (j++[s]) l2 (n+a) (w+k):=by
 induction h with
 |nil=>have:=Ch.cons hs (Ch.nil (P:=P));simpa using this
 |cons m _ q=>rw[J1,J1];exact .cons m (q hs)
inductive RS1(g:List aC)(sg:List (List UInt8×Nat))(P:List (List UInt8)->dB->List (List UInt8)->Nat->Nat->Prop)(lo:List (List UInt8)):dB->List (List UInt8)->Nat->Nat->Prop
 |var {i:Int} {nm:List UInt8} {x:aW}:nm∈frN->¬ nm∈lo->RX g sg lo 3 x->RS1 g sg P lo (dB.mk 1 i nm [x] [] []) (lo++[nm]) 1 1
 |assign {i:Int} {nm:List UInt8} {x:aW}:NV g lo nm->RX g sg lo 3 x->RS1 g sg P lo (dB.mk 2 i nm [x] [] []) lo 1 1
 |step {i o v w u i2 i3:Int} {nm n2 n3:List UInt8}:NV g lo nm->RS1 g sg P lo (dB.mk 2 i nm [aW.mk 6 3 o v n2 [aW.mk 13 w u i2 nm [],aW.mk 1 0 1 i3 n3 []]] [] []) lo 0 1
 |store {i:Int} {nm:List UInt8} {x z:aW}:PG zj g nm->RX g sg lo 2 x->RX g sg lo 3 z->RS1 g sg P lo (dB.mk 3 i nm [x,z] [] []) lo 1 1
 |if' {i:Int} {nm:List UInt8} {x:aW} {th el:List dB} {l1 l2:List (List UInt8)} {c1 c2 k1 k2:Nat}:RX g sg lo 3 x->th.length<=10->el.length<=10->Ch P lo th l1 c1 k1->Ch P l1 el l2 c2 k2->RS1 g sg P lo (dB.mk 4 i nm [x] th el) l2 (1+c1+c2) (1+k1+k2)
 |sN {i:Int} {nm:List UInt8} {x:aW} {th:List dB} {l1:List (List UInt8)} {c1 k1:Nat}:RX g sg lo 3 x->th.length<=10->Ch P lo th l1 c1 k1->RS1 g sg P lo (dB.mk 5 i nm [x] th []) l1 (1+c1) (1+k1)
 |plain {k i:Int} {nm:List UInt8} {x:aW}:k=6\/k=7\/k=8->RX g sg lo 3 x->RS1 g sg P lo (dB.mk k i nm [x] [] []) lo 1 1
def RS(g:List aC)(sg:List (List UInt8×Nat)):Nat->List (List UInt8)->dB->List (List UInt8)->Nat->Nat->Prop
 |0=>λ_ _ _ _ _=>False
 |n+1=>λlo s h c k=>RS1 g sg (RS g sg n) lo s h c k
theorem Ch.mono{S:Type}{P:List (List UInt8)->S->List (List UInt8)->Nat->Nat->Prop}(m :∀lo s l1 n a,P lo s l1 n a->∀x∈lo,x∈l1){lo l1:List (List UInt8)}{q:List S}(h:Ch P lo q l1 n a):∀x∈lo,x∈l1:=by
 induction h with
 |nil=>exact λx j=>j
 |cons k _ w=>exact λx j=>w x (m _ _ _ _ _ k x j)
theorem JQ{g:List aC}{sg:List (List UInt8×Nat)}:∀n lo s l1 c k,RS g sg n lo s l1 c k->∀x∈lo,x∈l1
 |0,_,_,_,_,_,h=>h.elim
 |n+1,lo,s,l1,c,k,h=>by
  have m:=JQ (g:=g) (sg:=sg) n;cases (show RS1 g sg (RS g sg n) lo s l1 c k from h)with
  |var _ _ _=>exact λx j=>W6 _ j
  |assign _ _=>exact λx j=>j
  |step _=>exact λx j=>j
  |store _ _ _=>exact λx j=>j
  |if' _ _ _ a b=>exact λx j=>b.mono m x (a.mono m x j)
  |sN _ _ a=>exact λx j=>a.mono m x j
  |plain _ _=>exact λx j=>j
theorem SX{g:List aC}{sg:List (List UInt8×Nat)}{lo:List (List UInt8)}{j:List dB}(h:Ch (RS g sg n) lo j L a w):∀x∈lo,x∈L:=h.mono (JQ n)
theorem qy{α:Type}{P:α->Prop}{x:α}(h:P x):∀y∈[x],P y:=λy j=>by rw[X1]at j;subst j;exact h
structure YH(k:Int)(l:List Int)(g:List aC)(fs:List aH):Prop where
 b:Bytes l
 g:g.length<=100
 f0:0<fs.length
 f1:fs.length<=100
 fp :∀f∈fs,f.params.length<=2
 k:k<=100
section
variable {kk:Int} {l:List Int} {g:List aC} {fs:List aH}
theorem YH.env(h:YH kk l g fs){lo:List (List UInt8)}(j:(lo.length:Int)<=kk):Env l g fs lo:=⟨h.b,h.g,h.f0,h.f1,h.fp,by have:=h.k;omega⟩
def PS(n:Nat)(kk:Int)(l:List Int)(g:List aC)(fs:List aH)(lo0:List (List UInt8))(b0:Int)(y:Int×Int×List UInt8×Int×List Int×Int×List aC×List aH×List aW×List dB×List dB×List (List UInt8)):Prop:=∃k i h es m el b j lo,y=(k,i,h,b,l,j,g,fs,es,m,el,lo)/\0<=j/\(0<=b/\lo.length+b<=kk)/\∃c q:Nat,RS g (jw fs) n lo0 (dB.mk k i h es m el) lo c q/\(c:Int)+b<=b0+1/\(q:Int)+2*b<=2*b0+2
def PL(n:Nat)(kk:Int)(l:List Int)(g:List aC)(fs:List aH)(lo0:List (List UInt8))(b0:Int)(y:Int×Int×List UInt8×Int×List Int×Int×List aC×List aH×List aW×List dB×List (List UInt8)):Prop:=∃k i h es m b j lo,y=(k,i,h,b,l,j,g,fs,es,m,lo)/\0<=j/\(0<=b/\lo.length+b<=kk)/\∃c q:Nat,RS g (jw fs) n lo0 (dB.mk k i h es m []) lo c q/\(c:Int)+b<=b0+1/\(q:Int)+2*b<=2*b0+2
def PB(n:Nat)(m kk:Int)(l:List Int)(g:List aC)(fs:List aH)(lo0:List (List UInt8))(b0:Int)(y:Int×List Int×Int×List aC×List aH×List dB×List (List UInt8)):Prop:=∃h b j lo,y=(b,l,j,g,fs,h,lo)/\0<=j/\(0<=b/\lo.length+b<=kk)/\(h.length<=10/\h.length<=m)/\∃c q:Nat,Ch (RS g (jw fs) n) lo0 h lo c q/\(c:Int)+b<=b0/\(q:Int)+2*b<=2*b0
theorem akF{b:Int}{lo q r}(h:Ok r (PB n i kk l g fs q p)):Ok (agX b v d l t g fs lo r) (PB n i kk l g fs q p):=bG _ h λy ⟨z,d,j,lo,e,h⟩=>by subst e;exact goK rfl (goK rfl (aG ⟨z,d,j,lo,rfl,h⟩))
theorem akG{b:Int}{lo m r}(h:Ok r (PS n kk l g fs m d)):Ok (agZ b i l v g fs lo r) (PS n kk l g fs m d):=bG _ h λy ⟨k,v,q,es,w,el,i,j,lo,e,h⟩=>by subst e;exact goK rfl (goK rfl (aG ⟨k,v,q,es,w,el,i,j,lo,rfl,h⟩))
theorem akH{b:Int}{lo m r}(h:Ok r (PL n kk l g fs m d)):Ok (ag0 b i l v g fs lo r) (PL n kk l g fs m d):=bG _ h λy ⟨k,v,q,es,w,i,j,lo,e,h⟩=>by subst e;exact goK rfl (goK rfl (aG ⟨k,v,q,es,w,i,j,lo,rfl,h⟩))
theorem akI{β:Type}{rec:OD}{d:Nat}(h :∀i v q lo,i<=4->0<=v->lo.length+v<=kk->0<=q->Ok (rec d i v l q g fs lo) (PB a (max i 0) kk l g fs lo v)){b q:Int}{lo f}{Q:β->Prop}(J:b=d)(K:i<=4)(L:0<=v)(M:lo.length+v<=kk)(hi:0<=q)
  (k :∀z B j w (c b:Nat),0<=j->0<=B->w.length+B<=kk->z.length<=4->Ch (RS g (jw fs) a) lo z w c b->(c:Int)+B<=v->(b:Int)+2*B<=2*v->Ok (f (B,l,j,g,fs,z,w)) Q):Ok (Option.bind (rec b i v l q g fs lo) f) Q:=by
 subst J;exact bG _ (h i v q lo K L M hi) λy ⟨z,v,j,lo,e,N,H,Y,c,b,T,U,X⟩=>by subst e;exact k z v j lo c b N H.1 H.2 (by omega) T U X
theorem WH{β:Type}{lo:List (List UInt8)}(h:Env l g fs lo){b:Int}{f}{Q:β->Prop}(hi:0<=i)
  (k :∀k o v i nm ar j,0<=j->RX g (jw fs) lo 3 (aW.mk k o v i nm ar)->Ok (f (k,o,v,i,nm,ar,b,l,j,g,fs,lo)) Q):Ok (Option.bind (f145 2 b l i g fs lo) f) Q:=
 goX (rec:=f145) (d:=2) (λb i hi=>(Ae h 2 (by omega) 1048576 (by omega)).1 b i hi) rfl hi k
theorem axK{β:Type}{lo:List (List UInt8)}(h:Env l g fs lo){b:Int}{f}{Q:β->Prop}(hi:0<=i)
  (k :∀k o v i nm ar j,0<=j->RX g (jw fs) lo 2 (aW.mk k o v i nm ar)->Ok (f (k,o,v,i,nm,ar,b,l,j,g,fs,lo)) Q):Ok (Option.bind (f145 1 b l i g fs lo) f) Q:=
 goX (rec:=f145) (d:=1) (λb i hi=>(Ae h 1 (by omega) 1048576 (by omega)).1 b i hi) rfl hi k
theorem axL{β:Type}{lo:List (List UInt8)}(h:Env l g fs lo){b:Int}{f}{Q:β->Prop}(hi:0<=i)
  (k :∀k o v i nm ar j,0<=j->RX g (jw fs) lo 3 (aW.mk k o v i nm ar)->Ok (f (k,o,v,i,nm,b,l,j,g,fs,lo,ar)) Q):Ok (Option.bind (f148 2 b l i g fs lo) f) Q:=
 asN (rec:=f148) (d:=2) (λb i hi=>(Ae h 2 (by omega) 1048576 (by omega)).2 1 rfl b i hi) rfl hi k
theorem ag8{b:Int}{lo:List (List UInt8)}(T:lo.length<=100):Ok (f143 b l i g fs lo) λy=>∃nm t,(t=zj->nm∈frN/\¬ nm∈lo)/\y=(nm,t,b,l,i,g,fs,lo):=by
 refine bG (λy=>∃nm t,(t=zj->nm∈frN/\¬ nm∈lo)/\y=(nm,t,b,l,i,g,fs,lo)) ?_ λy ⟨nm,t,hn,e⟩=>by subst e;exact goK rfl (goK rfl (goK rfl (aG ⟨nm,t,hn,rfl⟩)))
 unfold agR;refine bG (λy=>∃nm t,(t=zj->nm∈frN/\¬ nm∈lo)/\y=(nm,t,b,l,i,g,fs,lo)) ?_ λy ⟨nm,t,hn,e⟩=>by subst e;exact bK (by simp) (bK (by simp) (bK (by simp) (aG ⟨nm,t,hn,rfl⟩)))
 refine d_ (y:=frN) rfl ?_;refine iH (λ_=>True) ?_ λ_ _=>aG ⟨_,_,λh=>(by cases h),rfl⟩;have q:frN.length=8:=rfl;refine bF (λs:Int=>0<=s/\s<=8) (λs=>(8-s).toNat) ⟨by simp,by simp⟩ λs ⟨w,J⟩=>?_;refine dA (λz=>?_) λ_=>aG trivial;have z:s<8:=by simpa[q]using z
 refine bG (λu=>u=zv->∀k,k<lo.length->lo.getD k bM≠frN.getD s.toNat bM) ?_ λy B=>?_
 .refine bF (λt:Bool×Int=>(0<=t.2/\t.2<=lo.length)/\(t.1=zv->∀k:Nat,(k:Int)<t.2->lo.getD k bM≠frN.getD s.toNat bM)) (λt=>(lo.length-t.2).toNat) ⟨⟨by simp,by simp⟩,λ_ k m=>by simp only at m;omega⟩ λ⟨u,t⟩ ⟨⟨w,J⟩,H⟩=>?_;simp only at w J H;refine dA (λj=>?_) λj=>aG λhu k m=>H hu k (by have:¬ t<lo.length:=(by simpa using j);omega);have j:t<lo.length:=by simpa using j
  refine bG (λy=>y=zv->u=zv/\lo.getD t.toNat bM≠frN.getD s.toNat bM) ?_ λy B=>aG ⟨⟨⟨?_,?_⟩,λe k m=>?_⟩,?_⟩
  .exact dA (λhu=>aG λh=>by cases h) λhu=>bK (aQ.2 ⟨w,j⟩) (bK (aQ.2 ⟨by assumption,by rw[q];exact z⟩) (aG λh=>⟨hu,λe=>by simp only[e]at h;simp at h⟩))
  .simp only[aF (x:=t+1) (by omega)];omega
  .simp only[aF (x:=t+1) (by omega)];omega
  .obtain ⟨K,L⟩:=B e;simp only[aF (x:=t+1) (by omega)]at m;by_cases U:(k:Int)=t
   .rw [show k=t.toNat from by omega];exact L
   .exact H K k (by omega)
  .simp only[aF (x:=t+1) (by omega)];omega
 .refine dA (λM=>bK (aQ.2 ⟨w,by rw[q];exact z⟩) (aG ⟨_,_,λ_=>⟨?_,λN=>?_⟩,rfl⟩)) λ_=>aG ⟨?_,?_⟩
  .rw [getD_at _ (by rw[q];omega:s.toNat<frN.length)];exact X2 _
  .obtain ⟨k,m,e⟩:=Wz N;have:=B (by simpa using M) k m;rw[getD_at _ m,e]at this;exact this rfl
  all_goals simp only[aF (x:=s+1) (by omega)];omega
theorem YI{rec:OD}{H:VZ}{U:V3}{b:Int}(h:YH kk l g fs)(X :∀v d lo,0<=v->lo.length+v+1<=kk->0<=d->Ok (H b v l d g fs lo) (PS n kk l g fs lo v))
   {lo} (hm:i<=4) (Y:0<=v) (Z:lo.length+v<=kk) (hi:0<=d):Ok (aaV rec H U b i v l d g fs lo) (PB n (max i 0) kk l g fs lo v):=by
 unfold aaV;refine bG (PB n (max i 0) kk l g fs lo v) ?_ λy ⟨B,v,j,lo,e,h⟩=>by subst e;exact bK (by simp) (bK (by simp) (aG ⟨B,v,j,lo,rfl,h⟩))
 refine bG (λy=>∃z j B w,y=(z,l,j,B,w)/\0<=j/\(0<=z/\w.length+z<=kk)/\((B.length:Int)<=max i 0)/\∃c q:Nat,Ch (RS g (jw fs) n) lo B w c q/\(c:Int)+z<=v/\(q:Int)+2*z<=2*v) ?_ λy ⟨z,j,B,w,e,J,K,L,N⟩=>by subst e;exact aG ⟨B,z,j,w,rfl,J,K,⟨by omega,L⟩,N⟩
 refine bF (λs:Int×Int×List Int×Int×List dB×List (List UInt8)=>∃q z j B w,s=(q,z,l,j,B,w)/\0<=j/\(0<=z/\w.length+z<=kk)/\(B.length:Int)=q/\q<=max i 0/\∃c q:Nat,Ch (RS g (jw fs) n) lo B w c q/\(c:Int)+z<=v/\(q:Int)+2*z<=2*v) (λs=>(max i 0-s.1).toNat)
  ⟨0,v,d,[],lo,rfl,hi,⟨Y,Z⟩,rfl,by omega,0,0,.nil,by omega,by omega⟩ λs ⟨q,z,j,B,w,e,J,⟨K,L⟩,N,h5,c0,q0,T,h7,h8⟩=>?_
 subst e;refine bG (λt=>t=zj->q<i/\0<z) ?_ λt ht=>dA (λe=>?_) λ_=>aG ⟨z,j,B,w,rfl,J,⟨K,L⟩,by omega,c0,q0,T,h7,h8⟩
 .exact dA (λh=>aG λh'=>⟨by simpa using h,by simpa using h'⟩) λ_=>aG λh=>by cases h
 obtain⟨t1,t2⟩:=ht e;rw[show bP (z-1)=z-1 from aF (by have:=h.k;omega)];refine bG _ (X (z-1) j w (by omega) (by omega) J) λy ⟨k,i',nm,es,th,el,b2,j',M,e,c1,c2,c3,c4,c5,c6,c7⟩=>?_;subst e;have hk:=h.k;refine bK (by unfold aX;simp;omega) (aG ⟨⟨_,b2,j',_,M,rfl,c1,c2,?_,?_,_,_,T.snoc c5,?_,?_⟩,?_⟩)
 all_goals try simp only[aF (x:=q+1) (by omega)]
 .simp;omega
 .omega
 .omega
 .omega
 .omega
theorem adv{rec:OD}{J:VZ}{wH:V3}(h:YH kk l g fs)(hd:n<=100)(hr :∀m b i lo,m<=4->0<=b->lo.length+b<=kk->0<=i->Ok (rec n m b l i g fs lo) (PB (a+1) (max m 0) kk l g fs lo b))
  {b:Int} {lo} (hb:0<=b) (hl:lo.length+b<=kk) (hi:0<=i):Ok (aaX rec J wH (n+1:Nat) b l i g fs lo) (PL (a+2) kk l g fs lo b):=by
 have hw:bP (((n+1:Nat):Int)-1)=n:=by rw[aF (by omega)];omega
 have U:=h.env (lo:=lo) (by omega);have hlo:=U.lo;unfold aaX;refine bG (PL (a+2) kk l g fs lo b) ?_ λy ⟨k,i,H,es,th,b,j,lo,e,h⟩=>by subst e;exact bK (by simp) (bK (by simp) (aG ⟨k,i,H,es,th,b,j,lo,rfl,h⟩))
 refine goP U hi λH t j0 h0 X=>bG (λy=>∃u j,0<=j/\(u=zj->0<lo.length)/\y=(u,l,j)) ?_ λy ⟨u,j,w,hu,e⟩=>?_
 .refine dA (λK=>goN h.b h0 (by omega) λx j w _ _=>aG ⟨_,_,w,λ_=>by simpa using K,rfl⟩) λ_=>aG ⟨_,_,h0,λh=>(by cases h),rfl⟩
 subst e;refine bG (λy=>∃H t j,0<=j/\(t=zj->NV g lo H)/\y=(H,t,l,j)) ?_ λy ⟨H,t,j,w,hn,e⟩=>?_
 .refine dA (λK=>goN h.b w (by omega) λx j w a1 a2=>?_) λ_=>aG ⟨_,_,_,w,λY=>.inr (X Y),rfl⟩;have a2:=a2 (by have:=hu K;omega);exact bK (aQ.2 ⟨a1,a2⟩) (aG ⟨_,_,_,w,λ_=>.inl (by rw[getD_at _ (by omega:x.toNat<lo.length)];exact X2 _),rfl⟩)
 subst e;refine bG (λy=>∃Z j,0<=j/\(Z=zv->t=zj)/\y=(Z,l,j)) ?_ λy ⟨Z,j,w,Y,e⟩=>?_
 .exact dA (λ_=>aG ⟨_,_,w,λh=>(by cases h),rfl⟩) λK=>goN h.b w (by omega) λx j w _ _=>aG ⟨_,_,w,λ_=>by simpa using K,rfl⟩
 subst e;refine dA (λ_=>WH U w λ_ _ _ _ _ _ j w hx=>d_ rfl (goN h.b w (by omega) λx j w a1 a2=>akI hr hw ?_ hb hl w λss B j z c q c1 c2 c3 c4 T L M=>aG ⟨5,_,_,[_],ss,B,j,z,rfl,c1,⟨c2,c3⟩,_,_,.sN hx (by omega) T,by have L:(c:Int)+B<=b:=L;omega,by have M:(q:Int)+2*B<=2*b:=M;omega⟩)) λhf=>?_
 .have a2:=a2 (by omega);show bP (1+x)<=4;rw[aF (by omega)];omega
 have N:=hn (Y hf);refine goN h.b w (by omega) λx j w _ _=>d_ rfl (d_ rfl (goN h.b w (by omega) λx2 j2 h2 _ b2=>akI hr hw (by have:=b2 (by omega);omega) hb hl h2 λss B j z c q c1 c2 c3 c4 T L M=>d_ rfl (d_ rfl (bK (by unfold aX;simp;omega) (aG ⟨5,_,_,[_],ss++[_],B,j,z,rfl,c1,⟨c2,c3⟩,_,_,.sN (.bin (show 3<=(8:Int)/\(8:Int)<=11 by omega) (.name N) (.leaf (.inl rfl))) (by simp;omega) (T.snoc (show RS g (jw fs) (a+1) z _ z 0 1 from .step (N.mono λx hx=>SX T x hx))),by have L:(c:Int)+B<=b:=L;omega,by have M:(q:Int)+2*B<=2*b:=M;omega⟩)))))
end
section
variable {kk:Int} {l:List Int} {g:List aC} {fs:List aH}
theorem adw{rec:OD}{Y:VZ}{wH:V3}(h:YH kk l g fs)(hd:n<=100)(hr :∀e:Nat,e+1=n->∀m b i lo,m<=4->0<=b->lo.length+b<=kk->0<=i->Ok (rec e m b l i g fs lo) (PB (e+1) (max m 0) kk l g fs lo b))
  (hp:0<n->∀b i lo,0<=b->lo.length+b<=kk->0<=i->Ok (wH n b l i g fs lo) (PL (n+1) kk l g fs lo b))
  {b:Int} {lo} (L:0<=b) (hl:lo.length+b+1<=kk) (hi:0<=i):Ok (aaW rec Y wH n b l i g fs lo) (PS (n+1) kk l g fs lo b):=by
 have H:=h.env (lo:=lo) (by omega);have hlo:=H.lo;unfold aaW;refine bG (PS (n+1) kk l g fs lo b) ?_ λy ⟨k,i,N,es,th,el,b,j,lo,e,h⟩=>by subst e;exact bK (by simp) (bK (by simp) (aG ⟨k,i,N,es,th,el,b,j,lo,rfl,h⟩))
 refine goN h.b hi (by omega) λx0 j0 J _ _=>bG (λ_=>True) ?_ λs3 _=>?_
 .exact dA (λ_=>aG trivial) λ_=>aG trivial
 refine iH (λy=>∃j,0<=j/\y=(b,l,j)) ?_ λy ⟨j,w,e⟩=>?_
 rotate_left
 .subst e;exact WH H w λ_ _ _ _ _ _ j w z=>d_ rfl (aG ⟨7,_,_,[_],[],[],b,j,lo,rfl,w,⟨L,by omega⟩,1,1,.plain (by omega) z,by omega,by omega⟩)
 refine dA (λ_=>bG _ (ag8 hlo) λy ⟨N,t,hn,e⟩=>?_) λ_=>iH (λy=>∃j,0<=j/\y=(b,l,j)) ?_ λy ⟨j,w,e⟩=>(by subst e;exact aG ⟨j,w,rfl⟩)
 .subst e;refine dA (λU=>WH H J λ_ _ _ _ _ _ j w z=>d_ rfl (bK (by unfold aX;simp;omega) (aG ⟨1,_,_,[_],[],[],b,j,lo++[N],rfl,w,⟨L,by simp;omega⟩,1,1,.var (hn U).1 (hn U).2 z,by omega,by omega⟩))) λ_=>aG ⟨_,J,rfl⟩
 refine dA (λ_=>dA (λZ=>goN h.b J (by omega) λx j w a1 a2=>?_) λ_=>aG ⟨_,J,rfl⟩) λ_=>iH (λy=>∃j,0<=j/\y=(b,l,j)) ?_ λy ⟨j,w,e⟩=>(by subst e;exact aG ⟨j,w,rfl⟩)
 .have a2:=a2 (by have:0<lo.length:=(by simpa using Z);omega);have hv:NV g lo (lo.getD x.toNat bM):=.inl (by rw[getD_at _ (by omega:x.toNat<lo.length)];exact X2 _);exact bK (aQ.2 ⟨a1,a2⟩) (WH H w λ_ _ _ _ _ _ j w z=>d_ rfl (aG ⟨2,_,_,[_],[],[],b,j,lo,rfl,w,⟨L,by omega⟩,1,1,.assign hv z,by omega,by omega⟩))
 refine dA (λ_=>goP H J λN t j w hn=>dA (λU=>WH H w λ_ _ _ _ _ _ j w z=>d_ rfl (aG ⟨2,_,_,[_],[],[],b,j,lo,rfl,w,⟨L,by omega⟩,1,1,.assign (.inr (hn U)) z,by omega,by omega⟩)) λ_=>aG ⟨_,w,rfl⟩) λ_=>iH (λy=>∃j,0<=j/\y=(b,l,j)) ?_ λy ⟨j,w,e⟩=>(by subst e;exact aG ⟨j,w,rfl⟩);refine dA (λ_=>goP H J λN t j w hn=>dA (λU=>axK H w λ_ _ _ _ _ _ j w z=>WH H w λ_ _ _ _ _ _ j w hz=>aG ⟨3,_,_,[_,_],[],[],b,j,lo,rfl,w,⟨L,by omega⟩,1,1,.store (hn U) z hz,by omega,by omega⟩) λ_=>aG ⟨_,w,rfl⟩) λ_=>bG (λ_=>True) ?_ λs3 _=>iH (λ_=>True) ?_ λ_ _=>aG ⟨_,J,rfl⟩
 .exact dA (λ_=>aG trivial) λ_=>aG trivial
 refine dA (λ_=>dA (λZ=>?_) λ_=>aG trivial) λ_=>iH (λ_=>True) ?_ λ_ _=>aG trivial
 .obtain ⟨e,rfl⟩ :∃e,n=e+1:=⟨n-1,by have:0<n:=(by simpa using Z);omega⟩;have hw:bP (((e+1:Nat):Int)-1)=e:=by rw[aF (by omega)];omega
  have hr:=hr e rfl;have M :∀x:Int,0<=x->(1<=(2:Int)->x<2)->bP (1+x)<=4:=λx h1 X=>by have:=X (by omega);rw[aF (by omega)];omega
  refine WH H J λ_ _ _ _ _ _ j w z=>d_ rfl (goN h.b w (by omega) λx1 j1 h1 a1 b1=>akI hr hw (M _ a1 b1) L (show (lo.length:Int)+b<=kk by omega) h1 λss b' j lo' c q c1 T c3 c4 c5 c6 c7=>goN h.b c1 (by omega) λx2 j2 X a2 K=>?_);have c6:(c:Int)+b'<=b:=c6;have c7:(q:Int)+2*b'<=2*b:=c7;refine bG (λy=>∃K j B el,y=(K,l,j,4,0,bM,B,el)/\0<=j/\(0<=K/\B.length+K<=kk)/\el.length<=4/\∃T q2:Nat,Ch (RS g (jw fs) (e+1)) lo' el B T q2/\(T:Int)+K<=b'/\(q2:Int)+2*K<=2*b') ?_ λy ⟨K,j,B,el,e',d1,d2,d3,e2,q2,d4,d5,d6⟩=>by subst e';exact aG ⟨4,_,_,[_],ss,el,K,j,B,rfl,d1,d2,_,_,.if' z (by omega) (by omega) c5 d4,by omega,by omega⟩
  exact dA (λ_=>goN h.b X (by omega) λx3 j3 h3 a3 b3=>akI hr hw (M _ a3 b3) T c3 h3 λss K j B e2 q2 c1 T c3 c4 c5 c6 c7=>aG ⟨K,j,B,ss,rfl,c1,⟨T,c3⟩,c4,e2,q2,c5,c6,c7⟩) λ_=>aG ⟨b',j2,lo',[],rfl,X,⟨T,c3⟩,by simp,0,0,.nil,by omega,by omega⟩
 refine dA (λ_=>dA (λZ=>bG _ (hp (by simpa using Z) b j0 lo L (by omega) J) λy ⟨k,i,N,es,th,b,j,lo,e,h1,X,h3⟩=>by subst e;exact aG ⟨k,i,N,es,th,[],b,j,lo,rfl,h1,X,h3⟩) λ_=>aG trivial) λ_=>dA (λ_=>?_) λ_=>aG trivial;exact goN h.b J (by omega) λx j w _ _=>dA (λ_=>WH H w λ_ _ _ _ _ _ j w z=>d_ rfl (aG ⟨6,_,_,[_],[],[],b,j,lo,rfl,w,⟨L,by omega⟩,1,1,.plain (by omega) z,by omega,by omega⟩)) λ_=>axL H w λ_ _ _ _ _ _ j w z=>d_ rfl (aG ⟨8,_,_,[_],[],[],b,j,lo,rfl,w,⟨L,by omega⟩,1,1,.plain (by omega) z,by omega,by omega⟩)
theorem adx(n:Nat):(jO (n+1)).1=aaV (WA n) (aaY n) (aaZ n):=rfl
theorem ady(n:Nat):(jO (n+1)).2.1=aaW (WA n) (aaY n) (aaZ n):=rfl
theorem adz(n:Nat):(jO (n+1)).2.2=aaX (WA n) (aaY n) (aaZ n):=rfl
theorem WI(h:YH kk l g fs):∀n:Nat,(∀d:Nat,d<=100->3*d+2<=n->∀m b i lo,m<=4->0<=b->lo.length+b<=kk->0<=i->Ok (WA n d m b l i g fs lo) (PB (d+1) (max m 0) kk l g fs lo b))/\
  (∀d:Nat,d<=100->3*d+1<=n->∀b i lo,0<=b->lo.length+b+1<=kk->0<=i->Ok (aaY n d b l i g fs lo) (PS (d+1) kk l g fs lo b))/\
  (∀d:Nat,d<=100->0<d->3*d<=n->∀b i lo,0<=b->lo.length+b<=kk->0<=i->Ok (aaZ n d b l i g fs lo) (PL (d+1) kk l g fs lo b))
 |0=>⟨λd _ h=>by omega,λd _ h=>by omega,λd _ h H=>by omega⟩
 |n+1=>by
  obtain⟨i1,i2,i3⟩:=WI h n;refine⟨λd j B m b i lo y q w z=>akF (by rw[adx];exact YI h (i2 d j (by omega)) y q w z),
   λd j B b i lo y q w=>akG (by rw[ady];exact adw h j (λe J=>i1 e (by omega) (by omega)) (λhd=>i3 d j hd (by omega)) y q w),λd j B y b i lo q w z=>?_⟩
  obtain⟨e,rfl⟩ :∃e,d=e+1:=⟨d-1,by omega⟩;exact akH (by rw[adz];exact adv h (by omega) (i1 e (by omega) (by omega)) q w z)
end
theorem JR{R:Type}{body:A->Option (A ⊕ R)}{Q:R->Prop}{a:A}(j:A->Int)(q:A->List α)(I:A->Prop)(m:Nat)(L:I a)(M:(q a).length+j a<=m)(U:m<=1000)
  (h :∀a,I a->(q a).length<=m->0<j a->(q a).length+j a<=m->Ok (body a) (Nh (λw=>I w/\j w=j a-1/\(q w).length=(q a).length+1) Q))
  (N :∀a,I a->(q a).length<=m->¬ 0<j a->Ok (body a) (Nh (λ_=>False) Q)) (T:(q a).length<=m):Ok (bn body a) Q:=by
 refine bF (λa=>I a/\(q a).length<=m/\(0<j a->(q a).length+j a<=m)) (λa=>(j a).toNat) ⟨L,T,λ_=>M⟩ λa ⟨J,K,H⟩=>?_;by_cases z:0<j a
 .refine lC (h a J K z (H z)) λy B=>?_;cases y with
  |inl w=>obtain⟨g1,g2,g3⟩:=B;exact⟨⟨g1,by have:=H z;omega,λ_=>by have:=H z;omega⟩,by omega⟩
  |inr r=>exact B
 .refine lC (N a J K z) λy B=>?_;cases y with
  |inl w=>exact B.elim
  |inr r=>exact B
def digit(i:Nat):UInt8:=UInt8.ofNat (48+i)
theorem AU(h:n<10):f47 (n:Int)=zw [digit n]:=by
 show Yu 1048576 (n:Int)=_;rw[show Yu 1048576=ajH (Yu 1048575) from rfl];have hn:n=0\/n=1\/n=2\/n=3\/n=4\/n=5\/n=6\/n=7\/n=8\/n=9:=by omega
 rcases hn with rfl|rfl|rfl|rfl|rfl|rfl|rfl|rfl|rfl|rfl<;>rfl
def amg:List UInt8:=[109,97,105,110]
def PN(ps:List (List UInt8)):Prop:=ps.length<=2/\∀k,k<ps.length->ps.getD k bM=[112,digit k]
def GN(g:List aC):Prop:=g.length<=4/\∀i,i<g.length->(g.getD i (aC.mk bM 0)).name=[103,digit i]/\0<=(g.getD i (aC.mk bM 0)).size/\(g.getD i (aC.mk bM 0)).size<=5
def FN(fs:List aH):Prop:=(0<fs.length/\fs.length<=4)/\(fs.getD 0 bQ).params=[]/\∀i,i<fs.length->(fs.getD i bQ).name=(if i=0 then amg else[102,digit i])/\PN (fs.getD i bQ).params
structure Src(g:List aC)(fs:List aH):Prop where
 gn:GN g
 fn:FN fs
 bd :∀i,i<fs.length->(fs.getD i bQ).body.length<=10/\∃lo c q,Ch (RS g (jw fs) 3) (fs.getD i bQ).params (fs.getD i bQ).body lo c q/\c<=7/\q<=14
theorem ng{α:Type}{l:List α}{x d:α}:(l++[x]).getD n d=if n<l.length then l.getD n d else if n=l.length then x else d:=by
 rw[Q1,Q1];by_cases h:n<l.length
 .rw [QQ h,Wf h]
 .rw [Qt h,Wc (by omega)];by_cases e:n=l.length
  .rw [QQ e,e];simp
  .rw [Qt e,Vv (by simp;omega)];rfl
theorem PN.snoc(h:PN j)(m:j.length<2):PN (j++[[112]++[digit j.length]]):=by
 refine⟨by simp;omega,λk ps=>?_⟩;rw[ng];simp only[XS,W4]at ps;by_cases e:k<j.length
 .rw [QQ e];exact h.2 k e
 .have:k=j.length:=by omega
  subst this;rw[Qt e,QQ rfl];rfl
theorem GN.snoc{g:List aC}(h:GN g)(w:g.length<4){b:Int}(j:0<=b)(m:b<=5):GN (g++[aC.mk ([103]++[digit g.length]) b]):=by
 refine⟨by simp;omega,λk q=>?_⟩;rw[ng];simp only[XS,W4]at q;by_cases e:k<g.length
 .rw [QQ e];exact h.2 k e
 .have:k=g.length:=by omega
  subst this;rw[Qt e,QQ rfl];exact⟨rfl,j,m⟩
theorem FN.snoc{fs:List aH}(h:FN fs)(z:fs.length<4){b:Int}(ps:PN j):FN (fs++[aH.mk ([102]++[digit fs.length]) b j []]):=by
 obtain⟨⟨m,B⟩,q,w⟩:=h;refine⟨⟨by simp,by simp;omega⟩,by rw[ng,QQ m];exact q,λk y=>?_⟩;rw[ng];simp only[XS,W4]at y;by_cases e:k<fs.length
 .rw [QQ e];exact w k e
 .have:k=fs.length:=by omega
  subst this;rw[Qt e,QQ rfl,Qt (by omega)];exact⟨rfl,ps⟩
theorem FN.mem{fs:List aH}(h:FN fs):∀f∈fs,f.params.length<=2:=λf m=>by obtain⟨i,j,e⟩:=Wz m;have:=(h.2.2 i j).2.1;rw[getD_at _ j,e]at this;exact this
theorem adA{b:Int}(X:Bytes l)(hi:0<=b):Ok (f81 l b) λy=>y.1=l/\0<=y.2.1/\Src y.2.2.1 y.2.2.2:=by
 unfold f81;refine d_ rfl (goN X hi (by omega) λx1 j1 h1 a1 b1=>bG (λy=>y.2.length<=2/\GN y.2) ?_ λ⟨z,g0⟩ ⟨hg0,hn0⟩=>?_)
 .have b1:=b1 (by omega);refine JR (λs:Int×Int×List aC=>s.1) (λs=>s.2.2) (λs=>GN s.2.2) 2 ⟨by simp,λb hi=>by simp at hi⟩ (by simp only[Ke];omega) (by omega) (λ⟨q,z,gs⟩ N w h M=>?_) (λ⟨q,z,gs⟩ N w h=>bW (ZS h) (aG ⟨w,N⟩)) (by simp);simp only at N w h M;refine goT (W5 h) (d_ (AU (by simp only;omega)) (bK (pU.2 (by simp)) (bK (by unfold aX;simp;omega) (aG ⟨N.snoc (by omega) (Vn _) (by omega),aF (by omega),by simp⟩))))
 simp only at hg0 hn0;refine goN X h1 (by omega) λx2 j2 h2 a2 b2=>bG (λy=>y.1=l/\0<=y.2.1/\y.2.2.2.length<=4/\GN y.2.2.2) ?_ λ⟨Z,j3,z',gs⟩ ⟨w,h,M,Y⟩=>?_
 .have b2:=b2 (by omega);refine JR (λs:Int×List Int×Int×Int×List aC=>s.1) (λs=>s.2.2.2.2) (λs=>s.2.1=l/\0<=s.2.2.1/\GN s.2.2.2.2) 4 ⟨rfl,h2,hn0⟩ (by simp only;omega) (by omega) (λ⟨q,Z,j,z,gs⟩ ⟨H,B,J⟩ w h M=>?_) (λ⟨q,Z,j,z,gs⟩ ⟨H,B,J⟩ w h=>bW (ZS h) (aG ⟨H,B,w,J⟩)) (by simp only;omega);simp only at w h M H B J;subst H;refine goT (W5 h) (d_ (AU (by simp only;omega)) (bK (pU.2 (by simp)) (goN X B (by omega) λx j hj a4 b4=>?_)));have b4:=b4 (by omega);have hw:bP (1+x)=1+x:=aF (by omega);exact bK (by unfold aX;simp;omega) (aG ⟨⟨rfl,hj,J.snoc (by omega) (by simp only[hw];omega) (by simp only[hw];omega)⟩,aF (by omega),by simp⟩)
 simp only at w h M Y;subst w;refine goN X h (by omega) λx4 j4 h4 a4 b4=>bG (λy=>y.1=Z/\0<=y.2.1/\FN y.2.2.2/\∀f∈y.2.2.2,f.body=[]) ?_ λ⟨l2,j5,z2,fs⟩ ⟨w,h,e4,e5⟩=>?_
 .have b4:=b4 (by omega);refine JR (λs:Int×List Int×Int×Int×List aH=>s.1) (λs=>s.2.2.2.2) (λs=>s.2.1=Z/\0<=s.2.2.1/\FN s.2.2.2.2/\∀f∈s.2.2.2.2,f.body=[]) 4 ⟨rfl,h4,⟨⟨by simp,by simp⟩,rfl,λb hi=>by simp at hi;subst hi;exact⟨rfl,by simp,λk hk=>by simp at hk⟩⟩,qy rfl⟩ (by simp only[W4];omega) (by omega)
   (λ⟨q,Z,j,z,fs⟩ ⟨H,B,J,U⟩ w h M=>?_) (λ⟨q,Z,j,z,gs⟩ ⟨H,B,J,U⟩ w h=>bW (ZS h) (aG ⟨H,B,J,U⟩)) (by simp)
  simp only at w h M H B J U;subst H;refine goT (W5 h) (d_ (AU (by simp only;omega)) (bK (pU.2 (by simp)) (goN X B (by omega) λx j hj a5 b5=>bG (λy=>y.1=[102]++[digit fs.length]/\PN y.2.2) ?_ λy ⟨hy1,hy2⟩=>bK (by unfold aX;simp;omega) (aG ⟨⟨rfl,hj,by simp only;rw[hy1];exact J.snoc (by omega) hy2,λf hf=>?_⟩,aF (by omega),by simp⟩))))
  .have b5:=b5 (by omega);refine JR (λs:Int×List UInt8×Int×List (List UInt8)=>s.1) (λs=>s.2.2.2) (λs=>s.2.1=[102]++[digit fs.length]/\PN s.2.2.2) 2 ⟨rfl,by simp,λk hk=>by simp at hk⟩ (by simp only[Ke];omega) (by omega) (λ⟨q,z,z',gs⟩ ⟨N,T⟩ w h M=>?_) (λ⟨q,z,z',gs⟩ ⟨N,T⟩ w h=>bW (ZS h) (aG ⟨N,T⟩)) (by simp);simp only at N T w h M;refine goT (W5 h) (d_ (AU (by simp only;omega)) (bK (pU.2 (by simp)) (bK (by unfold aX;simp;omega) (aG ⟨⟨N,T.snoc (by omega)⟩,aF (by omega),by simp⟩))))
  .rcases Ys.1 hf with hf|hf;exact U f hf;rw[X1]at hf;subst hf;rfl
 simp only at w h M Y e4 e5;subst w;refine bG (λy=>y.1=l2/\0<=y.2.1/\Src y.2.2.2.1 y.2.2.2.2.1) ?_ λy hy=>aG hy;refine bF (λs:Int×List Int×Int×Int×List aC×List aH×List (List UInt8)=>s.2.1=l2/\0<=s.2.2.1/\s.2.2.2.2.1=gs/\FN s.2.2.2.2.2.1/\(0<=s.1/\s.1<=s.2.2.2.2.2.1.length)/\∀b:Nat,(b:Int)<s.1->(s.2.2.2.2.2.1.getD b bQ).body.length<=10/\∃lo c q,Ch (RS gs (jw s.2.2.2.2.2.1) 3) (s.2.2.2.2.2.1.getD b bQ).params (s.2.2.2.2.2.1.getD b bQ).body lo c q/\c<=7/\q<=14) (λs=>(s.2.2.2.2.2.1.length-s.1).toNat)
  ⟨rfl,h,rfl,e4,⟨by simp,by simp⟩,λb hi=>by simp only at hi;omega⟩ λ⟨q,l3,j,z,gs',m,lo⟩ ⟨H,B,J,U,c5,c6⟩=>?_
 simp only at H B J U c5 c6;subst H;subst J;refine dA (λhc=>?_) (λhc=>?_)
 rotate_left
 .have:¬ q<m.length:=by simpa using hc
  exact aG ⟨rfl,B,⟨Y,U,λb hi=>c6 b (by simp only at hi ⊢;omega)⟩⟩
 have hc:q<m.length:=by simpa using hc
 have hq:q.toNat<m.length:=by omega
 obtain⟨f1,f2,f3⟩:=U;obtain⟨n1,n2⟩:=f3 q.toNat hq;generalize K:m.getD q.toNat bQ=fd at n1 n2;have hp2:=n2.1;have hES:YH 20 l3 gs' m:=⟨X,by omega,by omega,by omega,FN.mem ⟨f1,f2,f3⟩,by omega⟩;refine bK (aQ.2 ⟨c5.1,hc⟩) (bK ?_ (goN X B (by omega) λx6 j6 h6 a6 b6=>?_))
 .show (zj&&decide _)=zj;simp[K];omega
 simp only[K];have b6:=b6 (by omega);rw[show bP (1+x6)=1+x6 from aF (by omega)];refine bG _ ((WI hES 1048576).1 2 (by omega) (by omega) (1+x6) 7 j6 (kL++fd.params) (by omega) (by omega) (by simp;omega) h6) λy ⟨ss,i,j,lo,e,d1,d2,d3,c,k,d4,d5,d6⟩=>?_;subst e;have L :∀b,(m.set q.toNat (aH.mk fd.name fd.line fd.params ss)).getD b bQ=if b=q.toNat then aH.mk fd.name fd.line fd.params ss else m.getD b bQ:=λb=>iM hq
 have hsg:jw (m.set q.toNat (aH.mk fd.name fd.line fd.params ss))=jw m:=by
  unfold jw;rw[List.map_set];have:m[q.toNat]=fd:=by rw[<-K,getD_at _ hq]
  rw[show ((aH.mk fd.name fd.line fd.params ss).name,(aH.mk fd.name fd.line fd.params ss).params.length)=(m.map λf=>(f.name,f.params.length))[q.toNat]'(by simpa using hq) from by simp[this]];exact List.set_getElem_self _
 refine bK (aQ.2 ⟨c5.1,hc⟩) (aG ⟨⟨rfl,d1,rfl,⟨by simpa using f1,?_,λb hi=>?_⟩,?_,λb hi=>?_⟩,?_⟩)
 .simp only;rw[L];split
  .rename_i e;rw[<-e]at K;rw[K]at f2;exact f2
  .exact f2
 .simp only[UI]at hi ⊢;rw[L];split
  .rename_i e;subst e;exact⟨n1,n2⟩
  .exact f3 b hi
 .simp only[aF (x:=q+1) (by omega),UI];omega
 .simp only[aF (x:=q+1) (by omega)]at hi ⊢;rw[L,hsg];split
  .rename_i e;exact⟨d3.1,lo,c,k,by simpa using d4,by omega,by omega⟩
  .exact c6 b (by omega)
 .simp only[aF (x:=q+1) (by omega),UI];omega
theorem iK{body:Int->Option (Int ⊕ A)}{Q:A->Prop}(n:Nat)(P:Nat->Prop)(hn:n<=4000000000)(h :∀i:Nat,i<n->(∀j,j<i->P j)->Ok (body i) (Nh (λj=>j=bP (i+1)/\P i) Q))(w:(∀j,j<n->P j)->Ok (body n) (Nh (λ_=>False) Q)):Ok (bn body 0) Q:=by
 refine bF (λi:Int=>∃k:Nat,i=k/\k<=n/\∀j,j<k->P j) (λi=>(n-i).toNat) ⟨0,rfl,by omega,λj z=>by omega⟩ λi ⟨k,e,J,q⟩=>?_;subst e;by_cases B:k<n
 .refine lC (h k B q) λy m=>?_;cases y with
  |inl j=>
   obtain⟨e,H⟩:j=bP ((k:Int)+1)/\P k:=m;rw[aF (by omega)]at e;exact⟨⟨k+1,by omega,by omega,λj z=>by
    by_cases e:j=k
    .rw [e];exact H
    .exact q j (by omega)⟩,by omega⟩
  |inr r=>exact m
 .have e:k=n:=by omega
  subst e;refine lC (w q) λy m=>?_;cases y with
  |inl j=>exact m.elim
  |inr r=>exact m
def cls:List UInt8->Nat
 | [_]=>1
 | [a,_]=>if a=112 then 1 else if a=103 then 2 else 3
 |_=>3
def LN(lo:List (List UInt8)):Prop :=∀x∈lo,cls x=1
theorem GN.cls{g:List aC}(h:GN g):∀x∈g,YtoipcimfapppmaaGreatDoor.cls x.name=2:=λx m=>by obtain⟨i,j,e⟩:=Wz m;have:=(h.2 i j).1;rw[getD_at _ j,e]at this;rw[this];rfl
theorem FN.cls{fs:List aH}(h:FN fs):∀i,i<fs.length->YtoipcimfapppmaaGreatDoor.cls (fs.getD i bQ).name=3:=λi j=>by rw[(h.2.2 i j).1];split<;>rfl
theorem G9(hi:n<4)(m:a<4)(h:digit n=digit a):n=a:=by
 have:n=0\/n=1\/n=2\/n=3:=by omega
 have:a=0\/a=1\/a=2\/a=3:=by omega
 rcases ‹n=0\/_› with rfl|rfl|rfl|rfl<;>rcases ‹a=0\/_› with rfl|rfl|rfl|rfl<;>first|rfl|(revert h;decide)
theorem GN.inj{g:List aC}(h:GN g){i j:Nat}(hi:i<g.length)(m:j<g.length)(e:(g.getD i (aC.mk bM 0)).name=(g.getD j (aC.mk bM 0)).name):i=j:=by
 rw[(h.2 i hi).1,(h.2 j m).1]at e;have q:=h.1;injection e with _ e;injection e with e _
 exact G9 (by omega) (by omega) e
theorem FN.inj{fs:List aH}(h:FN fs){i j:Nat}(hi:i<fs.length)(m:j<fs.length)(e:(fs.getD i bQ).name=(fs.getD j bQ).name):i=j:=by
 rw[(h.2.2 i hi).1,(h.2.2 j m).1]at e;have q:=h.1.2;unfold amg at e;split at e<;>split at e
 .omega
 .injection e with e _;exact absurd e (by decide)
 .injection e with e _;exact absurd e (by decide)
 .injection e with _ e;injection e with e _
  exact G9 (by omega) (by omega) e
section
variable {g:List aC} {fs:List aH} {lo:List (List UInt8)}
variable{nm:List UInt8}
theorem JU(hg:g.length<=1000000):Ok (f97 g fs nm) λy=>(y=-1/\∀i,i<g.length->(g.getD i (aC.mk bM 0)).name≠nm)\/∃i:Nat,y=i/\i<g.length/\(g.getD i (aC.mk bM 0)).name=nm:=by unfold f97;refine iH (λ_=>∀i,i<g.length->(g.getD i (aC.mk bM 0)).name≠nm) (iK g.length (λi=>(g.getD i (aC.mk bM 0)).name≠nm) (by omega) (λi j _=>goT GX (bK (aQ.2 ⟨by omega,by omega⟩) (dA (λh=>aG (.inr ⟨i,rfl,j,by simpa using h⟩)) λh=>aG ⟨rfl,by simpa using h⟩))) λh=>bW m_ (aG h)) λ_ h=>aG (.inl ⟨rfl,h⟩)
theorem JV(hg:fs.length<=1000000):Ok (f98 g fs s) λy=>(y=-1/\∀i,i<fs.length->(fs.getD i bQ).name≠s)\/∃i:Nat,y=i/\i<fs.length/\(fs.getD i bQ).name=s:=by unfold f98;refine iH (λ_=>∀i,i<fs.length->(fs.getD i bQ).name≠s) (iK fs.length (λi=>(fs.getD i bQ).name≠s) (by omega) (λi j _=>goT GX (bK (aQ.2 ⟨by omega,by omega⟩) (dA (λh=>aG (.inr ⟨i,rfl,j,by simpa using h⟩)) λh=>aG ⟨rfl,by simpa using h⟩))) λh=>bW m_ (aG h)) λ_ h=>aG (.inl ⟨rfl,h⟩)
theorem ag9(hg:lo.length<=1000000):f100 lo nm=zw (decide (nm∈lo)):=by
 apply ok_eq;unfold f100;refine iH (λ_=>∀i,i<lo.length->lo.getD i bM≠nm) (iK lo.length (λi=>lo.getD i bM≠nm) (by omega) (λi m _=>goT GX (bK (aQ.2 ⟨by omega,by omega⟩) (dA (λh=>aG ?_) λh=>aG ⟨rfl,by simpa using h⟩))) λh=>bW m_ (aG h)) λ_ h=>aG ?_
 .have h:lo.getD i bM=nm:=by simpa using h
  refine(W5 ?_).symm;rw[<-h,getD_at _ m];exact X2 _
 .refine (ZS λq=>?_).symm;obtain⟨i,j,e⟩:=Wz q;have:=h i j;rw[getD_at _ j]at this;exact this e
structure Sc(g:List aC)(fs:List aH)(lo:List (List UInt8)):Prop where
 gn:GN g
 fn:FN fs
 ln:LN lo
 lo:lo.length<=1000000
theorem abf(hg:GN g)(h:PG u g nm):Ok (f97 g fs nm) λy=>∃i:Nat,y=i/\i<g.length/\(g.getD i (aC.mk bM 0)).name=nm/\decide (0<(g.getD i (aC.mk bM 0)).size)=u:=by
 have M:=hg.1;refine lC (JU (by omega)) λy B=>?_;obtain⟨x,H,e,J⟩:=h;obtain⟨j,m,K⟩:=Wz H;have q:g.getD j (aC.mk bM 0)=x:=by rw[getD_at _ m,K]
 rcases B with⟨_,hn⟩|⟨i,L,w,z⟩
 .exact absurd (by rw[q,e]) (hn j m)
 .have:=hg.inj w m (by rw[z,q,e]);subst this;exact⟨i,L,w,z,by rw[q];exact J⟩
theorem SY(hg:GN g)(h:cls nm≠2):f97 g fs nm=zw (-1):=by
 have z:=hg.1;obtain⟨y,j,m⟩:=JU (g:=g) (fs:=fs) (nm:=nm) (by omega);rcases m with⟨e,_⟩|⟨i,_,q,w⟩
 .rw [j,e]
 .have:=hg.cls _ (by rw[getD_at _ q];exact X2 _:g.getD i (aC.mk bM 0)∈g);rw[w]at this;exact absurd this h
theorem ag_(h:(s,n)∈jw fs):∃i,i<fs.length/\(fs.getD i bQ).name=s/\(fs.getD i bQ).params.length=n:=by
 obtain⟨f,w,e⟩:=XN.1 h;obtain⟨i,j,m⟩:=Wz w;injection e with y z
 exact⟨i,j,by rw[getD_at _ j,m];exact y,by rw[getD_at _ j,m];exact z⟩
theorem S9(m:FN fs){nm:List UInt8}{q:Nat}(h:(nm,q)∈jw fs):Ok (f98 g fs nm) λy=>∃i:Nat,y=i/\i<fs.length/\(fs.getD i bQ).params.length=q:=by have M:=m.1.2;refine lC (JV (by omega)) λy H=>?_;obtain⟨j,w,z,J⟩:=ag_ h;rcases H with⟨_,hn⟩|⟨i,K,B,L⟩;exact absurd z (hn j w);have:=m.inj B w (by rw[L,z]);subst this;exact⟨i,K,B,J⟩
theorem aha(m:FN fs)(h:(s,n)∈jw fs):cls s=3:=by obtain⟨j,w,y,_⟩:=ag_ h;rw[<-y];exact m.cls j w
theorem ahb(hg:GN g)(h:PG u g s):cls s=2:=by obtain⟨x,j,e,_⟩:=h;rw[<-e];exact hg.cls x j
theorem JW(hg:GN g)(h:PG u g s):f101 g fs s=zw (if u then 3 else 2):=by
 apply ok_eq;unfold f101;refine bG _ (abf hg h) λc ⟨i,e,q,_,m⟩=>?_;subst e;refine goT GX (bK (aQ.2 ⟨by omega,by omega⟩) (dA (λj=>aG ?_) λj=>aG ?_))
 .simp only[Q4]at j;rw[<-m,j];rfl
 .simp only[Q4]at j;rw[<-m,j];rfl
theorem akJ(hg:GN g)(j:FN fs)(h:(s,n)∈jw fs):f101 g fs s=zw 4:=by apply ok_eq;unfold f101;refine d_ (SY hg (by rw[aha j h];omega)) (bW rfl (bG _ (S9 j h) λc ⟨i,e,_⟩=>?_));subst e;exact goT GX (aG rfl)
theorem abg(hg:GN g)(j:FN fs)(h:cls s=1):f101 g fs s=zw 0:=by
 apply ok_eq;unfold f101;have y:=j.1.2;refine d_ (SY hg (by omega)) (bW rfl (bG _ (JV (by omega)) λc m=>?_));rcases m with⟨e,_⟩|⟨i,_,q,w⟩
 .subst e;exact bW rfl (aG rfl)
 .have:=j.cls i q;rw[w]at this;omega
theorem ahc(hg:GN g)(j:FN fs):Ok (f101 g fs s) λ_=>True:=by
 unfold f101;have q:=j.1.2;have w:=hg.1;refine bG _ (JU (by omega)) λc m=>dA (λh=>?_) λ_=>bG _ (JV (by omega)) λ_ _=>dA (λ_=>aG trivial) λ_=>aG trivial;rcases m with⟨e,_⟩|⟨i,e,y,_⟩
 .rw [e]at h;cases h
 .exact bK (aQ.2 ⟨by omega,by omega⟩) (dA (λ_=>aG trivial) λ_=>aG trivial)
theorem akK(h:Sc g fs lo){b:Int}{P:Int->Prop}(m:s∈lo->P 1)(q:¬ s∈lo->Ok (f101 g fs s) P):Ok (f127 s g fs b i lo) λy=>∃k,y=(k,g,fs,b,i,lo)/\P k:=by
 refine bG (λy=>∃k,y=(k,g,fs,b,i,lo)/\P k) ?_ λy ⟨k,e,h⟩=>by subst e;exact goK rfl (aG ⟨k,rfl,h⟩)
 unfold agq;refine bG (λy=>∃k,y=(k,g,fs,b,i,lo)/\P k) ?_ λy ⟨k,e,h⟩=>by subst e;exact bK (by simp) (aG ⟨k,rfl,h⟩)
 refine d_ (ag9 h.lo) (dA (λj=>aG ⟨1,rfl,m (by simpa using j)⟩) λj=>bG _ (q (by simpa using j)) λc j=>aG ⟨c,rfl,j⟩)
theorem ahd{β:Type}(h:Sc g fs lo){b:Int}{f}{Q:β->Prop}{P:Int->Prop}(j:s∈lo->P 1)(m:¬ s∈lo->Ok (f101 g fs s) P)(k :∀q,P q->Ok (f (q,g,fs,b,i,lo)) Q):Ok (Option.bind (f127 s g fs b i lo) f) Q:=bG _ (akK h j m) λy ⟨q,e,h⟩=>by subst e;exact k q h
theorem YJ(h:Sc g fs lo)(j:cls s≠1):¬ s∈lo:=λm=>j (h.ln s m)
inductive Wh(g:List aC)(fs:List aH)(lo:List (List UInt8))(nm:List UInt8):Int->Prop
 |loc:nm∈lo->Wh g fs lo nm 1
 |glo:¬ nm∈lo->PG zv g nm->Wh g fs lo nm 2
 |arr:¬ nm∈lo->PG zj g nm->Wh g fs lo nm 3
 |fn {q:Nat}:¬ nm∈lo->(nm,q)∈jw fs->Wh g fs lo nm 4
theorem aoL(h:Sc g fs lo)(m:NV g lo s):∃k,Wh g fs lo s k/\(k=1\/k=2):=by
 by_cases j:s∈lo
 .exact ⟨1,.loc j,.inl rfl⟩
 .exact ⟨2,.glo j (m.resolve_left j),.inr rfl⟩
theorem axM(h:Sc g fs lo)(j:PG zj g s):Wh g fs lo s 3:=.arr (YJ h (by rw[ahb h.gn j];omega)) j
theorem asO(h:Sc g fs lo)(j:(s,n)∈jw fs):Wh g fs lo s 4:=.fn (YJ h (by rw[aha h.fn j];omega)) j
theorem akL{β:Type}{b:Int}(h:Sc g fs lo)(w:Wh g fs lo s b){f}{Q:β->Prop}(k:Ok (f (b,g,fs,i,v,lo)) Q):Ok (Option.bind (f127 s g fs i v lo) f) Q:=by
 refine ahd h (P:=λz=>z=b) (λj=>?_) (λj=>?_) λz y=>by subst y;exact k
 .cases w with
  |loc _=>rfl
  |glo h _=>exact absurd j h
  |arr h _=>exact absurd j h
  |fn h _=>exact absurd j h
 .cases w with
  |loc h=>exact absurd h j
  |glo _ m=>exact⟨2,JW h.gn m,rfl⟩
  |arr _ m=>exact⟨3,JW h.gn m,rfl⟩
  |fn _ m=>exact⟨4,akJ h.gn h.fn m,rfl⟩
variable{ar:List aW}
theorem YK{β:Type}(h:Sc g fs lo){b:Int}{z a q:Int}(w:Wh g fs lo s z)(B:z=t\/z=p){f}{Q:β->Prop}(H:Ok (f (g,fs,a,q,lo)) Q):Ok (Option.bind (f140 b i v d s ar t p g fs a q lo) f) Q:=by
 have j:z≠0:=by cases w<;>omega
 refine bG (λy=>y=(g,fs,a,q,lo)) ?_ λy e=>by subst e;exact H
 refine bG (λy=>y=(g,fs,a,q,lo)) ?_ λy e=>by subst e;exact goK rfl (aG rfl)
 unfold agA;refine bG (λy=>y=(g,fs,a,q,lo)) ?_ λy e=>by subst e;exact bK (by simp) (aG rfl)
 refine akL h w (bG (λy=>y=(g,fs,a,q)) ?_ λy e=>by subst e;exact aG rfl);refine bW (ZS j) (bG (λy=>y=zv) ?_ λy e=>by subst e;exact bG (λy=>y=(g,fs,a,q)) (bW rfl (aG rfl)) λy e=>by subst e;exact aG rfl);refine dA (λm=>aG ?_) λ_=>aG rfl;have m:z≠t:=by simpa using m
 have:z=p:=B.resolve_left m;simp[this]
inductive QX(g:List aC)(sg:List (List UInt8×Nat))(lo:List (List UInt8)):Nat->aW->Prop
 |leaf {n:Nat} {k o v i:Int} {nm:List UInt8}:k=1\/k=12->QX g sg lo (n+1) (aW.mk k o v i nm [])
 |loc {n:Nat} {o v i:Int} {nm:List UInt8}:nm∈lo->QX g sg lo (n+1) (aW.mk 2 o v i nm [])
 |glo {n:Nat} {o v i:Int} {nm:List UInt8}:PG zv g nm->QX g sg lo (n+1) (aW.mk 3 o v i nm [])
 |func {n:Nat} {o v i:Int} {nm:List UInt8} {q:Nat}:(nm,q)∈sg->QX g sg lo (n+1) (aW.mk 11 o v i nm [])
 |elem {n:Nat} {o v i:Int} {nm:List UInt8} {a:aW}:PG zj g nm->QX g sg lo n a->QX g sg lo (n+1) (aW.mk 4 o v i nm [a])
 |un {n:Nat} {o v i:Int} {nm:List UInt8} {a:aW}:o=1\/o=2->QX g sg lo n a->QX g sg lo (n+1) (aW.mk 5 o v i nm [a])
 |bin {n:Nat} {o v i:Int} {nm:List UInt8} {a b:aW}:3<=o/\o<=11->QX g sg lo n a->QX g sg lo n b->QX g sg lo (n+1) (aW.mk 6 o v i nm [a,b])
 |lazy {n:Nat} {k o v i:Int} {nm:List UInt8} {a b:aW}:k=7\/k=8->QX g sg lo n a->QX g sg lo n b->QX g sg lo (n+1) (aW.mk k o v i nm [a,b])
 |call {n:Nat} {o v i:Int} {nm:List UInt8} {ar:List aW}:(nm,ar.length)∈sg->ar.length<=2->(∀y∈ar,QX g sg lo n y)->QX g sg lo (n+1) (aW.mk 9 o v i nm ar)
 |value {n:Nat} {o v i:Int} {nm:List UInt8} {f:aW} {ar:List aW}:ar.length<=2->QX g sg lo n f->(∀y∈ar,QX g sg lo n y)->QX g sg lo (n+1) (aW.mk 10 o v i nm (f::ar))
theorem QX.mono{sg:List (List UInt8×Nat)}(q :∀x∈lo,x∈j)(h:QX g sg lo n x):QX g sg j n x:=by
 induction h with
 |leaf h=>exact .leaf h
 |loc h=>exact .loc (q _ h)
 |glo h=>exact .glo h
 |func h=>exact .func h
 |elem h _ m=>exact .elem h m
 |un h _ m=>exact .un h m
 |bin h _ _ i1 i2=>exact .bin h i1 i2
 |lazy h _ _ i1 i2=>exact .lazy h i1 i2
 |call w y _ m=>exact .call w y m
 |value z _ _ i1 i2=>exact .value z i1 i2
def vk(lo:List (List UInt8))(nm:List UInt8):Int:=if nm∈lo then 2 else 3
theorem asP{sg:List (List UInt8×Nat)}(j:NV g lo s){b:Int}:QX g sg lo (n+1) (aW.mk (vk lo s) b i v s []):=by
 unfold vk;split
 .rename_i h;exact .loc h
 .rename_i h;exact .glo (j.resolve_left h)
def axN(lo:List (List UInt8))(nm:List UInt8)(i:Int):aW:=aW.mk (vk lo nm) 0 0 i nm []
theorem abh{β:Type}(h:Sc g fs lo){b:Int}(q:NV g lo s){f}{Q:β->Prop}(w:Ok (f (vk lo s,0,0,b,s,g,fs,i,v,lo)) Q):Ok (Option.bind (f141 s b g fs i v lo) f) Q:=by
 refine bG (λy=>y=(vk lo s,0,0,b,s,g,fs,i,v,lo)) ?_ λy e=>by subst e;exact w
 refine bG (λy=>y=(vk lo s,0,0,b,s,g,fs,i,v,lo)) ?_ λy e=>by subst e;exact goK rfl (aG rfl)
 unfold agC;refine bG (λy=>y=(vk lo s,0,0,b,s,g,fs,i,v,lo)) ?_ λy e=>by subst e;exact bK (by simp) (aG rfl)
 obtain⟨k,m,z⟩:=aoL h q;refine akL h m (bG (λy=>y=vk lo s) ?_ λy e=>by subst e;exact aG rfl);unfold vk;cases m with
 |loc j=>rw[QQ j];exact bW rfl (aG rfl)
 |glo j _=>rw[Qt j];exact goT rfl (aG rfl)
 |arr _ _=>omega
 |fn _ _=>omega
def PX(n:Nat)(g:List aC)(fs:List aH)(lo:List (List UInt8))(a b:Int)(y:Int×Int×Int×Int×List UInt8×List aC×List aH×Int×Int×List (List UInt8)×List aW):Prop:=∃k o v i h ar,y=(k,o,v,i,h,g,fs,a,b,lo,ar)/\QX g (jw fs) lo n (aW.mk k o v i h ar)
def PXs(n m:Nat)(g:List aC)(fs:List aH)(lo:List (List UInt8))(a b:Int)(y:List aC×List aH×Int×Int×List (List UInt8)×List aW):Prop:=∃ar,y=(g,fs,a,b,lo,ar)/\ar.length=m/\∀x∈ar,QX g (jw fs) lo n x
theorem YL{rec:Yq}{w:ac3}{b:Int}{j:List aW}(L:j.length<=10)(H :∀x∈j,Ok (rec x.kind x.op x.value x.line x.name x.args g fs b i lo) (PX n g fs lo b i)):
  Ok (aaF rec w j g fs b i lo) (PXs n j.length g fs lo b i):=by
 unfold aaF;refine bG (PXs n j.length g fs lo b i) ?_ λy ⟨ar,e,h⟩=>by subst e;exact bK (by simp) (aG ⟨ar,rfl,h⟩)
 refine bG (λy=>∃ar,y=(g,fs,b,i,ar)/\ar.length=j.length/\∀x∈ar,QX g (jw fs) lo n x) ?_ λy ⟨ar,e,h⟩=>by subst e;exact aG ⟨ar,rfl,h⟩
 refine bF (λs:Int×List aC×List aH×Int×Int×List aW=>∃q ar,s=(q,g,fs,b,i,ar)/\(ar.length:Int)=q/\ar.length<=j.length/\∀x∈ar,QX g (jw fs) lo n x) (λs=>(j.length-s.1).toNat) ⟨0,[],rfl,rfl,by simp,λx h=>by cases h⟩ λs ⟨q,ar,e,J,M,B⟩=>?_;subst e;subst J;refine dA (λm=>?_) λm=>aG ⟨ar,rfl,?_,B⟩
 .have m:ar.length<j.length:=by simp at m;omega
  refine bK (aQ.2 ⟨by simp only;omega,by simp only;omega⟩) (bG _ (H _ (by rw[getD_at _ (by simpa using m)];exact X2 _)) λy ⟨k,o,v,a,N,T,e,K⟩=>?_);subst e;refine bK (by unfold aX;simp;omega) (aG ⟨⟨_,_,rfl,?_,?_,λx z=>?_⟩,?_⟩)
  all_goals try simp only[aF (x:=(ar.length:Int)+1) (by omega)]
  .simp
  .simp;omega
  .rcases Ys.1 z with h|h;exact B x h;rw[X1]at h;subst h;exact K
  .omega
 .have m:¬ (ar.length:Int)<j.length:=by simpa using m
  omega
theorem xH{sg:List (List UInt8×Nat)}(h:ar.length=1)(j :∀x∈ar,QX g sg lo n x):∃x,ar=[x]/\QX g sg lo n x:=by obtain⟨x,e⟩:=List.length_eq_one_iff.1 h;subst e;exact⟨x,rfl,j x (by simp)⟩
theorem ahf{sg:List (List UInt8×Nat)}(h:ar.length=2)(j :∀x∈ar,QX g sg lo n x):∃x z,ar=[x,z]/\QX g sg lo n x/\QX g sg lo n z:=by
 match ar,h with
 | [x,z],_=>exact⟨x,z,rfl,j x (by simp),j z (by simp)⟩
theorem RX.args{sg:List (List UInt8×Nat)}(h:RX g sg lo (n+1) x):x.args.length<=3/\∀y∈x.args,RX g sg lo n y:=by
 cases h with
 |leaf _=>exact⟨by simp,λy h=>by cases h⟩
 |name _=>exact⟨by simp,λy h=>by cases h⟩
 |func _=>exact⟨by simp,λy h=>by cases h⟩
 |elem _ h=>exact⟨by simp,qy h⟩
 |un _ h=>exact⟨by simp,qy h⟩
 |bin _ m j=>exact⟨by simp,λy q=>by rcases Xs.1 q with e|e;(· subst e;exact m);exact qy j y e⟩
 |lazy _ m j=>exact⟨by simp,λy q=>by rcases Xs.1 q with e|e;(· subst e;exact m);exact qy j y e⟩
 |call _ _ m j=>exact⟨by simp only;omega,j⟩
 |value m j w=>exact⟨by simp only[Wm];omega,λy q=>by rcases Xs.1 q with e|e;(· subst e;exact j);exact w y e⟩
theorem ahg{rec:Yq}{H:ac3}(h:Sc g fs lo){b:Int}(K:RX g (jw fs) lo (n+1) (aW.mk b i v d s ar))(hr:Ok (H ar g fs t p lo) (PXs n ar.length g fs lo t p)):
  Ok (aaE rec H b i v d s ar g fs t p lo) (PX (n+1) g fs lo t p):=by
 have h3:=K.args.1;simp only at h3;unfold aaE;refine bG (PX (n+1) g fs lo t p) ?_ λy ⟨b,i,v,d,s,ar,e,h⟩=>by subst e;exact bK (by simp) (aG ⟨b,i,v,d,s,ar,rfl,h⟩)
 have fin:(∀q,q.length=ar.length->(∀z∈q,QX g (jw fs) lo n z)->QX g (jw fs) lo (n+1) (aW.mk b i v d s q))->∀y:List aC×List aH×Int×Int,y=(g,fs,t,p)->Ok (Option.bind (H ar y.1 y.2.1 y.2.2.1 y.2.2.2 lo) λJ=>zw (b,i,v,d,s,J.1,J.2.1,J.2.2.1,J.2.2.2.1,lo,J.2.2.2.2.2)) (PX (n+1) g fs lo t p):=λhq y e=>by subst e;refine bG _ hr λy ⟨q,e,M,N⟩=>?_;subst e;exact aG ⟨b,i,v,d,s,q,rfl,hq q M N⟩
 have pass:¬ b=13->¬ b=4->¬ b=11->¬ b=9->∀{P:Int×Int×Int×Int×List UInt8×List aC×List aH×Int×Int×List (List UInt8)×List aW->Prop} (fn:List aC×List aH×Int×Int->Option _),(∀y,y=(g,fs,t,p)->Ok (fn y) P)->True:=λ_ _ _ _ _ _ _=>trivial;clear pass;cases K with
 |name hv=>obtain⟨z,X,L⟩:=aoL h hv;exact goT rfl (YK h X L (abh h hv (aG ⟨_,_,_,_,_,_,rfl,asP hv⟩)))
 |elem hp U=>refine bW rfl (iH (λy=>y=(g,fs,t,p)) (goT rfl (YK h (axM h hp) (.inl rfl) (aG rfl))) (fin λq M N=>?_));obtain⟨x,e,K⟩:=xH M N;subst e;exact .elem hp K
 |func T=>refine bW rfl (iH (λy=>y=(g,fs,t,p)) (bW rfl (iH (λy=>y=(g,fs,t,p)) (goT rfl (YK h (asO h T) (.inl rfl) (aG rfl))) λy e=>by subst e;exact aG rfl)) (fin λq M N=>?_));have:q=[]:=WF.1 M;subst this;exact .func T
 |call M N h3' h4=>
  rcases N with T|hv
  .refine bW rfl (iH (λy=>y=(g,fs,t,p)) (bW rfl (iH (λy=>y=(g,fs,t,p)) (bW rfl (iH (λy=>y=(g,fs,t,p)) (goT rfl (akL h (asO h T) (iH (λy=>y=(g,fs,t,p)) (bW rfl (iH (λy=>y=(g,fs,t,p)) (bW rfl (goT rfl (bG _ (S9 h.fn T) λc ⟨j,e,j1,j2⟩=>?_))) λy e=>by subst e;exact aG rfl)) λy e=>by subst e;exact aG rfl))) λy e=>by subst e;exact aG rfl)) λy e=>by subst e;exact aG rfl)) (fin λq w B=>.call (by rw[w];exact T) (by omega) B));subst e;refine bK (aQ.2 ⟨by omega,by simp only;omega⟩) (bG (λy=>y=(g,fs,t,p)) (bW ?_ (aG rfl)) λy e=>by subst e;exact aG rfl);rw[va];refine W5 ?_;simp only[Q4];omega
  .obtain ⟨m,rfl⟩ :∃m,n=m+1:=⟨n-1,by omega⟩;obtain⟨z,X,L⟩:=aoL h hv;refine bW rfl (iH (λy=>False) (bW rfl (iH (λy=>False) (bW rfl (iH (λy=>False) (goT rfl (akL h X (iH (λy=>False) (bW (ZS (by simp only;omega)) (iH (λy=>False) (bW (ZS (by simp only;omega)) (bW (ZS (by simp only;omega)) (bG (λy=>y=(g,fs,t,p)) (bW m_ (aG rfl)) λy e=>?_))) λy e=>e.elim)) λy e=>e.elim))) λy e=>e.elim)) λy e=>e.elim)) λy e=>e.elim);subst e;refine abh h hv (bG _ hr λy ⟨q,e,w,B⟩=>?_);subst e;exact bK (by unfold aX;simp;omega) (aG ⟨_,_,_,_,_,axN lo s d::q,rfl,.value (by omega) (asP hv) B⟩)
 |value M N h4=>
  refine bW rfl (iH (λy=>y=(g,fs,t,p)) (bW rfl (iH (λy=>y=(g,fs,t,p)) (bW rfl (iH (λy=>y=(g,fs,t,p)) (bW rfl (bG (λy=>y=(g,fs,t,p)) (goT rfl (bG (λy=>y=(g,fs,t,p)) (bW m_ (aG rfl)) λy e=>by subst e;exact aG rfl)) λy e=>by subst e;exact aG rfl)) λy e=>by subst e;exact aG rfl)) λy e=>by subst e;exact aG rfl)) (fin λq w B=>?_))
  match q,w with
  |f::q,w=>exact .value (by simp at w;omega) (B _ (by simp)) λy U=>B y (by simp[U])
 |leaf Y=>refine bW m_ (iH (λy=>y=(g,fs,t,p)) (bW m_ (iH (λy=>y=(g,fs,t,p)) (bW m_ (iH (λy=>y=(g,fs,t,p)) (bW m_ (bG (λy=>y=(g,fs,t,p)) (bW m_ (aG rfl)) λy e=>by subst e;exact aG rfl)) λy e=>by subst e;exact aG rfl)) λy e=>by subst e;exact aG rfl)) (fin λq w B=>?_));have:q=[]:=WF.1 w;subst this;exact .leaf Y
 |un Z U=>refine bW rfl (iH (λy=>y=(g,fs,t,p)) (bW rfl (iH (λy=>y=(g,fs,t,p)) (bW rfl (iH (λy=>y=(g,fs,t,p)) (bW rfl (bG (λy=>y=(g,fs,t,p)) (bW rfl (aG rfl)) λy e=>by subst e;exact aG rfl)) λy e=>by subst e;exact aG rfl)) λy e=>by subst e;exact aG rfl)) (fin λq w B=>?_));obtain⟨x,e,K⟩:=xH w B;subst e;exact .un Z K
 |bin Z U L=>refine bW rfl (iH (λy=>y=(g,fs,t,p)) (bW rfl (iH (λy=>y=(g,fs,t,p)) (bW rfl (iH (λy=>y=(g,fs,t,p)) (bW rfl (bG (λy=>y=(g,fs,t,p)) (bW rfl (aG rfl)) λy e=>by subst e;exact aG rfl)) λy e=>by subst e;exact aG rfl)) λy e=>by subst e;exact aG rfl)) (fin λq w B=>?_));obtain⟨x,z,e,K,L⟩:=ahf w B;subst e;exact .bin Z K L
 |lazy Y U L=>refine bW m_ (iH (λy=>y=(g,fs,t,p)) (bW m_ (iH (λy=>y=(g,fs,t,p)) (bW m_ (iH (λy=>y=(g,fs,t,p)) (bW m_ (bG (λy=>y=(g,fs,t,p)) (bW m_ (aG rfl)) λy e=>by subst e;exact aG rfl)) λy e=>by subst e;exact aG rfl)) λy e=>by subst e;exact aG rfl)) (fin λq w B=>?_));obtain⟨x,z,e,K,L⟩:=ahf w B;subst e;exact .lazy Y K L
theorem adB(n:Nat):(qw (n+1)).1=aaE (aaG n) (al7 n):=rfl
theorem adC(n:Nat):(qw (n+1)).2=aaF (aaG n) (al7 n):=rfl
theorem Ql(h:Sc g fs lo){a b:Int}:∀n:Nat,∀k,2*n<=k->∀x,RX g (jw fs) lo n x->Ok (aaG k x.kind x.op x.value x.line x.name x.args g fs a b lo) (PX n g fs lo a b)
 |0,_,_=>λ_ h=>by cases h
 |n+1,0,j=>by omega
 |n+1,1,j=>by omega
 |n+1,k+2,j=>λx m=>by
  have q:=Ql h (a:=a) (b:=b) n k (by omega);obtain⟨w1,w⟩:=m.args;obtain⟨K,L,M,N,T,B⟩:=x;refine bG (PX (n+1) g fs lo a b) ?_ λy ⟨k,o,v,i,H,ar,e,h⟩=>by subst e;exact goK rfl (aG ⟨k,o,v,i,H,ar,rfl,h⟩)
  rw[adB];refine ahg h m ?_;refine bG (PXs n B.length g fs lo a b) ?_ λy ⟨ar,e,h⟩=>by subst e;exact goK rfl (aG ⟨ar,rfl,h⟩)
  rw[adC];exact YL (K0 w1 (by omega)) λz J=>q z (w z J)
theorem Qm{sg:List (List UInt8×Nat)}:∀n k:Nat,n<=k->n<=1000->∀x,RX g sg lo n x->Ok (aaz k x.kind x.op x.value x.line x.name x.args) λy=>0<=y/\y<=n
 |0,_,_,_,_,h=>by cases h
 |n+1,0,B,_,_,_=>by omega
 |n+1,k+1,B,hn,x,h=>by
  have H :∀x,RX g sg lo n x->Ok (aaz k x.kind x.op x.value x.line x.name x.args) λy=>0<=y/\y<=n:=Qm n k (by omega) (by omega);show Ok (agn (aaz k) x.kind x.op x.value x.line x.name x.args) _;obtain⟨M,J⟩:=h.args;unfold agn;refine bG (λy=>0<=y/\y<=n) ?_ λy K=>aG (by rw[aF (by omega)];omega);refine bF (λs:Int×Int=>(0<=s.2/\s.2<=x.args.length)/\0<=s.1/\s.1<=n) (λs=>(x.args.length-s.2).toNat) ⟨⟨by simp,by simp⟩,by simp,by simp only;omega⟩ λ⟨z,q⟩ ⟨⟨m,L⟩,w⟩=>dA (λj=>?_) λ_=>aG w;have j:q<x.args.length:=by simpa using j
  simp only at m L w;refine bK (aQ.2 ⟨m,j⟩) (bG _ (H _ (J _ (by rw[getD_at _ (by simp only;omega)];exact X2 _))) λy K=>aG ⟨⟨⟨?_,?_⟩,?_⟩,?_⟩)
  .simp only[aF (x:=q+1) (by omega)];omega
  .simp only[aF (x:=q+1) (by omega)];omega
  .rw [JG];omega
  .simp only[aF (x:=q+1) (by omega)];omega
end
theorem YM{α:Type}{l:List α}{b:Int}(d:α)(h:0<=b)(j:b<l.length):l.getD b.toNat d∈l:=by rw[getD_at _ (by omega)];exact X2 _
inductive QS1(g:List aC)(sg:List (List UInt8×Nat))(L:List (List UInt8))(P:List (List UInt8)->dB->List (List UInt8)->Nat->Nat->Prop)(lo:List (List UInt8)):dB->List (List UInt8)->Nat->Nat->Prop
 |var {i:Int} {nm:List UInt8} {x:aW}:nm∈L->QX g sg L 3 x->QS1 g sg L P lo (dB.mk 1 i nm [x] [] []) (lo++[nm]) 1 1
 |assign {i:Int} {nm:List UInt8} {x:aW}:NV g L nm->QX g sg L 3 x->QS1 g sg L P lo (dB.mk 2 i nm [x] [] []) lo 1 1
 |step {i:Int} {nm:List UInt8} {x:aW}:NV g L nm->QX g sg L 2 x->QS1 g sg L P lo (dB.mk 2 i nm [x] [] []) lo 0 1
 |store {i:Int} {nm:List UInt8} {x z:aW}:PG zj g nm->QX g sg L 2 x->QX g sg L 3 z->QS1 g sg L P lo (dB.mk 3 i nm [x,z] [] []) lo 1 1
 |if' {i:Int} {nm:List UInt8} {x:aW} {th el:List dB} {l1 l2:List (List UInt8)} {c1 c2 k1 k2:Nat}:QX g sg L 3 x->th.length<=10->el.length<=10->Ch P lo th l1 c1 k1->Ch P l1 el l2 c2 k2->QS1 g sg L P lo (dB.mk 4 i nm [x] th el) l2 (1+c1+c2) (1+k1+k2)
 |sN {i:Int} {nm:List UInt8} {x:aW} {th:List dB} {l1:List (List UInt8)} {c1 k1:Nat}:QX g sg L 3 x->th.length<=10->Ch P lo th l1 c1 k1->QS1 g sg L P lo (dB.mk 5 i nm [x] th []) l1 (1+c1) (1+k1)
 |plain {k i:Int} {nm:List UInt8} {x:aW}:k=6\/k=7\/k=8->QX g sg L 3 x->QS1 g sg L P lo (dB.mk k i nm [x] [] []) lo 1 1
def QS(g:List aC)(sg:List (List UInt8×Nat))(L:List (List UInt8)):Nat->List (List UInt8)->dB->List (List UInt8)->Nat->Nat->Prop
 |0=>λ_ _ _ _ _=>False
 |n+1=>λlo s h c k=>QS1 g sg L (QS g sg L n) lo s h c k
abbrev Rel:=Nat->List (List UInt8)->dB->List (List UInt8)->Nat->Nat->Prop
def View(P:Rel)(n:Nat)(lo:List (List UInt8))(s:dB)(lo':List (List UInt8)):Prop:=∃h j m q w y,(s.kind=1->h=lo++[s.name])/\(s.kind≠1->h=lo)/\Ch (P n) h s.then' j m w/\Ch (P n) j s.else' lo' q y/\s.then'.length<=10/\s.else'.length<=10
variable{s:dB}
theorem abj{g:List aC}{sg:List (List UInt8×Nat)}{lo:List (List UInt8)}(h:RS g sg (n+1) lo s L a w):View (RS g sg) n lo s L:=by
 cases (show RS1 g sg (RS g sg n) lo s L a w from h)with
 |var _ _ _=>exact⟨_,_,0,0,0,0,λ_=>rfl,λh=>absurd rfl h,.nil,.nil,by simp,by simp⟩
 |assign _ _=>exact⟨_,_,0,0,0,0,λh=>absurd h (by simp),λ_=>rfl,.nil,.nil,by simp,by simp⟩
 |step _=>exact⟨_,_,0,0,0,0,λh=>absurd h (by simp),λ_=>rfl,.nil,.nil,by simp,by simp⟩
 |store _ _ _=>exact⟨_,_,0,0,0,0,λh=>absurd h (by simp),λ_=>rfl,.nil,.nil,by simp,by simp⟩
 |if' _ m q k b=>exact⟨_,_,_,_,_,_,λh=>absurd h (by simp),λ_=>rfl,k,b,m,q⟩
 |sN _ m k=>exact⟨_,_,_,0,_,0,λh=>absurd h (by simp),λ_=>rfl,k,.nil,m,by simp⟩
 |plain j _=>exact⟨_,_,0,0,0,0,λh=>by simp only at h;omega,λ_=>rfl,.nil,.nil,by simp,by simp⟩
theorem akM{g:List aC}{sg:List (List UInt8×Nat)}{lo c:List (List UInt8)}(h:QS g sg j (n+1) lo s c a w):View (QS g sg j) n lo s c:=by
 cases (show QS1 g sg j (QS g sg j n) lo s c a w from h)with
 |var _ _=>exact⟨_,_,0,0,0,0,λ_=>rfl,λh=>absurd rfl h,.nil,.nil,by simp,by simp⟩
 |assign _ _=>exact⟨_,_,0,0,0,0,λh=>absurd h (by simp),λ_=>rfl,.nil,.nil,by simp,by simp⟩
 |step _ _=>exact⟨_,_,0,0,0,0,λh=>absurd h (by simp),λ_=>rfl,.nil,.nil,by simp,by simp⟩
 |store _ _ _=>exact⟨_,_,0,0,0,0,λh=>absurd h (by simp),λ_=>rfl,.nil,.nil,by simp,by simp⟩
 |if' _ m q k b=>exact⟨_,_,_,_,_,_,λh=>absurd h (by simp),λ_=>rfl,k,b,m,q⟩
 |sN _ m k=>exact⟨_,_,_,0,_,0,λh=>absurd h (by simp),λ_=>rfl,k,.nil,m,by simp⟩
 |plain L _=>exact⟨_,_,0,0,0,0,λh=>by simp only at h;omega,λ_=>rfl,.nil,.nil,by simp,by simp⟩
theorem Ch.at{P:List (List UInt8)->dB->List (List UInt8)->Nat->Nat->Prop}{lo l1:List (List UInt8)}{j:List dB}{c k i:Nat}(h:Ch P lo (j.drop i) l1 c k)(hi:i<j.length):∃l2 c1 c2 k1 m,P lo (j.getD i qp) l2 c1 k1/\Ch P l2 (j.drop (i+1)) l1 c2 m/\c=c1+c2/\k=k1+m:=by
 rw[KB hi]at h;cases h with
 |cons a b=>rw[getD_at _ hi];exact⟨_,_,_,_,_,a,b,rfl,rfl⟩
theorem Ch.fin{P:List (List UInt8)->dB->List (List UInt8)->Nat->Nat->Prop}{lo:List (List UInt8)}{j:List dB}{i:Nat}(h:Ch P lo (j.drop i) L n a)(hi:j.length<=i):lo=L/\n=0/\a=0:=by
 rw[vR hi]at h;cases h with
 |nil=>exact⟨rfl,rfl,rfl⟩
theorem Ch.len{P:List (List UInt8)->dB->List (List UInt8)->Nat->Nat->Prop}(j :∀lo s L n k,P lo s L n k->lo.length<=L.length/\L.length<=lo.length+k){lo:List (List UInt8)}{m:List dB}(h:Ch P lo m L n k):lo.length<=L.length/\L.length<=lo.length+k:=by
 induction h with
 |nil=>omega
 |cons a _ q=>have:=j _ _ _ _ _ a;omega
theorem G_{g:List aC}{sg:List (List UInt8×Nat)}:∀n lo s l1 c k,RS g sg n lo s l1 c k->lo.length<=l1.length/\l1.length<=lo.length+k
 |0,_,_,_,_,_,h=>h.elim
 |n+1,lo,s,l1,c,k,h=>by
  have j:=G_ (g:=g) (sg:=sg) n;cases (show RS1 g sg (RS g sg n) lo s l1 c k from h)with
  |var _ _ _=>simp
  |assign _ _=>omega
  |step _=>omega
  |store _ _ _=>omega
  |if' _ _ _ a b=>have:=a.len j;have:=b.len j;omega
  |sN _ _ a=>have:=a.len j;omega
  |plain _ _=>omega
theorem JX{P:Rel}(J :∀lo s l1 c k,¬ P 0 lo s l1 c k)(K :∀n lo s l1 c k,P (n+1) lo s l1 c k->View P n lo s l1):∀n k:Nat,n+1<=k->∀j:List dB,j.length<=10->∀l B c q,Ch (P n) l j B c q->B.length<=1000->(∀n lo s l1 c k,P n lo s l1 c k->lo.length<=l1.length)->aoc k j l=zw B
 |_,0,H,_,_,_,_,_,_,_,_,_=>by omega
 |n,k+1,H,j,hs,l,B,c,q,w,hl,L=>by
  apply ok_eq;show Ok (aob (aoc k) j l) _;have z :∀{n:Nat} {a b:List (List UInt8)} {j:List dB} {c q:Nat},Ch (P n) a j b c q->a.length<=b.length:=λh=>by
   induction h with
   |nil=>exact YY _
   |cons a _ ih=>exact K0 (L _ _ _ _ _ _ a) ih
  unfold aob;refine bG (λy=>y=B) ?_ λy M=>aG M;refine bF (λs:Int×List (List UInt8)=>∃i c q:Nat,s.1=i/\i<=j.length/\Ch (P n) s.2 (j.drop i) B c q) (λs=>(j.length-s.1).toNat) ⟨0,c,q,rfl,by omega,w⟩ λ⟨i',N⟩ ⟨i,c,q,U,e2,T⟩=>?_;simp only at U T;subst U;refine dA (λw=>?_) λw=>aG (T.fin (by simpa using w)).1;have w:(i:Int)<j.length:=by simpa using w
  have m:=aQ.2 (show 0<=(i:Int)/\(i:Int)<j.length from ⟨by omega,w⟩);obtain⟨l2,c1,c2,k1,k2,X,Y,_,_⟩:=T.at (by omega);cases n with
  |zero=>exact absurd X (J _ _ _ _ _)
  |succ n=>
   obtain⟨Z,m2,d1,d2,q1,q2,v1,v2,v3,v4,v5,v6⟩:=K _ _ _ _ _ _ X;have b1:=z Y;have b2:=z v4;have b3:=z v3;refine bK m (bG (λy=>y=Z) ?_ λy M=>?_)
   .refine dA (λH=>bK m (bK ?_ (aG ?_))) λH=>aG ?_
    .have:=v1 (by simpa using H);have b4:Z.length=N.length+1:=by rw[this];simp
     unfold aX;simp;omega
    .exact (v1 (by simpa using H)).symm
    .exact (v2 (by simpa using H)).symm
   subst M;refine bK m (d_ (JX J K n k (by omega) _ v5 _ _ _ _ v3 (by omega) L) (bK m (d_ (JX J K n k (by omega) _ v6 _ _ _ _ v4 (by omega) L) (aG ⟨⟨i+1,c2,k2,?_,by omega,Y⟩,?_⟩))))
   .show bP ((i:Int)+1)=_;rw[aF (by omega)];rfl
   .show ((j.length:Int)-bP ((i:Int)+1)).toNat<((j.length:Int)-i).toNat;rw[aF (by omega)];omega
theorem S_{P:Rel}(w :∀lo s l1 c k,¬ P 0 lo s l1 c k)(B :∀n lo s l1 c k,P (n+1) lo s l1 c k->View P n lo s l1):∀n k:Nat,n+1<=k->n<=1000->∀h:List dB,h.length<=10->∀l H c q,Ch (P n) l h H c q->Ok (aoe k h) λy=>0<=y/\y<=n
 |_,0,M,_,_,_,_,_,_,_,_=>by omega
 |n,k+1,M,hn,h,hs,l,H,c,q,j=>by
  show Ok (aod (aoe k) h) _;unfold aod;refine bG (λy=>0<=y/\y<=n) ?_ λy N=>aG N;refine bF (λs:Int×Int=>(0<=s.1/\s.1<=n)/\∃i c q:Nat,∃l,s.2=i/\i<=h.length/\Ch (P n) l (h.drop i) H c q) (λs=>(h.length-s.2).toNat) ⟨⟨by simp,by simp only;omega⟩,0,c,q,l,rfl,by omega,j⟩ λ⟨z,i'⟩ ⟨J,i,c,q,l,K,e2,T⟩=>?_;simp only at K J;subst K;refine dA (λj=>?_) λj=>aG J;have j:(i:Int)<h.length:=by simpa using j
  have m:=aQ.2 (show 0<=(i:Int)/\(i:Int)<h.length from ⟨by omega,j⟩);obtain⟨U,c1,X,k1,Y,L,Z,_,_⟩:=T.at (by omega);cases n with
  |zero=>exact absurd L (w _ _ _ _ _)
  |succ n=>
   obtain⟨m1,m2,d1,d2,q1,q2,v1,v2,v3,v4,v5,v6⟩:=B _ _ _ _ _ _ L;refine bK m (bG _ (S_ w B n k (by omega) (by omega) _ v5 _ _ _ _ v3) λy1 hy1=>bK m (bG _ (S_ w B n k (by omega) (by omega) _ v6 _ _ _ _ v4) λy2 hy2=>aG ⟨⟨?_,i+1,X,Y,U,?_,by omega,Z⟩,?_⟩))
   .simp only[JG];rw[aF (x:=1+y1) (by omega),aF (x:=1+y2) (by omega)];omega
   .show bP ((i:Int)+1)=_;rw[aF (by omega)];rfl
   .show ((h.length:Int)-bP ((i:Int)+1)).toNat<((h.length:Int)-i).toNat;rw[aF (by omega)];omega
section
variable {g:List aC} {fs:List aH}
theorem abk:∀x∈frN,cls x=1:=by decide
def Fj(g:List aC)(sg:List (List UInt8×Nat))(L:List (List UInt8))(n:Nat)(lo:List (List UInt8))(s:dB)(lo':List (List UInt8))(c k:Nat):Prop:=
 ∃h j w y z B,∃q:Nat->Nat,(s.kind=1->h=lo++[s.name]/\s.name∈frN/\¬ s.name∈lo)/\(s.kind≠1->h=lo)/\(s.kind=2->NV g lo s.name)/\(s.kind=3->PG zj g s.name)/\
  Ch (RS g sg n) h s.then' j w z/\Ch (RS g sg n) j s.else' lo' y B/\(s.then'.length<=10/\s.else'.length<=10/\s.exprs.length<=2)/\(∀i,i<s.exprs.length->q i<=3/\RX g sg lo (q i) (s.exprs.getD i fE))/\
  ∀es m el,es.length=s.exprs.length->(∀i,i<s.exprs.length->QX g sg L (q i) (es.getD i fE))->m.length<=10->el.length<=10->Ch (QS g sg L n) h m j w z->Ch (QS g sg L n) j el lo' y B->(m.length=s.then'.length/\el.length=s.else'.length)->QS g sg L (n+1) lo (dB.mk s.kind s.line s.name es m el) lo' c k
theorem AV{es:List aW}(h:es.length=1):es=[es.getD 0 fE]:=by
 match es,h with
 | [x],_=>rfl
theorem akN{es:List aW}(h:es.length=2):es=[es.getD 0 fE,es.getD 1 fE]:=by
 match es,h with
 | [x,z],_=>rfl
theorem aoM{sg:List (List UInt8×Nat)}{lo B:List (List UInt8)}(X :∀x∈B,x∈j)(h:RS g sg (n+1) lo s B a w):Fj g sg j n lo s B a w:=by
 have K :∀x∈lo,x∈j:=λx c=>X x (JQ _ _ _ _ _ _ h x c);have one :∀{x:aW} {m:Nat},m<=3->RX g sg lo m x->∀i,i<([x]:List aW).length->m<=3/\RX g sg lo m (([x]:List aW).getD i fE):=λhm c i M=>by
  have:i=0:=by simpa using M
  subst this;exact⟨hm,c⟩
 cases (show RS1 g sg (RS g sg n) lo s B a w from h)with
 |var q N c=>refine⟨_,_,0,0,0,0,λ_=>3,λ_=>⟨rfl,q,N⟩,λh=>absurd rfl h,λh=>absurd h (by simp),λh=>absurd h (by simp),.nil,.nil,by simp,one (by omega) c,λes J el y L _ _ _ _ ⟨H,z⟩=>?_⟩;rw[AV y,WF.1 H,WF.1 z];exact .var (X _ (by simp)) (L 0 (by simp))
 |assign q c=>refine⟨_,_,0,0,0,0,λ_=>3,λh=>absurd h (by simp),λ_=>rfl,λ_=>q,λh=>absurd h (by simp),.nil,.nil,by simp,one (by omega) c,λes J el y L _ _ _ _ ⟨H,z⟩=>?_⟩;rw[AV y,WF.1 H,WF.1 z];exact .assign (q.mono K) (L 0 (by simp))
 |step q=>refine⟨_,_,0,0,0,0,λ_=>2,λh=>absurd h (by simp),λ_=>rfl,λ_=>q,λh=>absurd h (by simp),.nil,.nil,by simp,one (by omega) (.bin (by omega) (.name q) (.leaf (.inl rfl))),λes J el y L _ _ _ _ ⟨H,z⟩=>?_⟩;rw[AV y,WF.1 H,WF.1 z];exact .step (q.mono K) (L 0 (by simp))
 |store q c hz=>
  refine⟨_,_,0,0,0,0,λi=>if i=0 then 2 else 3,λh=>absurd h (by simp),λ_=>rfl,λh=>absurd h (by simp),λ_=>q,.nil,.nil,by simp,λi M=>?_,λes J el y L _ _ _ _ ⟨H,z⟩=>?_⟩
  .have:i=0\/i=1:=by simp at M;omega
   rcases this with rfl|rfl
   .exact ⟨by simp,c⟩
   .exact ⟨by simp,hz⟩
  .rw [akN y,WF.1 H,WF.1 z];exact .store q (L 0 (by simp)) (L 1 (by simp))
 |if' c q N k b=>refine⟨_,_,_,_,_,_,λ_=>3,λh=>absurd h (by simp),λ_=>rfl,λh=>absurd h (by simp),λh=>absurd h (by simp),k,b,⟨q,N,by simp⟩,one (by omega) c,λes J el y L T Y U Z _=>?_⟩;rw[AV y];exact .if' (L 0 (by simp)) T Y U Z
 |sN c q k=>refine⟨_,_,_,0,_,0,λ_=>3,λh=>absurd h (by simp),λ_=>rfl,λh=>absurd h (by simp),λh=>absurd h (by simp),k,.nil,⟨q,by simp,by simp⟩,one (by omega) c,λes J el y L T Y U Z ⟨_,z⟩=>?_⟩;rw[AV y,WF.1 z];exact .sN (L 0 (by simp)) T U
 |plain hk c=>refine⟨_,_,0,0,0,0,λ_=>3,λh=>by simp only at h;omega,λ_=>rfl,λh=>by simp only at h;omega,λh=>by simp only at h;omega,.nil,.nil,by simp,one (by omega) c,λes J el y L _ _ _ _ ⟨H,z⟩=>?_⟩;rw[AV y,WF.1 H,WF.1 z];exact .plain hk (L 0 (by simp))
def PR(n m:Nat)(g:List aC)(fs:List aH)(L lo:List (List UInt8))(a:Int)(lo':List (List UInt8))(c q:Nat)(y:List aC×List aH×Int×Int×List dB×List (List UInt8)):Prop:=∃h,y=(g,fs,a,0,h,lo')/\h.length=m/\Ch (QS g (jw fs) L n) lo h lo' c q
theorem He(hg:GN g)(Z:FN fs){L:List (List UInt8)}{a:Int}:∀n k:Nat,n+1<=k->∀j:List dB,j.length<=10->∀lo m c q,Ch (RS g (jw fs) n) lo j m c q->LN lo->m.length<=1000->(∀x∈m,x∈L)->Ok (agO k j g fs a 0 lo) λy=>PR n j.length g fs L lo a m c q y/\LN m
 |_,0,w,_,_,_,_,_,_,_,_,_,_=>by omega
 |n,k+1,w,j,hs,lo,m,c,q,hch,hln,hl,hL=>by
  show Ok (agM (agO k) j g fs a 0 lo) _;unfold agM;refine bG (λy=>PR n j.length g fs L lo a m c q y/\LN m) ?_ λy ⟨⟨j,e,h⟩,h2⟩=>by subst e;exact aG ⟨⟨j,rfl,h⟩,h2⟩
  refine bF (λs:Int×List aC×List aH×Int×Int×List dB×List (List UInt8)=>∃i c1 q1 c2 q2:Nat,∃Y N,s=((i:Int),g,fs,a,0,Y,N)/\i<=j.length/\Y.length=i/\Ch (QS g (jw fs) L n) lo Y N c1 q1/\Ch (RS g (jw fs) n) N (j.drop i) m c2 q2/\c=c1+c2/\q=q1+q2/\LN N) (λs=>(j.length-s.1).toNat)
   ⟨0,0,0,c,q,[],lo,rfl,by omega,rfl,.nil,hch,by omega,by omega,hln⟩ λs ⟨i,c1,q1,c2,q2,Y,N,e,e1,e2,e3,e4,e5,e6,e7⟩=>?_
  subst e;refine dA (λB=>?_) λB=>?_
  rotate_left
  .have B:¬ (i:Int)<j.length:=by simpa using B
   obtain⟨f1,f2,f3⟩:=e4.fin (by omega);subst f1;subst f2;subst f3;have:i=j.length:=by omega
   subst this;subst e5;subst e6;exact aG ⟨⟨Y,rfl,e2,e3⟩,e7⟩
  have B:(i:Int)<j.length:=by simpa using B
  have J:=aQ.2 (show 0<=(i:Int)/\(i:Int)<j.length from ⟨by omega,B⟩);obtain⟨l2,c3,c4,k3,k4,hx,hr,d1,d2⟩:=e4.at (by omega);obtain⟨x,T⟩ :∃x,j.getD (i:Int).toNat qp=x:=⟨_,rfl⟩;rw[Q4]at T;rw[T]at hx;simp only[Q4,T];cases n with
  |zero=>exact hx.elim
  |succ n=>
   have hl2:l2.length<=1000:=by have:=(hr.len (G_ _)).1;omega
   have hl1:N.length<=1000:=by have:=(G_ _ _ _ _ _ _ hx).1;omega
   have K :∀z∈l2,z∈L:=λz hz=>hL z (SX hr z hz);obtain⟨m1,m2,p1,p2,r1,r2,ht,w1,w2,w3,w4,w5,w6,⟨w7,w8,w9⟩,w10,w11⟩:=aoM K hx;have U:Sc g fs N:=⟨hg,Z,e7,by omega⟩;have axQ :∀z∈N,z∈L:=λz hz=>K z (JQ _ _ _ _ _ _ hx z hz);refine bK J (bG (λy=>∃ar,y=(g,fs,a,0,ar)/\ar.length=x.exprs.length/\∀i,i<x.exprs.length->QX g (jw fs) L (ht i) (ar.getD i fE)) ?_ λy ⟨ar,e,f1,f2⟩=>?_)
   .refine bF (λs:Int×List aC×List aH×Int×Int×List aW=>∃ar,s=((ar.length:Int),g,fs,a,0,ar)/\ar.length<=x.exprs.length/\∀i,i<ar.length->QX g (jw fs) L (ht i) (ar.getD i fE)) (λs=>(x.exprs.length-s.1).toNat) ⟨[],rfl,by simp,λi h=>by simp at h⟩ λs ⟨ar,e,f1,f2⟩=>?_;subst e;refine dA (λB=>?_) λB=>?_
    rotate_left
    .have B:¬ (ar.length:Int)<x.exprs.length:=by simpa using B
     exact aG ⟨ar,rfl,by omega,λi hi=>f2 i (by omega)⟩
    have B:(ar.length:Int)<x.exprs.length:=by simpa using B
    have J:=aQ.2 (show 0<=(ar.length:Int)/\(ar.length:Int)<x.exprs.length from ⟨by omega,B⟩);obtain⟨hh,hz⟩:=w10 ar.length (by omega);simp only[Q4];refine bK J (bG _ (Qm (ht ar.length) 1048576 (by omega) (by omega) _ hz) λy hy=>bG (λy=>y=(g,fs,a,0)) (bW m_ (aG rfl)) λy e=>?_);subst e;refine bK J (bG _ (Ql U (ht ar.length) 1048576 (by omega) _ hz) λy ⟨k,o,v,i,nm,Nz,e,hr⟩=>?_);subst e;refine bK (by unfold aX;simp;omega) (aG ⟨⟨ar++[aW.mk k o v i nm Nz],?_,by simp;omega,λi hi=>?_⟩,?_⟩)
    .simp only[aF (x:=(ar.length:Int)+1) (by omega)];simp
    .rw [ng];simp only[XS,W4]at hi;by_cases e:i<ar.length
     .rw [QQ e];exact f2 i e
     .have:i=ar.length:=by omega
      subst this;rw[Qt e,QQ rfl];exact hr.mono axQ
    .simp only[aF (x:=(ar.length:Int)+1) (by omega)];omega
   subst e;refine ahd U (P:=λz=>(x.kind=1->z=0)/\(x.kind=2->z=1\/z=2)/\(x.kind=3->z=3)) (λhm=>⟨λw=>absurd hm (w1 w).2.2,λ_=>.inl rfl,λw=>absurd hm (YJ U (by rw[ahb hg (w4 w)];omega))⟩) (λhm=>?_) λz ⟨z1,z2,z3⟩=>?_
   .by_cases H:x.kind=1
    .exact ⟨0,abg hg Z (abk _ (w1 H).2.1),λ_=>rfl,λh=>by omega,λh=>by omega⟩
    .by_cases hk2:x.kind=2
     .exact ⟨2,JW hg ((w3 hk2).resolve_left hm),λh=>by omega,λ_=>.inr rfl,λh=>by omega⟩
     .by_cases hk3:x.kind=3
      .exact ⟨3,JW hg (w4 hk3),λh=>by omega,λh=>by omega,λ_=>rfl⟩
      .exact lC (ahc hg Z) λy _=>⟨λh=>absurd h H,λh=>absurd h hk2,λh=>absurd h hk3⟩
   refine bG (λy=>y=(g,fs,a,0,m1)) ?_ λy e=>?_
   .refine dA (λw=>?_) λw=>?_
    .have w:x.kind=1:=by simpa using w
     refine bG (λy=>y=(g,fs,a,0)) (bW (by rw[z1 w];rfl) (aG rfl)) λy e=>?_;subst e;exact bK (by unfold aX;simp;omega) (aG (by rw[(w1 w).1]))
    .have w:x.kind≠1:=by simpa using w
     rw[w2 w];refine bG (λu=>u=decide (x.kind=2\/x.kind=3)) ?_ λu hu=>?_
     .refine dA (λh=>aG ?_) λh=>aG ?_
      .have h:x.kind=2:=by simpa using h
       simp[h]
      .have h:¬ x.kind=2:=by simpa using h
       simp[h]
     subst hu;refine bG (λy=>y=(g,fs,a,0)) ?_ λy e=>by subst e;exact aG rfl
     refine dA (λM=>?_) λ_=>aG rfl;have M:x.kind=2\/x.kind=3:=by simpa using M
     refine bG (λy=>y=(g,fs,a,0)) ?_ λy e=>by subst e;exact aG rfl
     refine bW (ZS (by rcases M with h|h;(· have:=z2 h;omega);(· have:=z3 h;omega))) (bG (λu=>u=zv) ?_ λu hu=>?_)
     .refine dA (λh=>?_) λh=>?_
      .have h:x.kind=2:=by simpa using h
       have h3:¬ x.kind=3:=by omega
       refine dA (λX=>?_) λ_=>bW (ZS h3) (aG rfl);have X:¬ z=1:=by simpa using X
       exact bW (by have:=(z2 h).resolve_left X;rw[this];rfl) (bW (ZS h3) (aG rfl))
      .have h:¬ x.kind=2:=by simpa using h
       have h3:=M.resolve_left h;exact goT (W5 h3) (aG (by rw[z3 h3];rfl))
     subst hu;exact bG (λy=>y=(g,fs,a,0)) (bW rfl (aG rfl)) λy e=>by subst e;exact aG rfl
   subst e;have hm1:LN m1:=by
    by_cases H:x.kind=1
    .rw [(w1 H).1];intro z hz;rcases Ys.1 hz with hz|hz;exact e7 z hz;rw[X1]at hz;subst hz;exact abk _ (w1 H).2.1
    .rw [w2 H];exact e7
   have hl3:=(w6.len (G_ _)).1;refine bG _ (He hg Z (L:=L) (a:=a) n k (by omega) _ w7 _ _ _ _ w5 hm1 (by omega) λz hz=>K z (SX w6 z hz)) λy ⟨⟨s1,e,g1,g2⟩,g3⟩=>?_;subst e;refine bG _ (He hg Z (L:=L) (a:=a) n k (by omega) _ w8 _ _ _ _ w6 g3 hl2 K) λy ⟨⟨s2,e,g4,g5⟩,g6⟩=>?_;subst e;refine bK (by unfold aX;simp;omega) (aG ⟨⟨i+1,_,_,_,_,Y++[dB.mk x.kind x.line x.name ar s1 s2],l2,?_,by omega,?_,e3.snoc (w11 ar s1 s2 f1 f2 (by omega) (by omega) g2 g5 ⟨g1,g4⟩),hr,by omega,by omega,g6⟩,?_⟩)
   .show (bP ((i:Int)+1),_)=_;rw[aF (by omega)];rfl
   .simp;exact e2
   .show ((j.length:Int)-bP ((i:Int)+1)).toNat<((j.length:Int)-i).toNat;rw[aF (by omega)];omega
end
structure aoN(g:List aC)(fs:List aH):Prop where
 gn:GN g
 fn:FN fs
 bd :∀i,i<fs.length->(fs.getD i bQ).body.length<=10/\∃L c q,Ch (QS g (jw fs) L 3) (fs.getD i bQ).params (fs.getD i bQ).body L c q/\c<=7/\q<=14/\LN L/\L.length<=16
theorem PN.cls(h:PN j):LN j:=λx m=>by obtain⟨k,ps,e⟩:=Wz m;have:=h.2 k ps;rw[getD_at _ ps,e]at this;rw[this];rfl
theorem YN{g:List aC}{sg:List (List UInt8×Nat)}{L:List (List UInt8)}:∀n lo s l1 c k,QS g sg L n lo s l1 c k->lo.length<=l1.length/\l1.length<=lo.length+k
 |0,_,_,_,_,_,h=>h.elim
 |n+1,lo,s,l1,c,k,h=>by
  have j:=YN (g:=g) (sg:=sg) (L:=L) n;cases (show QS1 g sg L (QS g sg L n) lo s l1 c k from h)with
  |var _ _=>simp
  |assign _ _=>omega
  |step _ _=>omega
  |store _ _ _=>omega
  |if' _ _ _ a b=>have:=a.len j;have:=b.len j;omega
  |sN _ _ a=>have:=a.len j;omega
  |plain _ _=>omega
theorem ahi{α:Type}{l m:List α}{d:α}(q:l.length=m.length)(h :∀i,i<m.length->l.getD i d=m.getD i d):l=m:=by refine Km q λi w j=>?_;have:=h i j;rw[getD_at _ w,getD_at _ j]at this;exact this
theorem YO{g:List aC}{fs:List aH}(h:Src g fs):Ok (f80 g fs) λy=>aoN y.2.2.1 y.2.2.2:=by
 have hg:=h.gn;have X:=h.fn;have hg4:=hg.1;obtain⟨⟨Y,hf4⟩,Z,N⟩:=id X;have M:inB (0:Int) fs.length=zj:=aQ.2 ⟨by omega,by omega⟩;unfold f80;refine bG (λy=>y=zv) (bW m_ (aG m_)) λs5 e=>?_;subst e;refine bW rfl (bG (λy=>y=zv) (bW m_ (bK M (bW ?_ (bK M (aG ?_))))) λs15 e=>?_)
 .have:=(N 0 Y).1;rw[QQ rfl]at this;rw[show Int.toNat 0=0 from rfl,this];rfl
 .rw [show Int.toNat 0=0 from rfl,Z];rfl
 subst e;refine bW rfl (iH (λ_=>True) (iK g.length (λ_=>True) (by omega) (λi J _=>goT GX (bK (aQ.2 ⟨by omega,by omega⟩) (bG (λy=>y=(i:Int)) ?_ λy e=>by subst e;exact bW (by simp) (aG ⟨rfl,trivial⟩)))) λ_=>bW m_ (aG trivial)) λ_ _=>?_)
 .refine lC (JU (by omega)) λy hy=>?_;simp only[Q4]at hy;rcases hy with⟨_,hn⟩|⟨j,e,h2,h3⟩;exact absurd rfl (hn i J);rw[e,hg.inj h2 J h3]
 refine iH (λ_=>True) (iK fs.length (λ_=>True) (by omega) (λi J _=>goT GX (bG (λy=>y=zv) ?_ λy e=>by subst e;exact bW rfl (aG ⟨rfl,trivial⟩))) λ_=>bW m_ (aG trivial)) λ_ _=>?_
 .refine bK (aQ.2 ⟨by omega,by omega⟩) ?_;simp only[Q4];refine d_ (SY hg (by rw[X.cls i J];omega)) (bW rfl (bK (aQ.2 ⟨by omega,by omega⟩) (bG _ (JV (by omega)) λy hy=>aG ?_)));rcases hy with⟨_,hn⟩|⟨j,e,h2,h3⟩;exact absurd rfl (hn i J);rw[e,X.inj h2 J h3];simp
 refine bK (by unfold aX;simp;omega) (iH (λH=>(H.length=fs.length/\∀i,i<fs.length->(H.getD i bQ).name=(fs.getD i bQ).name/\(H.getD i bQ).params=(fs.getD i bQ).params)/\∀i,i<fs.length->(H.getD i bQ).body.length<=10/\∃L c q,Ch (QS g (jw fs) L 3) (fs.getD i bQ).params (H.getD i bQ).body L c q/\c<=7/\q<=14/\LN L/\L.length<=16) ?_ λH ⟨⟨r1,r2⟩,r3⟩=>aG ?_)
 rotate_left
 .have hsg:jw H=jw fs:=by
   refine ahi (d:=([],0)) (by unfold jw;simp[r1]) λi w=>?_;have w:i<fs.length:=by simpa[jw]using w
   unfold jw;rw[getD_at _ (by simpa using r1▸w),getD_at _ (by simpa using w)];simp only[Kn];have:=r2 i w;rw[getD_at _ (by omega),getD_at _ w]at this;rw[this.1,this.2]
  have e0:fA++g=g:=by simp
  simp only[e0];refine⟨hg,⟨⟨by omega,by omega⟩,by rw[(r2 0 Y).2];exact Z,λi w=>?_⟩,λi w=>?_⟩
  .rw [(r2 i (by omega)).1,(r2 i (by omega)).2];exact N i (by omega)
  .rw [hsg,(r2 i (by omega)).2];exact r3 i (by omega)
 refine bF (λs:Int×List aH=>∃n:Nat,s.1=n/\n<=fs.length/\(s.2.length=n/\∀i,i<n->(s.2.getD i bQ).name=(fs.getD i bQ).name/\(s.2.getD i bQ).params=(fs.getD i bQ).params)/\∀i,i<n->(s.2.getD i bQ).body.length<=10/\∃L c q,Ch (QS g (jw fs) L 3) (fs.getD i bQ).params (s.2.getD i bQ).body L c q/\c<=7/\q<=14/\LN L/\L.length<=16) (λs=>(fs.length-s.1).toNat) ⟨0,rfl,by omega,⟨rfl,λi w=>by omega⟩,λi w=>by omega⟩ λ⟨q,H⟩ ⟨n,e1,e2,⟨e3,e4⟩,e5⟩=>?_;simp only at e1 e3 e4 e5;subst e1;refine dA (λT=>?_) (λT=>?_)
 rotate_left
 .have:¬ (n:Int)<fs.length:=by simpa using T
  have:n=fs.length:=by omega
  subst this;exact aG ⟨⟨e3,e4⟩,e5⟩
 have T:n<fs.length:=by simpa using T
 obtain⟨hb,lo,c,q,z,hc7,asQ⟩:=h.bd n T;obtain⟨_,m⟩:=N n T;obtain⟨f,K⟩ :∃f,fs.getD n bQ=f:=⟨_,rfl⟩;rw[K]at hb z m;simp only[Q4,K];have hp2:=m.1;have hlen:=(z.len (G_ 3)).2;have B:(zj&&decide ((List.length kL+f.params.length)*16<=140737488355328))=zj:=by simp;omega
 have he:kL++f.params=f.params:=by simp
 have hR0 :∀lo s l1 c k,¬ RS g (jw fs) 0 lo s l1 c k:=λ_ _ _ _ _ h=>h;refine bK (aQ.2 ⟨by omega,by omega⟩) (bG (λy=>y=zv) ?_ λy e=>?_)
 .refine bW m_ ?_;refine d_ (y:=lo) ?_ (bW m_ (bG _ (S_ hR0 (λ_ _ _ _ _ _=>abj) 3 1048576 (by omega) (by omega) _ hb _ _ _ _ z) λy hy=>aG m_));apply ok_eq;unfold f74;refine bK B ?_;rw[he];exact d_ (JX hR0 (λ_ _ _ _ _ _=>abj) 3 1048576 (by omega) _ hb _ _ _ _ z (by omega) λn lo s l1 c k h=>(G_ n lo s l1 c k h).1) (aG rfl)
 subst e;refine bW rfl (iH (λ_=>True) (iK f.params.length (λ_=>True) (by omega) (λi J _=>goT GX (bG (λy=>y=zv) ?_ λy e=>by subst e;exact bW rfl (aG ⟨rfl,trivial⟩))) λ_=>bW m_ (aG trivial)) λ_ _=>?_)
 .refine bK (Nj.2 ⟨⟨by omega,by omega⟩,by omega⟩) (bK (aQ.2 ⟨by omega,by omega⟩) ?_);simp only[Q4,vA,List.drop_zero];refine d_ (ag9 (by simp;omega)) (bW (ZS λhm=>?_) (bK (aQ.2 ⟨by omega,by omega⟩) (d_ (abg hg X (m.cls _ (by rw[getD_at _ J];exact X2 _))) (aG rfl))));obtain⟨k,hk,e⟩:=Wz hm;have hk':k<i:=by rw[VV]at hk;omega
  rw[List.getElem_take]at e;have U:=m.2 k (by omega);have a2:=m.2 i J;rw[getD_at _ (by omega:k<f.params.length),e,a2]at U;injection U with _ U;injection U with U _
  have:=G9 (by omega) (by omega) U;omega
 refine bK B ?_;rw[he];refine bG _ (He hg X (L:=lo) (a:=0) 3 1048576 (by omega) _ hb _ _ _ _ z m.cls (by omega) λx hx=>hx) λy ⟨⟨ss,e,c1,c2⟩,c3⟩=>?_;subst e;refine bW rfl (bK B (bK (by unfold aX;simp;omega) (aG ⟨⟨n+1,?_,by omega,⟨by simp[e3],λi w=>?_⟩,λi w=>?_⟩,?_⟩)))
 .simp only;rw[aF (by omega)];rfl
 .simp only;rw[ng];by_cases e:i<H.length
  .rw [QQ e];exact e4 i (by omega)
  .have:i=n:=by omega
   subst this;rw[Qt e,QQ e3.symm,K];exact⟨rfl,rfl⟩
 .simp only;rw[ng];by_cases e:i<H.length
  .rw [QQ e];exact e5 i (by omega)
  .have:i=n:=by omega
   subst this;rw[Qt e,QQ e3.symm,K];exact⟨by simp only;omega,lo,c,q,c2,hc7,asQ,c3,by omega⟩
 .simp only;rw[aF (by omega)];omega
def RG(re x:Int):Prop:=0<=x/\x<re
def GI(a:Bool)(g:List aC)(v:Int):Prop:=(0<=v/\v<g.length)/\decide (0<(g.getD v.toNat (aC.mk bM 0)).size)=a
inductive IV(g:List aC)(sg:List (List UInt8×Nat))(cl re:Int):dP->Prop
 |const {o d a b v:Int} {ar:List Int}:RG re d->ar.length<=10->IV g sg cl re (dP.mk 1 o d a b v ar)
 |move {o d a b v:Int} {ar:List Int}:RG re d->RG re a->ar.length<=10->IV g sg cl re (dP.mk 2 o d a b v ar)
 |un {o d a b v:Int} {ar:List Int}:RG re d->RG re a->o=1\/o=2->ar.length<=10->IV g sg cl re (dP.mk 3 o d a b v ar)
 |bin {o d a b v:Int} {ar:List Int}:RG re d->RG re a->RG re b->3<=o/\o<=11->ar.length<=10->IV g sg cl re (dP.mk 4 o d a b v ar)
 |load {o d a b v:Int} {ar:List Int}:RG re d->GI zv g v->ar.length<=10->IV g sg cl re (dP.mk 5 o d a b v ar)
 |store {o d a b v:Int} {ar:List Int}:RG re a->GI zv g v->ar.length<=10->IV g sg cl re (dP.mk 6 o d a b v ar)
 |elem {o d a b v:Int} {ar:List Int}:RG re d->RG re a->GI zj g v->ar.length<=10->IV g sg cl re (dP.mk 7 o d a b v ar)
 |set {o d a b v:Int} {ar:List Int}:RG re a->RG re b->GI zj g v->ar.length<=10->IV g sg cl re (dP.mk 8 o d a b v ar)
 |read {o d a b v:Int} {ar:List Int}:RG re d->ar.length<=10->IV g sg cl re (dP.mk 9 o d a b v ar)
 |print {o d a b v:Int} {ar:List Int}:RG re a->ar.length<=10->IV g sg cl re (dP.mk 10 o d a b v ar)
 |call {o d a b v:Int} {ar:List Int}:RG re d->(0<=v/\v<sg.length)->(sg.getD v.toNat ([],0)).2=ar.length->(∀x∈ar,RG re x)->ar.length<=10->IV g sg cl re (dP.mk 11 o d a b v ar)
 |I_ {o d a b v:Int} {ar:List Int}:RG re d->RG re a->(∀x∈ar,RG re x)->ar.length<=10->IV g sg cl re (dP.mk 12 o d a b v ar)
 |func {o d a b v:Int} {ar:List Int}:RG re d->(0<=v/\v<cl)->ar.length<=10->IV g sg cl re (dP.mk 14 o d a b v ar)
variable {g:List aC} {sg:List (List UInt8×Nat)} {cl re re':Int}
theorem RG.mono(j:re<=re'){x:Int}(h:RG re x):RG re' x:=⟨h.1,by have:=h.2;omega⟩
theorem IV.mono(j:re<=re'){i:dP}(h:IV g sg cl re i):IV g sg cl re' i:=by
 cases h with
 |const a b=>exact .const (a.mono j) b
 |move a b c=>exact .move (a.mono j) (b.mono j) c
 |un a b c d=>exact .un (a.mono j) (b.mono j) c d
 |bin a b c d e=>exact .bin (a.mono j) (b.mono j) (c.mono j) d e
 |load a b c=>exact .load (a.mono j) b c
 |store a b c=>exact .store (a.mono j) b c
 |elem a b c d=>exact .elem (a.mono j) (b.mono j) c d
 |set a b c d=>exact .set (a.mono j) (b.mono j) c d
 |read a b=>exact .read (a.mono j) b
 |print a b=>exact .print (a.mono j) b
 |call a b c d e=>exact .call (a.mono j) b c (λx m=>(d x m).mono j) e
 |I_ a b c d=>exact .I_ (a.mono j) (b.mono j) (λx m=>(c x m).mono j) d
 |func a b c=>exact .func (a.mono j) b c
structure TV(re:Int)(n:Nat)(k a t e:Int):Prop where
 kind:k=1\/k=2\/k=3
 reg:k≠1->RG re a
 suc :∀x∈succs k t e,0<=x/\x<n
variable{a:Int}
theorem TV.mono{j:Nat}{b:Int}(m:re<=re')(hn:n<=j)(h:TV re n b a v d):TV re' j b a v d:=⟨h.kind,λq=>(h.reg q).mono m,λx w=>by have:=h.suc x w;omega⟩
def tvB(re:Int)(n:Nat)(b:aN):Prop:=TV re n b.cu b.lN b.gu b.dM
def Dl(bl:List aN):Nat:=(bl.map λb=>b.instrs.length+1).sum
structure Inv(g:List aC)(sg:List (List UInt8×Nat))(cl re:Int)(w n:Nat)(bl:List aN)(O:Nat->Prop)(P:Nat->Nat->Prop):Prop where
 wt:Dl bl<=w
 len:bl.length<=n
 ins :∀b∈bl,∀i∈b.instrs,IV g sg cl re i
 trm :∀b,b<bl.length->¬ O b->tvB re bl.length (bl.getD b aB)
 opn :∀b,O b->b<bl.length
 src :∀a b,P a b->O a/\b<bl.length
 con :∀S:Nat->Prop,S 0->(∀b,b<bl.length->¬ O b->S b->∀x∈pq bl b,S x.toNat)->(∀a b,P a b->S a->S b)->∀b,b<bl.length->S b
variable{bl:List aN}{O:Nat->Prop}{P:Nat->Nat->Prop}
theorem Inv.up{a:Nat}(h:Inv g sg cl re n a bl O P)(y:re<=re')(z:n<=w)(hn:a<=k):Inv g sg cl re' w k bl O P:=⟨K0 h.wt z,K0 h.len hn,λb j i B=>(h.ins b j i B).mono y,λb j H=>(h.trm b j H).mono y (YY _),h.opn,h.src,h.con⟩
theorem Inv.cast{a:Nat}{j:Nat->Prop}{m:Nat->Nat->Prop}(h:Inv g sg cl re w a bl O P)(q :∀x,O x↔j x)(y :∀n b,P n b↔m n b):Inv g sg cl re w a bl j m:=by have z:O=j:=funext λx=>propext (q x);have B:P=m:=funext λn=>funext λb=>propext (y n b);rw[<-z,<-B];exact h
theorem ahj(bl:List aN):bl.length<=Dl bl:=by
 unfold Dl
 induction bl with
 |nil=>simp
 |cons b bl h=>simp only[Qf,JS,Wm];omega
theorem YP:∀b∈bl,b.instrs.length+1<=Dl bl:=by
 unfold Dl
 induction bl with
 |nil=>intro b h;cases h
 |cons c bl j=>
  intro b hb;simp only[Qf,JS];rcases Xs.1 hb with e|hb
  .subst e;omega
  .have:=j b hb;omega
theorem YQ:∀{bl:List aN} {a:Nat} {b:aN},a<bl.length->Dl (bl.set a b)+((bl.getD a aB).instrs.length+1)=Dl bl+(b.instrs.length+1)
 | [],a,b,h=>by simp at h
 |c::bl,0,b,h=>by unfold Dl;simp;omega
 |c::bl,a+1,b,h=>by have:=YQ (bl:=bl) (a:=a) (b:=b) (by simpa using h);unfold Dl at this ⊢;simp only[List.set_cons_succ,Qf,JS,List.getD_cons_succ];omega
section
variable {fs:List aH} {lo:List (List UInt8)} {nu:Int}
theorem Tc{j:List aN}(h:j.getD b aB=bl.getD b aB):pq j b=pq bl b:=by unfold pq;rw[h]
theorem o8{β:Type}{L a:Nat}{b ln:Int}{f}{Q:β->Prop}(h:Inv g sg cl re n L bl O P)(K:O a)(hk:n<=1000000)(c :∀j,j.length=bl.length+1->Inv g sg cl re (n+1) (L+1) j (λx=>x=bl.length\/O x) (λx y=>(x=a/\y=bl.length)\/P x y)->Ok (f ((bl.length:Int),g,fs,lo,nu,re,(bl.length:Int),j)) Q):
  Ok (Option.bind (f75 ln g fs lo nu re b bl) f) Q:=by
 have hl:=ahj bl;have M:=h.wt;have B:=h.opn a K;have hg :∀(x:aN) w,w<bl.length->(bl++[x]).getD w aB=bl.getD w aB:=λx w hb=>by rw[ng,QQ hb]
 refine bG (λy=>∃j,y=((bl.length:Int),g,fs,lo,nu,re,(bl.length:Int),j)/\j.length=bl.length+1/\Inv g sg cl re (n+1) (L+1) j (λx=>x=bl.length\/O x) (λx y=>(x=a/\y=bl.length)\/P x y)) (bK (by unfold aX;simp;omega) (aG ⟨bl++[_],rfl,by simp,⟨?_,by have:=h.len;simp;omega,λw hb=>?_,λw hb q=>?_,λw hb=>?_,λx y hp=>?_,λS N H z w hb=>?_⟩⟩)) λy ⟨j,e,H,z⟩=>by subst e;exact c j H z
 .unfold Dl at M ⊢;simp;omega
 .rcases Ys.1 hb with hb|hb;exact h.ins w hb;rw[X1]at hb;subst hb;exact λi T=>by cases T
 .simp only[XS,W4]at hb;have U:w≠bl.length:=λe=>q (.inl e);rw[hg _ w (by omega)];exact(h.trm w (by omega) λhb=>q (.inr hb)).mono (Vn _) (by simp)
 .rcases hb with hb|hb
  .simp;omega
  .have:=h.opn w hb;simp;omega
 .rcases hp with⟨X,e2⟩|hp
  .exact ⟨.inr (X▸K),by simp;omega⟩
  .have:=h.src x y hp;exact⟨.inr this.1,by simp;omega⟩
 .simp only[XS,W4]at hb;have m :∀w,w<bl.length->S w:=h.con S N (λw hb q J x Y=>H w (by simp;omega) (λZ=>Z.elim (λe=>by omega) q) J x (by rw[Tc (hg _ w hb)];exact Y)) λx y hp J=>z x y (.inr hp) J;by_cases e:w=bl.length
  .rw [e];exact z a bl.length (.inl ⟨rfl,rfl⟩) (m a B)
  .exact m w (by omega)
theorem WJ{β:Type}{a:Nat}{p0 p1 p2 p3 p4 p5:Int}{ar:List Int}{f}{Q:β->Prop}(h:Inv g sg cl re n w bl O P)(L:O a)(hk:n<=1000000)(hi:IV g sg cl re (dP.mk p0 p1 p2 p3 p4 p5 ar))(c :∀j,j.length=bl.length->Inv g sg cl re (n+1) w j O P->Ok (f (g,fs,lo,nu,re,(a:Int),j)) Q):
  Ok (Option.bind (f77 p0 p1 p2 p3 p4 p5 ar g fs lo nu re a bl) f) Q:=by
 have m:=h.opn a L;have hw:=h.wt;have B:=aQ.2 (show 0<=(a:Int)/\(a:Int)<bl.length by omega);have M:bl.getD a aB∈bl:=by rw[getD_at _ m];exact X2 _
 have T:=YP _ M;have H:=λb=>YQ (bl:=bl) (a:=a) (b:=b) m;refine bG (λy=>∃j,y=(g,fs,lo,nu,re,(a:Int),j)/\j.length=bl.length/\Inv g sg cl re (n+1) w j O P) ?_ λy ⟨j,e,q,J⟩=>by subst e;exact c j q J
 unfold f77;refine bG (λy=>∃j,y=(g,fs,lo,nu,re,(a:Int),j)/\j.length=bl.length/\Inv g sg cl re (n+1) w j O P) ?_ λy ⟨j,e,q,J⟩=>by subst e;exact bK (by simp[q]) (aG ⟨j,rfl,q,J⟩)
 simp only[Q4];obtain⟨x,N⟩ :∃x,bl.getD a aB=x:=⟨_,rfl⟩;simp only[N]at M T H ⊢;have hg :∀b,(bl.set a (aN.mk (x.instrs++[dP.mk p0 p1 p2 p3 p4 p5 ar]) x.cu x.lN x.gu x.dM x.line x.iJ x.h_)).getD b aB=if b=a then _ else bl.getD b aB:=λb=>iM m
 refine bK B (bK ?_ (bK B (bK (by simp) (aG ⟨_,rfl,by simp,⟨?_,by simpa using h.len,λb hb=>?_,λb hb K=>?_,λb hb=>by simpa using h.opn b hb,λx y U=>by simpa using h.src x y U,λS X q J b hb=>?_⟩⟩))))
 .show (zj&&decide _)=zj;simp only[Bool.true_and,Wa,W4];omega
 .have:=H (aN.mk (x.instrs++[dP.mk p0 p1 p2 p3 p4 p5 ar]) x.cu x.lN x.gu x.dM x.line x.iJ x.h_);simp only[XS,W4]at this;omega
 .rcases qu hb with hb|hb;exact h.ins b hb;subst hb;intro i hi';rcases Ys.1 hi' with hi'|hi';exact h.ins x M i hi';rw[X1]at hi';subst hi';exact hi
 .rw [hg,Qt (show ¬ b=a from λe=>K (e▸L))];simp only[UI]at hb ⊢;exact h.trm b hb K
 .simp only[UI]at hb;refine h.con S X (λb hb K Y z Z=>q b (by simpa using hb) K Y z ?_) J b hb;rw[Tc (bl:=bl) (by rw[hg,Qt (show ¬ b=a from λe=>K (e▸L))])];exact Z
theorem sO{β:Type}{b0:Nat}{f}{Q:β->Prop}(h:Inv g sg cl re n w bl O P)(B:O b0)(Z:TV re bl.length i v d t)(L :∀y,P b0 y->(y:Int)∈succs i d t)
  (c :∀j,j.length=bl.length->Inv g sg cl re n w j (λx=>O x/\x≠b0) (λx y=>P x y/\x≠b0)->Ok (f (g,fs,lo,nu,re,a,j)) Q) :
  Ok (Option.bind (f78 b0 i v d t g fs lo nu re a bl) f) Q:=by
 have m:=h.opn b0 B;have hw:=h.wt;refine bG (λy=>∃j,y=(g,fs,lo,nu,re,a,j)/\j.length=bl.length/\Inv g sg cl re n w j (λx=>O x/\x≠b0) (λx y=>P x y/\x≠b0)) ?_ λy ⟨j,e,q,H⟩=>by subst e;exact c j q H
 unfold f78;refine bG (λy=>∃j,y=(g,fs,lo,nu,re,a,j)/\j.length=bl.length/\Inv g sg cl re n w j (λx=>O x/\x≠b0) (λx y=>P x y/\x≠b0)) ?_ λy ⟨j,e,q,H⟩=>by subst e;exact bK (by simp[q]) (aG ⟨j,rfl,q,H⟩)
 have Y:bl.getD b0 aB∈bl:=by rw[getD_at _ m];exact X2 _
 have J:=λb=>YQ (bl:=bl) (a:=b0) (b:=b) m;simp only[Q4];obtain⟨x,T⟩ :∃x,bl.getD b0 aB=x:=⟨_,rfl⟩;simp only[T]at Y J ⊢;have hg :∀b,(bl.set b0 (aN.mk x.instrs i v d t x.line x.iJ x.h_)).getD b aB=if b=b0 then aN.mk x.instrs i v d t x.line x.iJ x.h_ else bl.getD b aB:=λb=>iM m
 refine bK nZ (aG ⟨_,rfl,by simp,⟨?_,by simpa using h.len,λb hb=>?_,λb hb M=>?_,λb hb=>by simpa using h.opn b hb.1,λx y L=>?_,λS h0 q H b hb=>?_⟩⟩)
 .have:=J (aN.mk x.instrs i v d t x.line x.iJ x.h_);simp only at this;omega
 .rcases qu hb with hb|hb;exact h.ins b hb;subst hb;exact h.ins x Y
 .rw [hg];simp only[UI]at hb ⊢;by_cases e:b=b0
  .rw [QQ e];exact Z
  .rw [Qt e];exact h.trm b hb λU=>M ⟨U,e⟩
 .have:=h.src x y L.1;exact⟨⟨this.1,L.2⟩,by simpa using this.2⟩
 .simp only[UI]at hb;refine h.con S h0 (λb hb M N z hz=>q b (by simpa using hb) (λX=>M X.1) N z ?_) (λx y K N=>?_) b hb
  .rw [Tc (bl:=bl) (by rw[hg,Qt (show ¬ b=b0 from λe=>M (e▸B))])];exact hz
  .by_cases e:x=b0
   .subst e;have:=q x (by simpa using m) (λX=>X.2 rfl) N (y:Int) (by unfold pq;rw[hg,QQ rfl];exact L y K)
    rwa [Q4]at this
   .exact H x y ⟨K,e⟩ N
theorem abl{β:Type}{s:List UInt8}{re:Int}{f}{Q:β->Prop}(H:lo.length<=1000000)(c :∀q:Int,(s∈lo->0<=q/\q<lo.length)->(¬ s∈lo->q=-1)->Ok (f (q,g,fs,lo,nu,re,i,bl)) Q):Ok (Option.bind (f119 s g fs lo nu re i bl) f) Q:=by
 refine bG (λy=>∃q:Int,((s∈lo->0<=q/\q<lo.length)/\(¬ s∈lo->q=-1))/\y=(q,g,fs,lo,nu,re,i,bl)) ?_ λy ⟨q,⟨m,z⟩,e⟩=>by subst e;exact c q m z
 refine bG (λy=>∃q:Int,((s∈lo->0<=q/\q<lo.length)/\(¬ s∈lo->q=-1))/\y=(q,g,fs,lo,nu,re,i,bl)) ?_ λy ⟨q,h,e⟩=>by subst e;exact goK rfl (aG ⟨q,h,rfl⟩)
 unfold agj;refine bG (λy=>∃q:Int,((s∈lo->0<=q/\q<lo.length)/\(¬ s∈lo->q=-1))/\y=(q,g,fs,lo,nu,re,i,bl)) ?_ λy ⟨q,h,e⟩=>by subst e;exact bK (by simp) (aG ⟨q,h,rfl⟩)
 refine iH (λ_=>¬ s∈lo) (iK lo.length (λnm=>lo.getD nm bM≠s) (by omega) (λnm m _=>goT GX (bK nZ (dA (λj=>aG ⟨_,⟨λ_=>by omega,λhn=>?_⟩,rfl⟩) λj=>aG ⟨rfl,by simpa using j⟩))) λhn=>bW m_ (aG λB=>?_)) λ_ hn=>aG ⟨-1,⟨λh=>absurd h hn,λ_=>rfl⟩,rfl⟩
 .have j:lo.getD nm bM=s:=by simpa using j
  exact absurd (by rw[<-j,getD_at _ m];exact X2 _) hn
 .obtain ⟨nm,w,e⟩:=Wz B;have:=hn nm w;rw[getD_at _ w]at this;exact this e
end
def BX:Nat->Nat
 |0=>0
 |1=>0
 |n+2=>3*BX (n+1)+4
def WX:Nat->Nat
 |0=>0
 |n+1=>3*WX n+7
def KX(n:Nat):Int:=2*n+1
theorem aoO{q:Nat}(h:q<=3):q*BX n<=BX (n+1):=by
 cases n with
 |zero=>simp[BX]
 |succ n=>have:=W0 (BX (n+1)) h;simp only[BX]at this ⊢;omega
theorem akO(h:1<=n):BX n+BX n+4<=BX (n+1):=by
 cases n with
 |zero=>omega
 |succ n=>simp only[BX];omega
structure Lw(g:List aC)(fs:List aH)(lo:List (List UInt8)):Prop where
 gn:GN g
 fn:FN fs
 ln:LN lo
 lo:lo.length<=16
theorem abm{g:List aC}{fs:List aH}(m:FN fs){s:List UInt8}(h:(s,n)∈jw fs):Ok (f98 g fs s) λy=>(0<=y/\y<(jw fs).length)/\((jw fs).getD y.toNat ([],0)).2=n/\y<fs.length:=by
 refine lC (S9 m h) λy ⟨i,e,w,j⟩=>?_;subst e;have z:(jw fs).length=fs.length:=by unfold jw;simp
 refine⟨by omega,?_,by omega⟩;rw[Q4,getD_at _ (by omega)];unfold jw;simp only[Kn];rw[getD_at _ w]at j;exact j
theorem JY{g:List aC}{fs:List aH}(hg:GN g){s:List UInt8}(h:PG u g s):Ok (f97 g fs s) λy=>GI u g y:=by refine lC (abf hg h) λy ⟨i,e,m,_,j⟩=>?_;subst e;exact⟨by omega,by rw[Q4];exact j⟩
section
variable {g:List aC} {fs:List aH} {lo:List (List UInt8)} {nu:Int}
structure Pre(g:List aC)(fs:List aH)(lo:List (List UInt8))(re:Int)(w m:Nat)(bl:List aN)(a:Nat)(O:Nat->Prop)(P:Nat->Nat->Prop):Prop where
 inv:Inv g (jw fs) fs.length re w m bl (λx=>x=a\/O x) P
 na:¬ O a
 np :∀y,¬ P a y
 re:lo.length<=re
def PV(w m:Nat)(g:List aC)(fs:List aH)(lo:List (List UInt8))(nu re t k:Int)(bl:List aN)(a:Nat)(O:Nat->Prop)(P:Nat->Nat->Prop)(y:List aC×List aH×List (List UInt8)×Int×Int×Int×List aN):Prop:=∃re' h j,y=(g,fs,lo,nu,re',((h:Nat):Int),j)/\re<=re'/\t+1<=re'/\(re'<=re\/re'<=t+k)/\bl.length<=j.length/\(h=a\/bl.length<=h)/\Pre g fs lo re' w m j h O P
theorem Pre.lt{re:Int}{m:Nat}{a:Nat}(h:Pre g fs lo re n m bl a O P):a<bl.length/\(∀x,O x->x<bl.length/\x≠a)/\∀x y,P x y->x<bl.length/\x≠a/\y<bl.length:=⟨h.inv.opn a (.inl rfl),λx q=>⟨h.inv.opn x (.inr q),λe=>h.na (e▸q)⟩,λx y j=>⟨h.inv.opn x (h.inv.src x y j).1,λe=>h.np y (e▸j),(h.inv.src x y j).2⟩⟩
def VS(g:List aC)(fs:List aH)(lo:List (List UInt8))(nu:Int)(rec:Jl)(n:Nat)(x:aW)(t:Int):Prop:=∀(re:Int) (a:Nat) h w m O P,Pre g fs lo re w m h a O P->w+WX n<=900000->Ok (rec x.kind x.op x.value x.line x.name x.args t g fs lo nu re a h) (PV (w+WX n) (m+BX n) g fs lo nu re t (KX n) h a O P)
theorem ql{b:Int}(h:i≠b):succs 2 b i=[b,i]:=by unfold succs;rw[QQ ⟨rfl,h⟩]
theorem wI{b:Int}:succs 1 b i=[b]:=by unfold succs;rw[Qt (by omega),QQ (by omega)]
theorem Hf{re:Int}(q:RG re a)(w:0<=v/\v<n)(y:0<=d/\d<n)(j:d≠v):TV re n 2 a v d:=
 ⟨by omega,λ_=>q,λx m=>by
  rw[ql j]at m;rcases Xs.1 m with h|h
  .rw [h];exact w
  .rw [X1]at h;rw[h];exact y⟩
theorem Dn{re:Int}(m:0<=v/\v<n):TV re n 1 a v d:=⟨by omega,λh=>absurd rfl h,λx j=>by rw[wI,X1]at j;rw[j];exact m⟩
variable{wH:VY}
theorem adD{rec:Jl}{N:ac2}{p0 re:Int}{s:List UInt8}{z:aW}(hn:1<=n)(hx:VS g fs lo nu rec n x t)(hz:VS g fs lo nu rec n z t)
  {a:Nat}    (h:Pre g fs lo re w k bl a O P) (h0:0<=t) (h1:t<=1000) (hw:w+WX (n+1)<=900000) :
  Ok (aaC rec N wH p0 i v d s [x,z] t g fs lo nu re a bl) (PV (w+WX (n+1)) (k+BX (n+1)) g fs lo nu re t (KX (n+1)) bl a O P):=by
 have hW:WX (n+1)=3*WX n+7:=rfl;have hB:=akO hn;obtain⟨q1,q2,q3⟩:=h.lt;unfold aaC;refine bK rfl (bG _ (hx re a bl w k O P h (by omega)) λy ⟨U,j,J,e,d1,d2,d3,d4,d5,d6⟩=>?_);subst e;obtain⟨u1,u2,u3⟩:=d6.lt;refine o8 (bl:=J) (re:=U) d6.inv (.inl rfl) (by omega) λb2 l2 i2=>bK rfl ?_;have X:Pre g fs lo U (w+WX n+1) (k+BX n+1) b2 J.length (λx=>x=j\/O x) (λx y=>(x=j/\y=J.length)\/P x y):=⟨i2,λhh=>by rcases hh with hh|hh;(· omega);(· have:=u2 _ hh;omega),λy hh=>by rcases hh with hh|hh;(· omega);(· have:=u3 _ _ hh;omega),d6.re⟩
 refine bG _ (hz U J.length b2 _ _ _ _ X (by omega)) λy ⟨q,a3,H,e,e1,e2,e3,e4,e5,e6⟩=>?_;subst e;obtain⟨v1,v2,v3⟩:=e6.lt;have B:RG q t:=⟨h0,by omega⟩;have hc :∀{o p4 a b p2},RG q p4->IV g (jw fs) fs.length q (dP.mk 1 o p4 a b p2 eInt):=λhd=>.const hd (by simp);refine o8 (bl:=H) (re:=q) (a:=a3) e6.inv (.inl rfl) (by omega) λb4 l4 i4=>WJ (bl:=b4) (re:=q) (a:=H.length) i4 (.inl rfl) (by omega) (hc B) λK l5 i5=>o8 (bl:=K) (re:=q) (a:=a3) i5 (.inr (.inl rfl)) (by omega) λb6 l6 i6=>WJ (bl:=b6) (re:=q) (a:=K.length) i6 (.inl rfl) (by omega) (hc B) λL l7 i7=>o8 (bl:=L) (re:=q) (a:=H.length) i7 (.inr (.inl rfl)) (by omega) λb8 l8 i8=>?_;have T:j≠a3:=by omega
 have M :∀x y,P x y->x<bl.length/\x≠a:=λx y hp=>⟨(q3 x y hp).1,(q3 x y hp).2.1⟩;refine sO (bl:=b8) (re:=q) i8 (b0:=a3) (.inr (.inr (.inr (.inl rfl)))) (Hf B (by omega) (by omega) (by omega)) (λy hp=>?_) λY l9 i9=>?_
 .rw [ql (by omega)];rcases hp with hp|hp|hp|hp|hp
  .omega
  .simp [hp.2]
  .simp [hp.2]
  .omega
  .have:=M _ _ hp;omega
 refine bG (λy=>∃Z,y=(g,fs,lo,nu,q,(L.length:Int),Z)/\Z.length=Y.length/\Inv g (jw fs) fs.length q (w+WX n+1+WX n+1+1+1+1+1) (k+BX n+1+BX n+1+1+1) Z (λx=>((x=L.length\/x=K.length\/x=H.length\/x=a3\/x=j\/O x)/\x≠a3)/\x≠j)
   (λx y=>(((x=H.length/\y=L.length)\/(x=a3/\y=K.length)\/(x=a3/\y=H.length)\/(x=j/\y=J.length)\/P x y)/\x≠a3)/\x≠j)) ?_ λy ⟨b10,e,l10,i10⟩=>?_
 .have hp :∀y,(((j=H.length/\y=L.length)\/(j=a3/\y=K.length)\/(j=a3/\y=H.length)\/(j=j/\y=J.length)\/P j y)/\j≠a3)->y=J.length:=λy hp=>by rcases hp.1 with hp|hp|hp|hp|hp;omega;omega;omega;exact hp.2;have:=M _ _ hp;omega
  refine dA (λ_=>?_) λ_=>?_
  .refine sO (bl:=Y) (re:=q) i9 (b0:=j) ⟨.inr (.inr (.inr (.inr (.inl rfl)))),T⟩ (Hf B (by omega) (by omega) (by omega)) (λy hh=>?_) λb l p3=>aG ⟨b,rfl,l,p3⟩;rw[ql (by omega),hp y hh];simp
  .refine sO (bl:=Y) (re:=q) i9 (b0:=j) ⟨.inr (.inr (.inr (.inr (.inl rfl)))),T⟩ (Hf B (by omega) (by omega) (by omega)) (λy hh=>?_) λb l p3=>aG ⟨b,rfl,l,p3⟩;rw[ql (by omega),hp y hh];simp
 subst e;refine sO (bl:=b10) (re:=q) i10 (b0:=H.length) ⟨⟨.inr (.inr (.inl rfl)),by omega⟩,by omega⟩ (Dn (by omega)) (λy hp=>?_) λb11 l11 i11=>sO (bl:=b11) (re:=q) i11 (b0:=K.length) ⟨⟨⟨.inr (.inl rfl),by omega⟩,by omega⟩,by omega⟩ (Dn (by omega)) (λy hp=>?_) λb12 l12 i12=>aG ⟨q,L.length,b12,rfl,by omega,by omega,?_,by omega,by omega,⟨?_,λhh=>?_,λy hh=>?_,?_⟩⟩
 .rw [wI];rcases hp.1.1 with hp|hp|hp|hp|hp
  .simp [hp.2]
  .omega
  .omega
  .omega
  .have:=M _ _ hp;omega
 .exfalso;rcases hp.1.1.1 with hp|hp|hp|hp|hp;omega;omega;omega;omega;have:=M _ _ hp;omega
 .unfold KX at d3 e3 ⊢;omega
 .refine ((i12.up (Vn _) (by omega) (by omega)).cast (λx=>⟨λhh=>?_,λhh=>?_⟩) λx y=>⟨λhh=>?_,λhh=>?_⟩)
  .rcases hh.1.1.1.1 with e|e|e|e|e|e
   .exact .inl e
   .exact absurd e hh.2
   .exact absurd e hh.1.2
   .exact absurd e hh.1.1.1.2
   .exact absurd e hh.1.1.2
   .exact .inr e
  .rcases hh with e|e
   .subst e;exact⟨⟨⟨⟨.inl rfl,by omega⟩,by omega⟩,by omega⟩,by omega⟩
   .have:=q2 x e;exact⟨⟨⟨⟨.inr (.inr (.inr (.inr (.inr e)))),by omega⟩,by omega⟩,by omega⟩,by omega⟩
  .rcases hh.1.1.1.1 with e|e|e|e|e
   .exact absurd e.1 hh.1.2
   .exact absurd e.1 hh.1.1.1.2
   .exact absurd e.1 hh.1.1.1.2
   .exact absurd e.1 hh.1.1.2
   .exact e
  .have:=M _ _ hh;exact⟨⟨⟨⟨.inr (.inr (.inr (.inr hh))),by omega⟩,by omega⟩,by omega⟩,by omega⟩
 .have:=q2 _ hh;omega
 .have:=M _ _ hh;omega
 .have:=h.re;omega
def PVs(w m q:Nat)(g:List aC)(fs:List aH)(lo:List (List UInt8))(nu re t k:Int)(bl:List aN)(a:Nat)(O:Nat->Prop)(P:Nat->Nat->Prop)(y:List aC×List aH×List (List UInt8)×Int×Int×Int×List Int×List aN):Prop:=∃re' h j z,y=(g,fs,lo,nu,re',((h:Nat):Int),j,z)/\(j.length=q/\∀x∈j,RG re' x)/\re<=re'/\t+q<=re'/\(re'<=re\/re'<=t+2+k)/\bl.length<=z.length/\(h=a\/bl.length<=h)/\Pre g fs lo re' w m z h O P
theorem WL{rec:Jl}{H:ac2}{b re:Int}{ar:List aW}(har:ar.length<=3)(hr :∀x∈ar,∀i:Int,0<=i/\i<=3->VS g fs lo nu rec n x (b+i))
  {a:Nat}    (h:Pre g fs lo re w k bl a O P) (h0:0<=b) (h1:b<=990) (hw:w+WX (n+1)<=900000) (ht:b+1<=re) :
  Ok (aaD rec H wH ar b g fs lo nu re a bl) (PVs (w+ar.length*WX n) (k+ar.length*BX n) ar.length g fs lo nu re b (KX n) bl a O P):=by
 have hW:WX (n+1)=3*WX n+7:=rfl;unfold aaD;refine bG (PVs (w+ar.length*WX n) (k+ar.length*BX n) ar.length g fs lo nu re b (KX n) bl a O P) ?_ λy ⟨re',B,j,J,e,hh⟩=>by subst e;exact aG ⟨re',B,j,J,rfl,hh⟩
 refine bF (λs:Int×List aC×List aH×List (List UInt8)×Int×Int×Int×List Int×List aN=>∃q:Nat,∃re' B j J,s=((q:Int),g,fs,lo,nu,re',((B:Nat):Int),j,J)/\q<=ar.length/\(j.length=q/\∀x∈j,RG re' x)/\re<=re'/\b+q<=re'/\(re'<=re\/re'<=b+2+KX n)/\bl.length<=J.length/\(B=a\/bl.length<=B)/\Pre g fs lo re' (w+q*WX n) (k+q*BX n) J B O P) (λs=>(ar.length-s.1).toNat)
  ⟨0,re,a,[],bl,rfl,by omega,⟨rfl,λx hx=>by cases hx⟩,by omega,by omega,by omega,by omega,.inl rfl,by simpa using h⟩ λs ⟨q,N,T,j,U,e,c0,⟨X,K⟩,c2,c3,Y,c5,c6,Z⟩=>?_
 subst e;refine dA (λz=>?_) λz=>?_
 rotate_left
 .have z:¬ (q:Int)<ar.length:=by simpa using z
  have:q=ar.length:=by omega
  subst this;exact aG ⟨N,T,j,U,rfl,⟨X,K⟩,c2,c3,Y,c5,c6,Z⟩
 have z:(q:Int)<ar.length:=by simpa using z
 have hm:=L (WX n) (show q<3 by omega);have hm2:=L (BX n) (show q<3 by omega);have M:bP (b+q)=b+q:=aF (by omega);refine bK (aQ.2 ⟨by simp only;omega,z⟩) ?_;simp only[M];refine bG _ (hr _ (YM fE (by omega) z) q (by omega) N T U _ _ O P Z (by omega)) λy ⟨r2,a2,b2,e,d1,d2,d3,d4,d5,d6⟩=>?_;subst e;refine bK (by unfold aX;simp;omega) (aG ⟨⟨q+1,r2,a2,j++[b+q],b2,?_,by omega,⟨by simp[X],λx hx=>?_⟩,by omega,by omega,?_,by omega,by omega,?_⟩,?_⟩)
 .show (bP ((q:Int)+1),_)=_;rw[aF (by omega)];rfl
 .rcases Ys.1 hx with hx|hx;exact(K x hx).mono d1;rw[X1]at hx;subst hx;exact⟨by omega,by omega⟩
 .unfold KX at d3 Y ⊢;omega
 .exact ⟨d6.inv.up (Vn _) (by omega) (by omega),d6.na,d6.np,d6.re⟩
 .show ((ar.length:Int)-bP ((q:Int)+1)).toNat<((ar.length:Int)-q).toNat;rw[aF (by omega)];omega
where
 L {q k:Nat} (V:Nat) (h:q<k):(q+1)*V=q*V+V/\q*V+V<=k*V:=by have e:(q+1)*V=q*V+V:=Nat.succ_mul q V;exact⟨e,e▸W0 V h⟩
theorem gX{x:Option (List aC×List aH×List (List UInt8)×Int×Int×Int×List aN)}{Q:List aC×List aH×List (List UInt8)×Int×Int×Int×List aN->Prop}(h:Ok x Q):Ok (Option.bind x λs=>zw (s.1,s.2.1,s.2.2.1,s.2.2.2.1,s.2.2.2.2.1,s.2.2.2.2.2.1,s.2.2.2.2.2.2)) Q:=bG _ h λy h=>aG h
theorem QX.args{sg:List (List UInt8×Nat)}(h:QX g sg lo (n+1) x):x.args.length<=3/\∀y∈x.args,QX g sg lo n y:=by
 cases h with
 |leaf _=>exact⟨by simp,λy h=>by cases h⟩
 |loc _=>exact⟨by simp,λy h=>by cases h⟩
 |glo _=>exact⟨by simp,λy h=>by cases h⟩
 |func _=>exact⟨by simp,λy h=>by cases h⟩
 |elem _ h=>exact⟨by simp,qy h⟩
 |un _ h=>exact⟨by simp,qy h⟩
 |bin _ m j=>exact⟨by simp,λy q=>by rcases Xs.1 q with e|e;(· subst e;exact m);exact qy j y e⟩
 |lazy _ m j=>exact⟨by simp,λy q=>by rcases Xs.1 q with e|e;(· subst e;exact m);exact qy j y e⟩
 |call _ m j=>exact⟨by simp only;omega,j⟩
 |value m j w=>exact⟨by simp only[Wm];omega,λy q=>by rcases Xs.1 q with e|e;(· subst e;exact j);exact w y e⟩
theorem YR{rec:Jl}{H:ac2}(M:Lw g fs lo)(hx:QX g (jw fs) lo (n+1) x){b re:Int}{a:Nat}(h:Pre g fs lo re w k bl a O P)(h0:0<=b)(h1:b<=990)(hw:w+WX (n+1)<=900000)
  (hl:x.kind=7\/x.kind=8->∀re,Pre g fs lo re w k bl a O P->Ok (H x.kind x.op x.value x.line x.name x.args b g fs lo nu re a bl) (PV (w+WX (n+1)) (k+BX (n+1)) g fs lo nu re b (KX (n+1)) bl a O P))
  (hv :∀re,Pre g fs lo re w k bl a O P->b+1<=re->Ok (wH x.args b g fs lo nu re a bl) (PVs (w+x.args.length*WX n) (k+x.args.length*BX n) x.args.length g fs lo nu re b (KX n) bl a O P)) :
  Ok (aaB rec H wH x.kind x.op x.value x.line x.name x.args b g fs lo nu re a bl) (PV (w+WX (n+1)) (k+BX (n+1)) g fs lo nu re b (KX (n+1)) bl a O P):=by
 have hW:WX (n+1)=3*WX n+7:=rfl;have N:=hx.args.1;have hB:=aoO (n:=n) N;have hWm:=W0 (WX n) N;obtain⟨K,T⟩ :∃K,FZ re (bP (b+1))=K:=⟨_,rfl⟩;have hr1':K=max re (b+1):=by rw[<-T,JG,aF (by omega)]
 have U:Pre g fs lo K w k bl a O P:=⟨h.inv.up (by omega) (YY _) (YY _),h.na,h.np,by have:=h.re;omega⟩;have J :∀y,PV (w+WX (n+1)) (k+BX (n+1)) g fs lo nu K b (KX (n+1)) bl a O P y->PV (w+WX (n+1)) (k+BX (n+1)) g fs lo nu re b (KX (n+1)) bl a O P y:=λy ⟨r,a',t,e,c1,c2,c3,c4⟩=>⟨r,a',t,e,by omega,c2,by unfold KX at c3 ⊢;omega,c4⟩;unfold aaB;dsimp only;rw[T];refine bG (λs=>s=decide (x.kind=7\/x.kind=8)) ?_ λs X=>?_
 .refine dA (λe=>aG ?_) λe=>aG ?_
  .have e:x.kind=7:=by simpa using e
   simp[e]
  .have e:¬ x.kind=7:=by simpa using e
   simp[e]
 subst X;refine dA (λe=>gX (lC (hl (by simpa using e) K U) J)) λe=>?_;have e:¬ (x.kind=7\/x.kind=8):=by simpa using e
 refine bG _ (hv K U (by omega)) λy ⟨L,a2,rs,b2,e',⟨c1,c2⟩,c3,c4,c5,c6,c7,Y⟩=>?_;subst e';have j:RG L b:=⟨h0,by omega⟩;have put :∀{p0 p1 p2 p3 p4 p5:Int} {ar:List Int},IV g (jw fs) fs.length L (dP.mk p0 p1 p2 p3 p4 p5 ar)->Ok (f77 p0 p1 p2 p3 p4 p5 ar g fs lo nu L a2 b2) (PV (w+WX (n+1)) (k+BX (n+1)) g fs lo nu re b (KX (n+1)) bl a O P):=λ{p0 p1 p2 p3 p4 p5 ar} hi=>by
  have:=WJ (g:=g) (sg:=jw fs) (cl:=fs.length) (fs:=fs) (lo:=lo) (nu:=nu) (re:=L) (p0:=p0) (p1:=p1) (p2:=p2) (p3:=p3) (p4:=p4) (p5:=p5) (ar:=ar) (f:=zw) (Q:=PV (w+WX (n+1)) (k+BX (n+1)) g fs lo nu re b (KX (n+1)) bl a O P) Y.inv (.inl rfl) (by omega) hi λt l hh=>aG ⟨L,a2,t,rfl,by omega,by omega,by unfold KX at c5 ⊢;omega,by omega,c7,⟨hh.up (Vn _) (by omega) (by omega),Y.na,Y.np,Y.re⟩⟩
  rwa [show∀z:Option (List aC×List aH×List (List UInt8)×Int×Int×Int×List aN),Option.bind z zw=z from λz=>by cases z<;>rfl]at this
 have hlo:lo.length<=1000000:=by have:=M.lo;omega
 have hlr:=Y.re;clear J hv hl;cases hx with
 |leaf hk=>
  rcases hk with hk|hk
  .subst hk;exact gX (goT rfl (gX (put (.const j (by simp)))))
  .subst hk;exact gX (bW rfl (gX (bW rfl (gX (bW rfl (gX (bW rfl (gX (bW rfl (gX (bW rfl (gX (bW rfl (gX (bW rfl (gX (bW rfl (gX (goT rfl (gX (put (.read j (by simp)))))))))))))))))))))))
 |loc hm=>exact gX (bW rfl (gX (goT rfl (abl hlo λq q1 _=>gX (put (.move j ⟨(q1 hm).1,by have:q<lo.length:=(q1 hm).2;omega⟩ (by simp)))))))
 |glo hg=>exact gX (bW rfl (gX (bW rfl (gX (goT rfl (bG _ (JY M.gn hg) λy B=>gX (put (.load j B (by simp)))))))))
 |func X=>exact gX (bW rfl (gX (bW rfl (gX (bW rfl (gX (bW rfl (gX (bW rfl (gX (bW rfl (gX (bW rfl (gX (bW rfl (gX (goT rfl (bG _ (abm M.fn X) λy B=>gX (put (.func j ⟨B.1.1,B.2.2⟩ (by simp)))))))))))))))))))))
 |elem hg _=>exact gX (bW rfl (gX (bW rfl (gX (bW rfl (gX (goT rfl (bG _ (JY M.gn hg) λy B=>gX (put (.elem j j B (by simp)))))))))))
 |un ho _=>exact gX (bW rfl (gX (bW rfl (gX (bW rfl (gX (bW rfl (gX (goT rfl (gX (put (.un j j ho (by simp)))))))))))))
 |bin ho _ _=>
  have hb:RG L (bP (b+1)):=by rw[aF (by omega)];simp only[Wm,Ke]at c4;exact⟨by omega,by omega⟩
  exact gX (bW rfl (gX (bW rfl (gX (bW rfl (gX (bW rfl (gX (bW rfl (gX (goT rfl (gX (put (.bin j j hb ho (by simp)))))))))))))))
 |lazy hk _ _=>exact absurd hk e
 |call X Z _=>simp only at c1;exact gX (bW rfl (gX (bW rfl (gX (bW rfl (gX (bW rfl (gX (bW rfl (gX (bW rfl (gX (goT rfl (bG _ (abm M.fn X) λy B=>gX (put (.call j B.1 (by rw[B.2.1];exact c1.symm) c2 (show rs.length<=10 by omega)))))))))))))))))
 |value Z _ _=>simp only[Wm]at c1;refine gX (bW rfl (gX (bW rfl (gX (bW rfl (gX (bW rfl (gX (bW rfl (gX (bW rfl (gX (bW rfl (gX (goT rfl (bK (Nj.2 ⟨⟨by omega,by simp only;omega⟩,by simp only;omega⟩) (gX (put (.I_ j j (λx hx=>c2 x (Wl (UB hx))) ?_)))))))))))))))))));simp;omega
theorem adE(n:Nat):(jh (n+1)).1=aaB (Wp n) (agr n) (ags n):=rfl
theorem adF(n:Nat):(jh (n+1)).2.1=aaC (Wp n) (agr n) (ags n):=rfl
theorem adG(n:Nat):(jh (n+1)).2.2=aaD (Wp n) (agr n) (ags n):=rfl
theorem Td(N:Lw g fs lo):∀n k:Nat,2*n<=k->n<=10->∀x,QX g (jw fs) lo n x->∀(t re:Int) (a:Nat) bl w m O P,Pre g fs lo re w m bl a O P->0<=t->t+4*n<=980->w+WX n<=900000->Ok (Wp k x.kind x.op x.value x.line x.name x.args t g fs lo nu re a bl) (PV (w+WX n) (m+BX n) g fs lo nu re t (KX n) bl a O P)
 |0,_,_,_=>λ_ h=>by cases h
 |n+1,0,j,_=>by omega
 |n+1,1,j,_=>by omega
 |n+1,k+2,j,hn=>λx H t re a bl w m O P h B Z q=>by
  have J:=Td N n k (by omega) (by omega);obtain⟨K,L⟩:=H.args;show Ok ((jh (k+2)).1 x.kind x.op x.value x.line x.name x.args t g fs lo nu re a bl) _;rw[adE];refine YR N H h B (by omega) q (λj re y=>?_) λre y U=>?_
  .show Ok ((jh (k+1)).2.1 x.kind x.op x.value x.line x.name x.args t g fs lo nu re a bl) _;rw[adF];cases H with
   |lazy _ T X=>
    have M:1<=n:=by
     cases n with
     |zero=>cases T
     |succ n=>omega
    exact adD M (λre a bl w m O P y q=>J _ T t re a bl w m O P y B (by omega) q) (λre a bl w m O P y q=>J _ X t re a bl w m O P y B (by omega) q) y B (by omega) q
   |leaf h=>simp only at j;omega
   |loc _=>simp only at j;omega
   |glo _=>simp only at j;omega
   |func _=>simp only at j;omega
   |elem _ _=>simp only at j;omega
   |un _ _=>simp only at j;omega
   |bin _ _ _=>simp only at j;omega
   |call _ _ _=>simp only at j;omega
   |value _ _ _=>simp only at j;omega
  .show Ok ((jh (k+1)).2.2 x.args t g fs lo nu re a bl) _;rw[adG];exact WL K (λz Y i hi re a bl w m O P y q=>J z (L z Y) (t+i) re a bl w m O P y (by omega) (by omega) q) y B (by omega) q U
end
section
variable {g:List aC} {fs:List aH} {lo:List (List UInt8)} {nu:Int}
theorem wx2:WX 2=28:=rfl
theorem wx3:WX 3=91:=rfl
theorem bx2:BX 2=4:=rfl
theorem bx3:BX 3=16:=rfl
def PW(w m:Nat)(g:List aC)(fs:List aH)(lo:List (List UInt8))(nu re:Int)(bl:List aN)(a:Nat)(O:Nat->Prop)(P:Nat->Nat->Prop)(y:Bool×List aC×List aH×List (List UInt8)×Int×Int×Int×List aN):Prop:=∃on re' h j,y=(on,g,fs,lo,nu,re',((h:Nat):Int),j)/\re<=re'/\(re'<=re\/re'<=lo.length+10)/\bl.length<=j.length/\(h=a\/bl.length<=h)/\Inv g (jw fs) fs.length re' w m j (λx=>(on=zj/\x=h)\/O x) P
def sW(ht:Nat->Nat):Nat->Nat
 |0=>0
 |q+1=>sW ht q+WX (ht q)
def sB(ht:Nat->Nat):Nat->Nat
 |0=>0
 |q+1=>sB ht q+BX (ht q)
theorem amh(h:n<=3):WX n<=91:=by
 have:n=0\/n=1\/n=2\/n=3:=by omega
 rcases this with rfl|rfl|rfl|rfl<;>decide
theorem ami{j:Nat->Nat}(h :∀i,j i<=3):∀q,sW j q<=91*q
 |0=>by simp[sW]
 |q+1=>by have:=ami h q;have:=amh (h q);simp only[sW];omega
def PE2(w m:Nat)(q:Nat)(g:List aC)(fs:List aH)(lo:List (List UInt8))(nu re:Int)(bl:List aN)(a:Nat)(O:Nat->Prop)(P:Nat->Nat->Prop)(y:List aC×List aH×List (List UInt8)×Int×Int×Int×List aN):Prop:=∃re' h j,y=(g,fs,lo,nu,re',((h:Nat):Int),j)/\re<=re'/\(lo.length:Int)+q<=re'/\(re'<=re\/re'<=lo.length+10)/\bl.length<=j.length/\(h=a\/bl.length<=h)/\Pre g fs lo re' w m j h O P
theorem adH(K:Lw g fs lo){es:List aW}{j:Nat->Nat}(he:es.length<=2)(J :∀i,j i<=3)(U :∀i,i<es.length->QX g (jw fs) lo (j i) (es.getD i fE)){re:Int}{a:Nat}(h:Pre g fs lo re a w bl n O P)(hw:a+182<=800000)
  {body:Int×List aC×List aH×List (List UInt8)×Int×Int×Int×List aN->Option ((Int×List aC×List aH×List (List UInt8)×Int×Int×Int×List aN) ⊕ (List aC×List aH×List (List UInt8)×Int×Int×Int×List aN))}
  (X :∀(q:Nat) (re:Int) (n:Int) (b:List aN),body ((q:Int),g,fs,lo,nu,re,n,b)=bif decide ((q:Int)<(es.length:Int))then ck (inB (q:Int) es.length) <| OB (f118 (List.getD es q fE).kind (List.getD es q fE).op (List.getD es q fE).value (List.getD es q fE).line (List.getD es q fE).name (List.getD es q fE).args (bP ((lo.length:Int)+q)) g fs lo nu re n b) λz=>zw (.inl ((bP ((q:Int)+1)),z.1,z.2.1,z.2.2.1,z.2.2.2.1,z.2.2.2.2.1,z.2.2.2.2.2.1,z.2.2.2.2.2.2))else zw (.inr (g,fs,lo,nu,re,n,b))) :
  Ok (bn body ((0:Int),g,fs,lo,nu,re,(n:Int),bl)) (PE2 (a+sW j es.length) (w+sB j es.length) es.length g fs lo nu re bl n O P):=by
 have hL:=K.lo;refine bF (λs=>∃q:Nat,∃re' H b,s=((q:Int),g,fs,lo,nu,re',((H:Nat):Int),b)/\q<=es.length/\re<=re'/\(lo.length:Int)+q<=re'/\(re'<=re\/re'<=lo.length+10)/\bl.length<=b.length/\(H=n\/bl.length<=H)/\Pre g fs lo re' (a+sW j q) (w+sB j q) b H O P) (λs=>(es.length-s.1).toNat)
  ⟨0,re,n,bl,rfl,by omega,by omega,by have:=h.re;omega,by omega,by omega,.inl rfl,by simpa[sW,sB]using h⟩ λs ⟨q,L,M,N,e,c0,Y,Z,c3,c4,c5,T⟩=>?_
 subst e;rw[X];refine dA (λB=>?_) λB=>?_
 rotate_left
 .have B:¬ (q:Int)<es.length:=by simpa using B
  have:q=es.length:=by omega
  subst this;exact aG ⟨L,M,N,rfl,Y,Z,c3,c4,c5,T⟩
 have B:(q:Int)<es.length:=by simpa using B
 have hsw:=ami J q;have hwx:=amh (J q);have hhq:=J q;refine bK (aQ.2 ⟨by omega,B⟩) ?_;rw[aF (x:=(lo.length:Int)+q) (by omega)];refine bG _ (Td K (j q) 1048576 (by omega) (by omega) _ (U q (by omega)) (lo.length+q) L M N _ _ O P T (by omega) (by omega) (by omega)) λy ⟨r2,a2,b2,e,d1,d2,d3,d4,d5,d6⟩=>?_;subst e;refine aG ⟨⟨q+1,r2,a2,b2,?_,by omega,by omega,by omega,?_,by omega,by omega,?_⟩,?_⟩
 .show (bP ((q:Int)+1),_)=_;rw[aF (by omega)];rfl
 .unfold KX at d3;omega
 .simp only[sW,sB];rw[<-J1,<-J1];exact d6
 .show ((es.length:Int)-bP ((q:Int)+1)).toNat<((es.length:Int)-q).toNat;rw[aF (by omega)];omega
def SS(g:List aC)(fs:List aH)(lo:List (List UInt8))(nu:Int)(rec:T76)(ss:List dB)(c k:Nat):Prop:=∀(re:Int) (a:Nat) h w m O P,Pre g fs lo re w m h a O P->w+130*k<=700000->Ok (rec ss g fs lo nu re a h) (PW (w+130*k) (m+(20*c+4*k)) g fs lo nu re h a O P)
theorem YS{rec:T76}{B:T95}{WM:OA}{WO:OC}{p1:Nat}{p0 re:Int}{s:List UInt8}{Y el:List dB}(Z:Lw g fs lo)(hx:QX g (jw fs) lo 3 x)
  (hr:SS g fs lo nu rec Y n p1) {a:Nat}    (h:Pre g fs lo re k c bl a O P) (hw:k+130*(1+p1)<=700000) :
  Ok (aaM rec B WM WO p0 i s [x] Y el (lo.length:Int) g fs lo nu re a bl) λy=>PW (k+130*(1+p1)) (c+(20*(1+n)+4*(1+p1))) g fs lo nu re bl a O P (zj,y):=by
 have hL:=Z.lo;obtain⟨q1,q2,q3⟩:=h.lt;have J :∀x y,P x y->x<bl.length/\x≠a:=λx y hp=>⟨(q3 x y hp).1,(q3 x y hp).2.1⟩;unfold aaM;refine o8 (bl:=bl) (re:=re) (a:=a) h.inv (.inl rfl) (by omega) λb1 l1 i1=>sO (bl:=b1) (re:=re) (b0:=a) i1 (.inr (.inl rfl)) (Dn (by omega)) (λy hp=>?_) λb2 l2 i2=>bK rfl ?_
 .rw [wI];rcases hp with hp|hp
  .simp [hp.2]
  .exact absurd rfl (J _ _ hp).2
 have K:Pre g fs lo re (k+1) (c+1) b2 bl.length O P:=by
  refine⟨i2.cast (λz=>⟨λhh=>?_,λhh=>?_⟩) λz y=>⟨λhh=>?_,λhh=>?_⟩,λhh=>?_,λy hh=>?_,h.re⟩
  .rcases hh.1 with e|e|e
   .exact .inl e
   .exact absurd e hh.2
   .exact .inr e
  .rcases hh with e|e
   .exact ⟨.inl e,by omega⟩
   .exact ⟨.inr (.inr e),(q2 z e).2⟩
  .rcases hh.1 with e|e
   .exact absurd e.1 hh.2
   .exact e
  .exact ⟨.inr hh,(J _ _ hh).2⟩
  .have:=q2 _ hh;omega
  .have:=J _ _ hh;omega
 refine bG _ (Td Z 3 1048576 (by omega) (by omega) x hx lo.length re bl.length b2 _ _ O P K (by omega) (by omega) (by rw[wx3];omega)) λy ⟨L,a3,H,e,d1,d2,d3,d4,d5,d6⟩=>?_;subst e;rw[wx3,bx3]at d6;obtain⟨u1,u2,u3⟩:=d6.lt;refine o8 (bl:=H) (re:=L) (a:=a3) d6.inv (.inl rfl) (by omega) λb4 l4 i4=>?_;have M:Pre g fs lo L (k+1+91+1) (c+1+16+1) b4 H.length (λx=>x=a3\/O x) (λx y=>(x=a3/\y=H.length)\/P x y):=⟨i4,λhh=>by rcases hh with hh|hh;(· omega);(· have:=u2 _ hh;omega),λy hh=>by rcases hh with hh|hh;(· omega);(· have:=u3 _ _ hh;omega),d6.re⟩
 refine bG _ (hr L H.length b4 _ _ _ _ M (by omega)) λy ⟨on,q,a5,N,e,e1,e2,e3,e4,T⟩=>?_;subst e;have U:=T.opn;refine bG (λy=>∃X,y=(g,fs,lo,nu,q,(a5:Int),X)/\X.length=N.length/\Inv g (jw fs) fs.length q (k+1+91+1+130*p1) (c+1+16+1+(20*n+4*p1)) X (λx=>x=a3\/O x) (λx y=>(x=a3/\y=H.length)\/P x y)) ?_ λy ⟨b6,e,l6,i6⟩=>?_
 .refine dA (λj=>?_) λj=>aG ⟨N,rfl,rfl,T.cast (λz=>⟨λhh=>hh.resolve_left λhh=>?_,.inr⟩) λz y=>Iff.rfl⟩
  rotate_left
  .have j:on=zv:=j;rw[j]at hh;exact absurd hh.1 (by simp)
  have j:on=zj:=j;refine sO (bl:=N) (re:=q) (b0:=a5) T (.inl ⟨j,rfl⟩) (Dn (by omega)) (λy hp=>?_) λb l w=>aG ⟨b,rfl,l,w.cast (λz=>⟨λhh=>?_,λhh=>?_⟩) λz y=>⟨λhh=>hh.1,λhh=>⟨hh,?_⟩⟩⟩
  .rcases hp with hp|hp;omega;have:=u3 _ _ hp;omega
  .exact hh.1.resolve_left λhz=>hh.2 hz.2
  .refine ⟨.inr hh,?_⟩;rcases hh with hh|hh;omega;have:=u2 _ hh;omega
  .rcases hh with hh|hh;omega;have:=u3 _ _ hh;omega
 subst e;refine o8 (bl:=b6) (re:=q) (a:=a3) i6 (.inl rfl) (by omega) λb7 l7 i7=>sO (bl:=b7) (re:=q) (b0:=a3) i7 (.inr (.inl rfl)) (Hf ⟨by omega,by omega⟩ (by omega) (by omega) (by omega)) (λy hp=>?_) λb8 l8 i8=>aG ⟨zj,q,b6.length,b8,rfl,by omega,?_,by omega,by omega,?_⟩
 .rw [ql (by omega)];rcases hp with hp|hp|hp
  .simp [hp.2]
  .simp [hp.2]
  .have:=u3 _ _ hp;omega
 .unfold KX at d3;omega
 .refine (i8.up (Vn _) (by omega) (by omega)).cast (λz=>⟨λhh=>?_,λhh=>?_⟩) λz y=>⟨λhh=>?_,λhh=>?_⟩
  .rcases hh.1 with e|e|e
   .exact .inl ⟨rfl,e⟩
   .exact absurd e hh.2
   .exact .inr e
  .rcases hh with e|e
   .exact ⟨.inl e.2,by omega⟩
   .have:=u2 _ e;exact⟨.inr (.inr e),by omega⟩
  .rcases hh.1 with e|e|e
   .exact absurd e.1 hh.2
   .exact absurd e.1 hh.2
   .exact e
  .have:=u3 _ _ hh;exact⟨.inr (.inr hh),by omega⟩
theorem WQ{rec:T76}{rec':T95}{WM:OA}{WO:OC}{c2:Nat}{p0 re:Int}{s:List UInt8}{es:List aW}{th el:List dB}(hS:Lw g fs lo)
  (hr:SS g fs lo nu rec th n w) (hr':SS g fs lo nu rec el c2 k) {a nm m:Nat}    (h:Pre g fs lo re nm m bl a O P) (hre:(lo.length:Int)+1<=re) (hw:nm+3+130*w+130*k<=700000) :
  Ok (aaN rec rec' WM WO p0 i s es th el (lo.length:Int) g fs lo nu re a bl) (PW (nm+3+130*w+130*k) (m+3+(20*n+4*w)+(20*c2+4*k)) g fs lo nu re bl a O P):=by
 have hL:=hS.lo;obtain⟨q1,q2,q3⟩:=h.lt;have pf :∀x y,P x y->x<bl.length/\x≠a:=λx y hp=>⟨(q3 x y hp).1,(q3 x y hp).2.1⟩;unfold aaN;refine o8 (bl:=bl) (re:=re) (a:=a) h.inv (.inl rfl) (by omega) λb1 l1 i1=>?_;have hp1:Pre g fs lo re (nm+1) (m+1) b1 bl.length (λx=>x=a\/O x) (λx y=>(x=a/\y=bl.length)\/P x y):=⟨i1,λhh=>by rcases hh with hh|hh;(· omega);(· have:=q2 _ hh;omega),λy hh=>by rcases hh with hh|hh;(· omega);(· have:=pf _ _ hh;omega),h.re⟩
 refine bG _ (hr re bl.length b1 _ _ _ _ hp1 (by omega)) λy ⟨on,L,a2,Y,e,e1,e2,e3,e4,e5⟩=>?_;subst e;have B :∀x,O x->x<b1.length/\x≠a/\x≠a2:=λx Z=>by have:=q2 x Z;omega
 have H :∀x y,P x y->x<b1.length/\x≠a/\x≠a2:=λx y Z=>by have:=pf x y Z;omega
 have ha2:a≠a2:=by omega
 have hrg :∀{r:Int},L<=r->RG r (lo.length:Int):=λhr=>⟨by omega,by omega⟩;refine dA (λ_=>?_) λ_=>?_
 .refine o8 (bl:=Y) (re:=L) (a:=a) e5 (.inr (.inl rfl)) (by omega) λb3 l3 i3=>sO (bl:=b3) (re:=L) (b0:=a) i3 (.inr (.inr (.inl rfl))) (Hf (hrg (Vn _)) (by omega) (by omega) (by omega)) (λy hp=>?_) λb4 l4 i4=>?_
  .rw [ql (by omega)];rcases hp with hp|hp|hp
   .simp [hp.2]
   .simp [hp.2]
   .have:=pf _ _ hp;omega
  refine bG (λy=>∃M,y=(g,fs,lo,nu,L,(Y.length:Int),M)/\M.length=b4.length/\Inv g (jw fs) fs.length L (nm+1+130*w+1) (m+1+(20*n+4*w)+1) M (λx=>(zj=zj/\x=Y.length)\/O x) P) ?_ λy ⟨J,e,l5,i5⟩=>by subst e;exact aG ⟨zj,L,Y.length,J,rfl,by omega,by omega,by omega,by omega,i5.up (Vn _) (by omega) (by omega)⟩
  have ob:=e5.opn;refine dA (λj=>?_) λj=>aG ⟨b4,rfl,rfl,i4.cast (λz=>⟨λhh=>?_,λhh=>?_⟩) λz y=>⟨λhh=>?_,λhh=>?_⟩⟩
  .have j:on=zj:=j;have:=ob a2 (.inl ⟨j,rfl⟩);refine sO (bl:=b4) (re:=L) (b0:=a2) i4 ⟨.inr (.inl ⟨j,rfl⟩),by omega⟩ (Dn (by omega)) (λy hp=>?_) λb l p1=>aG ⟨b,rfl,l,p1.cast (λz=>⟨λhh=>?_,λhh=>?_⟩) λz y=>⟨λhh=>?_,λhh=>?_⟩⟩
   .exfalso;rcases hp.1 with hp|hp|hp;omega;omega;have:=H _ _ hp;omega
   .rcases hh.1.1 with e|e|e|e
    .exact .inl ⟨rfl,e⟩
    .exact absurd e.2 hh.2
    .exact absurd e hh.1.2
    .exact .inr e
   .rcases hh with e|e
    .exact ⟨⟨.inl e.2,by omega⟩,by omega⟩
    .have:=B _ e;exact⟨⟨.inr (.inr (.inr e)),by omega⟩,by omega⟩
   .rcases hh.1.1 with e|e|e
    .exact absurd e.1 hh.1.2
    .exact absurd e.1 hh.1.2
    .exact e
   .have:=H _ _ hh;exact⟨⟨.inr (.inr hh),by omega⟩,by omega⟩
  .have j:on=zv:=j;rcases hh.1 with e|e|e|e
   .exact .inl ⟨rfl,e⟩
   .rw [j]at e;exact absurd e.1 (by simp)
   .exact absurd e hh.2
   .exact .inr e
  .rcases hh with e|e
   .exact ⟨.inl e.2,by omega⟩
   .have:=B _ e;exact⟨.inr (.inr (.inr e)),by omega⟩
  .rcases hh.1 with e|e|e
   .exact absurd e.1 hh.2
   .exact absurd e.1 hh.2
   .exact e
  .have:=H _ _ hh;exact⟨.inr (.inr hh),by omega⟩
 .refine o8 (bl:=Y) (re:=L) (a:=a) e5 (.inr (.inl rfl)) (by omega) λb3 l3 i3=>sO (bl:=b3) (re:=L) (b0:=a) i3 (.inr (.inr (.inl rfl))) (Hf (hrg (Vn _)) (by omega) (by omega) (by omega)) (λy hp=>?_) λb4 l4 i4=>?_
  .rw [ql (by omega)];rcases hp with hp|hp|hp
   .simp [hp.2]
   .simp [hp.2]
   .have:=pf _ _ hp;omega
  have ob:=e5.opn;have aoP:on=zj->a2<Y.length:=λj=>ob a2 (.inl ⟨j,rfl⟩);have hp4:Pre g fs lo L (nm+1+130*w+1) (m+1+(20*n+4*w)+1) b4 Y.length (λx=>(on=zj/\x=a2)\/O x) P:=by
   refine⟨i4.cast (λz=>⟨λhh=>?_,λhh=>?_⟩) λz y=>⟨λhh=>?_,λhh=>?_⟩,λhh=>?_,λy hh=>?_,by have:=h.re;omega⟩
   .rcases hh.1 with e|e|e|e
    .exact .inl e
    .exact .inr (.inl e)
    .exact absurd e hh.2
    .exact .inr (.inr e)
   .rcases hh with e|e|e
    .exact ⟨.inl e,by omega⟩
    .exact ⟨.inr (.inl e),by omega⟩
    .have:=B _ e;exact⟨.inr (.inr (.inr e)),by omega⟩
   .rcases hh.1 with e|e|e
    .exact absurd e.1 hh.2
    .exact absurd e.1 hh.2
    .exact e
   .have:=H _ _ hh;exact⟨.inr (.inr hh),by omega⟩
   .rcases hh with hh|hh
    .have:=aoP hh.1;omega
    .have:=B _ hh;omega
   .have:=H _ _ hh;omega
  refine bG _ (hr' L Y.length b4 _ _ _ _ hp4 (by omega)) λy ⟨q,N,a5,J,e,f1,f2,f3,F4,F5⟩=>?_;subst e;have ob5:=F5.opn;have hO5 :∀x,O x->x<J.length/\x≠a5:=λx Z=>by have:=B x Z;omega
  refine bG (λy=>y=(!on&&!q)) ?_ λy hy=>?_
  .exact dA (λhh=>aG (by have hh:on=zv:=(by simpa using hh);rw[hh];rfl)) λhh=>aG (by have hh:on=zj:=(by simpa using hh);rw[hh];rfl)
  subst hy;refine dA (λhh=>aG ⟨zv,N,a5,J,rfl,by omega,by omega,by omega,by omega,?_⟩) λhh=>?_
  .have hh:on=zv/\q=zv:=by simpa using hh
   refine(F5.up (Vn _) (by omega) (by omega)).cast (λz=>⟨λhz=>?_,λhz=>?_⟩) λz y=>Iff.rfl
   .rcases hz with hz|hz|hz
    .rw [hh.2]at hz;exact absurd hz.1 (by simp)
    .rw [hh.1]at hz;exact absurd hz.1 (by simp)
    .exact .inr hz
   .rcases hz with hz|hz
    .exact absurd hz.1 (by simp)
    .exact .inr (.inr hz)
  have hor:on=zj\/q=zj:=by
   cases on with
   |true=>exact .inl rfl
   |false=>cases q with
    |true=>exact .inr rfl
    |false=>simp at hh
  obtain⟨src,hsrc,hsv⟩ :∃src,((q=zj/\src=a5)\/(on=zj/\src=a2)\/O src)/\((on=zj/\src=a2)\/(q=zj/\src=a5)):=by
   rcases hor with hh|hh
   .exact ⟨a2,.inr (.inl ⟨hh,rfl⟩),.inl ⟨hh,rfl⟩⟩
   .exact ⟨a5,.inl ⟨hh,rfl⟩,.inr ⟨hh,rfl⟩⟩
  refine o8 (bl:=J) (re:=N) (a:=src) F5 hsrc (by omega) λb6 l6 i6=>?_;have T :∀x y,P x y->x≠a2/\x≠a5/\x<J.length:=λx y Z=>by have:=H x y Z;omega
  have axT:on=zj->a2≠a5:=λj=>by have:=aoP j;omega
  refine bG (λy=>∃M,y=(g,fs,lo,nu,N,(J.length:Int),M)/\M.length=b6.length/\Inv g (jw fs) fs.length N (nm+1+130*w+1+130*k+1) (m+1+(20*n+4*w)+1+(20*c2+4*k)+1) M (λx=>x=J.length\/(q=zj/\x=a5)\/O x) (λx y=>(x=src/\src≠a2/\y=J.length)\/(on=zv/\x=src/\y=J.length)\/P x y)) ?_ λy ⟨b7,e,l7,i7⟩=>?_
  .refine dA (λj=>?_) λj=>aG ⟨b6,rfl,rfl,i6.cast (λz=>⟨λhz=>?_,λhz=>?_⟩) λz y=>⟨λhz=>?_,λhz=>?_⟩⟩
   .have j:on=zj:=j;have:=aoP j;refine sO (bl:=b6) (re:=N) (b0:=a2) i6 (.inr (.inr (.inl ⟨j,rfl⟩))) (Dn (by omega)) (λy hp=>?_) λb l p1=>aG ⟨b,rfl,l,p1.cast (λz=>⟨λhz=>?_,λhz=>?_⟩) λz y=>⟨λhz=>?_,λhz=>?_⟩⟩
    .rw [wI];rcases hp with hp|hp
     .simp [hp.2]
     .have:=T _ _ hp;omega
    .rcases hz.1 with e|e|e|e
     .exact .inl e
     .exact .inr (.inl e)
     .exact absurd e.2 hz.2
     .exact .inr (.inr e)
    .rcases hz with e|e|e
     .exact ⟨.inl e,by omega⟩
     .exact ⟨.inr (.inl e),by have:=axT j;omega⟩
     .have:=B _ e;exact⟨.inr (.inr (.inr e)),by omega⟩
    .rcases hz.1 with e|e
     .exact .inl ⟨e.1,λe'=>hz.2 (e.1.trans e'),e.2⟩
     .exact .inr (.inr e)
    .rcases hz with e|e|e
     .exact ⟨.inl ⟨e.1,e.2.2⟩,λe'=>e.2.1 (e.1.symm.trans e')⟩
     .rw [j]at e;exact absurd e.1 (by simp)
     .exact ⟨.inr e,(T _ _ e).1⟩
   .have j:on=zv:=j;rcases hz with e|e|e|e
    .exact .inl e
    .exact .inr (.inl e)
    .rw [j]at e;exact absurd e.1 (by simp)
    .exact .inr (.inr e)
   .rcases hz with e|e|e
    .exact .inl e
    .exact .inr (.inl e)
    .exact .inr (.inr (.inr e))
   .have j:on=zv:=j;rcases hz with e|e
    .exact .inr (.inl ⟨j,e⟩)
    .exact .inr (.inr e)
   .rcases hz with e|e|e
    .exact .inl ⟨e.1,e.2.2⟩
    .exact .inl e.2
    .exact .inr e
  subst e;have U:(src≠a2\/on=zv)->src=a5/\q=zj:=λhs=>by
   rcases hsv with e|e
   .rcases hs with hs|hs;exact absurd e.2 hs;rw[hs]at e;exact absurd e.1 (by simp)
   .exact ⟨e.2,e.1⟩
  refine bG (λy=>∃M,y=(g,fs,lo,nu,N,(J.length:Int),M)/\M.length=b7.length/\Inv g (jw fs) fs.length N (nm+1+130*w+1+130*k+1) (m+1+(20*n+4*w)+1+(20*c2+4*k)+1) M (λx=>(zj=zj/\x=J.length)\/O x) P) ?_ λy ⟨b8,e,l8,i8⟩=>by subst e;exact aG ⟨zj,N,J.length,b8,rfl,by omega,by omega,by omega,by omega,i8.up (Vn _) (by omega) (by omega)⟩
  refine dA (λK=>?_) λK=>aG ⟨b7,rfl,rfl,i7.cast (λz=>⟨λhz=>?_,λhz=>?_⟩) λz y=>⟨λhz=>?_,λhz=>.inr (.inr hz)⟩⟩
  .have K:q=zj:=K;have:=ob5 a5 (.inl ⟨K,rfl⟩);refine sO (bl:=b7) (re:=N) (b0:=a5) i7 (.inr (.inl ⟨K,rfl⟩)) (Dn (by omega)) (λy hp=>?_) λb l p1=>aG ⟨b,rfl,l,p1.cast (λz=>⟨λhz=>?_,λhz=>?_⟩) λz y=>⟨λhz=>?_,λhz=>?_⟩⟩
   .rw [wI];rcases hp with hp|hp|hp
    .simp [hp.2.2]
    .simp [hp.2.2]
    .have:=T _ _ hp;omega
   .rcases hz.1 with e|e|e
    .exact .inl ⟨rfl,e⟩
    .exact absurd e.2 hz.2
    .exact .inr e
   .rcases hz with e|e
    .exact ⟨.inl e.2,by omega⟩
    .have:=hO5 _ e;exact⟨.inr (.inr e),by omega⟩
   .rcases hz.1 with e|e|e
    .exact absurd (e.1.trans (U (.inl e.2.1)).1) hz.2
    .exact absurd (e.2.1.trans (U (.inr e.1)).1) hz.2
    .exact e
   .have:=T _ _ hz;exact⟨.inr (.inr hz),by omega⟩
  .have K:q=zv:=K;rcases hz with e|e|e
   .exact .inl ⟨rfl,e⟩
   .rw [K]at e;exact absurd e.1 (by simp)
   .exact .inr e
  .rcases hz with e|e
   .exact .inl e.2
   .exact .inr (.inr e)
  .have K:q=zv:=K;rcases hz with e|e|e
   .have:=(U (.inl e.2.1)).2;rw[K]at this;cases this
   .have:=(U (.inr e.1)).2;rw[K]at this;cases this
   .exact e
end
section
variable {g:List aC} {fs:List aH} {lo:List (List UInt8)} {nu:Int}
theorem YT{rec:T76}{rec':T95}{WM:OA}{WO:OC}{a:Nat}{re:Int}(hS:Lw g fs lo)(hs:QS g (jw fs) lo (n+1) j s L a w)
  {m:Nat}    (h:Pre g fs lo re c m bl k O P) (hw:c+130*w<=700000)
  (h5 :∀x th c1 k1 l3,s.exprs=[x]->s.then'=th->QX g (jw fs) lo 3 x->th.length<=10->Ch (QS g (jw fs) lo n) j th l3 c1 k1->c+130*(1+k1)<=700000->Ok (WM s.kind s.line s.name s.exprs s.then' s.else' (lo.length:Int) g fs lo nu re k bl) λy=>PW (c+130*(1+k1)) (m+(20*(1+c1)+4*(1+k1))) g fs lo nu re bl k O P (zj,y))
  (h4 :∀c1 c2 k1 U l3 l4,s.then'.length<=10->s.else'.length<=10->Ch (QS g (jw fs) lo n) j s.then' l3 c1 k1->Ch (QS g (jw fs) lo n) l3 s.else' l4 c2 U->∀(re':Int) (a':Nat) b w' m',Pre g fs lo re' w' m' b a' O P->(lo.length:Int)+1<=re'->w'+3+130*k1+130*U<=700000->Ok (WO s.kind s.line s.name s.exprs s.then' s.else' (lo.length:Int) g fs lo nu re' a' b) (PW (w'+3+130*k1+130*U) (m'+3+(20*c1+4*k1)+(20*c2+4*U)) g fs lo nu re' b a' O P)) :
  Ok (aj9 rec rec' WM WO s.kind s.line s.name s.exprs s.then' s.else' g fs lo nu re k bl) (PW (c+130*w) (m+(20*a+4*w)) g fs lo nu re bl k O P):=by
 have hL:=hS.lo;have hlo:lo.length<=1000000:=by omega
 unfold aj9;dsimp only;have ex :∀(es:List aW) (ht:Nat->Nat),es.length<=2->(∀i,ht i<=3)->(∀i,i<es.length->QX g (jw fs) lo (ht i) (es.getD i fE))->c+182<=800000->Ok (bn (λ(J:(Int×eG×(List aH)×bT×Int×Int×Int×nD))=>
   bif(decide (J.1<(es.length:Int)))then ck (inB J.1 es.length) <| OB (f118 (List.getD es J.1.toNat fE).kind (List.getD es J.1.toNat fE).op (List.getD es J.1.toNat fE).value (List.getD es J.1.toNat fE).line (List.getD es J.1.toNat fE).name (List.getD es J.1.toNat fE).args (bP ((lo.length:Int)+J.1)) J.2.1 J.2.2.1 J.2.2.2.1 J.2.2.2.2.1 J.2.2.2.2.2.1 J.2.2.2.2.2.2.1 J.2.2.2.2.2.2.2) λc8=>zw (.inl ((bP (J.1+1)),c8.1,c8.2.1,c8.2.2.1,c8.2.2.2.1,c8.2.2.2.2.1,c8.2.2.2.2.2.1,c8.2.2.2.2.2.2))else
   zw (.inr (J.2.1,J.2.2.1,J.2.2.2.1,J.2.2.2.2.1,J.2.2.2.2.2.1,J.2.2.2.2.2.2.1,J.2.2.2.2.2.2.2))) ((0:Int),g,fs,lo,nu,re,(k:Int),bl)) (PE2 (c+sW ht es.length) (m+sB ht es.length) es.length g fs lo nu re bl k O P):=λes ht h1 h2 h3 h4=>adH hS h1 h2 h3 h h4 λq re k b=>rfl
 have X :∀{x:aW} {d:Nat},QX g (jw fs) lo d x->∀i,i<([x]:List aW).length->QX g (jw fs) lo d (([x]:List aW).getD i fE):=λl2 i hi=>by
  have:i=0:=by simpa using hi
  subst this;exact l2
 have put :∀{p0 p1 p2 p3 p4 p5:Int} {ar:List Int} {r2:Int} {a2 w2 m2:Nat} {K:List aN},Pre g fs lo r2 w2 m2 K a2 O P->re<=r2->(r2<=re\/r2<=lo.length+10)->bl.length<=K.length->(a2=k\/bl.length<=a2)->w2+1<=c+130*w->m2<=m+(20*a+4*w)->IV g (jw fs) fs.length r2 (dP.mk p0 p1 p2 p3 p4 p5 ar)->
   Ok (f77 p0 p1 p2 p3 p4 p5 ar g fs lo nu r2 a2 K) λy=>PW (c+130*w) (m+(20*a+4*w)) g fs lo nu re bl k O P (zj,y):=λ{p0 p1 p2 p3 p4 p5 ar r2 a2 w2 m2 K} hp g1 g2 g3 g4 g5 g6 hi=>by
  have:=WJ (g:=g) (sg:=jw fs) (cl:=fs.length) (fs:=fs) (lo:=lo) (nu:=nu) (re:=r2) (p0:=p0) (p1:=p1) (p2:=p2) (p3:=p3) (p4:=p4) (p5:=p5) (ar:=ar) (bl:=K) (f:=zw) (Q:=λy=>PW (c+130*w) (m+(20*a+4*w)) g fs lo nu re bl k O P (zj,y)) hp.inv (.inl rfl) (by omega) hi λb l hh=>aG ⟨zj,r2,a2,b,rfl,g1,g2,by omega,g4,(hh.up (Vn _) (by omega) (by omega)).cast (λx=>by simp) λx y=>Iff.rfl⟩
  rwa [show∀z:Option (List aC×List aH×List (List UInt8)×Int×Int×Int×List aN),Option.bind z zw=z from λz=>by cases z<;>rfl]at this
 have asg :∀{nm:List UInt8} {r2:Int} {a2 w2 m2:Nat} {K:List aN} {k1:Int},(k1=1\/k1=2)->(nm∈lo\/PG zv g nm)->Pre g fs lo r2 w2 m2 K a2 O P->re<=r2->(r2<=re\/r2<=lo.length+10)->bl.length<=K.length->(a2=k\/bl.length<=a2)->w2+1<=c+130*w->m2<=m+(20*a+4*w)->(lo.length:Int)+1<=r2->
   Ok (Option.bind (f119 nm g fs lo nu r2 a2 K) λB=>Option.bind (bif(decide (0<=B.1))then OB (f77 2 0 B.1 (lo.length:Int) 0 0 eInt B.2.1 B.2.2.1 B.2.2.2.1 B.2.2.2.2.1 B.2.2.2.2.2.1 B.2.2.2.2.2.2.1 K) λM=>zw (M.1,M.2.1,M.2.2.1,M.2.2.2.1,M.2.2.2.2.1,M.2.2.2.2.2.1,M.2.2.2.2.2.2)else
    OB (f97 B.2.1 B.2.2.1 nm) λc17=>OB (f77 6 0 0 (lo.length:Int) 0 c17 eInt B.2.1 B.2.2.1 B.2.2.2.1 B.2.2.2.2.1 B.2.2.2.2.2.1 B.2.2.2.2.2.2.1 K) λN=>zw (N.1,N.2.1,N.2.2.1,N.2.2.2.1,N.2.2.2.2.1,N.2.2.2.2.2.1,N.2.2.2.2.2.2)) λuq=>(zw (.inl (uq.1,uq.2.1,uq.2.2.1,uq.2.2.2.1,uq.2.2.2.2.1,uq.2.2.2.2.2.1,uq.2.2.2.2.2.2)):Option ((List aC×List aH×List (List UInt8)×Int×Int×Int×List aN) ⊕ (Bool×List aC×List aH×List (List UInt8)×Int×Int×Int×List aN))))
    (Nh (λy=>PW (c+130*w) (m+(20*a+4*w)) g fs lo nu re bl k O P (zj,y)) (PW (c+130*w) (m+(20*a+4*w)) g fs lo nu re bl k O P)):=λ{nm r2 a2 w2 m2 K k1} _ hnm hp g1 g2 g3 g4 g5 g6 g7=>by
  have hrt:RG r2 (lo.length:Int):=⟨by omega,by omega⟩;refine abl hlo λq q1 q2=>bG (λy=>PW (c+130*w) (m+(20*a+4*w)) g fs lo nu re bl k O P (zj,y)) ?_ λy H=>aG H;by_cases hm:nm∈lo
  .obtain ⟨z1,z2⟩:=q1 hm;exact goT (W5 z1) (gX (put (r2:=r2) hp g1 g2 g3 g4 g5 g6 (.move ⟨z1,by omega⟩ hrt (by simp))))
  .have z:=q2 hm;subst z;exact bW rfl (bG _ (JY hS.gn (hnm.resolve_left hm)) λy H=>gX (put hp g1 g2 g3 g4 g5 g6 (.store hrt H (by simp))))
 have out :∀{y:List aC×List aH×List (List UInt8)×Int×Int×Int×List aN},PW (c+130*w) (m+(20*a+4*w)) g fs lo nu re bl k O P (zj,y)->PW (c+130*w) (m+(20*a+4*w)) g fs lo nu re bl k O P (zj,y.1,y.2.1,y.2.2.1,y.2.2.2.1,y.2.2.2.2.1,y.2.2.2.2.2.1,y.2.2.2.2.2.2):=λh=>h;cases (show QS1 g (jw fs) lo (QS g (jw fs) lo n) j s L a w from hs)with
 |var hm l2=>refine bW rfl (bG _ (ex _ (λ_=>3) (by simp) (λ_=>YY _) (X l2) (by omega)) λy ⟨r2,a2,K,e,f1,f2,f3,Y,T,f6⟩=>?_);subst e;simp only[sW,sB,W4,wx3,bx3]at f2 f6;exact bG (λy=>y=zj) (goT rfl (aG rfl)) λy e=>by subst e;exact iH (λy=>PW (c+130*1) (m+(20*1+4*1)) g fs lo nu re bl k O P (zj,y)) (goT rfl (asg (k1:=1) (by omega) (.inl hm) f6 f1 f3 Y T (by omega) (by omega) (by omega))) λy H=>aG (out H)
 |assign hm l2=>refine bW rfl (bG _ (ex _ (λ_=>3) (by simp) (λ_=>YY _) (X l2) (by omega)) λy ⟨r2,a2,K,e,f1,f2,f3,Y,T,f6⟩=>?_);subst e;simp only[sW,sB,W4,wx3,bx3]at f2 f6;exact bG (λy=>y=zj) (bW rfl (aG rfl)) λy e=>by subst e;exact iH (λy=>PW (c+130*1) (m+(20*1+4*1)) g fs lo nu re bl k O P (zj,y)) (goT rfl (asg (k1:=1) (by omega) hm f6 f1 f3 Y T (by omega) (by omega) (by omega))) λy H=>aG (out H)
 |step hm l2=>refine bW rfl (bG _ (ex _ (λ_=>2) (by simp) (λ_=>by omega) (X l2) (by omega)) λy ⟨r2,a2,K,e,f1,f2,f3,Y,T,f6⟩=>?_);subst e;simp only[sW,sB,W4,wx2,bx2]at f2 f6;exact bG (λy=>y=zj) (bW rfl (aG rfl)) λy e=>by subst e;exact iH (λy=>PW (c+130*1) (m+(20*0+4*1)) g fs lo nu re bl k O P (zj,y)) (goT rfl (asg (k1:=1) (by omega) hm f6 f1 f3 Y T (by omega) (by omega) (by omega))) λy H=>aG (out H)
 |store hp l2 hz=>
  refine bW rfl (bG _ (ex _ (λi=>if i=0 then 2 else 3) (by simp) (λi=>by split<;>omega) (λi hi=>?_) (by omega)) λy ⟨r2,a2,K,e,f1,f2,f3,Y,T,f6⟩=>?_)
  .have:i=0\/i=1:=by simp at hi;omega
   rcases this with rfl|rfl
   .exact l2
   .exact hz
  subst e;have e2:sW (λi=>if i=0 then 2 else 3) 2=119:=rfl;have e3:sB (λi=>if i=0 then 2 else 3) 2=20:=rfl;simp only[Wm,Ke,Vi,e2,e3]at f2 f6;have hr2:RG r2 (bP ((lo.length:Int)+1)):=by rw[aF (by omega)];exact⟨by omega,by omega⟩
  exact bG (λy=>y=zv) (bW rfl (aG rfl)) λy e=>by subst e;exact iH (λy=>PW (c+130*1) (m+(20*1+4*1)) g fs lo nu re bl k O P (zj,y)) (bW rfl (iH (λy=>PW (c+130*1) (m+(20*1+4*1)) g fs lo nu re bl k O P (zj,y)) (goT rfl (bG _ (JY hS.gn hp) λy H=>bG _ (put (r2:=r2) f6 f1 f3 Y T (by omega) (by omega) (.set ⟨by omega,by omega⟩ hr2 H (by simp))) λy H=>aG H)) λy H=>aG H)) λy H=>aG (out H)
 |@plain k0 i nm x hk l2=>
  have Z :∀l1:Int,l1=5\/l1=1\/l1=2\/l1=3\/l1=4->k0≠l1:=λl1 hj e=>by rcases hk with h|h|h<;>omega
  refine bW (ZS (Z 5 (by simp))) (bG _ (ex _ (λ_=>3) (by simp) (λ_=>YY _) (X l2) (by omega)) λy ⟨r2,a2,K,e,f1,f2,f3,Y,T,f6⟩=>?_);subst e;simp only[sW,sB,W4,wx3,bx3]at f2 f6;refine bG (λy=>y=zv) (bW (ZS (Z 1 (by simp))) (aG (ZS (Z 2 (by simp))))) λy e=>?_;subst e;refine iH (λy=>PW (c+130*1) (m+(20*1+4*1)) g fs lo nu re bl k O P (zj,y)) (bW rfl (iH (λy=>PW (c+130*1) (m+(20*1+4*1)) g fs lo nu re bl k O P (zj,y)) (bW (ZS (Z 3 (by simp))) ?_) λy H=>aG H)) λy H=>aG (out H);have u:=f6.lt;refine dA (λ_=>?_) λ_=>iH (λy=>PW (c+130*1) (m+(20*1+4*1)) g fs lo nu re bl k O P (zj,y)) (dA (λ_=>bG _ (put (r2:=r2) f6 f1 f3 Y T (by omega) (by omega) (.print ⟨by omega,by omega⟩ (by simp))) λy H=>aG H) λ_=>bW (ZS (Z 4 (by simp))) (aG ⟨zj,r2,a2,K,rfl,f1,f3,Y,T,(f6.inv.up (Vn _) (by omega) (by omega)).cast (λx=>by simp) λx y=>Iff.rfl⟩)) λy H=>aG H;refine sO (bl:=K) (re:=r2) (b0:=a2) f6.inv (.inl rfl) ⟨by omega,λ_=>⟨by omega,by omega⟩,λx l2=>by unfold succs at l2;rw[Qt (by omega),Qt (by omega)]at l2;cases l2⟩ (λy hp=>absurd hp (f6.np y)) λb l i=>aG ⟨zv,r2,a2,b,rfl,f1,f3,by omega,T,(i.up (Vn _) (by omega) (by omega)).cast (λz=>⟨λhh=>?_,λhh=>?_⟩) λz y=>⟨λhh=>hh.1,λhh=>⟨hh,(u.2.2 _ _ hh).2.1⟩⟩⟩
  .exact hh.1.elim (λe=>absurd e hh.2) .inr
  .rcases hh with hh|hh
   .exact absurd hh.1 (by simp)
   .exact ⟨.inr hh,(u.2.1 _ hh).2⟩
 |sN l2 ht hc=>exact goT rfl (bG _ (h5 _ _ _ _ _ rfl rfl l2 ht hc (by omega)) λy H=>aG H)
 |@if' i nm x th el l3 l4 c1 c2 k1 U l2 ht he hc1 hc2=>
  refine bW rfl (bG _ (ex _ (λ_=>3) (by simp) (λ_=>YY _) (X l2) (by omega)) λy ⟨r2,a2,K,e,f1,f2,f3,Y,T,f6⟩=>?_);subst e;simp only[sW,sB,W4,wx3,bx3]at f2 f6;refine bG (λy=>y=zv) (bW rfl (aG rfl)) λy e=>?_;subst e;refine iH (λy=>PW (c+130*(1+k1+U)) (m+(20*(1+c1+c2)+4*(1+k1+U))) g fs lo nu re bl k O P (zj,y)) (bW rfl (iH (λy=>PW (c+130*(1+k1+U)) (m+(20*(1+c1+c2)+4*(1+k1+U))) g fs lo nu re bl k O P (zj,y)) (bW rfl (bW rfl (iH (λy=>PW (c+130*(1+k1+U)) (m+(20*(1+c1+c2)+4*(1+k1+U))) g fs lo nu re bl k O P (zj,y)) (bW rfl (goT rfl (bG _ (h4 _ _ _ _ _ _ ht he hc1 hc2 r2 a2 K _ _ f6 (by omega) (by omega)) λy ⟨on,r3,a3,b3,e,g1,g2,g3,g4,g5⟩=>?_))) λy H=>aG H))) λy H=>aG H)) λy H=>aG (out H);subst e;exact aG ⟨on,r3,a3,b3,rfl,by omega,by omega,by omega,by omega,g5.up (Vn _) (by omega) (by omega)⟩
theorem Ja{rec:T76}{z:T95}{WM:OA}{WO:OC}{a:Nat}{l1:List dB}(hs:l1.length<=10)(B:Ch (QS g (jw fs) lo n) j l1 L a w)
  (hr :∀x∈l1,∀K l2 c1 k1,QS g (jw fs) lo n K x l2 c1 k1->∀(re:Int) (k:Nat) bl c m O P,Pre g fs lo re c m bl k O P->c+130*k1<=700000->Ok (z x.kind x.line x.name x.exprs x.then' x.else' g fs lo nu re k bl) (PW (c+130*k1) (m+(20*c1+4*k1)) g fs lo nu re bl k O P))
  {re:Int} {m:Nat}    (h:Pre g fs lo re c m bl k O P) (hw:c+130*w<=700000) :
  Ok (aj8 rec z WM WO l1 g fs lo nu re k bl) (PW (c+130*w) (m+(20*a+4*w)) g fs lo nu re bl k O P):=by
 obtain⟨q1,q2,q3⟩:=h.lt;unfold aj8;refine iH (λy=>PW (c+130*w) (m+(20*a+4*w)) g fs lo nu re bl k O P (zj,y)) ?_ λy hy=>aG hy;refine bF (λs:Int×List aC×List aH×List (List UInt8)×Int×Int×Int×List aN=>∃q c1 k1 M N:Nat,∃K re' H b,s=((q:Int),g,fs,lo,nu,re',((H:Nat):Int),b)/\q<=l1.length/\Ch (QS g (jw fs) lo n) K (l1.drop q) L M N/\a=c1+M/\w=k1+N/\re<=re'/\(re'<=re\/re'<=lo.length+10)/\bl.length<=b.length/\(H=k\/bl.length<=H)/\Pre g fs lo re' (c+130*k1) (m+(20*c1+4*k1)) b H O P) (λs=>(l1.length-s.1).toNat)
  ⟨0,0,0,a,w,j,re,k,bl,rfl,by omega,B,by omega,by omega,by omega,by omega,by omega,.inl rfl,h⟩ λs ⟨q,c1,k1,M,N,K,re',H,b,e,d1,d2,d3,d4,d5,d6,d7,d8,d9⟩=>?_
 subst e;refine dA (λB=>?_) λB=>?_
 rotate_left
 .have B:¬ (q:Int)<l1.length:=by simpa using B
  obtain⟨e1,X,e3⟩:=d2.fin (by omega);subst X;subst e3;exact aG ⟨zj,re',H,b,rfl,d5,d6,d7,d8,(d9.inv.up (Vn _) (by omega) (by omega)).cast (λx=>by simp) λx y=>Iff.rfl⟩
 have B:(q:Int)<l1.length:=by simpa using B
 obtain⟨l2,c3,c4,k3,k4,hx,T,e1,X⟩:=d2.at (by omega);refine bK (aQ.2 ⟨by simp only;omega,B⟩) ?_;simp only[Q4];refine bG _ (hr _ (by rw[getD_at _ (by omega:q<l1.length)];exact X2 _) _ _ _ _ hx re' H b _ _ O P d9 (by omega)) λy ⟨on,Y,a2,Z,e,f1,f2,f3,F4,F5⟩=>?_;subst e;refine dA (λJ=>?_) λJ=>?_
 .have J:on=zv:=by simpa using J
  exact aG ⟨zv,Y,a2,Z,rfl,by omega,by omega,by omega,by omega,(F5.up (Vn _) (by omega) (by omega)).cast (λx=>by rw[J]) λx y=>Iff.rfl⟩
 .have J:on=zj:=by simpa using J
  subst J;have u:=d9.lt;refine aG ⟨⟨q+1,c1+c3,k1+k3,c4,k4,l2,Y,a2,Z,?_,by omega,T,by omega,by omega,by omega,by omega,by omega,by omega,⟨(F5.up (Vn _) (by omega) (by omega)).cast (λx=>by simp) λx y=>Iff.rfl,λU=>?_,λy U=>?_,by have:=d9.re;omega⟩⟩,?_⟩
  .show (bP ((q:Int)+1),_)=_;rw[aF (by omega)];rfl
  .have:=u.2.1 _ U;omega
  .have:=u.2.2 _ _ U;omega
  .show ((l1.length:Int)-bP ((q:Int)+1)).toNat<((l1.length:Int)-q).toNat;rw[aF (by omega)];omega
theorem WR(n:Nat):(g_ (n+1)).1=aj8 (adb n) (aj_ n) (aaO n) (aaP n):=rfl
theorem ahm(n:Nat):(g_ (n+1)).2.1=aj9 (adb n) (aj_ n) (aaO n) (aaP n):=rfl
theorem ahn(n:Nat):(g_ (n+1)).2.2.1=aaM (adb n) (aj_ n) (aaO n) (aaP n):=rfl
theorem aho(n:Nat):(g_ (n+1)).2.2.2=aaN (adb n) (aj_ n) (aaO n) (aaP n):=rfl
theorem abn(H:Lw g fs lo):∀n k:Nat,3*n+1<=k->∀y:List dB,y.length<=10->∀l1 l2 c q,Ch (QS g (jw fs) lo n) l1 y l2 c q->SS g fs lo nu (adb k) y c q
 |_,0,J=>by omega
 |0,k+1,J=>λy K l1 l2 c q L re a B w m O P h j=>by show Ok ((g_ (k+1)).1 y g fs lo nu re a B) _;rw[WR];exact Ja K L (λx hx M l4 N T U=>U.elim) h j
 |n+1,1,J=>by omega
 |n+1,2,J=>by omega
 |n+1,k+3,J=>λy K l1 l2 c q L re a B w m O P h j=>by
  have X:=abn H n k (by omega);show Ok ((g_ (k+3)).1 y g fs lo nu re a B) _;rw[WR];refine Ja K L (λx hx M l4 N T U re a B w m O P h j=>?_) h j;show Ok ((g_ (k+2)).2.1 x.kind x.line x.name x.exprs x.then' x.else' g fs lo nu re a B) _;rw[ahm];refine YT H U h j (λz th N T M e1 e2 hz Y Z j=>?_) λN c2 T k2 M l4 Y he hc1 hc2 re' a' b w' m' hp hre j=>?_
  .show Ok ((g_ (k+1)).2.2.1 x.kind x.line x.name x.exprs x.then' x.else' (lo.length:Int) g fs lo nu re a B) _;rw[ahn,e1,e2];exact YS H hz (X th Y _ _ _ _ Z) h j
  .show Ok ((g_ (k+1)).2.2.2 x.kind x.line x.name x.exprs x.then' x.else' (lo.length:Int) g fs lo nu re' a' b) _;rw[aho];exact WQ H (X _ Y _ _ _ _ hc1) (X _ he _ _ _ _ hc2) hp hre j
end
structure Rt(g:List aC)(sg:List (List UInt8×Nat))(cl:Int)(f:aS):Prop where
 good:Good f
 len:f.blocks.length<=256
 wt:Dl f.blocks<=2048
 reg:0<=f.regs/\f.regs<=250
 par:0<=f.params/\f.params<=f.regs
 ins :∀b∈f.blocks,∀i∈b.instrs,IV g sg cl f.regs i
 trm :∀b,b<f.blocks.length->tvB f.regs f.blocks.length (f.blocks.getD b aB)
structure RtP(g:List aC)(sg:List (List UInt8×Nat))(cl:Int)(fs:List aS):Prop where
 gl:g.length<=32
 gs :∀x∈g,0<=x.size/\x.size<=1024
 f0:0<fs.length
 f1:fs.length<=5
 sgl:sg.length=fs.length
 cll:0<=cl/\cl<=fs.length
 par :∀i,i<fs.length->(fs.getD i ah).params=((sg.getD i ([],0)).2:Int)
 p0:(fs.getD 0 ah).params=0
 rt :∀f∈fs,Rt g sg cl f
section
variable {g:List aC} {fs:List aS} {sg:List (List UInt8×Nat)} {cl re:Int}
theorem uy{b:Int}{Q:A->Prop}{er:A}(q:l.length<=1000)(h :∀x∈l,0<=x/\x<b):
  Ok (bn (λ(s:Int)=>bif(decide (s<(l.length:Int)))then OB (ck (inB s l.length) <| bif(decide ((List.getD l s.toNat 0)<0))then zw zj else ck (inB s l.length) <| some (decide (b<=(List.getD l s.toNat 0)))) λm=>bif m then zw (.inr (.inr er))else zw (.inl (bP (s+1)))else zw (.inr (.inl ()))) (0:Int)) (Nh (λ_:Unit=>True) Q):=by
 refine iK l.length (λ_=>True) (by omega) (λi j _=>?_) λ_=>bW m_ (aG trivial);have w:=h _ (X2 j);refine goT GX (bG (λy=>y=zv) (bK nZ ?_) λy e=>by subst e;exact bW rfl (aG ⟨rfl,trivial⟩));simp only[Q4,getD_at _ j];exact bW m_ (bK nZ (aG m_))
theorem JZ{b:Int}(h:GI u g b):f139 g fs i v b u=zw zj:=by apply ok_eq;obtain⟨⟨j,m⟩,q⟩:=h;unfold f139;refine bG (λy=>y=zj) (goT (W5 j) (goT (W5 m) (bK (aQ.2 ⟨j,m⟩) (aG ?_)))) λy w=>aG w;rw[q];simp
theorem rg2{b:Int}(h:RG re b)(j:RG re i):∀z∈[b,i],0<=z/\z<re:=λz m=>by
 rcases Xs.1 m with e|e
 .rw [e];exact h
 .rw [X1]at e;rw[e];exact j
theorem rg1{b:Int}(h:RG re b):∀z∈[b],0<=z/\z<re:=qy h
theorem rg3{b:Int}(h:RG re b)(j:RG re i)(m:RG re v):∀z∈[b,i,v],0<=z/\z<re:=λz q=>by
 rcases Xs.1 q with e|e
 .rw [e];exact h
 .exact rg2 j m z e
theorem instrC_ok{s:List UInt8}{b:Int}{i:dP}(L:sg.length=fs.length)(K :∀i,i<fs.length->(fs.getD i ah).params=((sg.getD i ([],0)).2:Int))(h:IV g sg cl re i):Ok (f122 g fs cl 0 s b re bl i.kind i.op i.dst i.a i.b i.value i.args) λy=>y=0:=by
 unfold f122;cases h with
 |const hd m=>exact d_ rfl (bW rfl (d_ rfl (d_ rfl (d_ rfl (iH (λ_=>True) (uy (by simp) (rg1 hd)) λ_ _=>⟨0,rfl,rfl⟩)))))
 |move hd j m=>exact d_ rfl (bW rfl (d_ rfl (d_ rfl (d_ rfl (iH (λ_=>True) (uy (by simp) (rg2 j hd)) λ_ _=>⟨0,rfl,rfl⟩)))))
 |un hd j J m=>rcases J with rfl|rfl<;>exact d_ rfl (bW rfl (d_ rfl (d_ rfl (d_ rfl (iH (λ_=>True) (uy (by simp) (rg2 j hd)) λ_ _=>⟨0,rfl,rfl⟩)))))
 |bin hd j B J m=>refine bG (λy=>y=zv) (bW rfl (bW rfl (bW rfl (bW rfl (goT rfl (bW (ZS (by simp only;omega)) (aG (ZS (by simp only;omega))))))))) λy e=>?_;subst e;exact bW rfl (d_ rfl (d_ rfl (d_ rfl (iH (λ_=>True) (uy (by simp) (rg3 j B hd)) λ_ _=>⟨0,rfl,rfl⟩))))
 |load hd q m=>exact d_ rfl (bW rfl (d_ rfl (d_ rfl (d_ rfl (iH (λ_=>True) (uy (by simp) (rg1 hd)) λ_ _=>d_ rfl (iH (λ_=>True) (goT rfl (d_ (JZ q) (bW rfl (aG trivial)))) λ_ _=>aG rfl))))))
 |store j q m=>exact d_ rfl (bW rfl (d_ rfl (d_ rfl (d_ rfl (iH (λ_=>True) (uy (by simp) (rg1 j)) λ_ _=>d_ rfl (iH (λ_=>True) (goT rfl (d_ (JZ q) (bW rfl (aG trivial)))) λ_ _=>aG rfl))))))
 |elem hd j q m=>exact d_ rfl (bW rfl (d_ rfl (d_ rfl (d_ rfl (iH (λ_=>True) (uy (by simp) (rg2 j hd)) λ_ _=>d_ rfl (iH (λ_=>True) (bW rfl (d_ rfl (iH (λ_=>True) (goT rfl (d_ (JZ q) (bW rfl (aG trivial)))) λ_ _=>aG trivial))) λ_ _=>aG rfl))))))
 |set j B q m=>exact d_ rfl (bW rfl (d_ rfl (d_ rfl (d_ rfl (iH (λ_=>True) (uy (by simp) (rg2 j B)) λ_ _=>d_ rfl (iH (λ_=>True) (bW rfl (d_ rfl (iH (λ_=>True) (goT rfl (d_ (JZ q) (bW rfl (aG trivial)))) λ_ _=>aG trivial))) λ_ _=>aG rfl))))))
 |read hd m=>exact d_ rfl (bW rfl (d_ rfl (d_ rfl (d_ rfl (iH (λ_=>True) (uy (by simp) (rg1 hd)) λ_ _=>⟨0,rfl,rfl⟩)))))
 |print j m=>exact d_ rfl (bW rfl (d_ rfl (d_ rfl (d_ rfl (iH (λ_=>True) (uy (by simp) (rg1 j)) λ_ _=>⟨0,rfl,rfl⟩)))))
 |@call o d a pa v ar hd q w H m=>
  have z:=K v.toNat (by omega);rw[w]at z;refine d_ rfl (bW rfl (bG (λy=>y=ar) (by unfold f137;exact d_ rfl (bW rfl (d_ rfl (bW rfl (goT rfl (bK (by unfold aX;simp;omega) (aG (by simp)))))))) λar e=>?_));subst e;refine d_ rfl (bG (λl=>l=ar++[d]) (goT rfl (bK (by unfold aX;simp;omega) (aG rfl))) λl e=>?_);subst e;refine iH (λ_=>True) (uy (by simp;omega) λx hx=>?_) λ_ _=>d_ rfl (iH (λ_=>True) (bW rfl (d_ rfl (iH (λ_=>True) (bW rfl (iH (λ_=>True) (goT rfl (bG (λy=>y=zv) (bW (ZS (by simp only;omega)) (aG (ZS (by simp only;omega)))) λy e=>by subst e;exact bW rfl (bK (aQ.2 (by simp only;omega)) (bW (by rw[va];exact W5 z) (aG trivial))))) λ_ _=>aG trivial)) λ_ _=>aG trivial))) λ_ _=>aG rfl);rcases Ys.1 hx with hx|hx
  .exact H x hx
  .exact rg1 hd x hx
 |@I_ o d a pa v ar hd j H m=>
  refine d_ rfl (bW rfl (bG (λy=>y=a::ar) (by unfold f137;exact d_ rfl (bW rfl (d_ rfl (bW rfl (bW rfl (goT rfl (bK (by unfold aX;simp;omega) (aG rfl)))))))) λy e=>?_));subst e;refine d_ rfl (bG (λl=>l=(a::ar)++[d]) (goT rfl (bK (by unfold aX;simp;omega) (aG rfl))) λl e=>?_);subst e;refine iH (λ_=>True) (uy (by simp;omega) λx hx=>?_) λ_ _=>d_ rfl (iH (λ_=>True) (bW rfl (d_ rfl (iH (λ_=>True) (bW rfl (iH (λ_=>True) (bW rfl (iH (λ_=>True) (goT rfl (bW (ZS (by simp only;omega)) (aG trivial))) λ_ _=>aG trivial)) λ_ _=>aG trivial)) λ_ _=>aG trivial))) λ_ _=>aG rfl);rcases Ys.1 hx with hx|hx
  .rcases Xs.1 hx with hx|hx
   .rw [hx];exact j
   .exact H x hx
  .exact rg1 hd x hx
 |func hd q m=>exact d_ rfl (bW rfl (d_ rfl (d_ rfl (d_ rfl (iH (λ_=>True) (uy (by simp) (rg1 hd)) λ_ _=>d_ rfl (iH (λ_=>True) (bW rfl (d_ rfl (iH (λ_=>True) (bW rfl (iH (λ_=>True) (bW rfl (iH (λ_=>True) (bW rfl (iH (λ_=>True) (goT rfl (bG (λy=>y=zv) (bW (ZS (by simp only;omega)) (aG (ZS (by simp only;omega)))) λy e=>by subst e;exact bW rfl (aG trivial))) λ_ _=>aG trivial)) λ_ _=>aG trivial)) λ_ _=>aG trivial)) λ_ _=>aG trivial))) λ_ _=>aG rfl))))))
theorem akP{s:List UInt8}{b re:Int}(h:TV re bl.length v d t p):Ok (f123 s b re bl v d t p) λy=>y=0:=by
 have m:=h.kind;unfold f123;refine bG (λy=>y=zv) (bW m_ (aG m_)) λy j=>?_;subst j;refine bW rfl (bG (λy=>y=zv) ?_ λy j=>?_)
 .refine dA (λhn=>?_) λ_=>aG rfl;have hn:v≠1:=by simpa using hn
  obtain⟨q,w⟩:=h.reg hn;exact bW m_ (aG m_)
 subst j;have z:(succs v t p).length<=2:=by unfold succs;split;simp;split<;>simp
 exact bW rfl (d_ (WB v d t p) (iH (λ_=>True) (uy (by omega) h.suc) λ_ _=>aG rfl))
theorem adI{s:List UInt8}{b re:Int}(h:Dl bl<=1000000):f121 s b re bl=zw (Dl bl:Int):=by
 apply ok_eq;have B:=ahj bl;unfold f121;refine bG (λy=>y=(Dl bl:Int)) ?_ λy w=>aG w;have key :∀i,i<=bl.length->Dl (bl.take i)<=Dl bl:=λi _=>by
  have:Dl (bl.take i)+Dl (bl.drop i)=Dl bl:=by unfold Dl;rw[<-vb,<-XX,K3]
  omega
 refine bF (λpa:Int×Int=>∃i:Nat,pa.2=i/\i<=bl.length/\pa.1=(Dl (bl.take i):Int)) (λpa=>(bl.length-pa.2).toNat) ⟨0,rfl,by omega,rfl⟩ λ⟨n,H⟩ ⟨i,m,J,q⟩=>?_;simp only at m q;subst m;subst q;refine dA (λj=>?_) (λj=>?_)
 .have j:i<bl.length:=by simpa using j
  have z:Dl (bl.take (i+1))=Dl (bl.take i)+(bl[i].instrs.length+1):=by unfold Dl;rw[take_snoc j];simp only[XX,vb,Qf,Vc,JS,List.sum_nil];omega
  have:=key (i+1) (by omega);refine bK (aQ.2 (by simp only;omega)) (aG ⟨⟨i+1,?_,by omega,?_⟩,?_⟩)
  .simp only;rw[aF (by omega)];rfl
  .simp only[Q4,getD_at _ j];rw[aF (x:=(bl[i].instrs.length:Int)+1) (by omega),aF (by omega),z];simp
  .simp only;rw[aF (by omega)];omega
 .have:i=bl.length:=by simp at j;omega
  subst this;rw[K7];exact aG rfl
theorem WT{f:aS}(L:sg.length=fs.length)(M :∀i,i<fs.length->(fs.getD i ah).params=((sg.getD i ([],0)).2:Int))(h:Rt g sg cl f):Ok (f96 g fs cl 0 f.name f.params f.regs f.blocks) λy=>y=0:=by
 obtain⟨⟨_,g1,g2,g3⟩,hl,hw,hr,N,T,U⟩:=h;unfold f96;refine bG (λy=>y=zv) (bW m_ (bW m_ (d_ (adI (by omega)) (aG m_)))) λy e=>?_;subst e;refine bW rfl (bG (λy=>y=zv) (bW m_ (bW m_ (bW m_ (aG m_)))) λy e=>?_);subst e;refine bW rfl (iH (λ_=>True) (iK f.blocks.length (λ_=>True) (by omega) (λb q _=>?_) λ_=>bW m_ (aG trivial)) λ_ _=>?_)
 .have w:=aQ.2 (show 0<=(b:Int)/\(b:Int)<f.blocks.length by omega);have z:f.blocks.getD b aB∈f.blocks:=by rw[getD_at _ q];exact X2 _
  have X:=YP _ z;refine goT GX (iH (λ_=>True) (iK (f.blocks.getD b aB).instrs.length (λ_=>True) (by omega) (λj Y _=>?_) λ_=>bK w (bW (ZS (by simp only[Q4];omega)) (aG trivial))) λ_ _=>?_)
  .refine bK w ?_;simp only[Q4];refine goT GX (bK w (bK nZ (bG _ (instrC_ok L M (T _ z _ (by rw[getD_at _ Y];exact X2 _))) λy e=>by subst e;exact bW rfl (aG ⟨rfl,trivial⟩))))
  .refine bK w ?_;simp only[Q4];exact bG _ (akP (U b q)) λy e=>by subst e;exact bW rfl (aG ⟨rfl,trivial⟩)
 refine bG _ (WE g2 g1 (by omega)) λm ⟨H,J⟩=>?_;have Z:=H.len;have B :∀b,b<f.blocks.length->m.getD b zv=zj:=by
  refine λb q=>(g3 (λb=>b<f.blocks.length/\m.getD b zv=zj) ⟨g1,H.zero⟩ (λb q K=>?_) b q).2;obtain⟨e1,e2⟩:=g2.1 b q;have hk:=g2.2 b q;refine⟨λhn=>?_,λhn=>?_⟩
  .have h1:=e1 hn;exact⟨by omega,J b q K.2 _ (E_.1 (by omega))⟩
  .have h1:=e2 hn;exact⟨by omega,J b q K.2 _ (E_.2 hn)⟩
 refine iH (λ_=>True) (iK m.length (λ_=>True) (by omega) (λb q _=>?_) λ_=>bW m_ (aG trivial)) λ_ _=>aG rfl;refine goT GX (bK nZ (bW ?_ (aG ⟨rfl,trivial⟩)));rw[Q4,B b (by omega)];rfl
theorem ahq(h:RtP g sg cl fs):Ok (f79 g fs cl 0) λy=>y=0:=by
 have q:=h.gl;have w:=h.f0;have z:=h.f1;have B:=h.cll;unfold f79;refine bG (λy=>y=zv) (bW m_ (bW m_ (bW m_ (bW rfl (aG rfl))))) λy e=>?_;subst e;refine bW rfl (iH (λ_=>True) (iK g.length (λ_=>True) (by omega) (λi m _=>?_) λ_=>bW m_ (aG trivial)) λ_ _=>?_)
 .have H:=h.gs _ (by rw[getD_at _ m];exact X2 _:g.getD i (aC.mk bM 0)∈g);have j:=aQ.2 (show 0<=(i:Int)/\(i:Int)<g.length by omega);refine goT GX (bG (λy=>y=zv) (bK j ?_) λy e=>by subst e;exact bW rfl (aG ⟨rfl,trivial⟩));simp only[Q4];exact bW m_ (bK j (aG m_))
 refine bG (λy=>y=zv) (bW m_ (aG m_)) λy e=>?_;subst e;refine bW rfl (bK nZ (bW ?_ (iH (λ_=>True) (iK fs.length (λ_=>True) (by omega) (λi m _=>?_) λ_=>bW m_ (aG trivial)) λ_ _=>aG rfl)))
 .rw [va];exact W5 h.p0
 .refine goT GX (bK nZ ?_);simp only[Q4];exact bG _ (WT h.sgl h.par (h.rt _ (by rw[getD_at _ m];exact X2 _))) λy e=>by subst e;exact bW rfl (aG ⟨rfl,trivial⟩)
end
variable {g:List aC} {fs:List aS} {sg:List (List UInt8×Nat)} {ca re:Int}
def DI(g:List aC)(sg:List (List UInt8×Nat))(ca re:Int)(l:List Int)(s:List Int×Int×Int×Int×Int×Int×Int×Int×List Int):Prop:=s.1=l/\0<=s.2.1/\RG re s.2.2.2.2.1/\IV g sg ca re (dP.mk s.2.2.1 s.2.2.2.1 s.2.2.2.2.1 s.2.2.2.2.2.1 s.2.2.2.2.2.2.1 s.2.2.2.2.2.2.2.1 s.2.2.2.2.2.2.2.2)
theorem instr_ok{b:Int}{s:List UInt8}(J:Bytes l)(hi:0<=v)(X:1<=re/\re<=65536)(hca:0<=ca/\ca<=65536)
  (Y:GI zv g 0) (Z:GI zj g 1) (hfs:0<fs.length/\fs.length<=65536) (hsg:sg.length=fs.length) (hpa :∀v,v<fs.length->(fs.getD v ah).params=((sg.getD v ([],0)).2:Int)/\(sg.getD v ([],0)).2<=10) :
  Ok (f48 g fs ca b s i re bl l v) λy=>y.2.2.2.2.2.2.1=l/\0<=y.2.2.2.2.2.2.2.1/\IV g sg ca re (dP.mk y.1 y.2.1 y.2.2.1 y.2.2.2.1 y.2.2.2.2.1 y.2.2.2.2.2.1 y.2.2.2.2.2.2.2.2):=by
 unfold f48;refine goN J hi (by omega) λx0 j0 h0 a0 b0=>goN J h0 (by omega) λx1 j1 h1 a1 b1=>goN J h1 (by omega) λx2 j2 h2 a2 b2=>goN J h2 (by omega) λx3 j3 M a3 b3=>?_;have b0:=b0 (by omega);have w:RG re x1:=⟨a1,b1 (by omega)⟩;have N:RG re x2:=⟨a2,b2 (by omega)⟩;have r3:RG re x3:=⟨a3,b3 (by omega)⟩;obtain⟨n,hn,n1,n2⟩ :∃n:Int,bP (1+x0)=n/\1<=n/\n<=12:=⟨_,rfl,by rw[aF (by omega)];omega,by rw[aF (by omega)];omega⟩;simp only[hn];clear hn;have m:(eInt:List Int).length<=10:=by simp
 refine bG (DI g sg ca re l) ?_ λpa ⟨e1,e2,e3,e4⟩=>?_
 .refine dA (λe=>goN J M (by omega) λx j K _ _=>?_) (λm1=>bG (DI g sg ca re l) ?_ λpa B=>aG B)
  .have e:n=1:=by simpa using e
   subst e;exact aG ⟨rfl,K,w,.const w m⟩
  refine dA (λe=>goN J M (by omega) λx j K T H=>?_) (λm3=>bG (DI g sg ca re l) ?_ λpa B=>aG B)
  .have e:n=3:=by simpa using e
   have H:=H (by omega);subst e;exact aG ⟨rfl,K,w,.un w N (by simp only;rw[aF (by omega)];omega) m⟩
  refine dA (λe=>goN J M (by omega) λx j K T H=>?_) (λm4=>bG (λy=>y=decide (n=7\/n=8)) ?_ λy U=>bG (DI g sg ca re l) ?_ λpa B=>aG B)
  .have e:n=4:=by simpa using e
   have H:=H (by omega);subst e;exact aG ⟨rfl,K,w,.bin w N r3 (by simp only;rw[aF (by omega)];omega) m⟩
  .refine dA (λe=>aG ?_) λe=>aG ?_
   .have e:n=7:=by simpa using e
    exact(W5 (Or.inl e)).symm
   .have e:¬ n=7:=by simpa using e
    exact decide_eq_decide.2 (by omega)
  refine dA (λe=>?_) (λe=>bG (DI g sg ca re l) ?_ λpa B=>aG B)
  .rw [U]at e;have e:n=7\/n=8:=Zs e;rcases e with e|e
   .subst e;exact aG ⟨rfl,M,w,.elem w N Z m⟩
   .subst e;exact aG ⟨rfl,M,w,.set N r3 Z m⟩
  rw[U]at e;have m78:¬ (n=7\/n=8):=ZD e;have m1:¬ n=1:=by simpa using m1
  have m3:¬ n=3:=by simpa using m3
  have m4:¬ n=4:=by simpa using m4
  refine dA (λe=>goN J M (by omega) λx j K T H=>bG (DI g sg ca re l) ?_ λpa B=>aG B) (λm11=>bG (DI g sg ca re l) ?_ λpa B=>aG B)
  .have e:n=11:=by simpa using e
   have H:=H (by omega);subst e;obtain⟨p1,p2⟩:=hpa x.toNat (by omega);refine bF (λpa:Int×List Int×Int×Int×Int×Int×Int×Int×Int×List Int=>∃(j:Int) (ar:List Int),pa=((ar.length:Int),l,j,11,0,x1,x2,x3,x,ar)/\0<=j/\ar.length<=(sg.getD x.toNat ([],0)).2/\∀y∈ar,RG re y) (λpa=>(10-pa.1).toNat)
    ⟨j,[],rfl,K,by simp,λy U=>by cases U⟩ λpa ⟨j,ar,e,q1,q2,q3⟩=>?_
   subst e;refine bK (aQ.2 ⟨T,H⟩) ?_;simp only;refine dA (λL=>?_) (λL=>aG ⟨rfl,q1,w,.call w ⟨T,by simp only;omega⟩ ?_ q3 (by simp only;omega)⟩)
   .have L:(ar.length:Int)<(fs.getD x.toNat ah).params:=Zs L;rw[p1]at L;refine goN J q1 X.2 λy k hk ay bY=>bK (by unfold aX;simp;omega) (aG ⟨⟨k,ar++[y],?_,hk,by rw[XS,W4];omega,λz hz=>?_⟩,?_⟩)
    .simp only[XS,Wm,Ke];rw[aF (by omega)];rfl
    .rcases Ys.1 hz with hz|hz;exact q3 z hz;rw[X1]at hz;rw[hz];exact⟨ay,bY (by omega)⟩
    .simp only[aF (x:=(ar.length:Int)+1) (by omega)];omega
   .have L:¬ (ar.length:Int)<(fs.getD x.toNat ah).params:=ZD L;rw[p1]at L;simp only;omega
  have m11:¬ n=11:=by simpa using m11
  refine dA (λe=>goN J M (by omega) λx j K T H=>bG (DI g sg ca re l) ?_ λpa B=>aG B) (λm12=>aG ?_)
  .have e:n=12:=by simpa using e
   have H:=H (by omega);subst e;refine bF (λpa:Int×List Int×Int×Int×Int×Int×Int×Int×Int×List Int=>∃(q j:Int) (ar:List Int),pa=(q,l,j,12,0,x1,x2,x3,0,ar)/\0<=j/\0<=q/\(ar.length:Int)+q<=3/\∀y∈ar,RG re y) (λpa=>pa.1.toNat)
    ⟨x,j,[],rfl,K,T,by simp only[Ke];omega,λy U=>by cases U⟩ λpa ⟨q,j,ar,e,q1,q0,q2,q3⟩=>?_
   subst e;simp only;refine dA (λL=>?_) (λL=>aG ⟨rfl,q1,w,.I_ w N q3 (by simp only;omega)⟩);have L:0<q:=by simpa using L
   refine goN J q1 X.2 λy k hk ay bY=>bK (by unfold aX;simp;omega) (aG ⟨⟨q-1,k,ar++[y],?_,hk,by omega,by simp;omega,λz hz=>?_⟩,?_⟩)
   .rw [aF (by omega)]
   .rcases Ys.1 hz with hz|hz;exact q3 z hz;rw[X1]at hz;rw[hz];exact⟨ay,bY (by omega)⟩
   .simp only[aF (x:=q-1) (by omega)];omega
  have m12:¬ n=12:=by simpa using m12
  have:n=2\/n=5\/n=6\/n=9\/n=10:=by omega
  rcases this with e|e|e|e|e<;>subst e
  .exact ⟨rfl,M,w,.move w N m⟩
  .exact ⟨rfl,M,w,.load w Y m⟩
  .exact ⟨rfl,M,w,.store N Y m⟩
  .exact ⟨rfl,M,w,.read w m⟩
  .exact ⟨rfl,M,w,.print N m⟩
 obtain⟨t1,t2,pa⟩:=pa;simp only at e1 e2 e3 e4;subst e1;refine bG (λpa=>pa.2.1=t1/\0<=pa.2.2/\(pa.1=zj->0<ca)) ?_ λ⟨s1,s2,s3⟩ ⟨e5,e6,e7⟩=>?_
 .refine dA (λ_=>dA (λL=>goN J e2 (by omega) λx j K _ _=>aG ⟨rfl,K,λ_=>by simpa using L⟩) λ_=>aG ⟨rfl,e2,λh=>by cases h⟩) λ_=>aG ⟨rfl,e2,λh=>by cases h⟩
 simp only at e5 e6 e7;subst e5;refine dA (λB=>goN J e6 hca.2 λx j K T H=>aG ⟨rfl,K,.func e3 ⟨T,H (by have:=e7 B;omega)⟩ m⟩) λ_=>aG ⟨rfl,e6,e4⟩
theorem adp.of(h :∀S:Nat->Prop,S 0->(∀b,b<bl.length->S b->∀x∈pq bl b,S x.toNat)->∀b,b<bl.length->S b):adp bl:=λS w y b m=>h S w (λb m z x j=>by
 obtain⟨q,B⟩:=y b m z;unfold pq succs at j;split at j
 .rename_i H;rcases Xs.1 j with e|e
  .rw [e];exact q (by omega)
  .rw [X1]at e;rw[e];exact B H.1
 .split at j
  .rw [X1]at j;rw[j];exact q (by omega)
  .cases j) b m
theorem WU:∀{bl:List aN},(∀b∈bl,b.instrs.length<=3)->Dl bl<=4*bl.length
 | [],_=>by simp[Dl]
 |b::bl,h=>by have:=WU (bl:=bl) λx j=>h x (V1 _ j);have:=h b Kc;unfold Dl at *;simp only[Qf,JS,Wm];omega
theorem aoQ{re:Int}(j:Ad bl)(m:n<bl.length)(h:RG re (bl.getD n aB).lN):tvB re bl.length (bl.getD n aB):=⟨j.2 n m,λ_=>h,YF j m⟩
def HG(g:List aC)(sg:List (List UInt8×Nat))(ca:Int)(N i:Nat)(P:aS->Prop)(fs:List aS):Prop:=fs.length=N/\∀k,k<N->((fs.getD k ah).params=((sg.getD k ([],0)).2:Int)/\(sg.getD k ([],0)).2<=10)/\(0<=(fs.getD k ah).params/\(fs.getD k ah).params<=(fs.getD k ah).regs)/\(1<=(fs.getD k ah).regs/\(fs.getD k ah).regs<=4)/\(k<i->Rt g sg ca (fs.getD k ah))/\(k=i->P (fs.getD k ah))/\(i<k->(fs.getD k ah).blocks=[])
theorem HG.put{a:Nat}{P Q:aS->Prop}{fs:List aS}{s:List UInt8}{b re:Int}(h:HG g sg ca n a P fs)(hi:a<n)(j:b=(fs.getD a ah).params)(m:re=(fs.getD a ah).regs)(w:Q (aS.mk s b re bl)):HG g sg ca n a Q (fs.set a (aS.mk s b re bl)):=by
 refine⟨by simp[h.1],λk y=>?_⟩;rw[iM (by rw[h.1];exact hi)];obtain⟨q,a2,a3,a4,a5,z⟩:=h.2 k y;split
 .rename_i e;subst e;exact⟨by simp only[j];exact q,by simp only[j,m];exact a2,by simp only[m];exact a3,λe=>absurd e (KV _),λ_=>w,λe=>absurd e (KV _)⟩
 .rename_i e;exact⟨q,a2,a3,a4,λB=>absurd B e,z⟩
theorem HG.mono{a:Nat}{P Q:aS->Prop}(h:HG g sg ca n a P fs)(j :∀f,P f->Q f):HG g sg ca n a Q fs:=⟨h.1,λk m=>have ⟨q,a2,a3,a4,a5,w⟩:=h.2 k m;⟨q,a2,a3,a4,λe=>j _ (a5 e),w⟩⟩
theorem HG.next{a:Nat}(h:HG g sg ca n a (Rt g sg ca) fs):HG g sg ca n (a+1) (λf=>f.blocks=[]) fs:=⟨h.1,λk m=>have ⟨q,a2,a3,a4,a5,j⟩:=h.2 k m;⟨q,a2,a3,λe=>(by rcases ze k a with e'|e';exact a4 e';exact a5 (by omega)),λe=>j (by omega),λe=>j (by omega)⟩⟩
theorem set_self{fs:List aS}(hi:n<fs.length):fs.set n (aS.mk (fs.getD n ah).name (fs.getD n ah).params (fs.getD n ah).regs (fs.getD n ah).blocks)=fs:=by
 have:aS.mk (fs.getD n ah).name (fs.getD n ah).params (fs.getD n ah).regs (fs.getD n ah).blocks=fs[n]:=by rw[getD_at _ hi]
 rw[this,List.set_getElem_self]
def BI(g:List aC)(sg:List (List UInt8×Nat))(ca:Int)(f:aS):Prop :=∀b∈f.blocks,b.instrs.length<=3/\∀i∈b.instrs,IV g sg ca f.regs i
def Tf(g:List aC)(sg:List (List UInt8×Nat))(ca:Int)(m b:Nat)(f:aS):Prop:=f.blocks.length=m/\BI g sg ca f/\∀k,k<b->((f.blocks.getD k aB).cu=1\/(f.blocks.getD k aB).cu=2\/(f.blocks.getD k aB).cu=3)/\RG f.regs (f.blocks.getD k aB).lN/\(0<=(f.blocks.getD k aB).gu/\(f.blocks.getD k aB).gu<m)/\0<=(f.blocks.getD k aB).dM/\(f.blocks.getD k aB).dM<m
theorem Tf.ends{f:aS}(h:Tf g sg ca n n f):Ad f.blocks:=⟨λb j=>have:=(h.2.2 b (h.1▸j)).2.2;h.1▸⟨λ_=>this.1,λ_=>this.2⟩,λb j=>(h.2.2 b (h.1▸j)).1⟩
theorem ahr{b:Int}(m:Bytes l)(hi:0<=b):Ok (f26 l b) λy=>(∃sg,RtP y.2.2.2.2.1 sg y.1 y.2.2.2.2.2)/\y.2.1=0/\y.2.2.1=l/\0<=y.2.2.2.1:=by
 unfold f26;refine goN m hi (by omega) λx0 j0 h0 a0 b0=>goN m h0 (by omega) λx1 j1 h1 a1 b1=>?_;have b0:=b0 (by omega);have b1:=b1 (by omega);obtain⟨N,hN'⟩ :∃N:Nat,1+x1=N:=⟨(1+x1).toNat,by omega⟩;obtain⟨g,hg⟩ :∃g,[(aC.mk [(103:UInt8),(48:UInt8)] 0),(aC.mk [(103:UInt8),(49:UInt8)] (bP (1+x0)))]=g:=⟨_,rfl⟩;simp only[show bP (1+x1)=N from (aF (by omega)).trans hN',hg];have hg0:GI zv g 0:=by subst hg;exact⟨⟨by simp,by simp⟩,rfl⟩
 have hg1:GI zj g 1:=by subst hg;refine⟨⟨by simp,by simp⟩,W5 ?_⟩;show 0<bP (1+x0);rw[aF (by omega)];omega
 have hgl:g.length=2:=by subst hg;rfl
 have hgs :∀x∈g,0<=x.size/\x.size<=1024:=by
  subst hg;intro x hx;rcases Xs.1 hx with e|e
  .subst e;simp
  .rw [X1]at e;subst e;simp only;rw[aF (by omega)];omega
 clear hg;refine bG (λs=>s.1=l/\0<=s.2.1/\s.2.2.2.1=0/\s.2.2.2.2.length=N/\(∀f∈s.2.2.2.2,(0<=f.params/\f.params<=f.regs)/\f.params<=10/\(1<=f.regs/\f.regs<=4)/\f.blocks=[])/\(s.2.2.2.2.getD 0 ah).params=0) ?_ λs ⟨e1,e2,e0,U,X,Y⟩=>?_
 .refine bF (λs:Int×List Int×Int×Int×Int×List aS=>s.2.1=l/\0<=s.2.2.1/\s.2.2.2.2.1=0/\(s.2.2.2.2.2.length:Int)=s.1/\s.1<=N/\(∀f∈s.2.2.2.2.2,(0<=f.params/\f.params<=f.regs)/\f.params<=10/\(1<=f.regs/\f.regs<=4)/\f.blocks=[])/\(s.2.2.2.2.2.getD 0 ah).params=0) (λs=>(N-s.1).toNat)
   ⟨rfl,h1,rfl,rfl,by simp,(λf hf=>by cases hf),rfl⟩ λ⟨q,l',j,z1,z2,fs⟩ ⟨e1,e2,e0,U,X,Y,e6⟩=>?_
  simp only at e1 e2 e0 U X Y e6;subst e1;subst U;subst e0;refine dA (λK=>?_) (λK=>aG ⟨rfl,e2,rfl,?_,Y,e6⟩)
  .have K:(fs.length:Int)<N:=by simpa using K
   refine bG _ (ads (by omega) (by omega)) λnm hnm=>bK (pU.2 (by simp;omega)) (goN m e2 (by omega) λL j2 h2 a2 b2=>?_);have b2:=b2 (by omega);have hw:bP (1+L)=1+L:=aF (by omega);refine bG (λs=>s.1=l'/\0<=s.2.1/\((0<=s.2.2.2.1/\s.2.2.2.1<=s.2.2.2.2)/\s.2.2.2.1<=10/\(1<=s.2.2.2.2/\s.2.2.2.2<=4))/\(fs.length=0->s.2.2.2.1=0)) ?_ λ⟨Z,s2,s3,s4,s5⟩ ⟨g1,g2,⟨g3,g4,g5⟩,g6⟩=>bK (by unfold aX;simp;omega) (aG ⟨⟨g1,g2,rfl,?_,?_,λf hf=>?_,?_⟩,?_⟩)
   .refine dA (λhl=>?_) (λ_=>aG ⟨rfl,h2,⟨by simp only[hw];omega,by simp,by simp only[hw];omega⟩,λ_=>rfl⟩);have hl:(0:Int)<fs.length:=by simpa using hl
    have hm:bP (min (1+L) 2+1)=min (1+L) 2+1:=aF (by omega);rw[ajh,hw,hm];exact goN m h2 (by omega) λx3 j3 h3 a3 b3=>aG ⟨rfl,h3,⟨by have:=b3 (by omega);simp only;omega,by have:=b3 (by omega);simp only;omega,by simp only;omega⟩,λh=>by omega⟩
   all_goals try simp only[aF (x:=(fs.length:Int)+1) (by omega)]
   .simp
   .omega
   .rcases Ys.1 hf with hf|hf;exact Y f hf;rw[X1]at hf;subst hf;exact⟨g3,g4,g5,rfl⟩
   .rcases qd fs.length with h|h
    .rw [WF]at h;subst h;exact g6 rfl
    .rw [getD_at _ h]at e6;rw[getD_at _ (by simp),List.getElem_append_left h];exact e6
   .omega
  .have K:¬ (fs.length:Int)<N:=by simpa using K
   simp only at X ⊢;omega
 obtain⟨Z,s2,s3,s4,B⟩:=s;simp only at e1 e2 e0 U X Y;subst e1;subst e0;obtain⟨sg,hsg⟩ :∃sg:List (List UInt8×Nat),B.map (λf=>(f.name,f.params.toNat))=sg:=⟨_,rfl⟩;have hsl:sg.length=N:=by subst hsg;simpa using U
 have hsp :∀k,k<N->(B.getD k ah).params=((sg.getD k ([],0)).2:Int)/\(sg.getD k ([],0)).2<=10:=by
  intro k H;have h:=X (B.getD k ah) (by rw[getD_at _ (by omega)];exact X2 _);have:(sg.getD k ([],0)).2=(B.getD k ah).params.toNat:=by subst hsg;rw[getD_at _ (by simpa using U▸H),Kn,getD_at _ (by omega)]
  omega
 clear hsg;rw[show bP ((N:Int)+1)=N+1 from aF (by omega)];refine goN m e2 (by omega) λca jc hjc ac bc=>?_;have bc:=bc (by omega);have p00:((sg.getD 0 ([],0)).2:Int)=0:=by rw[<-(hsp 0 (by omega)).1];exact Y
 have e6:HG g sg ca N 0 (λf=>f.blocks=[]) B:=⟨U,λk H=>by obtain⟨z1,z2,z3,z4⟩:=X (B.getD k ah) (by rw[getD_at _ (by omega)];exact X2 _);exact⟨hsp k H,z1,z3,λh=>absurd h (Kf _),λ_=>z4,λ_=>z4⟩⟩
 refine bG (λs=>s.1=Z/\0<=s.2.1/\RtP g sg ca s.2.2) ?_ λs ⟨k1,k2,k3⟩=>aG ⟨⟨sg,k3⟩,rfl,k1,k2⟩;clear X Y hsp;refine bF (λs:Int×List Int×Int×List aS=>∃b:Nat,s.1=b/\b<=N/\s.2.1=Z/\0<=s.2.2.1/\HG g sg ca N b (λf=>f.blocks=[]) s.2.2.2) (λs=>(N-s.1).toNat)
  ⟨0,rfl,by omega,rfl,hjc,e6⟩ λ⟨q,l',j,fs⟩ ⟨b,g1,g2,g3,g4,g5⟩=>?_
 simp only at g1 g3 g4 g5;subst g1;subst g3;refine dA (λK=>?_) (λK=>aG ⟨rfl,g4,?_⟩)
 rotate_left
 .have K:¬ (b:Int)<N:=by simpa using K
  have hl:=g5.1;refine⟨by omega,hgs,by simp only;omega,by simp only;omega,by simp only;omega,⟨ac,by simp only;omega⟩,λk H=>(g5.2 k (by simp only at H;omega)).1.1,?_,λf hf=>?_⟩
  .rw [(g5.2 0 (by omega)).1.1];exact p00
  .obtain ⟨k,H,e⟩:=Wz hf;have hk2:k<N:=by simp only at H;omega
   have:=(g5.2 k hk2).2.2.2.1 (by omega);rw[getD_at _ H,e]at this;exact this
 have hi:b<N:=by simp at K;omega
 refine bK (aQ.2 ⟨by simp only;omega,by have:=g5.1;simp only;omega⟩) (goN m g4 (by omega) λL j2 h2 a2 b2=>?_);have b2:=b2 (by omega);obtain⟨M,hM⟩ :∃M:Nat,1+L=M:=⟨(1+L).toNat,by omega⟩;simp only[Q4,show bP (1+L)=M from (aF (by omega)).trans hM];refine bG (λs=>s.1=l'/\0<=s.2.1/\HG g sg ca N b (λf=>f.blocks.length=M/\BI g sg ca f) s.2.2) ?_ λ⟨Z,s2,s3⟩ ⟨k1,k2,k3⟩=>?_
 .refine bF (λs:Int×List Int×Int×List aS=>s.2.1=l'/\0<=s.2.2.1/\(0<=s.1/\s.1<=M)/\HG g sg ca N b (λf=>(f.blocks.length:Int)=M-s.1/\BI g sg ca f) s.2.2.2) (λs=>s.1.toNat)
   ⟨rfl,h2,⟨by simp,by simp⟩,g5.mono λf hf=>⟨by rw[hf];simp,λi m=>by rw[hf]at m;cases m⟩⟩ λ⟨c,l2,j,fs⟩ ⟨r1,r2,r3,z⟩=>?_
  simp only at r1 r2 r3 z;subst r1;have hfl:b<fs.length:=by rw[z.1];exact hi
  obtain⟨y1,y2,y3,y4,w,y6⟩:=z.2 b hi;have w:=w rfl;refine dA (λJ=>?_) (λJ=>aG ⟨rfl,r2,?_⟩)
  rotate_left
  .have J:¬ 0<c:=by simpa using J
   exact z.mono λf hf=>⟨by have:=hf.1;omega,hf.2⟩
  have J:0<c:=by simpa using J
  refine goN m r2 (by omega) λx3 j3 h3 a3 b3=>goN m h3 (by omega) λx4 j4 h4 a4 b4=>?_;have b4:=b4 (by omega);refine bG (λs=>s.1=l2/\0<=s.2.1/\s.2.2.1=fs/\s.2.2.2.2.2.2.2.2.2.2.length<=3/\∀T∈s.2.2.2.2.2.2.2.2.2.2,IV g sg ca (fs.getD b ah).regs T) ?_ λs ⟨k1,k2,k3,k4,k5⟩=>?_
  .refine bF (λs:Int×List Int×Int×List aS×Int×Int×Int×Int×Int×Int×Int×List dP=>s.2.1=l2/\0<=s.2.2.1/\s.2.2.2.1=fs/\(0<=s.1/\s.1<=3)/\(s.2.2.2.2.2.2.2.2.2.2.2.length:Int)<=3-s.1/\∀T∈s.2.2.2.2.2.2.2.2.2.2.2,IV g sg ca (fs.getD b ah).regs T) (λs=>s.1.toNat)
    ⟨rfl,h4,rfl,⟨a4,by simp only;omega⟩,by simp only[Ke];omega,λT h=>by cases h⟩ λ⟨c',l3,j3,fs',v1,v2,v3,v4,v5,v6,v7,is⟩ ⟨u1,u2,u3,u4,u5,u6⟩=>?_
   simp only at u1 u2 u3 u4 u5 u6;subst u1;subst u3;refine dA (λhp'=>?_) (λ_=>aG ⟨rfl,u2,rfl,by simp only;omega,u6⟩);have hp':0<c':=by simpa using hp'
   simp only[set_self hfl];refine bG _ (instr_ok m u2 ⟨y3.1,by omega⟩ ⟨ac,by omega⟩ hg0 hg1 ⟨by omega,by have:=z.1;omega⟩ (by rw[hsl,z.1]) λk H=>(z.2 k (by rw[<-z.1];exact H)).1) λy ⟨y1,y2,y3⟩=>bK (by unfold aX;simp;omega) (aG ⟨⟨y1,y2,rfl,?_,?_,λT hi'=>?_⟩,?_⟩)
   all_goals try simp only[aF (x:=c'-1) (by omega)]
   .omega
   .simp;omega
   .rcases Ys.1 hi' with h|h;exact u6 T h;rw[X1]at h;rw[h];exact y3
   .omega
  obtain⟨Z,s2,s3,s4,s5,s6,s7,s8,s9,s10,s11⟩:=s;simp only at k1 k2 k3 k4 k5;subst k1;subst k3;refine bK (by simp[-List.getD_eq_getElem?_getD];omega) (bK (by simp) (aG ⟨⟨rfl,k2,?_,z.put hi rfl rfl ⟨?_,λi m=>?_⟩⟩,?_⟩))
  all_goals try simp only[aF (x:=c-1) (by omega)]
  .omega
  .simp [-List.getD_eq_getElem?_getD];omega
  .rcases Ys.1 m with h|h;exact w.2 i h;rw[X1]at h;rw[h];exact⟨k4,k5⟩
  .omega
 simp only at k1 k2 k3;subst k1;refine bG (λs=>s.1=Z/\0<=s.2.1/\HG g sg ca N b (Tf g sg ca M M) s.2.2) ?_ λ⟨t1,t2,t3⟩ ⟨k4,k5,k6⟩=>?_
 .refine bF (λs:Int×List Int×Int×List aS=>∃i:Nat,s.1=i/\i<=M/\s.2.1=Z/\0<=s.2.2.1/\HG g sg ca N b (Tf g sg ca M i) s.2.2.2) (λs=>(M-s.1).toNat)
   ⟨0,rfl,by omega,rfl,k2,k3.mono λf hf=>⟨hf.1,hf.2,λ_ h=>absurd h (Kf _)⟩⟩ λ⟨c,l2,j,fs⟩ ⟨i,r0,r1,r2,r3,z⟩=>?_
  simp only at r0 r2 r3 z;subst r0;subst r2;have hfl:b<fs.length:=by rw[z.1];exact hi
  obtain⟨y1,y2,y3,y4,w,y6⟩:=z.2 b hi;have w:=w rfl;simp only[Kh,w.1];refine dA (λJ=>?_) (λJ=>aG ⟨rfl,r3,?_⟩)
  rotate_left
  .have J:¬ (i:Int)<M:=by simpa using J
   have:i=M:=by omega
   subst this;exact z
  have J:i<M:=by simp at J;omega
  refine goN m r3 (by omega) λx3 j3 h3 a3 b3=>bK (aQ.2 ⟨a3,by have:=b3 (by omega);simp;omega⟩) (goN m h3 (by omega) λx4 j4 h4 a4 b4=>goN m h4 (by omega) λx5 j5 h5 a5 b5=>goN m h5 (by omega) λx6 j6 h6 a6 b6=>bK (aQ.2 ⟨by omega,by omega⟩) (aG ⟨⟨i+1,?_,by omega,rfl,h6,?_⟩,?_⟩))
  .simp only[aF (x:=(i:Int)+1) (by omega)];simp
  .refine z.put hi rfl rfl ⟨by simp only;rw[UI];exact w.1,λb' hb'=>?_,λk H=>?_⟩
   .simp only[Q4]at hb' ⊢;rcases qu hb' with h|h;exact w.2.1 b' h;rw[h];exact w.2.1 ((fs.getD b ah).blocks.getD i aB) (by rw[getD_at (l:=(fs.getD b ah).blocks) aB (by rw[w.1];exact J)];exact X2 _)
   .simp only[Q4];rw[iM (by rw[w.1];exact J)];split
    .refine ⟨?_,⟨a4,b4 (by omega)⟩,⟨a5,b5 (by omega)⟩,a6,b6 (by omega)⟩;have:=b3 (by omega);have:x3=0\/x3=1\/x3=2\/x3=3:=by omega
     rcases this with e|e|e|e<;>subst e<;>simp
    .exact w.2.2 k (by omega)
  .simp only[aF (x:=(i:Int)+1) (by omega)];omega
 simp only at k4 k5 k6;subst k4;obtain⟨y1,y2,y3,y4,w,y6⟩:=k6.2 b hi;have w:=w rfl;refine bG _ (YG (bs:=(t3.getD b ah).blocks) w.ends (by have:=w.1;omega) (by have:=w.1;omega)) λ⟨c1,c2,c3,c4⟩ ⟨p1,p2,p3,p4,p5,p6,p7,p8⟩=>bK (by simp) (aG ⟨⟨b+1,?_,by omega,rfl,k5,HG.next (k6.put hi p2 p3 ?_)⟩,?_⟩)
 .show bP ((b:Int)+1)=_;rw[aF (by omega)];rfl
 .simp only at p2 p3 p4 p5 p6 p7 p8;have hM5:=w.1;have hin :∀i∈c4,i.instrs.length<=3/\∀T∈i.instrs,IV g sg ca c3 T:=λi m=>by obtain⟨t,ht,e,_⟩:=p8 i m;rw[e,p3];exact w.2.1 t ht
  have hw:=WU λi m=>(hin i m).1;refine⟨⟨by simp only;omega,p4,p6,p7⟩,by simp only;omega,by simp only;omega,by simp only;omega,by simp only;omega,λi m=>(hin i m).2,λi m=>aoQ p6 m ?_⟩;obtain⟨t,ht,_,_,e⟩:=p8 (c4.getD i aB) (by rw[getD_at _ m];exact X2 _);simp only;rw[e,p3];obtain⟨k,H,e⟩:=Wz ht;have:=(w.2.2 k (by omega)).2.1;rw[getD_at _ H,e]at this;exact this
 .show ((N:Int)-bP ((b:Int)+1)).toNat<((N:Int)-b).toNat;rw[aF (by omega)];omega
theorem Inv.rt{g:List aC}{sg:List (List UInt8×Nat)}{cl re:Int}{s:List UInt8}(h:Inv g sg cl re 2048 256 bl O P)(w :∀x,¬ O x)(y:0<bl.length)(z:re<=250)(q:0<=v/\v<=re):Rt g sg cl (aS.mk s v re bl):=by
 have B:=h.len;have m :∀b,b<bl.length->tvB re bl.length (bl.getD b aB):=λb j=>h.trm b j (w b);have H:Ad bl:=by refine⟨λb j=>?_,λb j=>(m b j).kind⟩;have L:=(m b j).kind;exact⟨λhn=>(m b j).suc _ (E_.1 (by omega)),λhn=>(m b j).suc _ (E_.2 hn)⟩
 exact⟨⟨by simp only;omega,y,H,adp.of λS J K=>h.con S J (λb j _=>K b j) λa b q=>absurd (h.src a b q).1 (w a)⟩,B,h.wt,⟨by simp only;omega,z⟩,q,h.ins,m⟩
theorem ahs{g:List aC}{fs:List aH}(h:aoN g fs):Ok (f45 g fs) λy=>(∃sg,RtP y.2.2.2.1 sg y.1 y.2.2.2.2)/\y.2.1=0:=by
 obtain⟨hg,hf,hbd⟩:=h;obtain⟨⟨hf0,hf4⟩,hp0,hfn⟩:=id hf;have hg4:=hg.1;have hsl:(jw fs).length=fs.length:=by unfold jw;simp
 have N :∀k,k<fs.length->((jw fs).getD k ([],0)).2=(fs.getD k bQ).params.length:=λk m=>by unfold jw;rw[getD_at _ (by simpa using m),Kn,getD_at _ m]
 unfold f45;refine bK (by unfold aX;simp;omega) ?_;have e0:fA++g=g:=by simp
 simp only[e0];refine bG (λs=>s.1=fs.length/\s.2.1=0/\RtP g (jw fs) fs.length s.2.2) ?_ λNr ⟨h1,T,H⟩=>?_
 rotate_left
 .obtain ⟨s1,s2,s3⟩:=Nr;simp only at h1 T H;subst h1;subst T;exact bG _ (ahq H) λy e=>by subst e;exact bW rfl (aG ⟨⟨_,H⟩,rfl⟩)
 refine bF (λs:Int×Int×Int×List aS=>∃(i:Nat) (M:List aS),s=((i:Int),(fs.length:Int),0,M)/\i<=fs.length/\M.length=i/\∀k,k<i->(M.getD k ah).params=(((jw fs).getD k ([],0)).2:Int)/\Rt g (jw fs) fs.length (M.getD k ah)) (λs=>(fs.length-s.1).toNat) ⟨0,[],rfl,by omega,rfl,λk m=>by omega⟩ λs ⟨i,M,e,h1,T,H⟩=>?_;subst e;refine dA (λw=>?_) (λw=>?_)
 rotate_left
 .have w:¬ (i:Int)<fs.length:=by simpa using w
  have:i=fs.length:=by omega
  subst this;refine aG ⟨rfl,rfl,by omega,λx z=>?_,by simp only;omega,by simp only;omega,by simp only;omega,⟨by omega,by simp only;omega⟩,λk m=>(H k (by simp only at m;omega)).1,?_,λf hf=>?_⟩
  .obtain ⟨k,m,e⟩:=Wz z;have:=(hg.2 k m).2;rw[getD_at _ m,e]at this;omega
  .simp only;rw[(H 0 (by omega)).1,N 0 hf0,hp0];rfl
  .obtain ⟨k,m,e⟩:=Wz hf;have:=(H k (by simp only at m;omega)).2;rw[getD_at _ m,e]at this;exact this
 have w:i<fs.length:=by simpa using w
 obtain⟨hb,L,c,q,B,hc7,asQ,hLN,axV⟩:=hbd i w;obtain⟨_,hpn⟩:=hfn i w;have U:=N i w;obtain⟨f,X⟩ :∃f,fs.getD i bQ=f:=⟨_,rfl⟩;rw[X]at hb B U;simp only[Q4,X];have hlen:=(B.len (YN 3)).1;have hS:Lw g fs L:=⟨hg,hf,hLN,axV⟩;refine bK (aQ.2 ⟨by omega,by omega⟩) (bG (λy=>y=(g,fs,L,(i:Int),(0:Int),(0:Int),([]:List aN))) ?_ λs7 e=>?_)
 .refine d_ (y:=L) ?_ (aG rfl);apply ok_eq;unfold f74;refine bK (by simp;omega) ?_;have he:kL++f.params=f.params:=by simp
  rw[he];exact d_ (JX (λ_ _ _ _ _ h=>h) (λ_ _ _ _ _ _=>akM) 3 1048576 (by omega) _ hb _ _ _ _ B (by omega) λn lo s l1 c k h=>(YN n lo s l1 c k h).1) (aG rfl)
 subst e;refine bG (λy=>∃b:aN,y=((0:Int),g,fs,L,(i:Int),(L.length:Int),((0:Nat):Int),[b])/\b.instrs=[]) (by unfold f75;exact bK (by unfold aX;simp) (aG ⟨_,rfl,rfl⟩)) λc9 ⟨b,e,Y⟩=>?_;subst e;have hP:Pre g fs L L.length 1 1 [b] 0 (λ_=>False) (λ_ _=>False):=by
  refine⟨⟨by unfold Dl;simp[Y],by simp,λb' j=>?_,λb' j ho=>?_,λb' j=>?_,λ_ _ h=>h.elim,λS hS _ _ b' j=>?_⟩,λh=>h,λ_ h=>h,Vn _⟩
  .rw [X1]at j;subst j;rw[Y];intro i w;cases w
  .simp only[W4]at j;exact absurd (Or.inl (by omega)) ho
  .rcases j with h|h
   .subst h;simp
   .exact h.elim
  .simp only[W4]at j;have:b'=0:=by omega
   subst this;exact hS
 refine bG _ (abn (nu:=(i:Int)) hS 3 1048576 (by omega) f.body hb _ _ _ _ B _ _ _ _ _ _ _ hP (by omega)) λc10 ⟨on,re,a,bl,e,r1,r2,r3,r4,hI⟩=>?_;subst e;simp only at r1 r2 r3 ⊢;refine bG (λy=>∃re' a' jQ,y=(g,fs,L,(i:Int),re',a',jQ)/\Rt g (jw fs) fs.length (aS.mk f.name (f.params.length:Int) re' jQ)) ?_ λs16 ⟨re',a',jQ,e,hR⟩=>?_
 .have hl1:=hI.len;refine dA (λJ=>?_) (λJ=>?_)
  .subst J;have hm:FZ re (bP ((L.length:Int)+1))=max re (L.length+1):=by rw[JG,aF (by omega)]
   obtain⟨K,Z⟩ :∃K,FZ re (bP ((L.length:Int)+1))=K:=⟨_,rfl⟩;rw[Z]at hm;simp only[Z];have hI5:=hI.up (re':=K) (by omega) (YY _) (YY _);have asV:RG K L.length:=⟨by omega,by omega⟩;refine WJ (a:=a) (bl:=bl) (re:=K) hI5 (.inl ⟨rfl,rfl⟩) (by omega) (.const asV (by simp)) λb2 l2 i2=>sO (bl:=b2) (re:=K) (b0:=a) i2 (.inl ⟨rfl,rfl⟩) ⟨.inr (.inr rfl),λ_=>asV,λx z=>?_⟩ (λy hp=>hp.elim) λb3 l3 i3=>aG ⟨K,a,b3,rfl,(i3.up (Vn _) (by omega) (by omega)).rt (λx z=>?_) ?_ (by omega) ⟨by omega,by omega⟩⟩
   .unfold succs at z;rw[Qt (by omega),Qt (by omega)]at z;cases z
   .rcases z.1 with h|h
    .exact z.2 h.2
    .exact h
   .simp only[W4]at r3;omega
  .subst J;exact aG ⟨re,a,bl,rfl,(hI.up (Vn _) (by omega) (by omega)).rt (λx z=>by rcases z with h|h;exact absurd h.1 (by simp);exact h) (by simp only[W4]at r3;omega) (by omega) ⟨by omega,by omega⟩⟩
 subst e;refine bK (by unfold aX;simp;omega) (aG ⟨⟨i+1,M++[aS.mk f.name (f.params.length:Int) re' jQ],?_,by omega,by rw[XS,W4,T],λk m=>?_⟩,?_⟩)
 .rw [aF (by omega)];rfl
 .rw [ng];split
  .exact H k (by omega)
  .have:k=i:=by omega
   subst this;rw[QQ T.symm];exact⟨by rw[U],hR⟩
 .simp only[aF (x:=(i:Int)+1) (by omega)];omega
theorem akQ{b:Int}(m:Bytes l)(hi:0<=b):Ok (f8 l b) λy=>(∃sg,RtP y.2.2.2.2.2 sg y.2.1 y.1)/\y.2.2.1=0/\y.2.2.2.1=l/\0<=y.2.2.2.2.1:=by unfold f8;refine goN m hi (by omega) λc j q _ _=>dA (λ_=>bG (λy=>(∃sg,RtP y.2.2.2.2.1 sg y.1 y.2.2.2.2.2)/\y.2.1=0/\y.2.2.1=l/\0<=y.2.2.2.1) ?_ λy h=>aG h) λ_=>bG _ (ahr m q) λy h=>aG h;unfold f25;refine bG (λy=>aoN y.2.2.1 y.2.2.2/\y.1=l/\0<=y.2.1) ?_ λy ⟨w,B,H⟩=>bG _ (ahs w) λz ⟨J,z2⟩=>aG ⟨J,z2,B,H⟩;unfold f46;exact bG _ (adA m q) λy h=>bG _ (YO h.2.2) λz K=>aG ⟨K,h.1,h.2.1⟩
def Ascii(s:List UInt8):Prop :=∀x∈s,x.toNat<128
theorem Ti(s:List UInt8)(i:Nat):RH s (i:Int)=decide (i<s.length):=by unfold RH;rw[Q4]
theorem decode_at{s:List UInt8}(h:Ascii s)(hi:n<s.length):Utf8.decode ⟨s.toArray⟩ n=(s[n].toNat,1):=Go.decode_ascii ⟨s.toArray⟩ n (by simpa[ByteArray.size]using hi) (h _ (X2 _))
theorem Hg{s:List UInt8}(h:Ascii s)(hi:n<s.length):kD s (n:Int)=(s[n].toNat:Int):=by unfold kD;rw[Q4,decode_at h hi]
theorem yu{s:List UInt8}(h:Ascii s)(hi:n<s.length):rP s (n:Int)=(n:Int)+1:=by unfold rP;rw[Q4,decode_at h hi];simp
theorem Jb(x lo hi:Int):f65 x lo hi=zw (decide (lo<=x)&&decide (x<=hi)):=by unfold f65;cases decide (lo<=x)<;>rfl
def nP(op v:Int)(wd:Bool):Bool:=
 if 5<=op/\op<=8 then decide (0<=v)&&decide (v<=31)else if op=11 then decide (0<=v)&&decide (v<=1048576)else if op=17 then decide (0<=v)&&decide (v<=4095)
 else if op=18 then decide (0<=v)&&decide (v<=63)else if 13<=op/\op<=15 then(if wd then decide (-2147483648<=v)&&decide (v<=2147483647)else decide (-128<=v)&&decide (v<=127))else zj
theorem ops{op:Int}(h:1<=op/\op<=18):op=1\/op=2\/op=3\/op=4\/op=5\/op=6\/op=7\/op=8\/op=9\/op=10\/op=11\/op=12\/op=13\/op=14\/op=15\/op=16\/op=17\/op=18:=by omega
theorem asW{op:Int}{wd:Bool}{args:List Int}(h:1<=op/\op<=18):f91 op i v d t p wd args=zw (nP op p wd):=by unfold f91 nP;rcases ops h with rfl|rfl|rfl|rfl|rfl|rfl|rfl|rfl|rfl|rfl|rfl|rfl|rfl|rfl|rfl|rfl|rfl|rfl<;>(cases wd<;>simp[Jb,dF])
theorem asX{b:Bool}:(bif u then zw b else zw zv)=zw (u&&b):=by cases u<;>rfl
theorem asY{op:Int}{wd:Bool}{args:List Int}(h:1<=op/\op<=18):f71 op i v d t p wd args=zw (nP op p wd):=by unfold f71 nP;rcases ops h with rfl|rfl|rfl|rfl|rfl|rfl|rfl|rfl|rfl|rfl|rfl|rfl|rfl|rfl|rfl|rfl|rfl|rfl<;>(cases wd<;>simp[asX,dF])
structure VC(op ar d a b v:Int)(wd:Bool)(args:List Int):Prop where
 o:1<=op/\op<=18
 w:wd=zj->13<=op/\op<=15
 a3:op=3->1<=ar/\ar<=2
 a4:op=4->3<=ar/\ar<=11
 d:0<=d/\d<=249
 a:0<=a/\a<=249
 b:0<=b/\b<=249
 s :∀x∈args,0<=x/\x<=249
 n:args.length<=250
 v:nP op v wd=zj
def IsLetter(x:UInt8):Prop:=x.toNat=111\/x.toNat=100\/x.toNat=97\/x.toNat=98\/x.toNat=106\/x.toNat=110\/x.toNat=49\/x.toNat=50\/x.toNat=52\/x.toNat=56
instance (x:UInt8):Decidable (IsLetter x):=by unfold IsLetter;infer_instance
def rowOf(op:Int):List UInt8:=Np.getD op.toNat bM
theorem Dp(op:Int):(rowOf op).length<=4/\∀x∈rowOf op,IsLetter x:=by
 have j :∀r∈Np,r.length<=4/\∀x∈r,IsLetter x:=by decide
 unfold rowOf;by_cases h:op.toNat<Np.length
 .rw [getD_at _ h];exact j _ (X2 _)
 .rw [Q1,Vv (by omega)];exact⟨by simp,λx m=>by cases m⟩
theorem Hl(op:Int):Ascii (rowOf op):=λx h=>by have:=(Dp op).2 x h;unfold IsLetter at this;omega
def szm(wd:Bool)(n:Nat)(x:UInt8):Nat:=if x.toNat=106 then(if wd then 4 else 1)else if x.toNat=110 then 1+n else if x.toNat=49 then 1 else if x.toNat=50 then 2 else if x.toNat=52 then 4 else if x.toNat=56 then 8 else 1
def szc(op:Int)(wd:Bool)(n:Nat):Nat:=1+((rowOf op).map (szm wd n)).sum
section
variable {op ar d a b v:Int} {wd:Bool} {args:List Int}
theorem aoR(h:VC op ar d a b v wd args):Ok (f88 op ar d a b v wd args) λy=>(∀x∈y,0<=x/\x<=249)/\y.length<=1004:=by
 have K:=h.o;have hn:=h.n;obtain⟨L,M⟩:=Dp op;have w:=Hl op;unfold f88;refine bK nZ (bG (λy=>(∀x∈y,0<=x/\x<=249)/\y.length<=1004) ?_ λy j=>aG j);show Ok (bn _ (eInt,rowOf op,(0:Int))) _;refine bF (λs:List Int×List UInt8×Int=>∃i:Nat,s.2=(rowOf op,(i:Int))/\i<=(rowOf op).length/\(∀x∈s.1,0<=x/\x<=249)/\s.1.length<=i*251) (λs=>(rowOf op).length-s.2.2.toNat) ⟨0,rfl,by omega,λx hx=>(by cases hx),by simp⟩ λ⟨l,s⟩ ⟨i,e,N,m,B⟩=>?_;simp only at e m B;subst e;rw[Ti];refine dA (λq=>?_) λ_=>aG ⟨m,by simp only;omega⟩;have q:i<(rowOf op).length:=by simpa using q
 rw[Hg w q,yu w q];refine bG (λy=>(∀x∈y,0<=x/\x<=249)/\y.length<=l.length+251) ?_ λy ⟨H,T⟩=>aG ⟨⟨i+1,by simp,q,H,by simp only;omega⟩,by simp only;omega⟩;have one :∀z:Int,0<=z/\z<=249->((∀x∈l++[z],0<=x/\x<=249)/\(l++[z]).length<=l.length+251):=λz J=>⟨λx hx=>by rcases Ys.1 hx with hx|hx;exact m x hx;rw[X1]at hx;rw[hx];exact J,by simp⟩
 refine dA (λ_=>bK (by unfold aX;simp;omega) (aG (one _ h.d))) λ_=>bG _ ?_ λy j=>aG j;refine dA (λ_=>bK (by unfold aX;simp;omega) (aG (one _ h.a))) λ_=>bG _ ?_ λy j=>aG j;refine dA (λ_=>bK (by unfold aX;simp;omega) (aG (one _ h.b))) λ_=>bG _ ?_ λy j=>aG j;refine dA (λ_=>bK (by unfold aX;simp;omega) (aG ⟨λx hx=>?_,by show (l++args).length<=l.length+251;rw[XS];omega⟩)) λ_=>aG ⟨m,Nat.le_add_right _ _⟩;rcases Ys.1 hx with hx|hx
 .exact m x hx
 .exact h.s x hx
theorem aoS(h :∀x∈l,0<=x/\x<=249)(m:l.length<=100000):f89 l=zw zv:=by apply ok_eq;unfold f89;refine bG (λy=>y=-1) ?_ λy e=>aG m_;unfold f116;refine iH (λ_=>True) (iK l.length (λ_=>True) (by omega) (λi j _=>goT GX (bK nZ (d_ (y:=zv) ?_ (bW rfl (aG ⟨rfl,trivial⟩))))) λ_=>bW m_ (aG trivial)) λ_ _=>aG rfl;have:=h _ (X2 j);simp only[Q4,getD_at _ j];apply ok_eq;unfold f90;exact d_ (Jb _ _ _) (aG (by simp;omega))
theorem amk(h:VC op ar d a b v wd args):f58 op ar d a b v wd args=zw 0:=by
 apply ok_eq;have j:=h.o;have hn:=h.n;unfold f58;refine d_ (y:=zj) ?_ (bW rfl (bG _ (aoR h) λl ⟨m,H⟩=>bG (λy=>y=zv) (d_ (aoS m (by omega)) (bW rfl (bW m_ (aG rfl)))) λy e=>by subst e;exact bW rfl (d_ (asW j) (bW (by rw[h.v];rfl) (aG rfl)))));apply ok_eq;unfold f87;refine d_ (Jb _ _ _) (bG (λy=>y=zv) (bW (by simp;omega) (bG (λy=>y=zv) (dA (λq=>d_ (y:=zj) ?_ (aG rfl)) λ_=>aG rfl) λy e=>aG e)) λy e=>?_)
 .have:=h.w q;apply ok_eq;unfold f66;exact d_ (Jb _ _ _) (aG (by simp;omega))
 subst e;refine bW rfl (dA (λz=>d_ (Jb _ _ _) (aG ?_)) λ_=>dA (λB=>d_ (Jb _ _ _) (aG ?_)) λ_=>aG rfl)
 .have:=h.a3 (by simpa using z);simp;omega
 .have:=h.a4 (by simpa using B);simp;omega
def szr(wd:Bool)(n:Nat)(x:UInt8):Nat:=if x.toNat=110 then 1+n else if x.toNat=119 then 2 else if x.toNat=99 then 4 else if x.toNat=107 then 8 else if x.toNat=106/\wd=zj then 4 else 1
theorem asZ(h:1<=op/\op<=18):∃r,f37 op=zw r/\(r==bM)=zv/\r.length<=4/\∀wd n,1+(r.map (szr wd n)).sum=szc op wd n:=by rcases ops h with rfl|rfl|rfl|rfl|rfl|rfl|rfl|rfl|rfl|rfl|rfl|rfl|rfl|rfl|rfl|rfl|rfl|rfl<;>exact⟨_,rfl,rfl,by decide,λwd n=>by cases wd<;>simp[szc,szr,szm,rowOf,Np]⟩
theorem abp{x:Int}(h:0<=x/\x<=249):f92 x=zw zj:=by apply ok_eq;unfold f92;exact bG (λy=>y=zj) (goT (W5 h.1) (aG GX)) λy e=>aG e
theorem aml(h:VC op ar d a b v wd args):f40 op ar d a b v wd args=zw 0:=by
 apply ok_eq;have m:=h.o;have hn:=h.n;obtain⟨r,q,B,N,_⟩:=asZ m;unfold f40;refine bG (λy=>y=zv) (d_ q (bW B (d_ (y:=zj) ?_ (bW rfl (dA (λH=>d_ (y:=zj) ?_ (aG rfl)) λ_=>aG rfl))))) λy e=>?_
 .apply ok_eq;unfold f69;refine dA (λJ=>bG (λy=>y=zj) ?_ λy e=>aG e) λ_=>dA (λK=>bG (λy=>y=zj) ?_ λy e=>aG e) λ_=>aG rfl
  .have:=h.a3 (by simpa using J);exact dA (λ_=>aG rfl) λhn=>aG (W5 (by have:=ZD hn;omega))
  .have:=h.a4 (by simpa using K);exact goT GX (aG GX)
 .have:=h.w H;apply ok_eq;unfold f38;exact bG (λy=>y=zj) (dA (λ_=>aG rfl) λL=>dA (λ_=>aG rfl) λM=>aG (W5 (by have:=ZD L;have:=ZD M;omega))) λy e=>aG e
 subst e;refine bW rfl (d_ (y:=zj) ?_ (bW rfl (d_ (asY m) (bW (by rw[h.v];rfl) (aG rfl)))));apply ok_eq;unfold f70;refine d_ q (iH (λ_=>True) (iK r.length (λ_=>True) (by omega) (λi T _=>goT GX (bK nZ (iH (λ_=>True) ?_ λ_ _=>aG ⟨rfl,trivial⟩))) λ_=>bW m_ (aG trivial)) λ_ _=>aG rfl);refine dA (λ_=>d_ (abp h.d) (bW rfl (aG trivial))) λ_=>iH (λ_=>True) ?_ λ_ _=>aG trivial;refine dA (λ_=>d_ (abp h.a) (bW rfl (aG trivial))) λ_=>iH (λ_=>True) ?_ λ_ _=>aG trivial;refine dA (λ_=>d_ (abp h.b) (bW rfl (aG trivial))) λ_=>iH (λ_=>True) ?_ λ_ _=>aG trivial;refine dA (λ_=>iH (λ_=>True) (iK args.length (λ_=>True) (by omega) (λj z _=>goT GX (bK nZ (d_ (abp ?_) (bW rfl (aG ⟨rfl,trivial⟩))))) λ_=>bW m_ (aG trivial)) λ_ _=>bW m_ (aG trivial)) λ_=>aG trivial;rw[Q4,getD_at _ z];exact h.s _ (X2 z)
end
def nR(v:Int):Nat:=(Go.IntKind.wrap .u64 v).toNat
theorem wrap_u64(v:Int):Go.IntKind.wrap .u64 v=v % 18446744073709551616:=by
 have h:((2:Int) ^ (Go.IntKind.u64).bits)=18446744073709551616:=by decide
 unfold Go.IntKind.wrap;rw[h];simp[Go.IntKind.signed]
theorem wrap_u8(v:Int):Go.IntKind.wrap .u8 v=v % 256:=by
 have h:((2:Int) ^ (Go.IntKind.u8).bits)=256:=by decide
 unfold Go.IntKind.wrap;rw[h];simp[Go.IntKind.signed]
theorem abq(v:Int):Go.IntKind.wrap .i8 v=if 128<=v % 256 then v % 256-256 else v % 256:=by
 have h:((2:Int) ^ (Go.IntKind.i8).bits)=256:=by decide
 have j:((2:Int) ^ ((Go.IntKind.i8).bits-1))=128:=by decide
 unfold Go.IntKind.wrap;rw[h,j];simp[Go.IntKind.signed]
theorem wrap_i32(v:Int):Go.IntKind.wrap .i32 v=if 2147483648<=v % 4294967296 then v % 4294967296-4294967296 else v % 4294967296:=by
 have h:((2:Int) ^ (Go.IntKind.i32).bits)=4294967296:=by decide
 have j:((2:Int) ^ ((Go.IntKind.i32).bits-1))=2147483648:=by decide
 unfold Go.IntKind.wrap;rw[h,j];simp[Go.IntKind.signed]
theorem wrap_i64(v:Int):bP v=if 9223372036854775808<=v % 18446744073709551616 then v % 18446744073709551616-18446744073709551616 else v % 18446744073709551616:=by
 have h:((2:Int) ^ (Go.IntKind.i64).bits)=18446744073709551616:=by decide
 have j:((2:Int) ^ ((Go.IntKind.i64).bits-1))=9223372036854775808:=by decide
 show Go.IntKind.wrap .i64 v=_;unfold Go.IntKind.wrap;rw[h,j];simp[Go.IntKind.signed]
theorem oH(v:Int):(nR v:Int)=v % 18446744073709551616:=by unfold nR;rw[wrap_u64,JP (Int.emod_nonneg _ (by decide))]
theorem akR(v:Int):nR v<18446744073709551616:=by have:=oH v;omega
def uz(v:Int)(i:Nat):Int:=((nR v/256 ^ i % 256:Nat):Int)
def sQ(v:Int)(n:Nat):List Int:=(List.range n).map (uz v)
theorem kV(v:Int)(n:Nat):(sQ v n).length=n:=by simp[sQ]
theorem akS(i:Nat):(2:Nat) ^ (8*i)=256 ^ i:=by rw[Nat.pow_mul]
theorem put_eq(v:Int)(hn:n<=8)(m:l.length<=1000000):f59 v (n:Int) l=zw (l++sQ v n):=by
 apply ok_eq;unfold f59;dsimp only;refine bG (λy=>y=l++sQ v n) ?_ λy q=>aG q;refine Ym (List.range n) (λi s=>(i,s)) (λs i=>s++[uz v i]) (λi s=>s.length<=1000000+i) rfl m ?_ ?_
 .intro i j s w _;dsimp only;simp only[qr]at j;refine goT (by simpa using j) ?_;rw[aF (x:=8*(i:Int)) (by omega),aF (x:=(i:Int)+1) (by omega)];refine bK (by simp;omega) (bK (by unfold aX;simp;omega) (aG ?_));refine⟨?_,by rw[XS,W4];omega⟩;have z:min (Int.toNat (8*(i:Int))) 64=8*i:=by omega
  have B:((2:Int) ^ (8*i))=((256 ^ i:Nat):Int):=by rw[<-akS];simp
  rw[z,B,vd,wrap_u8,Int.fdiv_eq_ediv_of_nonneg _ (Int.natCast_nonneg _)];have H:Go.IntKind.wrap .u64 v=(nR v:Int):=by rw[oH,wrap_u64]
  rw[H];rfl
 .intro s w J;dsimp only;refine bW (by simp) (aG ?_);show s=_;rw[J];have :∀(l:List Nat) (h:List Int),l.foldl (λs i=>s++[uz v i]) h=h++l.map (uz v):=by
   intro l
   induction l with
   |nil=>simp
   |cons x l K=>intro h;rw[vn,K];simp
  exact this _ _
def At(data:List Int)(p:Nat)(bs:List Int):Prop :=∀i,i<bs.length->data[p+i]?=bs[i]?
theorem wJ{data:List Int}{a b:List Int}(h:At data n (a++b)):At data n a/\At data (n+a.length) b:=by
 refine⟨λi j=>?_,λi j=>?_⟩
 .rw [h i (by rw[XS];omega),Wf j]
 .rw [J1,h (a.length+i) (by rw[XS];omega),Wc (by omega)];congr 1;omega
theorem aoT(head bs tail:List Int):At (head++bs++tail) head.length bs:=by intro i h;rw[W3,Wc (by omega),Wf (by omega)];congr 1;omega
theorem at_len{data:List Int}{z:List Int}(h:At data n z)(j:0<z.length):n+z.length<=data.length:=by have:=h (z.length-1) (by omega);rw[Q2 (l:=z) (by omega)]at this;have:=(Q3.1 this).1;omega
theorem akT(m:n<18446744073709551616)(q:b<18446744073709551616):Go.bits .or .u64 (n:Int) (b:Int)=((n ||| b:Nat):Int):=by
 unfold Go.bits;dsimp only;rw[wrap_u64];have e :∀a:Nat,a<18446744073709551616->(BitVec.ofInt (Go.IntKind.u64).bits (a:Int)).toNat=a:=by
  intro a h;rw[BitVec.toNat_ofInt];have:(((2 ^ (Go.IntKind.u64).bits:Nat)):Int)=18446744073709551616:=by decide
  rw[this];omega
 rw[BitVec.toNat_or,e n m,e b q];have j:n ||| b<2 ^ 64:=Nat.or_lt_two_pow (by simpa using m) (by simpa using q);have:n ||| b<18446744073709551616:=by simpa using j
 omega
theorem aht(hn:1<=n/\n<=8){data:List Int}{a:Nat}(h:At data a (sQ v n))(hd:data.length<=1000000000):
  bn (λ(j:Int×Int)=>bif(decide (j.2<(n:Int)))then ck (inB (bP ((a:Int)+j.2)) data.length) <| ck (decide (0<=(bP (8*j.2)))) <| some (.inl ((Go.bits .or .u64 j.1 (Go.IntKind.wrap .u64 ((Go.IntKind.wrap .u64 (List.getD data (bP ((a:Int)+j.2)).toNat 0))*((2:Int) ^ (min (bP (8*j.2)).toNat (64:Nat)))))),(bP (j.2+1))))else zw (.inr j.1)) ((0:Int),(0:Int))=zw ((nR v % 256 ^ n:Nat):Int):=by
 have q:=at_len h (by rw[kV];omega);rw[kV]at q;apply ok_eq;refine Ym (List.range n) (λi s=>(s,i)) (λs i=>((nR v % 256 ^ (i+1):Nat):Int)) (λi s=>s=((nR v % 256 ^ i:Nat):Int)) rfl (by simp[Nat.mod_one]) ?_ ?_
 .intro i z s B _;simp only[qr]at z;dsimp only;refine goT (by simpa using z) ?_;rw[aF (x:=(a:Int)+i) (by omega)];refine bK (aQ.2 ⟨by omega,by omega⟩) ?_;rw[aF (x:=8*(i:Int)) (by omega),aF (x:=(i:Int)+1) (by omega)];refine bK (by simp;omega) (aG ?_);have L:data.getD (Int.toNat ((a:Int)+i)) 0=uz v i:=by
   have e:Int.toNat ((a:Int)+i)=a+i:=by omega
   have:=h i (by rw[kV];exact z);rw[e,Q1,this];simp[sQ,z]
  have M:min (Int.toNat (8*(i:Int))) 64=8*i:=by omega
  have N:((2:Int) ^ (8*i))=((256 ^ i:Nat):Int):=by rw[<-akS];simp
  have H:nR v/256 ^ i % 256<256:=Nat.mod_lt _ (by decide);have T:256*256 ^ i<=18446744073709551616:=by
   have:256*256 ^ i=256 ^ (i+1):=by rw[Nat.pow_succ,qf]
   rw[this];exact K0 (Nat.pow_le_pow_right (by decide) (show i+1<=8 by omega)) (by decide)
  have m:0<256 ^ i:=Nat.pow_pos (by decide);have w:nR v/256 ^ i % 256*256 ^ i<18446744073709551616:=by have:nR v/256 ^ i % 256*256 ^ i<256*256 ^ i:=(Nat.mul_lt_mul_right m).2 H;omega
  have y:nR v % 256 ^ i<256 ^ i:=Nat.mod_lt _ m;have U:Go.IntKind.wrap .u64 (uz v i)=uz v i:=by rw[wrap_u64];unfold uz;omega
  have J:Go.IntKind.wrap .u64 (uz v i*((256 ^ i:Nat):Int))=((nR v/256 ^ i % 256*256 ^ i:Nat):Int):=by rw[wrap_u64];unfold uz;rw[<-Int.natCast_mul];omega
  rw[L,M,N,U,J,B,akT (by omega) w,vd];have X:(nR v % 256 ^ i ||| nR v/256 ^ i % 256*256 ^ i)=nR v % 256 ^ (i+1):=by have K:=Nat.shiftLeft_add_eq_or_of_lt (b:=nR v % 256 ^ i) (i:=8*i) (by rw[akS];exact y) (nR v/256 ^ i % 256);rw[Nat.shiftLeft_eq,akS]at K;rw[Nat.or_comm,<-K,Nat.pow_succ,Nat.mod_mul,qf (256 ^ i),Nat.add_comm]
  rw[X];exact⟨rfl,rfl⟩
 .intro s B _;dsimp only;rw[qr]at B;exact bW (by simp) (aG B)
theorem get_eq{b:Int}(hn:1<=n/\n<=8){data:List Int}{a:Nat}(h:At data a (sQ b n))(hd:data.length<=1000000000):
  f67 (n:Int) data (a:Int) zv=zw (bP ((nR b % 256 ^ n:Nat):Int),(data,((a:Int)+n,zv))):=by
 have j:=at_len h (by rw[kV];omega);rw[kV]at j;apply ok_eq;unfold f67;refine bG (λy=>y=(data,((a:Int),zv))) (bW rfl (aG ?_)) λy m=>?_
 .rw [aF (by omega)];have:decide (((data.length:Int)-(a:Int))<(n:Int))=zv:=by simp;omega
  rw[this]
 subst m;refine bW rfl (d_ (aht hn h hd) (aG ?_));rw[aF (x:=(a:Int)+n) (by omega)]
theorem adJ{b:Int}{wd:Bool}{data:List Int}{p:Nat}(h:At data p (sQ b (if wd then 4 else 1)))(hd:data.length<=1000000000)
  (j:if wd then -2147483648<=b/\b<=2147483647 else -128<=b/\b<=127) :
  f68 wd data (p:Int) zv=zw (b,(data,((p:Int)+(if wd then 4 else 1),zv))):=by
 unfold f68 f60;have hu:=oH b;cases wd with
 |true=>
  simp only[if_true]at h j;have:=get_eq (n:=4) ⟨by decide,by decide⟩ h hd;rw[show ((4:Nat):Int)=4 from rfl]at this;simp only[cond_true,Option.bind,this,if_true];have e:bP (Go.IntKind.wrap .i32 (bP ((nR b % 256 ^ 4:Nat):Int)))=b:=by rw[aF (x:=((nR b % 256 ^ 4:Nat):Int)) (by omega),wrap_i32];rw[aF (by split<;>omega)];split<;>omega
  rw[e]
 |false=>
  simp only[if_false,Wb]at h j;have:=get_eq (n:=1) ⟨by decide,by decide⟩ h hd;rw[show ((1:Nat):Int)=1 from rfl]at this;simp only[cond_false,Option.bind,this,if_false,Wb];have e:bP (Go.IntKind.wrap .i8 (bP ((nR b % 256 ^ 1:Nat):Int)))=b:=by rw[aF (x:=((nR b % 256 ^ 1:Nat):Int)) (by omega),abq];rw[aF (by split<;>omega)];split<;>omega
  rw[e]
def VCc(c:dQ):Prop:=VC c.op c.arith c.dst c.a c.b c.value c.wide c.args
def Dw(c:dQ):Nat:=szc c.op c.wide c.args.length
abbrev F6:=Int×Int×Int×Int×Int×List Int
section
variable (ar d a b v:Int) (args:List Int)
def qN(k:Nat):Int:=if k=0 then ar else if k=1 then d else if k=2 then a else if k=3 then b else if k=6 then args.length else v
def nC(k:Nat×Nat):List Int:=sQ (qN ar d a b v args k.1) k.2++(if k.1=6 then args.flatMap λy=>sQ y 1 else[])
def Dq(s:F6)(k:Nat×Nat):F6:=
 if k.1=0 then(ar,s.2)else if k.1=1 then(s.1,d,s.2.2)else if k.1=2 then(s.1,s.2.1,a,s.2.2.2)else if k.1=3 then(s.1,s.2.1,s.2.2.1,b,s.2.2.2.2)
 else if k.1=6 then(s.1,s.2.1,s.2.2.1,s.2.2.2.1,s.2.2.2.2.1,s.2.2.2.2.2++args)else(s.1,s.2.1,s.2.2.1,s.2.2.2.1,(if k.2=8 then bP v else v),s.2.2.2.2.2)
def Tj(wd:Bool)(k:Nat×Nat):Prop:=(1<=k.2/\k.2<=8)/\(k.1<=6)/\(k.1=4/\k.2=8\/k.1≠5/\k.2≠8/\0<=qN ar d a b v args k.1/\qN ar d a b v args k.1<((256 ^ k.2:Nat):Int)\/k.1=5/\k.2=(if wd then 4 else 1)/\(if wd then -2147483648<=v/\v<=2147483647 else -128<=v/\v<=127))/\(k.1=6->k.2=1/\args.length<=250/\∀y∈args,0<=y/\y<=249)
end
def kM(wd:Bool)(x:UInt8):Nat×Nat:=if x.toNat=111 then(0,1)else if x.toNat=100 then(1,1)else if x.toNat=97 then(2,1)else if x.toNat=98 then(3,1)else if x.toNat=106 then(5,if wd then 4 else 1)else if x.toNat=110 then(6,1)else(4,x.toNat-48)
def ksM(op:Int)(wd:Bool):List (Nat×Nat):=(rowOf op).map (kM wd)
def Qn(op:Int)(wd:Bool):Int:=if wd then op+128 else op
def gY(c:dQ):List Int:=Qn c.op c.wide::(ksM c.op c.wide).flatMap (nC c.arith c.dst c.a c.b c.value c.args)
def vD(c:dQ):Int:=if c.op=1 then bP c.value else c.value
def Can(c:dQ):Prop:=(ksM c.op c.wide).foldl (Dq c.arith c.dst c.a c.b c.value c.args) (0,0,0,0,0,[])=(c.arith,c.dst,c.a,c.b,vD c,c.args)
theorem wK(args:List Int):(args.flatMap (λy=>sQ y 1)).length=args.length:=by
 induction args with
 |nil=>rfl
 |cons x l h=>rw[Z6,XS,h,kV,Wm];omega
theorem NC{data:List Int}:∀{args:List Int} {p:Nat},At data p (args.flatMap λy=>sQ y 1)->∀{j:Nat},j<args.length->At data (p+j) (sQ (args.getD j 0) 1)
 | [],_,_,j,m=>absurd m (Kf _)
 |x::l,p,h,j,m=>by
  rw[Z6]at h;obtain⟨w,q⟩:=wJ h;rw[kV]at q;cases j with
  |zero=>exact w
  |succ j=>have:=NC q (j:=j) (by simpa using m);rw[show p+(j+1)=p+1+j by omega];exact this
theorem Ag(ar d a b v:Int)(args:List Int)(k:Nat×Nat):(nC ar d a b v args k).length=k.2+(if k.1=6 then args.length else 0):=by
 unfold nC;rw[XS,kV];split
 .rw [wK]
 .rfl
theorem qO(c:dQ):(gY c).length=Dw c:=by
 have key :∀l:List UInt8,(∀x∈l,IsLetter x)->((l.map (kM c.wide)).flatMap (nC c.arith c.dst c.a c.b c.value c.args)).length=(l.map (szm c.wide c.args.length)).sum:=λl=>by
  induction l with
  |nil=>intro _;rfl
  |cons x l m=>intro h;have j:=h x Kc;simp only[Qf,Z6,XS,JS];rw[m λy q=>h y (V1 _ q),Ag];congr 1;unfold kM szm;unfold IsLetter at j;rcases j with e|e|e|e|e|e|e|e|e|e<;>simp[e]
 unfold gY Dw szc ksM;rw[Wm,key _ (Dp c.op).2];omega
theorem akU{b:Int}(h:0<=b/\b<=255):sQ b 1=[b]:=by
 have e:nR b=b.toNat:=by have:=oH b;omega
 show [uz b 0]=[b];unfold uz;rw[e];congr 1;simp;omega
section
variable {c:dQ}
theorem good(h:VCc c):∀x∈rowOf c.op,Tj c.arith c.dst c.a c.b c.value c.args c.wide (kM c.wide x):=by
 obtain⟨op,ar,d,a,b,v,wd,args⟩:=c;obtain⟨o,w,a3,a4,hd,T,U,K,hn,q⟩:=h;simp only at o w a3 a4 hd T U K hn q ⊢;have L:(0<=ar/\ar<=255)->Tj ar d a b v args wd (0,1):=λh=>⟨by simp,by simp,.inr (.inl (by simp[qN];omega)),λh=>by simp at h⟩;have z:Tj ar d a b v args wd (1,1):=⟨by simp,by simp,.inr (.inl (by simp[qN];omega)),λh=>by simp at h⟩;have m:Tj ar d a b v args wd (2,1):=⟨by simp,by simp,.inr (.inl (by simp[qN];omega)),λh=>by simp at h⟩;have M:Tj ar d a b v args wd (3,1):=⟨by simp,by simp,.inr (.inl (by simp[qN];omega)),λh=>by simp at h⟩;have N:Tj ar d a b v args wd (6,1):=⟨by simp,by simp,.inr (.inl (by simp[qN];omega)),λ_=>⟨rfl,hn,K⟩⟩;have B:(0<=v/\v<=255)->Tj ar d a b v args wd (4,1):=λh=>⟨by simp,by simp,.inr (.inl (by simp[qN];omega)),λh=>by simp at h⟩;have H:(0<=v/\v<=65535)->Tj ar d a b v args wd (4,2):=λh=>⟨by simp,by simp,.inr (.inl (by simp[qN];omega)),λh=>by simp at h⟩;have X:(0<=v/\v<=4294967295)->Tj ar d a b v args wd (4,4):=λh=>⟨by simp,by simp,.inr (.inl (by simp[qN];omega)),λh=>by simp at h⟩;have Y:Tj ar d a b v args wd (4,8):=⟨by simp,by simp,.inl (by simp),λh=>by simp at h⟩;have J:(if wd then -2147483648<=v/\v<=2147483647 else -128<=v/\v<=127)->Tj ar d a b v args wd (5,if wd then 4 else 1):=λh=>⟨by cases wd<;>simp,by simp,.inr (.inr ⟨rfl,rfl,h⟩),λh=>by simp at h⟩;have cons :∀{x:UInt8} {l:List UInt8} {y:UInt8},y∈x::l->(y=x->Tj ar d a b v args wd (kM wd y))->(y∈l->Tj ar d a b v args wd (kM wd y))->Tj ar d a b v args wd (kM wd y):=λh B H=>(Xs.1 h).elim B H;have nil :∀{y:UInt8},y∈([]:List UInt8)->Tj ar d a b v args wd (kM wd y):=λh=>by cases h
 intro x j;rcases ops o with rfl|rfl|rfl|rfl|rfl|rfl|rfl|rfl|rfl|rfl|rfl|rfl|rfl|rfl|rfl|rfl|rfl|rfl
 .exact cons j (λe=>by subst e;exact z) λj=>cons j (λe=>by subst e;exact Y) nil
 .exact cons j (λe=>by subst e;exact z) λj=>cons j (λe=>by subst e;exact m) nil
 .exact cons j (λe=>by subst e;exact L (by have:=a3 rfl;omega)) λj=>cons j (λe=>by subst e;exact z) λj=>cons j (λe=>by subst e;exact m) nil
 .exact cons j (λe=>by subst e;exact L (by have:=a4 rfl;omega)) λj=>cons j (λe=>by subst e;exact z) λj=>cons j (λe=>by subst e;exact m) λj=>cons j (λe=>by subst e;exact M) nil
 .exact cons j (λe=>by subst e;exact z) λj=>cons j (λe=>by subst e;exact B (by simp[nP]at q;omega)) nil
 .exact cons j (λe=>by subst e;exact m) λj=>cons j (λe=>by subst e;exact B (by simp[nP]at q;omega)) nil
 .exact cons j (λe=>by subst e;exact z) λj=>cons j (λe=>by subst e;exact m) λj=>cons j (λe=>by subst e;exact B (by simp[nP]at q;omega)) nil
 .exact cons j (λe=>by subst e;exact m) λj=>cons j (λe=>by subst e;exact M) λj=>cons j (λe=>by subst e;exact B (by simp[nP]at q;omega)) nil
 .exact cons j (λe=>by subst e;exact z) nil
 .exact cons j (λe=>by subst e;exact m) nil
 .exact cons j (λe=>by subst e;exact z) λj=>cons j (λe=>by subst e;exact X (by simp[nP]at q;omega)) λj=>cons j (λe=>by subst e;exact N) nil
 .exact cons j (λe=>by subst e;exact z) λj=>cons j (λe=>by subst e;exact m) λj=>cons j (λe=>by subst e;exact N) nil
 .exact cons j (λe=>by subst e;exact J (by cases wd<;>simp[nP]at q ⊢ <;> omega)) nil
 .exact cons j (λe=>by subst e;exact m) λj=>cons j (λe=>by subst e;exact J (by cases wd<;>simp[nP]at q ⊢ <;> omega)) nil
 .exact cons j (λe=>by subst e;exact m) λj=>cons j (λe=>by subst e;exact J (by cases wd<;>simp[nP]at q ⊢ <;> omega)) nil
 .exact cons j (λe=>by subst e;exact m) nil
 .exact cons j (λe=>by subst e;exact H (by simp[nP]at q;omega)) nil
 .exact cons j (λe=>by subst e;exact z) λj=>cons j (λe=>by subst e;exact B (by simp[nP]at q;omega)) nil
theorem J3(h:VCc c):1<=Qn c.op c.wide/\Qn c.op c.wide<=255/\Int.tmod (bP (Qn c.op c.wide)) 128=c.op/\decide (128<=Qn c.op c.wide)=c.wide:=by have j:=h.o;have m:bP (Qn c.op c.wide)=Qn c.op c.wide:=aF (by unfold Qn;split<;>omega);rw[m];unfold Qn;rcases ops j with e|e|e|e|e|e|e|e|e|e|e|e|e|e|e|e|e|e<;>rw[e]<;>cases c.wide<;>exact⟨by decide,by decide,by decide,by decide⟩
theorem ahv(h:VCc c):f33 c.op c.arith c.dst c.a c.b c.value c.wide c.args=zw (0,gY c):=by
 have hlen:=qO c;have Z:VC c.op c.arith c.dst c.a c.b c.value c.wide c.args:=h;have ho:=Z.o;have hn:=Z.n;obtain⟨hl,hL⟩:=Dp c.op;have hA:=Hl c.op;obtain⟨q1,q2,_,_⟩:=J3 h;apply ok_eq;unfold f33;refine d_ (amk Z) (bW rfl (bG (λy=>y=[Qn c.op c.wide]) (dA (λH=>bK rfl (bK rfl (aG ?_))) λH=>aG ?_) λl0 e0=>bK nZ (bG (λy=>y=gY c) ?_ λy e=>aG (by rw[e]))))
 .show [Go.IntKind.wrap .u8 (Go.IntKind.wrap .u8 c.op+128)]=_;unfold Qn at *;rw[H]at *;rw[wrap_u8,wrap_u8];simp at *;omega
 .show [Go.IntKind.wrap .u8 c.op]=_;unfold Qn at *;rw[H]at *;rw[wrap_u8];simp at *;omega
 subst e0;show Ok (bn _ ([Qn c.op c.wide],rowOf c.op,(0:Int))) _;refine bF (λs:List Int×List UInt8×Int=>∃i:Nat,s.2=(rowOf c.op,(i:Int))/\i<=(rowOf c.op).length/\s.1=Qn c.op c.wide::(((rowOf c.op).take i).map (kM c.wide)).flatMap (nC c.arith c.dst c.a c.b c.value c.args)/\s.1.length<=1+i*260) (λs=>(rowOf c.op).length-s.2.2.toNat) ⟨0,rfl,by omega,rfl,by simp⟩ λ⟨l,s⟩ ⟨i,e,h1,L,h3⟩=>?_;simp only at e L h3;subst e;rw[Ti];refine dA (λm=>?_) λm=>aG ?_
 rotate_left
 .have m:¬ i<(rowOf c.op).length:=by simpa using m
  rw[WN (by omega)]at L;exact L
 have m:i<(rowOf c.op).length:=by simpa using m
 rw[Hg hA m,yu hA m];have hg:=good h _ (X2 m);have hx:=hL _ (X2 m);obtain⟨x,J⟩ :∃x,(rowOf c.op)[i]=x:=⟨_,rfl⟩;have htk:(rowOf c.op).take (i+1)=(rowOf c.op).take i++[x]:=by rw[take_snoc m,J]
 simp only[J]at hx hg ⊢;have hkl:=Ag c.arith c.dst c.a c.b c.value c.args (kM c.wide x);refine bG (λy=>y=l++nC c.arith c.dst c.a c.b c.value c.args (kM c.wide x)) ?_ λy e=>aG ⟨⟨i+1,by simp,m,?_,?_⟩,by simp only;omega⟩
 rotate_left
 .subst e;simp only;rw[htk,XX,K1,L];simp
 .subst e;simp only;rw[XS,hkl];have:=hg.1;have:(if(kM c.wide x).1=6 then c.args.length else 0)<=250:=by split<;>omega
  omega
 have key :∀n:Int,0<=n->decide ((x.toNat:Int)=n)=zj->x.toNat=n.toNat:=λn _ h=>by have:=Zs h;omega
 have neg :∀n:Int,0<=n->decide ((x.toNat:Int)=n)=zv->¬ x.toNat=n.toNat:=λn _ h=>by have:=ZD h;omega
 have one :∀(k:Nat×Nat) (z n:Int),kM c.wide x=k->n=(k.2:Nat)->k.1≠6->k.2<=8->z=qN c.arith c.dst c.a c.b c.value c.args k.1->f59 z n l=zw (l++nC c.arith c.dst c.a c.b c.value c.args (kM c.wide x)):=λk z n K hn h6 h8 hz=>by rw[K,hn,put_eq z h8 (by omega),hz];unfold nC;rw[Qt h6,K6]
 refine dA (λq=>d_ (one (0,1) _ _ (by simp[kM,key _ (by omega) q]) rfl (by simp) (by simp) rfl) (aG rfl)) λM=>bG _ ?_ λy w=>aG w;refine dA (λq=>d_ (one (1,1) _ _ (by simp[kM,key _ (by omega) q]) rfl (by simp) (by simp) rfl) (aG rfl)) λN=>bG _ ?_ λy w=>aG w;refine dA (λq=>d_ (one (2,1) _ _ (by simp[kM,key _ (by omega) q]) rfl (by simp) (by simp) rfl) (aG rfl)) λT=>bG _ ?_ λy w=>aG w;refine dA (λq=>d_ (one (3,1) _ _ (by simp[kM,key _ (by omega) q]) rfl (by simp) (by simp) rfl) (aG rfl)) λU=>bG _ ?_ λy w=>aG w;refine dA (λq=>d_ (y:=(((if c.wide then 4 else 1):Nat):Int)) (by unfold f60;cases c.wide<;>rfl) (d_ (one (5,if c.wide then 4 else 1) _ _ (by simp[kM,key _ (by omega) q]) rfl (by simp) (by simp only;split<;>omega) rfl) (aG rfl))) λX=>bG _ ?_ λy w=>aG w;refine dA (λq=>?_) λY=>bG (λy=>y=l++nC c.arith c.dst c.a c.b c.value c.args (kM c.wide x)) ?_ λy w=>aG w
 .have K:kM c.wide x=(6,1):=by simp[kM,key _ (by omega) q]
  rw[K];refine d_ (put_eq (c.args.length:Int) (n:=1) (by omega) (by omega)) (bG (λy=>y=l++nC c.arith c.dst c.a c.b c.value c.args (6,1)) ?_ λy e=>aG e);refine bF (λs:Int×List Int=>∃j:Nat,s.1=j/\j<=c.args.length/\s.2=l++sQ (c.args.length:Int) 1++(c.args.take j).flatMap λy=>sQ y 1) (λs=>c.args.length-s.1.toNat) ⟨0,rfl,by omega,by simp⟩ λ⟨j',l3⟩ ⟨j,e,g1,g2⟩=>?_;simp only at e g2;subst e;subst g2;refine dA (λB=>?_) λB=>?_
  .have B:j<c.args.length:=by simpa using B
   refine bK (aQ.2 (by simp only;omega)) (d_ (put_eq _ (n:=1) (by omega) ?_) (aG ⟨⟨j+1,?_,by omega,?_⟩,?_⟩))
   .simp only[XS,kV,wK,VV];omega
   all_goals simp only[aF (x:=(j:Int)+1) (by omega)]
   .rfl
   .rw [take_snoc B,K1,Q4,getD_at _ B];simp
   .omega
  .have B:¬ j<c.args.length:=by simpa using B
   refine aG (show _=l++nC c.arith c.dst c.a c.b c.value c.args (6,1) from ?_);rw[WN (by omega),W3];rfl
 .have M:=neg _ (by omega) M;have N:=neg _ (by omega) N;have T:=neg _ (by omega) T;have U:=neg _ (by omega) U;have X:=neg _ (by omega) X;have Y:=neg _ (by omega) Y;simp only[Int.reduceToNat]at M N T U X Y;have K:kM c.wide x=(4,x.toNat-48):=by unfold kM;rw[Qt M,Qt N,Qt T,Qt U,Qt X,Qt Y]
  have H:bP (Go.IntKind.wrap .i32 ((x.toNat:Int)-48))=((x.toNat-48:Nat):Int)/\x.toNat-48<=8:=by
   unfold IsLetter at hx;have:x.toNat=49\/x.toNat=50\/x.toNat=52\/x.toNat=56:=by omega
   rcases this with e|e|e|e<;>rw[e]<;>exact⟨rfl,by simp⟩
  exact afS (one (4,x.toNat-48) _ _ K H.1 (by simp) H.2 rfl) rfl
end
def kR(wd:Bool)(x:UInt8):Nat×Nat:=if x.toNat=111 then(0,1)else if x.toNat=100 then(1,1)else if x.toNat=97 then(2,1)else if x.toNat=98 then(3,1)else if x.toNat=110 then(6,1)else if x.toNat=106 then(5,if wd then 4 else 1)else(4,if x.toNat=119 then 2 else if x.toNat=99 then 4 else if x.toNat=107 then 8 else 1)
theorem amm{op:Int}(h:1<=op/\op<=18):∃r,f37 op=zw r/\(r==bM)=zv/\r.length<=4/\∀wd,r.map (kR wd)=ksM op wd:=by rcases ops h with rfl|rfl|rfl|rfl|rfl|rfl|rfl|rfl|rfl|rfl|rfl|rfl|rfl|rfl|rfl|rfl|rfl|rfl<;>exact⟨_,rfl,rfl,by decide,λwd=>by cases wd<;>rfl⟩
theorem abt{op:Int}{wd:Bool}{args:List Int}{x:UInt8}:f39 op i v d t p wd args (x.toNat:Int)=zw ((kR wd x).2:Int):=by
 apply ok_eq;unfold f39;have key :∀n:Nat,decide ((x.toNat:Int)=(n:Int))=zj->x.toNat=n:=λn h=>by have:=Zs h;omega
 have neg :∀n:Nat,decide ((x.toNat:Int)=(n:Int))=zv->¬ x.toNat=n:=λn h=>by have:=ZD h;omega
 refine dA (λh=>aG (by simp[kR,key 119 h])) λm=>dA (λh=>aG (by simp[kR,key 99 h])) λq=>dA (λh=>aG (by simp[kR,key 107 h])) λw=>?_;have m:=neg 119 m;have q:=neg 99 q;have w:=neg 107 w;have fin:¬ (x.toNat=106/\wd=zj)->((1:Int))=((kR wd x).2:Int):=λh=>by
  unfold kR;rw[Qt m,Qt q,Qt w]
  repeat' split
  all_goals try rfl
  rename_i y j;exact absurd ⟨y,j⟩ h
 refine iH (λ_=>¬ (x.toNat=106/\wd=zj)) (dA (λh=>dA (λj=>aG ?_) λj=>aG ?_) λh=>aG ?_) λ_ h=>aG (fin h)
 .show (4:Int)=_;simp[kR,key 106 h,j]
 .show ¬ _;simp[j]
 .show ¬ _;have:=neg 106 h;simp[this]
theorem aoU(v:Int):sQ v 1=[Go.IntKind.wrap .u8 v]:=by show [uz v 0]=_;unfold uz;have:=oH v;rw[wrap_u8];congr 1;simp;omega
section
variable {c:dQ}
theorem ahw(h:VCc c){s:List UInt8}(j:s.map (kR c.wide)=ksM c.op c.wide):∀x∈s,Tj c.arith c.dst c.a c.b c.value c.args c.wide (kR c.wide x):=λx m=>by
 have:kR c.wide x∈ksM c.op c.wide:=by rw[<-j];exact XN.2 ⟨x,m,rfl⟩
 obtain⟨y,q,e⟩:=XN.1 this;rw[<-e];exact good h y q
theorem ahx(h:VCc c):f73 c.op c.arith c.dst c.a c.b c.value c.wide c.args=zw (0,gY c):=by
 have Z:VC c.op c.arith c.dst c.a c.b c.value c.wide c.args:=h;have ho:=Z.o;have hn:=Z.n;obtain⟨q1,q2,_,_⟩:=J3 h;obtain⟨r,hr,_,hl,H⟩:=amm ho;have H:=H c.wide;apply ok_eq;unfold f73;refine d_ (aml Z) (bW rfl (bG (λy=>y=Qn c.op c.wide) (dA (λhw=>aG ?_) λhw=>aG ?_) λy e=>d_ hr (bG (λy=>y=gY c) ?_ λy e=>aG (by rw[e]))))
 .unfold Qn;rw[QQ hw,aF (by omega)]
 .unfold Qn;rw[hw];rfl
 subst e;have hwu:Go.IntKind.wrap .u8 (Qn c.op c.wide)=Qn c.op c.wide:=by rw[wrap_u8];omega
 refine bF (λs:Int×List Int=>∃i:Nat,s.1=(i:Int)/\i<=r.length/\s.2=Qn c.op c.wide::((r.take i).map (kR c.wide)).flatMap (nC c.arith c.dst c.a c.b c.value c.args)/\s.2.length<=1+i*260) (λs=>r.length-s.1.toNat) ⟨0,rfl,by omega,by simp[hwu],by simp⟩ λ⟨i',l⟩ ⟨i,e,h1,M,h3⟩=>?_;simp only at e M h3;subst e;refine dA (λq=>?_) λq=>aG ?_
 rotate_left
 .have q:¬ i<r.length:=by simpa using q
  rw[WN (by omega),H]at M;exact M
 have q:i<r.length:=by simpa using q
 have hg:=ahw h H _ (X2 q);obtain⟨x,J⟩ :∃x,r[i]=x:=⟨_,rfl⟩;have hxd:r.getD i 0=x:=by rw[getD_at _ q,J]
 have htk:r.take (i+1)=r.take i++[x]:=by rw[take_snoc q,J]
 rw[J]at hg;have L:=aQ.2 (show 0<=(i:Int)/\(i:Int)<r.length by omega);have hkl:=Ag c.arith c.dst c.a c.b c.value c.args (kR c.wide x);refine bK L ?_;simp only[Q4,hxd];refine bG (λy=>y=l++nC c.arith c.dst c.a c.b c.value c.args (kR c.wide x)) ?_ λy e=>aG ⟨⟨i+1,?_,q,?_,?_⟩,?_⟩
 rotate_left
 .simp only[aF (x:=(i:Int)+1) (by omega)];rfl
 .subst e;simp only;rw[htk,XX,K1,M];simp
 .subst e;simp only;rw[XS,hkl];have:=hg.1;have:(if(kR c.wide x).1=6 then c.args.length else 0)<=250:=by split<;>omega
  omega
 .simp only[aF (x:=(i:Int)+1) (by omega)];omega
 have key :∀n:Nat,decide ((x.toNat:Int)=(n:Int))=zj->x.toNat=n:=λn h=>by have:=Zs h;omega
 have neg :∀n:Nat,decide ((x.toNat:Int)=(n:Int))=zv->¬ x.toNat=n:=λn h=>by have:=ZD h;omega
 have m :∀z:Int,aX l.length [z].length 1=zj:=λz=>by unfold aX;simp;omega
 have one :∀(k:Nat) (z:Int),kR c.wide x=(k,1)->k≠6->z=qN c.arith c.dst c.a c.b c.value c.args k->l++[Go.IntKind.wrap .u8 z]=l++nC c.arith c.dst c.a c.b c.value c.args (kR c.wide x):=λk z H h6 hz=>by rw[H,hz];unfold nC;rw[Qt h6,K6,aoU]
 refine dA (λw=>bK (m _) (aG (one 0 _ (by simp[kR,key 111 w]) (by simp) rfl))) λN=>bG _ ?_ λy B=>aG B;refine dA (λw=>bK (m _) (aG (one 1 _ (by simp[kR,key 100 w]) (by simp) rfl))) λT=>bG _ ?_ λy B=>aG B;refine dA (λw=>bK (m _) (aG (one 2 _ (by simp[kR,key 97 w]) (by simp) rfl))) λU=>bG _ ?_ λy B=>aG B;refine dA (λw=>bK (m _) (aG (one 3 _ (by simp[kR,key 98 w]) (by simp) rfl))) λX=>bG _ ?_ λy B=>aG B;refine dA (λw=>bK (m _) (bG (λy=>y=l++nC c.arith c.dst c.a c.b c.value c.args (kR c.wide x)) ?_ λy B=>aG B)) λY=>?_
 .have H:kR c.wide x=(6,1):=by simp[kR,key 110 w]
  rw[H];refine bF (λs:Int×List Int=>∃j:Nat,s.1=j/\j<=c.args.length/\s.2=l++sQ (c.args.length:Int) 1++(c.args.take j).flatMap λy=>sQ y 1) (λs=>c.args.length-s.1.toNat) ⟨0,rfl,by omega,by rw[aoU];simp⟩ λ⟨j',l3⟩ ⟨j,e,g1,g2⟩=>?_;simp only at e g2;subst e;subst g2;refine dA (λK=>?_) λK=>?_
  .have K:j<c.args.length:=by simpa using K
   refine bK (aQ.2 (by simp only;omega)) (bK ?_ (aG ⟨⟨j+1,?_,by omega,?_⟩,?_⟩))
   .unfold aX;simp only[XS,kV,wK,VV,W4];simp;omega
   all_goals simp only[aF (x:=(j:Int)+1) (by omega)]
   .rfl
   .rw [take_snoc K,K1,Q4,getD_at _ K];simp[aoU]
   .omega
  .have K:¬ j<c.args.length:=by simpa using K
   refine aG (show _=l++nC c.arith c.dst c.a c.b c.value c.args (6,1) from ?_);rw[WN (by omega),W3];rfl
 .have N:=neg 111 N;have T:=neg 100 T;have U:=neg 97 U;have X:=neg 98 X;have Y:=neg 110 Y;have h6:(kR c.wide x).1≠6:=by unfold kR;rw[Qt N,Qt T,Qt U,Qt X,Qt Y];split<;>simp
  have hf:qN c.arith c.dst c.a c.b c.value c.args (kR c.wide x).1=c.value:=by unfold kR;rw[Qt N,Qt T,Qt U,Qt X,Qt Y];split<;>rfl
  refine bK L (d_ abt (d_ (y:=l++sQ c.value (kR c.wide x).2) (put_eq c.value hg.1.2 (by omega)) (aG ?_)));unfold nC;rw[Qt h6,hf,K6]
theorem amn{op:Int}{wd:Bool}{args:List Int}(h:VC op i v d t p wd args):Ok (f33 op i v d t p wd args) λy=>y.1=0/\y.2.length=szc op wd args.length:=afS (ahv (c:=dQ.mk op i v d t p wd args) h) ⟨rfl,qO _⟩
theorem as1{op:Int}{wd:Bool}{args:List Int}(h:VC op i v d t p wd args):Ok (f73 op i v d t p wd args) λy=>y.1=0/\y.2.length=szc op wd args.length:=afS (ahx (c:=dQ.mk op i v d t p wd args) h) ⟨rfl,qO _⟩
end
theorem aoV(v:Int):bP (nR v:Int)=bP v:=by rw[oH,wrap_i64,wrap_i64];split<;>split<;>omega
def rdK(ar d a b v:Int)(args:List Int)(k:Nat×Nat):Int:=if k.2=8 then bP (qN ar d a b v args k.1)else qN ar d a b v args k.1
variable{ar:Int}{k:Nat×Nat}
theorem ahy{b:Int}{args:List Int}{wd:Bool}(h:Tj ar i a b t args wd k)(m:k.1≠5):bP ((nR (qN ar i a b t args k.1) % 256 ^ k.2:Nat):Int)=rdK ar i a b t args k:=by
 obtain⟨w,_,q,_⟩:=h;unfold rdK;rcases q with⟨_,j⟩|⟨_,j,y,z⟩|⟨h,_⟩
 .rw [QQ j,j,Kl (akR _),aoV]
 .rw [Qt j];have B:256 ^ k.2<=72057594037927936:=K0 (Nat.pow_le_pow_right (by decide) (show k.2<=7 by omega)) (by decide);have e:nR (qN ar i a b t args k.1)=(qN ar i a b t args k.1).toNat:=by have:=oH (qN ar i a b t args k.1);omega
  rw[e,Kl (by omega),aF (by omega)];omega
 .exact absurd h m
theorem amo{b:Int}{args:List Int}{wd:Bool}(h:Tj ar i a b t args wd k)(m:k.1≠5){data:List Int}(j:At data n (sQ (qN ar i a b t args k.1) k.2))(hd:data.length<=1000000000):
  f67 (k.2:Int) data (n:Int) zv=zw (rdK ar i a b t args k,data,((n+k.2:Nat):Int),zv):=by
 rw[get_eq h.1 j hd,ahy h m];rfl
theorem at_k{b:Int}{args:List Int}{data:List Int}(h:At data n (nC ar i a b t args k)):At data n (sQ (qN ar i a b t args k.1) k.2)/\(k.1=6->At data (n+k.2) (args.flatMap λy=>sQ y 1)):=by unfold nC at h;obtain⟨m,j⟩:=wJ h;refine⟨m,λq=>?_⟩;rw[QQ q,kV]at j;exact j
theorem Tn{data:List Int}{x:Int}{z:List Int}(h:At data n (x::z)):n<data.length/\data.getD n 0=x/\At data (n+1) z:=by obtain⟨j,m⟩:=wJ (a:=[x]) (b:=z) h;have:=j 0 (by simp);simp only[Jn]at this;have q:=(Q3.1 (this.trans rfl)).1;refine⟨q,?_,m⟩;rw[Q1,this];rfl
section
variable {c:dQ}
def z6:F6:=(0,0,0,0,0,[])
def fK(c:dQ)(ks:List (Nat×Nat)):F6:=ks.foldl (Dq c.arith c.dst c.a c.b c.value c.args) z6
theorem abu(h:List (Nat×Nat))(k:Nat×Nat):fK c (h++[k])=Dq c.arith c.dst c.a c.b c.value c.args (fK c h) k:=by unfold fK;rw[List.foldl_append];rfl
abbrev DT:=Int×Int×Int×Int×Int×Int×Bool×List Int×Int×Bool×List Int
def dT(c:dQ)(data:List Int)(p:Nat)(s:F6):DT:=(c.op,s.1,s.2.1,s.2.2.1,s.2.2.2.1,s.2.2.2.2.1,c.wide,data,(p:Int),zv,s.2.2.2.2.2)
theorem amq(h:VCc c):VC c.op c.arith c.dst c.a c.b (vD c) c.wide c.args:=by
 obtain⟨o,w,a3,a4,d,a,b,s,n,v⟩:=h;refine⟨o,w,a3,a4,d,a,b,s,n,?_⟩;unfold vD;split
 .rename_i e;rw[e];rfl
 .exact v
theorem as2(h:VCc c)(hC:Can c){data:List Int}(hd:data.length<=1000000000)(L:At data n (gY c)):
  f36 data (n:Int)=zw (c.op,c.arith,c.dst,c.a,c.b,vD c,c.wide,(Dw c:Int),0,c.args):=by
 have N:=qO c;have Z:VC c.op c.arith c.dst c.a c.b c.value c.wide c.args:=h;have ho:=Z.o;have hn:=Z.n;obtain⟨hl,hL⟩:=Dp c.op;have hA:=Hl c.op;obtain⟨q1,q2,q3,q4⟩:=J3 h;have hpl:=at_len L (by rw[N];unfold Dw szc;omega);obtain⟨hp,hb,L⟩:=Tn L;apply ok_eq;unfold f36;refine bW m_ (bW m_ (bK nZ (bK nZ ?_)));simp only[Q4,hb,q3,q4];refine bG (λy=>y=zv) (d_ (Jb _ _ _) (bW (by simp;omega) (dA (λhw=>?_) λ_=>aG rfl))) λy e=>?_
 .have:=Z.w hw;unfold f66;rw[Jb];refine d_ (y:=zj) ?_ (aG rfl);show zw (decide (13<=c.op)&&decide (c.op<=15))=zw zj;rw[W5 this.1,W5 this.2];rfl
 subst e;refine bW rfl (bK nZ (bG (λy=>y=dT c data (n+Dw c) (fK c (ksM c.op c.wide))) ?_ λy e=>?_))
 rotate_left
 .subst e;have hf:fK c (ksM c.op c.wide)=_:=hC;rw[hf];refine bW rfl (d_ (amk (amq h)) (bW rfl (aG ?_)));show (_,_,_,_,_,_,_,bP (((n+Dw c:Nat):Int)-n),_,_)=_;rw[aF (by omega),show (((n+Dw c:Nat):Int)-n)=Dw c by omega];rfl
 rw[show bP ((n:Int)+1)=((n+1:Nat):Int) from (aF (by omega)).trans rfl];show Ok (bn _ (c.op,(0:Int),(0:Int),(0:Int),(0:Int),(0:Int),c.wide,data,((n+1:Nat):Int),zv,rowOf c.op,(0:Int),([]:List Int))) _;have T:1+((ksM c.op c.wide).flatMap (nC c.arith c.dst c.a c.b c.value c.args)).length=Dw c:=by rw[<-N];unfold gY;rw[Wm];omega
 refine bF (λs:Int×Int×Int×Int×Int×Int×Bool×List Int×Int×Bool×List UInt8×Int×List Int=>∃(i q:Nat) (F:F6),s=(c.op,F.1,F.2.1,F.2.2.1,F.2.2.2.1,F.2.2.2.2.1,c.wide,data,(q:Int),zv,rowOf c.op,(i:Int),F.2.2.2.2.2)/\i<=(rowOf c.op).length/\F=fK c (((rowOf c.op).take i).map (kM c.wide))/\At data q ((((rowOf c.op).drop i).map (kM c.wide)).flatMap (nC c.arith c.dst c.a c.b c.value c.args))/\q+((((rowOf c.op).drop i).map (kM c.wide)).flatMap (nC c.arith c.dst c.a c.b c.value c.args)).length=n+Dw c/\F.2.2.2.2.2.length<=i*250) (λs=>(rowOf c.op).length-s.2.2.2.2.2.2.2.2.2.2.2.1.toNat) ⟨0,n+1,z6,rfl,by omega,rfl,L,by rw[<-T];unfold ksM;rw[List.drop_zero];omega,by simp[z6]⟩ λs ⟨i,q,F,e,h1,h2,h3,h4,h5⟩=>?_;subst e;simp only;rw[Ti];refine dA (λJ=>?_) λJ=>aG ?_
 rotate_left
 .have J:¬ i<(rowOf c.op).length:=by simpa using J
  rw[vR (by omega)]at h4;rw[WN (by omega)]at h2;subst h2;have:q=n+Dw c:=by simpa using h4
  subst this;rfl
 have J:i<(rowOf c.op).length:=by simpa using J
 rw[Hg hA J,yu hA J];have hg:=good h _ (X2 J);have hx:=hL _ (X2 J);obtain⟨x,U⟩ :∃x,(rowOf c.op)[i]=x:=⟨_,rfl⟩;have htk:(rowOf c.op).take (i+1)=(rowOf c.op).take i++[x]:=by rw[take_snoc J,U]
 rw[KB J,U,Qf,Z6]at h3 h4;obtain⟨z,h3⟩:=wJ h3;obtain⟨z,h3b⟩:=at_k z;rw[XS]at h4;simp only[U]at hx hg ⊢;have X:=Ag c.arith c.dst c.a c.b c.value c.args (kM c.wide x);refine bG (λy=>y=dT c data (q+(nC c.arith c.dst c.a c.b c.value c.args (kM c.wide x)).length) (Dq c.arith c.dst c.a c.b c.value c.args F (kM c.wide x))) ?_ λy e=>aG ⟨⟨i+1,q+(nC c.arith c.dst c.a c.b c.value c.args (kM c.wide x)).length,Dq c.arith c.dst c.a c.b c.value c.args F (kM c.wide x),?_,J,?_,h3,by omega,?_⟩,?_⟩
 rotate_left
 .subst e;rfl
 .rw [htk,XX,h2,Qf,Vc,abu]
 .have:(Dq c.arith c.dst c.a c.b c.value c.args F (kM c.wide x)).2.2.2.2.2.length<=F.2.2.2.2.2.length+c.args.length:=by
   unfold Dq
   repeat' split
   all_goals simp
  omega
 .show (rowOf c.op).length-((i:Int)+1).toNat<(rowOf c.op).length-(i:Int).toNat;omega
 have key :∀p:Int,0<=p->decide ((x.toNat:Int)=p)=zj->x.toNat=p.toNat:=λp _ h=>by have:=Zs h;omega
 have neg :∀p:Int,0<=p->decide ((x.toNat:Int)=p)=zv->¬ x.toNat=p.toNat:=λp _ h=>by have:=ZD h;omega
 have B :∀k,kM c.wide x=k->k.1≠6->q+(nC c.arith c.dst c.a c.b c.value c.args (kM c.wide x)).length=q+k.2:=λk m h6=>by rw[X,m,Qt h6];rfl
 have one :∀(k:Nat×Nat) (p:Int),kM c.wide x=k->p=(k.2:Nat)->k.1≠5->f67 p data (q:Int) zv=zw (rdK c.arith c.dst c.a c.b c.value c.args k,data,((q+k.2:Nat):Int),zv):=λk p m hn h5=>by rw[hn];rw[m]at hg z;exact amo hg h5 z hd
 refine dA (λK=>?_) λn1=>bG _ ?_ λy M=>aG M
 .have m:kM c.wide x=(0,1):=by simp[kM,key _ (by omega) K]
  exact d_ (one (0,1) 1 m rfl (by simp)) (aG (by rw[B _ m (by simp),m];rfl))
 refine dA (λK=>?_) λn2=>bG _ ?_ λy M=>aG M
 .have m:kM c.wide x=(1,1):=by simp[kM,key _ (by omega) K]
  exact d_ (one (1,1) 1 m rfl (by simp)) (aG (by rw[B _ m (by simp),m];rfl))
 refine dA (λK=>?_) λn3=>bG _ ?_ λy M=>aG M
 .have m:kM c.wide x=(2,1):=by simp[kM,key _ (by omega) K]
  exact d_ (one (2,1) 1 m rfl (by simp)) (aG (by rw[B _ m (by simp),m];rfl))
 refine dA (λK=>?_) λn4=>bG _ ?_ λy M=>aG M
 .have m:kM c.wide x=(3,1):=by simp[kM,key _ (by omega) K]
  exact d_ (one (3,1) 1 m rfl (by simp)) (aG (by rw[B _ m (by simp),m];rfl))
 refine dA (λK=>?_) λn5=>bG _ ?_ λy M=>aG M
 .have m:kM c.wide x=(5,if c.wide then 4 else 1):=by simp[kM,key _ (by omega) K]
  rw[m]at hg z;have H:if c.wide then -2147483648<=c.value/\c.value<=2147483647 else -128<=c.value/\c.value<=127:=by
   rcases hg.2.2.1 with⟨h,_⟩|⟨h,_⟩|⟨_,_,h⟩
   .simp at h
   .simp at h
   .exact h
  have hq5:(q:Int)+(if c.wide then 4 else 1)=((q+(if c.wide then 4 else 1):Nat):Int):=by cases c.wide<;>simp
  refine d_ ((adJ z hd H).trans (by rw[hq5])) (aG ?_);rw[B _ m (by simp),m];unfold dT;cases c.wide<;>rfl
 refine dA (λK=>?_) λn6=>?_
 .have m:kM c.wide x=(6,1):=by simp[kM,key _ (by omega) K]
  have Y:=h3b (by rw[m]);rw[m]at X Y;have hq6:q+(nC c.arith c.dst c.a c.b c.value c.args (kM c.wide x)).length=q+1+c.args.length:=by rw[m,X];simp;omega
  rw[hq6,m];refine d_ (one (6,1) 1 m rfl (by simp)) ?_;show Ok (Option.bind (bn _ ((0:Int),dT c data (q+1) F)) _) _;refine bG (λy=>y=dT c data (q+1+c.args.length) (Dq c.arith c.dst c.a c.b c.value c.args F (6,1))) ?_ λy e=>aG e;refine bF (λs:Int×DT=>∃j:Nat,s=((j:Int),dT c data (q+1+j) (F.1,F.2.1,F.2.2.1,F.2.2.2.1,F.2.2.2.2.1,F.2.2.2.2.2++c.args.take j))/\j<=c.args.length) (λs=>c.args.length-s.1.toNat) ⟨0,by simp[dT],by omega⟩ λs ⟨j,e,g1⟩=>?_;subst e;refine dA (λH=>?_) λH=>?_
  .have H:j<c.args.length:=by simpa[rdK,qN]using H
   have ha:=NC Y H;have hr:=Z.s _ (X2 H);rw[<-getD_at 0 H]at hr;have hkk:Tj c.arith c.dst (c.args.getD j 0) c.b c.value c.args c.wide (2,1):=⟨by simp,by simp,.inr (.inl ⟨by simp,by simp,(show 0<=c.args.getD j 0 by omega),(show c.args.getD j 0<((256 ^ 1:Nat):Int) by omega)⟩),λh=>by simp at h⟩;refine d_ (amo (k:=(2,1)) hkk (by simp) ha hd) (bK ?_ (aG ⟨⟨j+1,?_,H⟩,?_⟩))
   .unfold aX;simp[dT];omega
   .rw [aF (by omega)];show (_,_)=(_,_);simp only[dT];rw[take_snoc H,<-W3,<-getD_at 0 H];rfl
   .simp only[aF (x:=(j:Int)+1) (by omega)];omega
  .have H:¬ j<c.args.length:=by simpa[rdK,qN]using H
   have:j=c.args.length:=by omega
   subst this;refine aG (show dT c data (q+1+c.args.length) _=_ from ?_);rw[K7];rfl
 .have n1:=neg _ (by omega) n1;have n2:=neg _ (by omega) n2;have n3:=neg _ (by omega) n3;have n4:=neg _ (by omega) n4;have n5:=neg _ (by omega) n5;have n6:=neg _ (by omega) n6;simp only[Int.reduceToNat]at n1 n2 n3 n4 n5 n6;have m:kM c.wide x=(4,x.toNat-48):=by unfold kM;rw[Qt n1,Qt n2,Qt n3,Qt n4,Qt n5,Qt n6]
  have hw:bP (Go.IntKind.wrap .i32 ((x.toNat:Int)-48))=((x.toNat-48:Nat):Int):=by
   unfold IsLetter at hx;have:x.toNat=49\/x.toNat=50\/x.toNat=52\/x.toNat=56:=by omega
   rcases this with e|e|e|e<;>rw[e]<;>rfl
  exact d_ (one (4,x.toNat-48) _ m hw (by simp)) (aG (by rw[B _ m (by simp),m];rfl))
end
end Go.Fg.YtoipcimfapppmaaGreatDoor

