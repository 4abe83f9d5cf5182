/-
  The plain proofs: what the functions compute answers as the law says.
-/
import Derived.Test.YtapemkmlinejmaaGreatDoorLa
set_option linter.unusedSimpArgs false
set_option linter.unusedVariables false
set_option linter.unusedSectionVars false
namespace Go.Fg.YtapemkmlinejmaaGreatDoor
open Go.Fw
noncomputable def GV (bl:List aJ) (od:List Int):Nat->List Int
 |0=>List.replicate bl.length 0
 |i+1=>(GV bl od i).set (od.getD i 0).toNat (st bl od i)
noncomputable def codeOf (fi:List Int) (us:List dw) (j:Nat):iW:=
 iW.mk (us.getD j aQ).gX (us.getD j aQ).eY (us.getD j aQ).gZ (us.getD j aQ).lG (us.getD j aQ).lH (if 0<=(us.getD j aQ).to then dst fi us j else (us.getD j aQ).fU) (us.getD j aQ).dn (us.getD j aQ).fG
noncomputable def oW (fi:List Int) (us:List dw):List iW:=(List.range us.length).map (codeOf fi us)
noncomputable def DF (bl:List aJ) (od:List Int) (us:List dw):List Int:=(List.range bl.length).map fun i=>(Bd us (uY bl od i).length:Int)
theorem Rn.fin {fi:List Int} {us uf:List dw} (h:Rn fi us uf) :∀j,j<uf.length->far fi uf j=false:=by
 induction h with
 |done h=>exact h
 |step _ _ ih=>exact ih
theorem Rn.len {fi:List Int} {us uf:List dw} (h:Rn fi us uf):uf.length=us.length:=by
 induction h with
 |done h=>rfl
 |step _ _ ih=>rw [ih,n_]
theorem Rn.gl {n:Nat} {fi:List Int} {us uf:List dw} (h:Rn fi us uf):GL n us->GL n uf:=by
 induction h with
 |done h=>exact id
 |step _ _ ih=>exact fun hg=>ih (P9 hg)
section
variable {bl:List aJ} {od:List Int} {nm:List UInt8} {pa re:Int}
theorem KC (h:FO bl) (ho:Ord bl.length od) :∀i,i<=bl.length->FI bl.length (uY bl od bl.length).length (GV bl od i)
 |0,_=>⟨by simp [GV],fun x hx=>by have:=KB hx;subst this;omega⟩
 |i+1,hi=>by
  obtain ⟨h1,h2⟩:=KC h ho i (by omega);refine ⟨by simp [GV,h1],fun x hx => ?_⟩;rcases Kn hx with hx | hx
  .exact h2 x hx
  .subst hx;have:=Dz bl od (bl.length-i) i;rw [show i+(bl.length-i)=bl.length by omega] at this;unfold st;omega
theorem yS (h:FO bl) (ho:Ord bl.length od):GL bl.length (uY bl od bl.length):=
 ⟨by have:=Ia h ho bl.length (Z1 _);have:=h.len;omega,aeJ h ho bl.length (Z1 _)⟩
theorem P_ {n:Nat} {us:List dw} {fi:List Int} (h:GL n us) (j:Nat):-603000000<=dst fi us j/\dst fi us j<=603000000:=by
 unfold dst;have:=Bf h (fi.getD (us.getD j aQ).to.toNat 0).toNat;have:=Bf h (j+1);omega
theorem ET (h:FO bl) (ho:Ord bl.length od):Ok (f9 nm pa re bl od) fun y =>∃uf,Rn (GV bl od bl.length) (uY bl od bl.length) uf/\y=(0,oW (GV bl od bl.length) uf,DF bl od uf):=by
 have hlen:=h.len;have hol:=ho.len;have hG:=yS h ho;unfold f9;refine bC _ (NG (by omega) hlen.1 (by omega)) fun y hy=>b_ (by rw [hy.2 ho];rfl) (fA (aeK h ho) (bT (qQ.2 (by omega)) ?_));refine bC (fun y=>y=GV bl od bl.length) ?_ fun fi e => ?_
 .refine bJ (fun s:Int×List Int =>∃i:Nat,s=((i:Int),GV bl od i)/\i<=bl.length) (fun s=>bl.length-s.1.toNat) ⟨0,by simp [GV],by omega⟩ fun s ⟨i,e,hi⟩ => ?_;subst e;refine dG (fun hc => ?_) fun hc => ?_
  rotate_left
  .have hc:¬ i<od.length:=by simpa using hc
   have:i=bl.length:=by omega
   subst this;exact aF rfl
  have hc:i<od.length:=by simpa using hc
  have ha:=ho.at (i:=i) (by omega);have hf:=(KC h ho i hi).at ha;refine bT (aG.2 (by simp only;omega)) (bT (aG.2 (by simp;omega)) (bT hf.1 (aF ⟨⟨i+1,?_,by omega⟩,?_⟩)))
  .rw [aH (by omega)];simp only [Q6];rw [getD_at (l:=(List.range bl.length).map (st bl od)) _ (by simp;omega)];simp only [Ke,List.getElem_range];rfl
  .simp only [aH (x:=(i:Int)+1) (by omega)];omega
 have hF:=KC h ho bl.length (Z1 _);rw [<-e] at hF ⊢;generalize huT:uY bl od bl.length=u0 at *;refine fA (Uk hG) (bC (fun y =>∃uf,Rn fi u0 uf/\y=(uf,WB uf)) ?_ fun y ⟨uf,hR,e⟩ => ?_)
 .refine bJ (fun s:List dw×List Int =>∃us,s=(us,WB us)/\GL bl.length us/\us.length=u0.length/\∀uf,Rn fi us uf->Rn fi u0 uf) (fun s=>cnt s.1) ⟨u0,rfl,hG,rfl,fun _ h=>h⟩ fun s ⟨us,e,hg,Io,hR⟩ => ?_;subst e;have hu6:=hg.1;refine bC (fun y=>y=((List.range us.length).any (far fi us),Ls fi us)) ?_ fun y e => ?_
  .refine bJ (fun s:Bool×Int×List dw =>∃(j:Nat) (arr:List dw),s=((List.range j).any (far fi us),(j:Int),arr)/\j<=us.length/\arr.length=us.length/\(∀k,k<j->arr.getD k aQ=(Ls fi us).getD k aQ)/\∀k,j<=k->k<us.length->arr.getD k aQ=us.getD k aQ) (fun s=>us.length-s.2.1.toNat)
    ⟨0,us,rfl,by omega,rfl,fun k hk=>absurd hk (qv _),fun _ _ _=>rfl⟩ fun s ⟨j,arr,e,h1,h2,h3,h4⟩ => ?_
   subst e;refine dG (fun hc => ?_) fun hc => ?_
   rotate_left
   .have hc:¬ j<us.length:=by simpa using hc
    have:j=us.length:=by omega
    subst this;have:arr=Ls fi us:=by
     refine Kd (by rw [h2,n_]) fun k k1 k2 => ?_;have:=h3 k (by omega)
     rwa [getD_at _ k1,getD_at _ k2] at this
    subst this;exact aF rfl
   have hc:j<us.length:=by simpa using hc
   have hu:=h4 j (Z1 _) hc;have hgu:=hg.at hc;have aeL:far fi us j=(decide (0<=(us.getD j aQ).to)&&!(us.getD j aQ).dn&&(decide (dst fi us j < -128)||decide (127<dst fi us j))):=rfl;have hd:=P_ (fi:=fi) hg j;have hde:dst fi us j=(Bd us (fi.getD (us.getD j aQ).to.toNat 0).toNat:Int)-(Bd us (j+1):Int):=rfl;refine bC (fun y=>y=((List.range j).any (far fi us)||far fi us j,if far fi us j=true then arr.set j (wid (us.getD j aQ)) else arr)) ?_ fun y e => ?_
   .refine bT (aG.2 (by simp only;omega)) ?_;simp only [Q6,hu];generalize us.getD j aQ=u at *;refine bC (fun y=>y=(decide (u.to<0)||u.dn)) (dG (fun hc=>aF ?_) fun hc=>aF ?_) fun y e => ?_
    .rw [hc];rfl
    .rw [hc];rfl
    subst e;refine dG (fun hs => ?_) fun hs => ?_
    .have hf:far fi us j=false:=by
      rw [aeL];simp only [Jx,decide_eq_true_eq] at hs;rcases hs with hs | hs
      .rw [decide_eq_false (by omega)];rfl
      .rw [hs];simp
     rw [hf];exact aF (by simp)
    simp only [VV,decide_eq_false_iff_not] at hs;obtain ⟨hs1,hs2⟩:=hs;have hto:0<=u.to:=by omega
    obtain ⟨f1,f2,f3⟩:=hF.at ⟨hto,hgu.t⟩;have NH:far fi us j=(decide (dst fi us j < -128)||decide (127<dst fi us j)):=by rw [aeL,decide_eq_true hto,hs2];rfl
    refine bT f1 (bT (aG.2 (by rw [nZ];omega)) (bT (aG.2 (by rw [nZ,aH (by omega)];omega)) ?_));have hd2:dJ ((WB us).getD (fi.getD u.to.toNat 0).toNat 0-(WB us).getD (dJ ((j:Int)+1)).toNat 0)=dst fi us j:=by
     rw [aH (x:=(j:Int)+1) (by omega),show ((j:Int)+1).toNat=j+1 by omega,tH (by omega),tH (by omega),<-hde];exact aH (by omega)
    simp only [hd2];refine bC (fun y=>y=far fi us j) (dG (fun hc=>aF ?_) fun hc=>aF ?_) fun y e => ?_
    .rw [NH,hc];rfl
    .rw [NH,hc,J0];exact decide_eq_decide.2 (by omega)
    subst e;refine bC _ (dG (fun hf=>bT (aG.2 (by omega)) (aF ?_)) fun hf=>aF ?_) fun y hy=>aF hy
    .rw [hf,if_pos rfl,Bool.or_true];rfl
    .rw [hf,if_neg (by simp),vj]
   .subst e;refine aF ⟨⟨j+1,if far fi us j=true then arr.set j (wid (us.getD j aQ)) else arr,?_,hc,?_,fun k hk => ?_,fun k hk hk2 => ?_⟩,?_⟩
    .simp only;rw [aH (by omega),JS,List.any_append,List.any_cons,List.any_nil,vj];rfl
    .split
     .rw [UB,h2]
     .exact h2
    .by_cases e:k=j
     .subst e;rw [Bg hc];split
      .rw [jg (by omega),if_pos rfl]
      .exact hu
     .rw [<-h3 k (by omega)];split
      .rw [jg (by omega),if_neg e]
      .rfl
    .rw [<-h4 k (by omega) hk2];split
     .rw [jg (by omega),if_neg (by omega)]
     .rfl
    .simp only [aH (x:=(j:Int)+1) (by omega)];omega
  .subst e;refine dG (fun hc=>aF ?_) fun hc => ?_
   .have hn :∀j,j<us.length->far fi us j=false:=fun j hj=>by
     simp only [Wf,List.any_eq_false,Wz] at hc;simpa using hc j hj
    exact ⟨us,hR us (.done hn),by rw [DC hn]⟩
   .have hex :∃j,j<us.length/\far fi us j=true:=by
     simp only [qb,Kb,Wz] at hc;exact hc
    exact fA (Uk (P9 hg)) (aF ⟨⟨Ls fi us,rfl,P9 hg,by rw [n_,Io],fun uf hr=>hR uf (.step hex hr)⟩,YV hex⟩)
 subst e;have hg:=hR.gl hG;have Io:=hR.len;have hg6:=hg.1;refine bC (fun y=>y=oW fi uf) ?_ fun y e => ?_
 .refine bJ (fun s:Int×List iW =>∃j:Nat,s=((j:Int),(List.range j).map (codeOf fi uf))/\j<=uf.length) (fun s=>uf.length-s.1.toNat) ⟨0,rfl,by omega⟩ fun s ⟨j,e,hj⟩ => ?_;subst e;refine dG (fun hc => ?_) fun hc => ?_
  rotate_left
  .have hc:¬ j<uf.length:=by simpa using hc
   have:j=uf.length:=by omega
   subst this;exact aF rfl
  have hc:j<uf.length:=by simpa using hc
  have hd:=P_ (fi:=fi) hg j;have hgu:=hg.at hc;have hde:dst fi uf j=(Bd uf (fi.getD (uf.getD j aQ).to.toNat 0).toNat:Int)-(Bd uf (j+1):Int):=rfl;have hco:codeOf fi uf j=iW.mk (uf.getD j aQ).gX (uf.getD j aQ).eY (uf.getD j aQ).gZ (uf.getD j aQ).lG (uf.getD j aQ).lH (if 0<=(uf.getD j aQ).to then dst fi uf j else (uf.getD j aQ).fU) (uf.getD j aQ).dn (uf.getD j aQ).fG:=rfl;refine bT (aG.2 (by simp only;omega)) ?_;simp only [Q6];obtain ⟨u,hue⟩ :∃u,uf.getD j aQ=u:=⟨_,rfl⟩;simp only [hue] at hgu hde hco ⊢;refine bC (fun y=>y=(u.gX,u.eY,u.gZ,u.lG,u.lH,(if 0<=u.to then dst fi uf j else u.fU),u.dn,u.fG,u.to)) (dG (fun ht => ?_) fun ht=>aF ?_) fun y e => ?_
  .have ht:0<=u.to:=of_decide_eq_true ht;obtain ⟨f1,f2,f3⟩:=hF.at ⟨ht,hgu.t⟩;refine bT f1 (bT (aG.2 (by rw [nZ];omega)) (bT (aG.2 (by rw [nZ,aH (by omega)];omega)) (aF ?_)));rw [aH (x:=(j:Int)+1) (by omega),show ((j:Int)+1).toNat=j+1 by omega,tH (by omega),tH (by omega),<-hde,aH (by omega),if_pos ht]
  .rw [if_neg (of_decide_eq_false ht)]
  subst e;refine bT (by unfold aX;simp;omega) (aF ⟨⟨j+1,?_,hc⟩,?_⟩)
  .rw [aH (by omega),JS,Xs,Qf,Vn,hco];rfl
  .simp only [aH (x:=(j:Int)+1) (by omega)];omega
 subst e;refine bC (fun y=>y=DF bl od uf) ?_ fun y e=>by subst e;exact aF ⟨uf,hR,rfl⟩
 refine bJ (fun s:Int×List Int =>∃i:Nat,s=((i:Int),(List.range i).map fun i=>(Bd uf (uY bl od i).length:Int))/\i<=bl.length) (fun s=>bl.length-s.1.toNat) ⟨0,rfl,by omega⟩ fun s ⟨i,e,hi⟩ => ?_;subst e;refine dG (fun hc => ?_) fun hc => ?_
 rotate_left
 .have hc:¬ i<bl.length:=by simpa using hc
  have:i=bl.length:=by omega
  subst this;exact aF rfl
 have hc:i<bl.length:=by simpa using hc
 have hm:=Dz bl od (bl.length-i) i;rw [show i+(bl.length-i)=bl.length by omega,huT] at hm;have hs:((List.range bl.length).map (st bl od)).getD i 0=((uY bl od i).length:Int):=by rw [getD_at _ (by simpa using hc)];simp [st]
 refine bT (aG.2 (by simp;omega)) ?_;simp only [Q6,hs];refine bT (aG.2 (by rw [nZ];omega)) (bT (by unfold aX;simp;omega) (aF ⟨⟨i+1,?_,hc⟩,?_⟩))
 .rw [aH (by omega),JS,Xs,Qf,Vn,tH (by omega)];rfl
 .simp only [aH (x:=(i:Int)+1) (by omega)];omega
end
def MI (i:dA):Prop :=∃d a:Int,(0<=d/\d<2)/\(0<=a/\a<2)/\i=dA.mk 2 0 d a 0 0 eInt
theorem aoC {k:Nat} :∀{bl:List aJ},(∀b∈bl,b.instrs.length<=k)->zu bl<=(k+1)*bl.length
 | [],_=>by simp [zu]
 |b::bl,h=>by
  have:=aoC (k:=k) (bl:=bl) fun x hx=>h x (VM _ hx);have:=h b Kg;unfold zu at *;simp only [Qf,K9,Wg,Nat.mul_add,Nat.mul_one];omega
theorem ahr {l:List Int} {i:Int} (hb:Bytes l) (hi:0<=i):Ok (f24 l i) fun y=>FO y.2.2.2.2.2/\y.2.2.2.1=l/\0<=y.2.2.2.2.1:=by
 unfold f24;refine goN hb hi (by omega) fun x0 j0 h0 a0 b0 => ?_;have b0:=b0 (by omega);obtain ⟨N,hN⟩ :∃N:Nat,2+x0=N:=⟨(2+x0).toNat,by omega⟩;have hw:dJ (2+x0)=N:=(aH (by omega)).trans hN;simp only [hw];refine bC (fun s=>s.1=l/\0<=s.2.1/\s.2.2.2.2.2.length=N/\∀b∈s.2.2.2.2.2,(b.bG=1\/b.bG=2\/b.bG=3)/\b.j_=0/\(0<=b.fB/\b.fB<N)/\(0<=b.bV/\b.bV<N)/\b.instrs.length<=47/\∀i∈b.instrs,MI i) ?_ fun s ⟨e1,e2,e3,e4⟩ => ?_
 .refine bJ (fun s:Int×List Int×Int×List UInt8×Int×Int×List aJ=>s.2.1=l/\0<=s.2.2.1/\s.1=s.2.2.2.2.2.2.length/\s.2.2.2.2.2.2.length<=N/\∀b∈s.2.2.2.2.2.2,(b.bG=1\/b.bG=2\/b.bG=3)/\b.j_=0/\(0<=b.fB/\b.fB<N)/\(0<=b.bV/\b.bV<N)/\b.instrs.length<=47/\∀i∈b.instrs,MI i) (fun s=>(N-s.1).toNat)
   ⟨rfl,h0,rfl,by simp,fun b h=>by cases h⟩ fun ⟨q,l',j,z1,z2,z3,bl⟩ ⟨e1,e2,e3,e4,e5⟩ => ?_
  simp only at e1 e2 e3 e4 e5;subst e1;subst e3;refine dG (fun hc => ?_) fun hc=>aF ⟨rfl,e2,by have:=of_decide_eq_false hc;simp only at this ⊢;omega,e5⟩;have hc:(bl.length:Int)<N:=of_decide_eq_true hc;refine goN hb e2 (by omega) fun x1 j1 h1 a1 b1=>bT (aG.2 ⟨a1,by have:=b1 (by omega);simp;omega⟩) (goN hb h1 (by omega) fun x2 j2 h2 a2 b2=>goN hb h2 (by omega) fun x3 j3 h3 a3 b3=>goN hb h3 (by omega) fun x4 j4 h4 a4 b4 => ?_);have b4:=b4 (by omega);refine bC (fun s=>s.1=l'/\0<=s.2.1/\∃is:List dA,s.2.2=(List.getD [(2:Int),1,3] x1.toNat 0,0,x2,x3,0,0,0,is)/\is.length<=47/\∀i∈is,MI i) ?_ fun s ⟨k1,k2,is,k3,k4,k5⟩ => ?_
  .refine bJ (fun s:Int×List Int×Int×Int×Int×Int×Int×Int×Int×Int×List dA =>∃(c j:Int) (is:List dA),s=(c,l',j,List.getD [(2:Int),1,3] x1.toNat 0,0,x2,x3,0,0,0,is)/\0<=j/\0<=c/\(is.length:Int)+c<=47/\∀i∈is,MI i) (fun s=>s.1.toNat) ⟨x4,j4,[],rfl,h4,a4,by simp only [Jn];omega,fun i h=>by cases h⟩ fun s ⟨c,j,is,e,g1,g2,g3,g4⟩ => ?_;subst e;refine dG (fun hc => ?_) fun hc=>aF ⟨rfl,g1,is,rfl,by omega,g4⟩;have hc:0<c:=of_decide_eq_true hc;refine goN hb g1 (by omega) fun x5 j5 h5 a5 b5=>goN hb h5 (by omega) fun x6 j6 h6 a6 b6=>bT (by unfold aX;simp;omega) (aF ⟨⟨c-1,j6,is++[dA.mk 2 0 x5 x6 0 0 eInt],?_,h6,by omega,?_,fun i hi => ?_⟩,?_⟩)
   .rw [aH (by omega)]
   .rw [Ys,Zs];omega
   .rcases X2.1 hi with h | h
    .exact g4 i h
    .rw [QP] at h;exact ⟨x5,x6,⟨a5,b5 (by omega)⟩,⟨a6,b6 (by omega)⟩,h⟩
   .simp only [aH (x:=c-1) (by omega)];omega
  obtain ⟨s1,s2,s3⟩:=s;simp only at k1 k2 k3;subst k1;subst k3;refine bT (by unfold aX;simp;omega) (aF ⟨⟨rfl,k2,?_,?_,fun b hb' => ?_⟩,?_⟩)
  .simp only [aH (x:=(bl.length:Int)+1) (by omega)];simp
  .simp;omega
  .rcases X2.1 hb' with h | h
   .exact e5 b h
   .rw [QP] at h;subst h;refine ⟨?_,rfl,⟨a2,b2 (by omega)⟩,⟨a3,b3 (by omega)⟩,k4,k5⟩;have:=b1 (by omega);have:x1=0\/x1=1\/x1=2:=by omega
    rcases this with e | e | e<;>subst e<;>simp
  .simp only [aH (x:=(bl.length:Int)+1) (by omega)];omega
 obtain ⟨s1,s2,s3,s4,s5,bs⟩:=s;simp only at e1 e2 e3 e4;subst e1;have hat :∀b,b<bs.length->bs.getD b ah∈bs:=fun b hb=>by rw [getD_at _ hb];exact QR _
 have hE:wU bs:=⟨fun b hb=>have h:=e4 _ (hat b hb);⟨fun _=>e3▸h.2.2.1,fun _=>e3▸h.2.2.2.1⟩,fun b hb=>(e4 _ (hat b hb)).1⟩;refine bC _ (Kw hE (by omega) (by omega)) fun ⟨c1,c2,c3,c4⟩ ⟨p1,p2,p3,p4,p5,p6,p7,p8⟩=>aF ⟨?_,rfl,e2⟩;simp only at p4 p5 p6 p8;have hk :∀b∈c4,b.instrs.length<=47/\(∀i∈b.instrs,MI i)/\b.j_=0:=fun b hb=>by
  obtain ⟨t,ht,q1,q2,q3⟩:=p8 b hb;have:=e4 t ht;rw [q1,q3];exact ⟨this.2.2.2.2.1,this.2.2.2.2.2,this.2.1⟩
 have hwt:=aoC (k:=47) fun b hb=>(hk b hb).1;refine ⟨⟨p4,by simp only;omega⟩,by simp only;omega,fun b hb i hi => ?_,p6,fun b hb _ => ?_⟩
 .obtain ⟨d,a,hd,ha,e⟩:=(hk b hb).2.1 i hi;subst e;exact YU (g:=[]) (sg:=[]) (cl:=0) (re:=2) (.move hd ha (by simp)) (by simp) (by simp) (by omega) (by omega)
 .have:=(hk (c4.getD b ah) (by rw [getD_at _ hb];exact QR _)).2.2;simp only;rw [this];omega
theorem aeM {l:List Int} {i:Int} (hb:Bytes l) (hi:0<=i):Ok (f8 l i) fun y=>FO y.2.2.2.1/\y.2.2.2.2.1=l/\0<=y.2.2.2.2.2.1/\Ord y.2.2.2.1.length y.2.2.2.2.2.2:=by
 unfold f8;refine bC _ (ahr hb hi) fun ⟨c1,c2,c3,c4,c5,c6⟩ ⟨h1,h2,h3⟩ => ?_;simp only at h1 h2 h3;subst h2;refine goN hb h3 (by omega) fun x j hj _ _=>bC (fun y=>FO y.2.2.2.2.2/\y.1=c4/\0<=y.2.1) (dG (fun _ => ?_) fun _=>aF ⟨h1,rfl,hj⟩) fun y ⟨q1,q2,q3⟩ => ?_
 .refine bC _ (ahn hb hj) fun ⟨d1,d2,d3,d4,d5,d6⟩ ⟨⟨sg,hR⟩,_,e2,e3⟩ => ?_;simp only at hR e2 e3;subst e2;have h0:=hR.f0;have h6:=hR.f1;have hl:=hR.sgl;have hc:=hR.cll;refine goN hb e3 (by simp only;omega) fun x2 j2 hj2 a2 b2 => ?_;have b2:=b2 (by simp only;omega);refine bT (aG.2 ⟨a2,b2⟩) (aF ⟨?_,rfl,hj2⟩);simp only at b2;have hm:d1.getD x2.toNat aC∈d1:=aeu _ a2 b2;exact (hR.rt _ hm).fo hR.gl (by omega) (by omega)
 .obtain ⟨y1,y2,y3,y4,y5,y6⟩:=y;simp only at q1 q2 q3;subst q2;have hl:=q1.len;exact bC _ (WA hb q3 (by simp only;omega) hl.1) fun z ⟨z1,z2,z3⟩=>aF ⟨q1,z1,z2,z3⟩
theorem aeN:f6=some true:=by
 apply ok_eq;unfold f6;have hF:FO [(aJ.mk nX 1 0 1 0 0 0 0),(aJ.mk nX 3 0 0 0 0 0 0)]:=by
  refine ⟨by simp,by simp [zu],fun b hb i hi => ?_,⟨fun b hb => ?_,fun b hb => ?_⟩,fun b hb _ => ?_⟩
  .rcases QQ.1 hb with e | e
   .subst e;cases hi
   .rw [QP] at e;subst e;cases hi
  all_goals
   have:b=0\/b=1:=by simp at hb;omega
   rcases this with e | e<;>subst e<;>simp
 have hO:Ord ([(aJ.mk nX 1 0 1 0 0 0 0),(aJ.mk nX 3 0 0 0 0 0 0)]:List aJ).length [(0:Int),1]:=⟨List.Perm.refl _,rfl,by simp⟩;refine bC _ (ET hF hO) fun y ⟨uf,hR,e⟩ => ?_;have hu:uY [(aJ.mk nX 1 0 1 0 0 0 0),(aJ.mk nX 3 0 0 0 0 0 0)] [(0:Int),1] 2=[jU 16 0 (-1)]:=by simp [uY,Uj,Lr,nxt]
 have hd:uf=[jU 16 0 (-1)]:=by
  refine Rn.det hR ?_;show Rn _ (uY _ _ 2) _;rw [hu];refine .done fun j hj => ?_;have:j=0:=by simp at hj;omega
  subst this;rfl
 subst e;subst hd;exact bC (fun y=>y=true) (goT rfl (goT rfl (bT rfl (goT rfl (aF rfl))))) fun y e=>aF e
def iV (v:Int) (u:dw):fO:=fO.mk u.gX u.eY u.gZ u.lG u.lH v u.dn u.fG u.to
def iU (u:dw):fO:=iV u.fU u
theorem aaU {k a t e n:Int}:f29 k a t e n=some ((Lr k a t e n).map iU):=by
 apply ok_eq;unfold f29 Lr;refine dG (fun h => ?_) fun h => ?_
 .rw [if_pos (of_decide_eq_true h)];exact aF rfl
 rw [if_neg (of_decide_eq_false h)];refine bC (fun y=>y=decide (k=1\/t=e)) (dG (fun h=>aF ?_) fun h=>aF ?_) fun y hy => ?_
 .exact (decide_eq_true (.inl (of_decide_eq_true h))).symm
 .exact decide_eq_decide.2 (by have:=of_decide_eq_false h;simp [this])
 subst hy;refine dG (fun h => ?_) fun h => ?_
 .rw [if_pos (of_decide_eq_true h)];refine dG (fun h => ?_) fun h => ?_
  .rw [if_pos (of_decide_eq_true h)];exact aF rfl
  .rw [if_neg (of_decide_eq_false h)];exact aF rfl
 rw [if_neg (of_decide_eq_false h)];refine dG (fun h => ?_) fun h => ?_
 .rw [if_pos (of_decide_eq_true h)];exact aF rfl
 rw [if_neg (of_decide_eq_false h)];refine dG (fun h => ?_) fun h => ?_
 .rw [if_pos (of_decide_eq_true h)];exact aF rfl
 .rw [if_neg (of_decide_eq_false h)];exact aF rfl
theorem EU :∀(n:Nat) (l:List Int),l.Nodup->(∀x∈l,0<=x/\x<n)->l.length<=n
 |0,l,_,h=>by
  cases l with
  |nil=>simp
  |cons a l=>have:=h a Kg;omega
 |n+1,l,hn,h=>by
  by_cases hm:(n:Int)∈l
  .have hp:=List.perm_cons_erase hm;have h2:=EU n (l.erase n) (hn.erase _) fun x hx=>by
    have h3:=h x (List.mem_of_mem_erase hx);have:x≠n:=fun e=>by subst e;exact hn.not_mem_erase hx
    omega
   have:=hp.length_eq;rw [Wg] at this;omega
  .have:=EU n l hn fun x hx=>by
    have h3:=h x hx;have:x≠n:=fun e=>hm (e▸hx);omega
   omega
theorem Ul :∀(n:Nat) (l:List Int),l.Nodup->(∀x∈l,0<=x/\x<n)->l.length=n->l.Perm (nat n)
 |0,l,_,_,h=>by rw [Wb] at h;subst h;exact List.Perm.refl _
 |n+1,l,hn,h,hl=>by
  by_cases hm:(n:Int)∈l
  .have hp:=List.perm_cons_erase hm;have hlen:=hp.length_eq;rw [Wg] at hlen;have h2:=Ul n (l.erase n) (hn.erase _) (fun x hx=>by
    have h3:=h x (List.mem_of_mem_erase hx);have:x≠n:=fun e=>by subst e;exact hn.not_mem_erase hx
    omega) (by omega)
   rw [Uh];exact hp.trans ((h2.cons _).trans (List.perm_append_singleton _ _).symm)
  .have:=EU n l hn fun x hx=>by
    have h3:=h x hx;have:x≠n:=fun e=>hm (e▸hx);omega
   omega
section
variable {bl:List aJ} {od:List Int} {nm:List UInt8} {pa re:Int}
theorem NI (h0:0<bl.length) (hl:od.length<=1000000):Ok (f20 nm pa re bl od) fun y=>y=true↔Ord bl.length od:=by
 unfold f20;refine bC (fun y=>y=true↔od.length≠bl.length\/od.length=0\/od.getD 0 0≠0) (dG (fun hc=>aF ?_) fun hc=>dG (fun h2=>aF ?_) fun h2 => ?_) fun y hy=>dG (fun hc=>aF ?_) fun hc => ?_
 .have:¬ od.length=bl.length:=by simp at hc;omega
  exact ⟨fun _=>.inl this,fun _=>rfl⟩
 .have:od.length=0:=by simpa using h2
  exact ⟨fun _=>.inr (.inl this),fun _=>rfl⟩
 .have h1:od.length=bl.length:=by simp at hc;omega
  have h2:¬ od.length=0:=by simpa using h2
  refine bT (aG.2 (by omega)) (aF ?_);simp only [vb,Wf,decide_eq_false_iff_not];exact ⟨fun h=>.inr (.inr h),fun h=>(h.resolve_left (fun e=>e h1)).resolve_left h2⟩
 .refine ⟨(fun h=>by cases h),fun ho => ?_⟩;rcases hy.1 hc with e | e | e
  .exact absurd ho.len e
  .have:=ho.len;omega
  .exact absurd ho.zero e
 have hn:¬ (od.length≠bl.length\/od.length=0\/od.getD 0 0≠0):=fun h=>by rw [hy.2 h] at hc;cases hc
 have e1:od.length=bl.length:=qz fun h=>hn (.inl h);have e2:od.getD 0 0=0:=qz fun h=>hn (.inr (.inr h));refine bT (qQ.2 (by omega)) (iF (fun _=>Ord bl.length od) ?_ fun _ ho=>aF ⟨fun _=>ho,fun _=>rfl⟩);refine bJ (fun s:Int×List Bool =>∃i:Nat,s.1=i/\i<=od.length/\s.2.length=bl.length/\(∀x∈od.take i,0<=x/\x<bl.length)/\(od.take i).Nodup/\∀x,x<bl.length->(s.2.getD x false=true↔(x:Int)∈od.take i)) (fun s=>od.length-s.1.toNat)
  ⟨0,rfl,by omega,by simp;omega,(fun x hx=>by simp at hx),by simp,fun x hx=>by rw [getD_at _ (by rw [UP];omega)];simp⟩ fun ⟨i',sn⟩ ⟨i,q1,q2,q3,q4,q5,q6⟩ => ?_
 simp only at q1 q3 q4 q5 q6;subst q1;refine dG (fun hc => ?_) fun hc=>aF ?_
 rotate_left
 .have hc:¬ i<od.length:=by simpa using hc
  rw [Kf (by omega)] at q4 q5;exact ⟨Ul _ _ q5 q4 e1,e2,h0⟩
 have hc:i<od.length:=by simpa using hc
 have hin:=aG.2 (show 0<=(i:Int)/\(i:Int)<od.length by omega);have htk:od.take (i+1)=od.take i++[od.getD i 0]:=by rw [take_snoc hc,getD_at _ hc]
 have hmem:od.getD i 0∈od:=by rw [getD_at _ hc];exact QR _
 obtain ⟨x,hx⟩ :∃x,od.getD i 0=x:=⟨_,rfl⟩;rw [hx] at htk hmem;refine bC (fun y=>(y=true->¬ Ord bl.length od)/\(y=false->(0<=x/\x<bl.length)/\sn.getD x.toNat false=false)) ?_ fun y ⟨y1,y2⟩=>dG (fun hy=>aF ⟨(fun h=>by cases h),fun ho=>absurd ho (y1 hy)⟩) fun hy => ?_
 .refine bT hin ?_;simp only [Q6,hx];refine dG (fun h=>aF ⟨fun _ ho => ?_,fun h=>by cases h⟩) fun h=>bT hin (dG (fun h2=>aF ⟨fun _ ho => ?_,fun h=>by cases h⟩) fun h2=>bT hin ?_)
  .have:=ho.mem.1 hmem;have:=of_decide_eq_true h;omega
  .have:=ho.mem.1 hmem;have:=of_decide_eq_true h2;omega
  .have h:=of_decide_eq_false h;have h2:=of_decide_eq_false h2;refine bT (aG.2 (by omega)) (aF ⟨fun hs ho => ?_,fun hs=>⟨by omega,hs⟩⟩);have h6:=(q6 x.toNat (by omega)).1 hs;rw [UX (by omega)] at h6;have hnd:od.Nodup:=ho.perm.nodup_iff.2 (by unfold nat;exact List.pairwise_map.2 (List.pairwise_lt_range.imp fun h=>by simp;omega));have:(od.take (i+1)).Nodup:=hnd.sublist (List.take_sublist _ _);rw [htk,List.nodup_append] at this;exact this.2.2 x h6 x (by simp) rfl
 .obtain ⟨⟨x0,x1⟩,hs⟩:=y2 hy;refine bT hin ?_;simp only [Q6,hx];have hnx:x∉od.take i:=fun h=>by
   have:=(q6 x.toNat (by omega)).2 (by rw [UX x0];exact h);rw [hs] at this;cases this
  refine bT (aG.2 (by omega)) (aF ⟨⟨i+1,?_,hc,by simpa using q3,fun z hz => ?_,?_,fun z hz => ?_⟩,?_⟩)
  .rw [aH (by omega)];rfl
  .rw [htk] at hz;rcases X2.1 hz with h | h
   .exact q4 z h
   .rw [QP] at h;omega
  .rw [htk,List.nodup_append];exact ⟨q5,by simp,fun a ha b hb=>by rw [QP] at hb;subst hb;exact fun e=>hnx (e▸ha)⟩
  .rw [jg (by omega),htk,X2,QP];split
   .rename_i e;exact ⟨fun _=>.inr (by omega),fun _=>rfl⟩
   .rename_i e;rw [q6 z hz];exact ⟨.inl,fun h=>h.resolve_right fun h=>e (by omega)⟩
  .simp only [aH (x:=(i:Int)+1) (by omega)];omega
end
theorem w1 {i n:Nat} (h:i<n) (hn:n<=4000000000):dJ ((i:Int)+1)=((i+1:Nat):Int):=by rw [aH (by omega)];rfl
theorem ahs {n j:Nat} {us:List dw} {fi:List Int} (hg:GL n us) (hj:j<us.length) (hf:far fi us j=false):VC (codeOf fi us j).op (codeOf fi us j).arith (codeOf fi us j).dst (codeOf fi us j).a (codeOf fi us j).b (codeOf fi us j).value (codeOf fi us j).wide (codeOf fi us j).args:=by
 have hu:=hg.at hj;have hd:=P_ (fi:=fi) hg j;unfold far at hf;unfold codeOf;obtain ⟨u,e⟩ :∃u,us.getD j aQ=u:=⟨_,rfl⟩;simp only [e] at hu hf ⊢;obtain ⟨o,w,a3,a4,d,a,b,s,n,v⟩:=hu.c;refine ⟨o,w,a3,a4,d,a,b,s,n,?_⟩;split
 .rename_i ht;have hop:=hu.j.1 ht;rw [decide_eq_true ht] at hf;unfold uV;rw [if_neg (by omega),if_neg (by omega),if_neg (by omega),if_neg (by omega),if_pos hop];cases hw:u.dn with
  |true=>simp;omega
  |false=>rw [hw] at hf;simp at hf ⊢;omega
 .exact v
section
variable {bl:List aJ} {od:List Int} {nm:List UInt8} {pa re:Int}
theorem aeO (h:Ord bl.length od) {k:Nat} :∀{i:Nat},i<=bl.length->k<i->(GV bl od i).getD (od.getD k 0).toNat 0=st bl od k
 |0,_,hk=>absurd hk (qv _)
 |i+1,hi,hk=>by
  have hl:=h.len;have hnd:od.Nodup:=h.perm.nodup_iff.2 (by unfold nat;exact List.pairwise_map.2 (List.pairwise_lt_range.imp fun h=>by simp;omega));have ai:=h.at (i:=i) (by omega);have ak:=h.at (i:=k) (by omega);have hfl :∀i,(GV bl od i).length=bl.length:=fun i=>by
   induction i with
   |zero=>simp [GV]
   |succ i ih=>simp [GV,ih]
  show ((GV bl od i).set _ _).getD _ 0=_;rw [jg (by rw [hfl];omega)];by_cases e:k=i
  .subst e;rw [if_pos rfl]
  .rw [if_neg fun e2=>e ?_]
   .exact aeO h (by omega) (by omega)
   .have e2:od.getD k 0=od.getD i 0:=by omega
    rw [getD_at _ (by omega),getD_at _ (by omega)] at e2;exact (List.getElem_inj hnd).1 e2
theorem akP (h:FO bl) (ho:Ord bl.length od):Ok (f17 nm pa re bl od) fun y =>∀uf,Rn (GV bl od bl.length) (uY bl od bl.length) uf->y=(Bd uf uf.length:Int):=by
 unfold f17;refine bC _ (ET h ho) fun y ⟨uf,hR,e⟩ => ?_;subst e;have hg:=hR.gl (yS h ho);have hg6:=hg.1;generalize GV bl od bl.length=fi at *;have hcl:(oW fi uf).length=uf.length:=by simp [oW]
 refine bC (fun y=>y=(Bd uf uf.length:Int)) ?_ fun y e=>aF fun u2 h2=>by rw [Rn.det h2 hR];exact e
 refine bJ (fun s:Int×Int =>∃j:Nat,s=((Bd uf j:Int),(j:Int))/\j<=uf.length) (fun s=>uf.length-s.2.toNat) ⟨0,rfl,by omega⟩ fun s ⟨j,e,hj⟩ => ?_;subst e;simp only [hcl];refine dG (fun hc => ?_) fun hc=>aF ?_
 rotate_left
 .have hc:¬ j<uf.length:=by simpa using hc
  have:j=uf.length:=by omega
  subst this;rfl
 have hc:j<uf.length:=by simpa using hc
 have hco:(oW fi uf).getD j rZ=codeOf fi uf j:=by rw [getD_at _ (by rw [hcl];exact hc)];simp [oW]
 have hal:=Bf hg (j+1);have hs:=yR hc;have hvc:=ahs hg hc (hR.fin j hc);refine bT (aG.2 (by omega)) ?_;simp only [Q6,hco];refine bC (fun y=>y=(szU (uf.getD j aQ):Int)) ?_ fun y e => ?_
 .unfold f32;exact bC _ (aiJ hvc) fun y hy=>aF (by rw [hy.2];rfl)
 subst e;refine aF ⟨⟨j+1,?_,hc⟩,?_⟩
 .rw [aH (by omega),aH (by omega),hs];rfl
 .simp only [aH (x:=(j:Int)+1) (by omega)];omega
end
def tab {α:Type} (n:Nat) (f:Nat->α):List α:=(List.range n).map f
theorem zn {α:Type} {n:Nat} {f:Nat->α}:(tab n f).length=n:=by simp [tab]
theorem EW {α:Type} {n j:Nat} {f:Nat->α} {d:α} (h:j<n):(tab n f).getD j d=f j:=by
 rw [getD_at _ (by rw [zn];exact h)];simp [tab]
theorem DJ {α:Type} {n:Nat} {f g:Nat->α} (h :∀j,j<n->f j=g j):tab n f=tab n g:=
 ZZ fun j hj=>h j (Wz.1 hj)
theorem Qa {α:Type} {n j:Nat} {f g:Nat->α} {x:α} (h :∀k,k<n->g k=if k=j then x else f k):(tab n f).set j x=tab n g:=by
 refine Kd (by simp [tab]) fun k h1 h2 => ?_;have hk:k<n:=by simpa [tab] using h2
 rw [List.getElem_set];simp only [tab,Ke,List.getElem_range,h k hk];by_cases e:j=k
 .rw [if_pos e,if_pos e.symm]
 .rw [if_neg e,if_neg fun h=>e h.symm]
theorem akQ {α:Type} {n:Nat} {l:List α} (d:α) (h:l.length=n):l=tab n fun k=>l.getD k d:=by
 subst h;refine Kd (by simp [tab]) fun k h1 h2 => ?_;simp only [tab,Ke,List.getElem_range,getD_at d h1]
def Gt (v:Nat->Int) (u:dw) (j:Nat):fO:=iV (if 0<=u.to then v j else u.fU) u
noncomputable def GX (v:Nat->Int) (us:List dw):List fO:=tab us.length fun j=>Gt v (us.getD j aQ) j
section
variable {bl:List aJ} {od:List Int} {nm:List UInt8} {pa re:Int}
theorem aeP {u:dw} {n:Nat} {v:Int} (h:GU n u):f30 u.gX u.eY u.gZ u.lG u.lH v u.dn u.fG=some (szU u:Int):=by
 apply ok_eq;unfold f30 f22;exact fA (y:=(szU u:Int)) (ok_eq (bC _ (aoy h.z) fun y hy=>aF (by rw [hy.2];rfl))) (aF rfl)
theorem Um (h:FO bl) (ho:Ord bl.length od):Ok (f14 nm pa re bl od) fun y =>∃uf,Rn (GV bl od bl.length) (uY bl od bl.length) uf/\y=(0,oW (GV bl od bl.length) uf,DF bl od uf):=by
 have hlen:=h.len;have hol:=ho.len;have hG:=yS h ho;unfold f14;refine bC _ (NI hlen.1 (by omega)) fun y hy=>b_ (by rw [hy.2 ho];rfl) (bT (qQ.2 (by omega)) ?_);refine bC (fun y=>y=((uY bl od bl.length).map iU,GV bl od bl.length)) ?_ fun y e => ?_
 .refine bJ (fun s:Int×List fO×List Int =>∃i:Nat,s=((i:Int),(uY bl od i).map iU,GV bl od i)/\i<=bl.length) (fun s=>bl.length-s.1.toNat) ⟨0,by rw [hol];rfl,by omega⟩ fun s ⟨i,e,hi⟩ => ?_;subst e;refine dG (fun hc => ?_) fun hc => ?_
  rotate_left
  .have hc:¬ i<od.length:=by simpa using hc
   have:i=bl.length:=by omega
   subst this;exact aF rfl
  have hc:i<od.length:=by simpa using hc
  have ha:=ho.at (i:=i) (by omega);have hb:(od.getD i 0).toNat<bl.length:=by omega
  have Io:=Ia h ho i hi;have hx:=(h.blk hb).1;have hin:=aG.2 (show 0<=(i:Int)/\(i:Int)<od.length by omega);have hf:=(KC h ho i hi).at ha;obtain ⟨b,hbe⟩ :∃b,bl.getD (od.getD i 0).toNat ah=b:=⟨_,rfl⟩;have hins:=h.ins b (hbe▸(h.blk hb).2);rw [hbe] at hx;refine bT hin (bT (aG.2 (by simp only [Q6];omega)) (bT hin (bT hf.1 ?_)));simp only [Q6,hbe];refine bC (fun y=>y=(uY bl od i++b.instrs.map fun i=>uT (jq i)).map iU) ?_ fun s16 e => ?_
  .refine bJ (fun s:Int×List fO =>∃k:Nat,s=((k:Int),(uY bl od i++(b.instrs.take k).map fun i=>uT (jq i)).map iU)/\k<=b.instrs.length) (fun s=>b.instrs.length-s.1.toNat) ⟨0,by simp,by omega⟩ fun s ⟨k,e,hk⟩ => ?_;subst e;refine dG (fun hc => ?_) fun hc => ?_
   .have hc:k<b.instrs.length:=by simpa using hc
    refine bT (aG.2 (by simp only;omega)) ?_;simp only [Q6,getD_at _ hc];refine fA (hins _ (QR hc)).1 (bT (by unfold aX;simp;omega) (aF ⟨⟨k+1,?_,by omega⟩,?_⟩))
    .have e:(uY bl od i++(b.instrs.take (k+1)).map fun i=>uT (jq i)).map iU=(uY bl od i++(b.instrs.take k).map fun i=>uT (jq i)).map iU++[iU (uT (jq b.instrs[k]))]:=by rw [take_snoc hc,Xs (f:=fun i=>uT (jq i)),<-Wa,Xs (f:=iU)];rfl
     rw [aH (by omega),e];rfl
    .simp only [aH (x:=(k:Int)+1) (by omega)];omega
   .have hc:¬ k<b.instrs.length:=by simpa using hc
    refine aF (show (uY bl od i++(b.instrs.take k).map (fun i=>uT (jq i))).map iU=_ from ?_);rw [Kf (by omega)]
  subst e;have hw:=w1 hc (by omega);refine bC (fun y=>y=nxt od i) ?_ fun y e => ?_
  .simp only [hw];unfold nxt;refine dG (fun hc => ?_) fun hc => ?_
   .have hc:i+1<od.length:=by have:=of_decide_eq_true hc;omega
    rw [if_pos hc];exact bT (aG.2 (by omega)) (aF rfl)
   .rw [if_neg (by have:=of_decide_eq_false hc;omega)];exact aF rfl
  subst e;have hel:=P8 b.bG b.j_ b.fB b.bV (nxt od i);refine fA aaU (bT (by unfold aX;simp;omega) (aF ⟨⟨i+1,?_,by omega⟩,?_⟩))
  .rw [hw];show _=(_,(uY bl od i++Uj (bl.getD (od.getD i 0).toNat ah) (nxt od i)).map iU,(GV bl od i).set (od.getD i 0).toNat (st bl od i));rw [hbe];unfold Uj st;simp only [Xs,Wa,ZD]
  .simp only [hw,Q6];omega
 subst e;have hF:=KC h ho bl.length (Z1 _);have hFa :∀k,k<bl.length->(GV bl od bl.length).getD (od.getD k 0).toNat 0=st bl od k:=fun k hk=>aeO ho (Z1 _) hk;generalize GV bl od bl.length=fi at *;have hst :∀i,i<=bl.length->(uY bl od i).length<=(uY bl od bl.length).length:=fun i hi=>by
  have:=Dz bl od (bl.length-i) i
  rwa [show i+(bl.length-i)=bl.length by omega] at this
 generalize huT:uY bl od bl.length=u0 at *;have hu6:=hG.1;have hw0:dJ ((u0.length:Int)+1)=((u0.length+1:Nat):Int):=by rw [aH (by omega)];rfl
 simp only [ZD,hw0];refine bT (qQ.2 (by omega)) (bC (fun y =>∃uf,Rn fi u0 uf/\y=(GX (dst fi uf) uf,WB uf)) ?_ fun y ⟨uf,hR,e⟩ => ?_)
 .refine bJ (fun s:Bool×List fO×List Int =>∃us v,s.2.1=GX v us/\GL bl.length us/\us.length=u0.length/\(∀uf,Rn fi us uf->Rn fi u0 uf)/\(s.2.2.length=us.length+1/\s.2.2.getD 0 0=0)/\(s.1=false->(∀j,j<us.length->far fi us j=false)/\v=dst fi us/\s.2.2=WB us)) (fun s=>(List.map (fun x:fO=>if x.dn then 0 else 1) s.2.1).sum*2+if s.1 then 1 else 0)
   ⟨u0,fun j=>(u0.getD j aQ).fU,?_,hG,rfl,fun _ h=>h,⟨by simp,by simp⟩,fun h=>by cases h⟩ fun ⟨more,its,at'⟩ ⟨us,v,e,hg,Io,hR,⟨ha1,ha2⟩,hfin⟩ => ?_
  .show u0.map iU=_;rw [akQ aQ (rfl:u0.length=_)];unfold GX tab;rw [ZD,List.length_range,Vv];refine ZZ fun j hj => ?_;have:=EW (f:=fun k=>u0.getD k aQ) (d:=aQ) (Wz.1 hj);unfold tab at this;simp only [Function.comp,this,Gt,iU,ite_self]
  simp only at e ha1 ha2 hfin;subst e;refine dG (fun hm => ?_) fun hm => ?_
  rotate_left
  .obtain ⟨f1,f2,f3⟩:=hfin hm;subst f2;exact aF ⟨us,hR us (.done f1),by rw [f3]⟩
  have hil:(GX v us).length=us.length:=zn;have hg6:=hg.1;refine bC (fun y=>y=WB us) ?_ fun y e => ?_
  .refine bJ (fun s:Int×List Int =>∃k:Nat,s.1=k/\k<=us.length/\s.2.length=us.length+1/\∀i,i<=k->s.2.getD i 0=(Bd us i:Int)) (fun s=>us.length-s.1.toNat) ⟨0,rfl,by omega,ha1,fun i hi=>by
    have:i=0:=by omega
    subst this;rw [ha2];simp [Bd]⟩ fun ⟨k',arr⟩ ⟨k,e,g1,g2,g3⟩ => ?_
   simp only at e g2 g3;subst e;rw [hil];refine dG (fun hc => ?_) fun hc => ?_
   rotate_left
   .have hc:¬ k<us.length:=by simpa using hc
    refine aF (show arr=_ from Kd (by rw [g2,nZ]) fun i h1 h2 => ?_);have:=g3 i (by omega)
    rwa [<-tH (by omega),getD_at _ h1,getD_at _ h2] at this
   have hc:k<us.length:=by simpa using hc
   have hw:=w1 hc (by omega);have hu:=hg.at hc;refine bT (aG.2 (by simp only;omega)) (bT (aG.2 (by simp only;omega)) ?_);have hit:(GX v us).getD k eP=Gt v (us.getD k aQ) k:=EW hc;simp only [Q6,hit,hw];have hal:=Bf hg (k+1);refine fA (aeP hu) (bT (aG.2 (by omega)) (aF ⟨⟨k+1,rfl,hc,by simpa using g2,fun i hi => ?_⟩,?_⟩))
   .simp only [Q6];rw [jg (by omega),g3 k (by omega)];split
    .rename_i e;subst e;rw [yR hc,aH (by rw [yR hc] at hal;omega)];rfl
    .exact g3 i (by omega)
   .simp only;omega
  subst e;simp only [hil];refine bT (qQ.2 (by omega)) ?_;rw [Q6];refine bC (fun y=>y=((List.range us.length).any (far fi us),GX (dst fi us) us,tab us.length (far fi us))) ?_ fun y e => ?_
  .refine bJ (fun s:Bool×Int×List fO×List Bool =>∃j:Nat,s=((List.range j).any (far fi us),(j:Int),GX (fun k=>if k<j then dst fi us k else v k) us,tab us.length fun k=>decide (k<j)&&far fi us k)/\j<=us.length) (fun s=>us.length-s.2.1.toNat)
    ⟨0,?_,by omega⟩ fun s ⟨j,e,hj⟩ => ?_
   .have:List.replicate us.length false=tab us.length fun k=>decide (k<0)&&far fi us k:=by
     unfold tab;rw [List.map_eq_replicate_iff.2 fun x _=>(by simp:(decide (x<0)&&far fi us x)=false),List.length_range]
    rw [this];simp
   subst e;have aoD :∀v,(GX v us).length=us.length:=fun v=>zn;have htl :∀f:Nat->Bool,(tab us.length f).length=us.length:=fun f=>zn;simp only [aoD];refine dG (fun hc => ?_) fun hc => ?_
   rotate_left
   .have hc:¬ j<us.length:=by simpa using hc
    have:j=us.length:=by omega
    subst this;refine aF (show _=_ from ?_);have e1:GX (fun k=>if k<us.length then dst fi us k else v k) us=GX (dst fi us) us:=DJ fun k hk=>by simp only [Gt,if_pos hk]
    have e2:(tab us.length fun k=>decide (k<us.length)&&far fi us k)=tab us.length (far fi us):=DJ fun k hk=>by rw [decide_eq_true hk];rfl
    rw [e1,e2]
   have hc:j<us.length:=by simpa using hc
   have hin:=aG.2 (show 0<=(j:Int)/\(j:Int)<us.length by omega);have hgu:=hg.at hc;have hw:=w1 hc (by omega);have aeL:far fi us j=(decide (0<=(us.getD j aQ).to)&&!(us.getD j aQ).dn&&(decide (dst fi us j < -128)||decide (127<dst fi us j))):=rfl;have hd:=P_ (fi:=fi) hg j;have hde:dst fi us j=(Bd us (fi.getD (us.getD j aQ).to.toNat 0).toNat:Int)-(Bd us (j+1):Int):=rfl;have hit :∀v,(GX v us).getD j eP=Gt v (us.getD j aQ) j:=fun v=>EW hc;have hany:(List.range (j+1)).any (far fi us)=((List.range j).any (far fi us)||far fi us j):=by rw [JS,List.any_append,List.any_cons,List.any_nil,vj]
   refine bC (fun y=>y=((List.range (j+1)).any (far fi us),GX (fun k=>if k<j+1 then dst fi us k else v k) us,tab us.length fun k=>decide (k<j+1)&&far fi us k)) (bT hin ?_) fun y e => ?_
   .simp only [Q6,hit];refine dG (fun ht=>aF ?_) fun ht=>bT hin ?_
    .have ht:(us.getD j aQ).to<0:=of_decide_eq_true ht;have hf:far fi us j=false:=by rw [aeL,decide_eq_false (by omega)];rfl
     rw [hany,hf,vj];have e1:GX (fun k=>if k<j then dst fi us k else v k) us=GX (fun k=>if k<j+1 then dst fi us k else v k) us:=DJ fun k hk=>by
      by_cases e:k=j
      .subst e;simp only [Gt];rw [if_neg (by omega),if_neg (by omega)]
      .unfold Gt;simp only [show (k<j+1)=(k<j) from propext (by omega)]
     have e2:(tab us.length fun k=>decide (k<j)&&far fi us k)=tab us.length fun k=>decide (k<j+1)&&far fi us k:=DJ fun k hk=>by
      by_cases e:k=j
      .subst e;simp [hf]
      .simp only [show (k<j+1)=(k<j) from propext (by omega)]
     rw [e1,e2]
    have ht:0<=(us.getD j aQ).to:=by have:=of_decide_eq_false ht;simp only [Gt,iV] at this;omega
    obtain ⟨f1,f2,f3⟩:=hF.at ⟨ht,hgu.t⟩;have NH:far fi us j=(!(us.getD j aQ).dn&&(decide (dst fi us j < -128)||decide (127<dst fi us j))):=by rw [aeL,decide_eq_true ht];rfl
    have hto :∀v,(Gt v (us.getD j aQ) j).to=(us.getD j aQ).to:=fun _=>rfl;have e1:(GX (fun k=>if k<j then dst fi us k else v k) us).set j (iV (dst fi us j) (us.getD j aQ))=GX (fun k=>if k<j+1 then dst fi us k else v k) us:=Qa fun k hk=>by
     by_cases e:k=j
     .subst e;rw [if_pos rfl];simp only [Gt,if_pos ht,if_pos (Nat.lt_succ_self k)]
     .rw [if_neg e];unfold Gt;simp only [show (k<j+1)=(k<j) from propext (by omega)]
    have e2 :∀x,x=far fi us j->(tab us.length fun k=>decide (k<j)&&far fi us k).set j x=tab us.length fun k=>decide (k<j+1)&&far fi us k:=fun x hx=>Qa fun k hk=>by
     by_cases e:k=j
     .subst e;rw [if_pos rfl,decide_eq_true (by omega),hx];rfl
     .rw [if_neg e];simp only [show (k<j+1)=(k<j) from propext (by omega)]
    simp only [hto,hw];refine bT f1 (bT (aG.2 (by rw [nZ];omega)) (bT (aG.2 (by rw [nZ];omega)) (bT hin ?_)));have hd2:dJ ((WB us).getD (fi.getD (us.getD j aQ).to.toNat 0).toNat 0-(WB us).getD (((j+1:Nat):Int)).toNat 0)=dst fi us j:=by
     rw [Q6,tH (by omega),tH (by omega),<-hde];exact aH (by omega)
    have hmk:fO.mk (Gt (fun k=>if k<j then dst fi us k else v k) (us.getD j aQ) j).gX (Gt (fun k=>if k<j then dst fi us k else v k) (us.getD j aQ) j).eY (Gt (fun k=>if k<j then dst fi us k else v k) (us.getD j aQ) j).gZ (Gt (fun k=>if k<j then dst fi us k else v k) (us.getD j aQ) j).lG (Gt (fun k=>if k<j then dst fi us k else v k) (us.getD j aQ) j).lH (dst fi us j) (Gt (fun k=>if k<j then dst fi us k else v k) (us.getD j aQ) j).dn (Gt (fun k=>if k<j then dst fi us k else v k) (us.getD j aQ) j).fG (us.getD j aQ).to=iV (dst fi us j) (us.getD j aQ):=rfl;simp only [hd2,hmk,e1];refine bC (fun y=>y=tab us.length fun k=>decide (k<j+1)&&far fi us k) (bT (by rw [aoD];exact hin) ?_) fun y e => ?_
    .have hwd:((GX (fun k=>if k<j+1 then dst fi us k else v k) us).getD j eP).dn=(us.getD j aQ).dn:=by rw [hit];rfl
     rw [hwd];refine dG (fun hn=>dG (fun hl => ?_) fun hl => ?_) fun hn => ?_
     .exact bT (by rw [htl];exact hin) (aF (e2 _ (by rw [NH,hn,hl];rfl)))
     .exact bT (by rw [htl];exact hin) (aF (e2 _ (by rw [NH,hn,hl];rfl)))
     .exact bT (by rw [htl];exact hin) (aF (e2 _ (by rw [NH,hn];rfl)))
    subst e;refine bC (fun y=>y=(List.range (j+1)).any (far fi us)) (dG (fun hg=>aF ?_) fun hg=>bT (by rw [htl];exact hin) (aF ?_)) fun y e=>by subst e;exact aF rfl
    .rw [hany,hg];rfl
    .rw [hany,hg,EW hc,decide_eq_true (by omega)];rfl
   .subst e;refine aF ⟨⟨j+1,by rw [hw],hc⟩,?_⟩;simp only [hw,Q6];omega
  subst e;refine bC (fun y=>y=GX (dst fi us) (Ls fi us)) ?_ fun y e => ?_
  .have hrl:(Ls fi us).length=us.length:=n_;refine bJ (fun s:Int×List fO =>∃j:Nat,s=((j:Int),tab us.length fun k=>Gt (dst fi us) (if k<j then (Ls fi us).getD k aQ else us.getD k aQ) k)/\j<=us.length) (fun s=>us.length-s.1.toNat) ⟨0,by simp [GX],by omega⟩ fun s ⟨j,e,hj⟩ => ?_;subst e;simp only [zn];refine dG (fun hc => ?_) fun hc => ?_
   rotate_left
   .have hc:¬ j<us.length:=by simpa using hc
    have:j=us.length:=by omega
    subst this;refine aF (show _=GX _ _ from ?_);unfold GX;rw [hrl];exact DJ fun k hk=>by rw [if_pos hk]
   have hc:j<us.length:=by simpa using hc
   have hin:=aG.2 (show 0<=(j:Int)/\(j:Int)<us.length by omega);have hw:=w1 hc (by omega);have hgu:=hg.at hc;simp only [Q6,EW hc,hw];rw [if_neg (Kj j)];have key :∀x,x=Gt (dst fi us) ((Ls fi us).getD j aQ) j->(tab us.length fun k=>Gt (dst fi us) (if k<j then (Ls fi us).getD k aQ else us.getD k aQ) k).set j x=tab us.length fun k=>Gt (dst fi us) (if k<j+1 then (Ls fi us).getD k aQ else us.getD k aQ) k:=fun x hx=>Qa fun k hk=>by
    by_cases e:k=j
    .subst e;rw [if_pos rfl,if_pos (by omega),hx]
    .rw [if_neg e];simp only [show (k<j+1)=(k<j) from propext (by omega)]
   refine bC (fun y=>y=tab us.length fun k=>Gt (dst fi us) (if k<j+1 then (Ls fi us).getD k aQ else us.getD k aQ) k) (bT hin (dG (fun hwd=>bT hin (aF (key _ ?_))) fun hwd=>bT hin (bT hin (aF (key _ ?_))))) fun y e => ?_
   .have hwd:(us.getD j aQ).dn=true:=hwd;have hf:far fi us j=false:=by unfold far;rw [hwd];simp
    rw [Bg hc,hf,if_neg (by simp)];unfold Gt iV;rw [hwd]
   .have hwd:(us.getD j aQ).dn=false:=hwd;rw [Bg hc];cases hf:far fi us j with
    |true=>rw [if_pos rfl];rfl
    |false=>rw [if_neg (by simp)];unfold Gt iV;rw [hwd]
   .subst e;refine aF ⟨⟨j+1,rfl,hc⟩,?_⟩;simp only [Q6];omega
  subst e;have hm:more=true:=hm;subst hm;have hcnt :∀v us,(List.map (fun x:fO=>if x.dn then 0 else 1) (GX v us)).sum=cnt us:=fun v us=>by
   unfold GX tab cnt;rw [Vv];rfl
  refine aF ⟨⟨Ls fi us,dst fi us,rfl,P9 hg,by rw [n_,Io],fun uf hr => ?_,⟨by simp only [n_,nZ],by simp only;rw [tH (vh _)];simp [Bd]⟩,fun hn => ?_⟩,?_⟩
  .by_cases hex :∃j,j<us.length/\far fi us j=true
   .exact hR uf (.step hex hr)
   .have:Ls fi us=us:=DC fun j hj=>by
     cases hf:far fi us j with
     |false=>rfl
     |true=>exact absurd ⟨j,hj,hf⟩ hex
    rw [this] at hr;exact hR uf hr
  .have hn :∀j,j<us.length->far fi us j=false:=fun j hj=>by
    simp only [List.any_eq_false,Wz] at hn;simpa using hn j hj
   rw [DC hn];exact ⟨hn,rfl,rfl⟩
  .simp only [hcnt];cases hany:(List.range us.length).any (far fi us) with
   |true=>
    simp only [Kb,Wz] at hany;have:=YV hany;simp;omega
   |false=>
    simp only [List.any_eq_false,Wz] at hany;rw [DC fun j hj=>by simpa using hany j hj];simp
 subst e;have hg:=hR.gl hG;have Io:=hR.len;have hg6:=hg.1;have hil:(GX (dst fi uf) uf).length=uf.length:=zn;simp only [hil];refine bC (fun y=>y=oW fi uf) ?_ fun y e => ?_
 .refine bJ (fun s:Int×List iW =>∃j:Nat,s=((j:Int),(List.range j).map (codeOf fi uf))/\j<=uf.length) (fun s=>uf.length-s.1.toNat) ⟨0,rfl,by omega⟩ fun s ⟨j,e,hj⟩ => ?_;subst e;refine dG (fun hc => ?_) fun hc => ?_
  rotate_left
  .have hc:¬ j<uf.length:=by simpa using hc
   have:j=uf.length:=by omega
   subst this;exact aF rfl
  have hc:j<uf.length:=by simpa using hc
  have hw:=w1 hc (by omega);have hit:(GX (dst fi uf) uf).getD j eP=Gt (dst fi uf) (uf.getD j aQ) j:=EW hc;refine bT (aG.2 (by simp only;omega)) ?_;simp only [Q6,hit,hw];refine bT (by unfold aX;simp;omega) (aF ⟨⟨j+1,?_,hc⟩,?_⟩)
  .rw [JS,Xs,Qf,Vn];rfl
  .simp only [Q6];omega
 subst e;refine bC (fun y=>y=DF bl od uf) ?_ fun y e=>by subst e;exact aF ⟨uf,hR,rfl⟩
 refine bJ (fun s:Int×List Int =>∃i:Nat,s=((i:Int),(List.range i).map fun i=>(Bd uf (uY bl od i).length:Int))/\i<=bl.length) (fun s=>bl.length-s.1.toNat) ⟨0,rfl,by omega⟩ fun s ⟨i,e,hi⟩ => ?_;subst e;refine dG (fun hc => ?_) fun hc => ?_
 rotate_left
 .have hc:¬ i<od.length:=by simpa using hc
  have:i=bl.length:=by omega
  subst this;exact aF rfl
 have hc:i<od.length:=by simpa using hc
 have hw:=w1 hc (by omega);have ha:=ho.at (i:=i) (by omega);have hf:=hF.at ha;have hm:=hst i (by omega);refine bT (aG.2 (by simp only;omega)) ?_;simp only [Q6,hFa i (by omega),hw];refine bT hf.1 (bT (aG.2 (by rw [nZ];unfold st;omega)) (bT (by unfold aX;simp;omega) (aF ⟨⟨i+1,?_,by omega⟩,?_⟩)))
 .unfold st;rw [Q6,JS,Xs,Qf,Vn,tH (by omega)]
 .simp only [Q6];omega
end
theorem zo {l:List Int} (h:l.length<=1000000):f16 l l=some true:=by
 apply ok_eq;unfold f16;exact b_ (by simp) (iF (fun _=>True) (iL l.length (fun _=>True) (by omega) (fun i hi _=>goT (decide_eq_true (by omega)) (bT (aG.2 (by omega)) (bT (aG.2 (by omega)) (b_ (by simp) (aF ⟨rfl,trivial⟩))))) fun _=>b_ (decide_eq_false (by omega)) (aF trivial)) fun _ _=>aF rfl)
theorem KD {l:List iW} (h:l.length<=1000000) (ha :∀c∈l,c.args.length<=1000000):f15 l l=some true:=by
 apply ok_eq;unfold f15;refine b_ (by simp) (iF (fun _=>True) (iL l.length (fun _=>True) (by omega) (fun i hi _=>goT (decide_eq_true (by omega)) (bT (aG.2 (by omega)) (bT (aG.2 (by omega)) ?_))) fun _=>b_ (decide_eq_false (by omega)) (aF trivial)) fun _ _=>aF rfl);have hm:l.getD (i:Int).toNat rZ∈l:=by rw [Q6,getD_at _ hi];exact QR _
 refine fA (y:=true) ?_ (b_ rfl (aF ⟨rfl,trivial⟩));apply ok_eq;unfold f31;exact fA (y:=true) (ok_eq (goT (by simp) (goT (by simp) (goT (by simp) (goT (by simp) (goT (by simp) (goT (by simp) (goT (by simp) (fA (zo (ha _ hm)) (aF rfl)))))))))) (aF rfl)
section
variable {bl:List aJ} {od:List Int} {nm:List UInt8} {pa re:Int}
theorem akR (h:FO bl) (ho:Ord bl.length od):Ok (f18 nm pa re bl od) fun y =>∀uf,Rn (GV bl od bl.length) (uY bl od bl.length) uf->y=(Bd uf uf.length:Int):=by
 unfold f18;refine bC _ (Um h ho) fun y ⟨uf,hR,e⟩ => ?_;subst e;have hg:=hR.gl (yS h ho);have hg6:=hg.1;generalize GV bl od bl.length=fi at *;have hcl:(oW fi uf).length=uf.length:=by simp [oW]
 refine bC (fun y=>y=(Bd uf uf.length:Int)) ?_ fun y e=>aF fun u2 h2=>by rw [Rn.det h2 hR];exact e
 refine bJ (fun s:Int×Int =>∃j:Nat,s=((Bd uf j:Int),(j:Int))/\j<=uf.length) (fun s=>uf.length-s.2.toNat) ⟨0,rfl,by omega⟩ fun s ⟨j,e,hj⟩ => ?_;subst e;simp only [hcl];refine dG (fun hc => ?_) fun hc=>aF ?_
 rotate_left
 .have hc:¬ j<uf.length:=by simpa using hc
  have:j=uf.length:=by omega
  subst this;rfl
 have hc:j<uf.length:=by simpa using hc
 have hco:(oW fi uf).getD j rZ=codeOf fi uf j:=by rw [getD_at _ (by rw [hcl];exact hc)];simp [oW]
 have hal:=Bf hg (j+1);have hs:=yR hc;refine bT (aG.2 (by omega)) ?_;simp only [Q6,hco,w1 hc (show uf.length<=4000000000 by omega)];refine fA (aeP (v:=(codeOf fi uf j).value) (hg.at hc)) (aF ⟨⟨j+1,?_,hc⟩,?_⟩)
 .rw [aH (by omega),hs];rfl
 .simp only [Q6];omega
theorem both (h:FO bl) (hl:od.length<=1000000) :∃y n b,(f9 nm pa re bl od=some y/\f14 nm pa re bl od=some y/\f15 y.2.1 y.2.1=some true/\f16 y.2.2 y.2.2=some true)/\(f17 nm pa re bl od=some n/\f18 nm pa re bl od=some n)/\f19 nm pa re bl od=some b/\f20 nm pa re bl od=some b:=by
 have hlen:=h.len;obtain ⟨b1,e1,h1⟩:=NG (nm:=nm) (pa:=pa) (re:=re) (bl:=bl) (od:=od) (by omega) hlen.1 hl;obtain ⟨b2,e2,h2⟩:=NI (nm:=nm) (pa:=pa) (re:=re) (bl:=bl) (od:=od) hlen.1 hl;have e12:b1=b2:=by rw [vp,h1,h2]
 subst e12;by_cases ho:Ord bl.length od
 .obtain ⟨y1,f1,u1,r1,d1⟩:=ET (nm:=nm) (pa:=pa) (re:=re) h ho;obtain ⟨y2,f2,u2,r2,d2⟩:=Um (nm:=nm) (pa:=pa) (re:=re) h ho;have:=Rn.det r2 r1;subst this;obtain ⟨n1,g1,k1⟩:=akP (nm:=nm) (pa:=pa) (re:=re) h ho;obtain ⟨n2,g2,k2⟩:=akR (nm:=nm) (pa:=pa) (re:=re) h ho;have hg:=r1.gl (yS h ho);have hg6:=hg.1;refine ⟨y1,n1,b1,⟨f1,by rw [f2,d1,d2],?_,?_⟩,⟨g1,by rw [g2,k1 _ r1,k2 _ r1]⟩,e1,e2⟩
  .subst d1;refine KD (by simp [oW];omega) fun c hc => ?_;obtain ⟨j,hj,e⟩:=X1.1 hc;subst e;have:=(hg.at (Wz.1 hj)).c.n;show ((u2.getD j aQ).fG).length<=_;omega
  .subst d1;exact zo (by simp [DF];omega)
 .have hb:b1=false:=by
   cases hb:b1 with
   |false=>rfl
   |true=>exact absurd (h1.1 hb) ho
  subst hb;have q9:f9 nm pa re bl od=some (18,EJ,eInt):=ok_eq (by unfold f9;exact fA e1 (goT rfl (aF rfl)));have Na:f14 nm pa re bl od=some (18,EJ,eInt):=ok_eq (by unfold f14;exact fA e2 (goT rfl (aF rfl)));refine ⟨_,0,false,⟨q9,Na,KD (by simp) fun c hc=>(by cases hc),zo (by simp)⟩,⟨ok_eq ?_,ok_eq ?_⟩,e1,e2⟩
  .unfold f17;exact fA q9 (bC (fun y=>y=0) (bJ (fun s:Int×Int=>s=(0,0)) (fun _=>0) rfl fun s e=>by subst e;exact b_ rfl (aF rfl)) fun y e=>aF e)
  .unfold f18;exact fA Na (bC (fun y=>y=0) (bJ (fun s:Int×Int=>s=(0,0)) (fun _=>0) rfl fun s e=>by subst e;exact b_ rfl (aF rfl)) fun y e=>aF e)
end
theorem aeQ {l r:List Int} (hb:Bytes l):f4 l r=some true:=by
 apply ok_eq;unfold f4;refine bC (fun y=>y=decide (300<(r.length:Int))) (fA aeN (b_ rfl (aF rfl))) fun y e => ?_;subst e;refine dG (fun h=>aF h) fun hr => ?_;have hr:=of_decide_eq_false hr;refine bC _ (aky hb (by omega)) fun ⟨c,i⟩ ⟨e,hb'⟩ => ?_;simp only at e;subst e;refine bC _ (aeM hb' (WK _)) fun ⟨nm,pa,re,bl,l',i',od⟩ ⟨hF,h2,h3,hO⟩ => ?_;simp only at hF h2 h3 hO;subst h2;have hlen:=hF.len;have hol:=hO.len;have e0:(eInt++od:List Int).length=od.length:=by simp
 refine bT (by unfold aX;simp;omega) ?_;simp only [e0];refine goN hb' h3 (by omega) fun x j hj a b=>goN hb' hj (by rw [aH (by omega)];omega) fun x2 j2 hj2 a2 b2 => ?_;have b:=b (by omega);refine bT (aG.2 ⟨a,b⟩) (fA (zl (by omega)) ?_);have hn:dJ ((od.length:Int)-1)=((od.length-1:Nat):Int):=by rw [aH (by omega)];omega
 simp only [hn,Q6];refine bT (by unfold Cj;simp) (iF (fun _=>True) (iL 5 (fun _=>True) (by omega) (fun i hi _=>goT (decide_eq_true (by simp;omega)) (bT (aG.2 (by simp;omega)) ?_)) fun _=>b_ (decide_eq_false (by simp)) (aF trivial)) fun _ _=>fA (ND (by omega)) (fA (zl (by omega)) (fA (zo (by rw [Dy];omega)) (aF rfl))));simp only [Q6];obtain ⟨o,ho⟩ :∃o,List.getD [od,nat bl.length,r,(eInt++od).set x.toNat (dJ (x2-1)),List.drop (Int.toNat 0) (List.take (od.length-1) od)] i eInt=o:=⟨_,rfl⟩;have hol:o.length<=1000000:=by
  rw [<-ho];have:i=0\/i=1\/i=2\/i=3\/i=4:=by omega
  rcases this with e | e | e | e | e<;>subst e
  .show od.length<=_;omega
  .show (nat bl.length).length<=_;rw [Dy];omega
  .show r.length<=_;omega
  .show ((eInt++od).set _ _).length<=_;rw [UB,e0];omega
  .show (List.drop (Int.toNat 0) (List.take (od.length-1) od)).length<=_;simp;omega
 rw [ho];obtain ⟨y,n,b,⟨q1,q2,q3,q4⟩,⟨q5,q6⟩,q7,q8⟩:=both (nm:=nm) (pa:=pa) (re:=re) hF hol;refine fA q1 (fA q2 (fA (y:=false) ?_ (b_ rfl (aF ⟨rfl,trivial⟩))));apply ok_eq;refine b_ (by simp) (fA q3 (b_ rfl (fA q4 (b_ rfl (fA q5 (fA q6 ?_))))));exact b_ (by simp) (fA q7 (fA q8 (aF (by simp))))
end Go.Fg.YtapemkmlinejmaaGreatDoor

