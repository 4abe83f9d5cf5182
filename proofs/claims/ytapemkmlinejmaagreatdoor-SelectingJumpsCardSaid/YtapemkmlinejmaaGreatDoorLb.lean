/-
  The plain proofs: what the functions compute answers as the law says.
-/
import Derived.Test.YtapemkmlinejmaaGreatDoorLa
set_option linter.unusedSimpArgs false
set_option linter.unusedVariables false
set_option linter.unusedSectionVars false
namespace Go.Fg.YtapemkmlinejmaaGreatDoor
open Go.Fw
noncomputable def Dy (bl:List aI) (od:List Int):Nat->List Int
 |0=>List.replicate bl.length 0
 |i+1=>(Dy bl od i).set (od.getD i 0).toNat (st bl od i)
noncomputable def codeOf (fi:List Int) (us:List dn) (j:Nat):jl:=
 jl.mk (us.getD j aZ).iG (us.getD j aZ).ig (us.getD j aZ).kD (us.getD j aZ).qY (us.getD j aZ).qZ (if 0<=(us.getD j aZ).to then dst fi us j else (us.getD j aZ).iY) (us.getD j aZ).dQ (us.getD j aZ).gY
noncomputable def tX (fi:List Int) (us:List dn):List jl:=(List.range us.length).map (codeOf fi us)
noncomputable def Dz (bl:List aI) (od:List Int) (us:List dn):List Int:=(List.range bl.length).map fun i=>(w_ us (Bl bl od i).length:Int)
theorem Rn.fin {fi:List Int} {us uf:List dn} (h:Rn fi us uf) :∀j,j<uf.length->far fi uf j=false:=by
 induction h with
 |done h=>exact h
 |step _ _ ih=>exact ih
theorem Rn.len {fi:List Int} {us uf:List dn} (h:Rn fi us uf):uf.length=us.length:=by
 induction h with
 |done h=>rfl
 |step _ _ ih=>rw [ih,mV]
theorem Rn.gl {n:Nat} {fi:List Int} {us uf:List dn} (h:Rn fi us uf):GL n us->GL n uf:=by
 induction h with
 |done h=>exact id
 |step _ _ ih=>exact fun hg=>ih (P_ hg)
section
variable {bl:List aI} {od:List Int} {nm:List UInt8} {pa re:Int}
theorem Qa (h:FO bl) (ho:Ord bl.length od) :∀i,i<=bl.length->FI bl.length (Bl bl od bl.length).length (Dy bl od i)
 |0,_=>⟨by simp [Dy],fun x hx=>by have:=Ks hx;subst this;omega⟩
 |i+1,hi=>by
  obtain ⟨h1,h2⟩:=Qa h ho i (by omega);refine ⟨by simp [Dy,h1],fun x hx => ?_⟩;rcases Kl hx with hx | hx
  .exact h2 x hx
  .subst hx;have:=Ky bl od (bl.length-i) i;rw [show i+(bl.length-i)=bl.length by omega] at this;unfold st;omega
theorem KA (h:FO bl) (ho:Ord bl.length od):GL bl.length (Bl bl od bl.length):=
 ⟨by have:=P9 h ho bl.length (Ys _);have:=h.len;omega,aeR h ho bl.length (Ys _)⟩
theorem Qb {n:Nat} {us:List dn} {fi:List Int} (h:GL n us) (j:Nat):-603000000<=dst fi us j/\dst fi us j<=603000000:=by
 unfold dst;have:=Bg h (fi.getD (us.getD j aZ).to.toNat 0).toNat;have:=Bg h (j+1);omega
theorem EN (h:FO bl) (ho:Ord bl.length od):Ok (f9 nm pa re bl od) fun y =>∃uf,Rn (Dy bl od bl.length) (Bl bl od bl.length) uf/\y=(0,tX (Dy bl od bl.length) uf,Dz bl od uf):=by
 have hlen:=h.len;have hol:=ho.len;have hG:=KA h ho;unfold f9;refine bG _ (aaX (by omega) hlen.1 (by omega)) fun y hy=>cu (by rw [hy.2 ho];rfl) (fU (aeS h ho) (dD (J5.2 (by omega)) ?_));refine bG (fun y=>y=Dy bl od bl.length) ?_ fun fi e => ?_
 .refine cZ (fun s:Int×List Int =>∃i:Nat,s=((i:Int),Dy bl od i)/\i<=bl.length) (fun s=>bl.length-s.1.toNat) ⟨0,by simp [Dy],by omega⟩ fun s ⟨i,e,hi⟩ => ?_;subst e;refine dM (fun hc => ?_) fun hc => ?_
  rotate_left
  .have hc:¬ i<od.length:=by simpa using hc
   have:i=bl.length:=by omega
   subst this;exact aF rfl
  have hc:i<od.length:=by simpa using hc
  have ha:=ho.at (i:=i) (by omega);have hf:=(Qa h ho i hi).at ha;refine dD (aK.2 (by simp only;omega)) (dD (aK.2 (by simp;omega)) (dD hf.1 (aF ⟨⟨i+1,?_,by omega⟩,?_⟩)))
  .rw [aH (by omega)];simp only [QR];rw [getD_at (l:=(List.range bl.length).map (st bl od)) _ (by simp;omega)];simp only [qr,List.getElem_range];rfl
  .simp only [aH (x:=(i:Int)+1) (by omega)];omega
 have hF:=Qa h ho bl.length (Ys _);rw [<-e] at hF ⊢;generalize huT:Bl bl od bl.length=u0 at *;refine fU (Un hG) (bG (fun y =>∃uf,Rn fi u0 uf/\y=(uf,atL uf)) ?_ fun y ⟨uf,hR,e⟩ => ?_)
 .refine cZ (fun s:List dn×List Int =>∃us,s=(us,atL us)/\GL bl.length us/\us.length=u0.length/\∀uf,Rn fi us uf->Rn fi u0 uf) (fun s=>cnt s.1) ⟨u0,rfl,hG,rfl,fun _ h=>h⟩ fun s ⟨us,e,hg,Ls,hR⟩ => ?_;subst e;have hu6:=hg.1;refine bG (fun y=>y=((List.range us.length).any (far fi us),KG fi us)) ?_ fun y e => ?_
  .refine cZ (fun s:Bool×Int×List dn =>∃(j:Nat) (arr:List dn),s=((List.range j).any (far fi us),(j:Int),arr)/\j<=us.length/\arr.length=us.length/\(∀k,k<j->arr.getD k aZ=(KG fi us).getD k aZ)/\∀k,j<=k->k<us.length->arr.getD k aZ=us.getD k aZ) (fun s=>us.length-s.2.1.toNat)
    ⟨0,us,rfl,by omega,rfl,fun k hk=>absurd hk (qT _),fun _ _ _=>rfl⟩ fun s ⟨j,arr,e,h1,h2,h3,h4⟩ => ?_
   subst e;refine dM (fun hc => ?_) fun hc => ?_
   rotate_left
   .have hc:¬ j<us.length:=by simpa using hc
    have:j=us.length:=by omega
    subst this;have:arr=KG fi us:=by
     refine vm (by rw [h2,mV]) fun k k1 k2 => ?_;have:=h3 k (by omega)
     rwa [getD_at _ k1,getD_at _ k2] at this
    subst this;exact aF rfl
   have hc:j<us.length:=by simpa using hc
   have hu:=h4 j (Ys _) hc;have hgu:=hg.at hc;have Uo:far fi us j=(decide (0<=(us.getD j aZ).to)&&!(us.getD j aZ).dQ&&(decide (dst fi us j < -128)||decide (127<dst fi us j))):=rfl;have hd:=Qb (fi:=fi) hg j;have hde:dst fi us j=(w_ us (fi.getD (us.getD j aZ).to.toNat 0).toNat:Int)-(w_ us (j+1):Int):=rfl;refine bG (fun y=>y=((List.range j).any (far fi us)||far fi us j,if far fi us j=true then arr.set j (wid (us.getD j aZ)) else arr)) ?_ fun y e => ?_
   .refine dD (aK.2 (by simp only;omega)) ?_;simp only [QR,hu];generalize us.getD j aZ=u at *;refine bG (fun y=>y=(decide (u.to<0)||u.dQ)) (dM (fun hc=>aF ?_) fun hc=>aF ?_) fun y e => ?_
    .rw [hc];rfl
    .rw [hc];rfl
    subst e;refine dM (fun hs => ?_) fun hs => ?_
    .have hf:far fi us j=false:=by
      rw [Uo];simp only [UX,decide_eq_true_eq] at hs;rcases hs with hs | hs
      .rw [decide_eq_false (by omega)];rfl
      .rw [hs];simp
     rw [hf];exact aF (by simp)
    simp only [Vn,decide_eq_false_iff_not] at hs;obtain ⟨hs1,hs2⟩:=hs;have hto:0<=u.to:=by omega
    obtain ⟨f1,f2,f3⟩:=hF.at ⟨hto,hgu.t⟩;have aiU:far fi us j=(decide (dst fi us j < -128)||decide (127<dst fi us j)):=by rw [Uo,decide_eq_true hto,hs2];rfl
    refine dD f1 (dD (aK.2 (by rw [zA];omega)) (dD (aK.2 (by rw [zA,aH (by omega)];omega)) ?_));have hd2:dP ((atL us).getD (fi.getD u.to.toNat 0).toNat 0-(atL us).getD (dP ((j:Int)+1)).toNat 0)=dst fi us j:=by
     rw [aH (x:=(j:Int)+1) (by omega),show ((j:Int)+1).toNat=j+1 by omega,Kz (by omega),Kz (by omega),<-hde];exact aH (by omega)
    simp only [hd2];refine bG (fun y=>y=far fi us j) (dM (fun hc=>aF ?_) fun hc=>aF ?_) fun y e => ?_
    .rw [aiU,hc];rfl
    .rw [aiU,hc,J1];exact decide_eq_decide.2 (by omega)
    subst e;refine bG _ (dM (fun hf=>dD (aK.2 (by omega)) (aF ?_)) fun hf=>aF ?_) fun y hy=>aF hy
    .rw [hf,if_pos rfl,Bool.or_true];rfl
    .rw [hf,if_neg (by simp),Bool.or_false]
   .subst e;refine aF ⟨⟨j+1,if far fi us j=true then arr.set j (wid (us.getD j aZ)) else arr,?_,hc,?_,fun k hk => ?_,fun k hk hk2 => ?_⟩,?_⟩
    .simp only;rw [aH (by omega),Kh,List.any_append,List.any_cons,List.any_nil,Bool.or_false];rfl
    .split
     .rw [UV,h2]
     .exact h2
    .by_cases e:k=j
     .subst e;rw [yY hc];split
      .rw [jY (by omega),if_pos rfl]
      .exact hu
     .rw [<-h3 k (by omega)];split
      .rw [jY (by omega),if_neg e]
      .rfl
    .rw [<-h4 k (by omega) hk2];split
     .rw [jY (by omega),if_neg (by omega)]
     .rfl
    .simp only [aH (x:=(j:Int)+1) (by omega)];omega
  .subst e;refine dM (fun hc=>aF ?_) fun hc => ?_
   .have hn :∀j,j<us.length->far fi us j=false:=fun j hj=>by
     simp only [W6,List.any_eq_false,Up] at hc;simpa using hc j hj
    exact ⟨us,hR us (.done hn),by rw [aeT hn]⟩
   .have hex :∃j,j<us.length/\far fi us j=true:=by
     simp only [K6,Kx,Up] at hc;exact hc
    exact fU (Un (P_ hg)) (aF ⟨⟨KG fi us,rfl,P_ hg,by rw [mV,Ls],fun uf hr=>hR uf (.step hex hr)⟩,ahC hex⟩)
 subst e;have hg:=hR.gl hG;have Ls:=hR.len;have hg6:=hg.1;refine bG (fun y=>y=tX fi uf) ?_ fun y e => ?_
 .refine cZ (fun s:Int×List jl =>∃j:Nat,s=((j:Int),(List.range j).map (codeOf fi uf))/\j<=uf.length) (fun s=>uf.length-s.1.toNat) ⟨0,rfl,by omega⟩ fun s ⟨j,e,hj⟩ => ?_;subst e;refine dM (fun hc => ?_) fun hc => ?_
  rotate_left
  .have hc:¬ j<uf.length:=by simpa using hc
   have:j=uf.length:=by omega
   subst this;exact aF rfl
  have hc:j<uf.length:=by simpa using hc
  have hd:=Qb (fi:=fi) hg j;have hgu:=hg.at hc;have hde:dst fi uf j=(w_ uf (fi.getD (uf.getD j aZ).to.toNat 0).toNat:Int)-(w_ uf (j+1):Int):=rfl;have hco:codeOf fi uf j=jl.mk (uf.getD j aZ).iG (uf.getD j aZ).ig (uf.getD j aZ).kD (uf.getD j aZ).qY (uf.getD j aZ).qZ (if 0<=(uf.getD j aZ).to then dst fi uf j else (uf.getD j aZ).iY) (uf.getD j aZ).dQ (uf.getD j aZ).gY:=rfl;refine dD (aK.2 (by simp only;omega)) ?_;simp only [QR];obtain ⟨u,hue⟩ :∃u,uf.getD j aZ=u:=⟨_,rfl⟩;simp only [hue] at hgu hde hco ⊢;refine bG (fun y=>y=(u.iG,u.ig,u.kD,u.qY,u.qZ,(if 0<=u.to then dst fi uf j else u.iY),u.dQ,u.gY,u.to)) (dM (fun ht => ?_) fun ht=>aF ?_) fun y e => ?_
  .have ht:0<=u.to:=of_decide_eq_true ht;obtain ⟨f1,f2,f3⟩:=hF.at ⟨ht,hgu.t⟩;refine dD f1 (dD (aK.2 (by rw [zA];omega)) (dD (aK.2 (by rw [zA,aH (by omega)];omega)) (aF ?_)));rw [aH (x:=(j:Int)+1) (by omega),show ((j:Int)+1).toNat=j+1 by omega,Kz (by omega),Kz (by omega),<-hde,aH (by omega),if_pos ht]
  .rw [if_neg (of_decide_eq_false ht)]
  subst e;refine dD (by unfold bC;simp;omega) (aF ⟨⟨j+1,?_,hc⟩,?_⟩)
  .rw [aH (by omega),Kh,XX,Qf,Vv,hco];rfl
  .simp only [aH (x:=(j:Int)+1) (by omega)];omega
 subst e;refine bG (fun y=>y=Dz bl od uf) ?_ fun y e=>by subst e;exact aF ⟨uf,hR,rfl⟩
 refine cZ (fun s:Int×List Int =>∃i:Nat,s=((i:Int),(List.range i).map fun i=>(w_ uf (Bl bl od i).length:Int))/\i<=bl.length) (fun s=>bl.length-s.1.toNat) ⟨0,rfl,by omega⟩ fun s ⟨i,e,hi⟩ => ?_;subst e;refine dM (fun hc => ?_) fun hc => ?_
 rotate_left
 .have hc:¬ i<bl.length:=by simpa using hc
  have:i=bl.length:=by omega
  subst this;exact aF rfl
 have hc:i<bl.length:=by simpa using hc
 have hm:=Ky bl od (bl.length-i) i;rw [show i+(bl.length-i)=bl.length by omega,huT] at hm;have hs:((List.range bl.length).map (st bl od)).getD i 0=((Bl bl od i).length:Int):=by rw [getD_at _ (by simpa using hc)];simp [st]
 refine dD (aK.2 (by simp;omega)) ?_;simp only [QR,hs];refine dD (aK.2 (by rw [zA];omega)) (dD (by unfold bC;simp;omega) (aF ⟨⟨i+1,?_,hc⟩,?_⟩))
 .rw [aH (by omega),Kh,XX,Qf,Vv,Kz (by omega)];rfl
 .simp only [aH (x:=(i:Int)+1) (by omega)];omega
end
def MI (i:dw):Prop :=∃d a:Int,(0<=d/\d<2)/\(0<=a/\a<2)/\i=dw.mk 2 0 d a 0 0 eInt
theorem aox {k:Nat} :∀{bl:List aI},(∀b∈bl,b.instrs.length<=k)->zB bl<=(k+1)*bl.length
 | [],_=>by simp [zB]
 |b::bl,h=>by
  have:=aox (k:=k) (bl:=bl) fun x hx=>h x (Vi _ hx);have:=h b KS;unfold zB at *;simp only [Qf,K9,WF,Nat.mul_add,Nat.mul_one];omega
theorem ahD {l:List Int} {i:Int} (hb:Bytes l) (hi:0<=i):Ok (f24 l i) fun y=>FO y.2.2.2.2.2/\y.2.2.2.1=l/\0<=y.2.2.2.2.1:=by
 unfold f24;refine goN hb hi (by omega) fun x0 j0 h0 a0 b0 => ?_;have b0:=b0 (by omega);obtain ⟨N,hN⟩ :∃N:Nat,2+x0=N:=⟨(2+x0).toNat,by omega⟩;have hw:dP (2+x0)=N:=(aH (by omega)).trans hN;simp only [hw];refine bG (fun s=>s.1=l/\0<=s.2.1/\s.2.2.2.2.2.length=N/\∀b∈s.2.2.2.2.2,(b.bI=1\/b.bI=2\/b.bI=3)/\b.kK=0/\(0<=b.fC/\b.fC<N)/\(0<=b.cO/\b.cO<N)/\b.instrs.length<=47/\∀i∈b.instrs,MI i) ?_ fun s ⟨e1,e2,e3,e4⟩ => ?_
 .refine cZ (fun s:Int×List Int×Int×List UInt8×Int×Int×List aI=>s.2.1=l/\0<=s.2.2.1/\s.1=s.2.2.2.2.2.2.length/\s.2.2.2.2.2.2.length<=N/\∀b∈s.2.2.2.2.2.2,(b.bI=1\/b.bI=2\/b.bI=3)/\b.kK=0/\(0<=b.fC/\b.fC<N)/\(0<=b.cO/\b.cO<N)/\b.instrs.length<=47/\∀i∈b.instrs,MI i) (fun s=>(N-s.1).toNat)
   ⟨rfl,h0,rfl,by simp,fun b h=>by cases h⟩ fun ⟨q,l',j,z1,z2,z3,bl⟩ ⟨e1,e2,e3,e4,e5⟩ => ?_
  simp only at e1 e2 e3 e4 e5;subst e1;subst e3;refine dM (fun hc => ?_) fun hc=>aF ⟨rfl,e2,by have:=of_decide_eq_false hc;simp only at this ⊢;omega,e5⟩;have hc:(bl.length:Int)<N:=of_decide_eq_true hc;refine goN hb e2 (by omega) fun x1 j1 h1 a1 b1=>dD (aK.2 ⟨a1,by have:=b1 (by omega);simp;omega⟩) (goN hb h1 (by omega) fun x2 j2 h2 a2 b2=>goN hb h2 (by omega) fun x3 j3 h3 a3 b3=>goN hb h3 (by omega) fun x4 j4 h4 a4 b4 => ?_);have b4:=b4 (by omega);refine bG (fun s=>s.1=l'/\0<=s.2.1/\∃is:List dw,s.2.2=(List.getD [(2:Int),1,3] x1.toNat 0,0,x2,x3,0,0,0,is)/\is.length<=47/\∀i∈is,MI i) ?_ fun s ⟨k1,k2,is,k3,k4,k5⟩ => ?_
  .refine cZ (fun s:Int×List Int×Int×Int×Int×Int×Int×Int×Int×Int×List dw =>∃(c j:Int) (is:List dw),s=(c,l',j,List.getD [(2:Int),1,3] x1.toNat 0,0,x2,x3,0,0,0,is)/\0<=j/\0<=c/\(is.length:Int)+c<=47/\∀i∈is,MI i) (fun s=>s.1.toNat) ⟨x4,j4,[],rfl,h4,a4,by simp only [Jx];omega,fun i h=>by cases h⟩ fun s ⟨c,j,is,e,g1,g2,g3,g4⟩ => ?_;subst e;refine dM (fun hc => ?_) fun hc=>aF ⟨rfl,g1,is,rfl,by omega,g4⟩;have hc:0<c:=of_decide_eq_true hc;refine goN hb g1 (by omega) fun x5 j5 h5 a5 b5=>goN hb h5 (by omega) fun x6 j6 h6 a6 b6=>dD (by unfold bC;simp;omega) (aF ⟨⟨c-1,j6,is++[dw.mk 2 0 x5 x6 0 0 eInt],?_,h6,by omega,?_,fun i hi => ?_⟩,?_⟩)
   .rw [aH (by omega)]
   .rw [YY,Zs];omega
   .rcases Xs.1 hi with h | h
    .exact g4 i h
    .rw [Qt] at h;exact ⟨x5,x6,⟨a5,b5 (by omega)⟩,⟨a6,b6 (by omega)⟩,h⟩
   .simp only [aH (x:=c-1) (by omega)];omega
  obtain ⟨s1,s2,s3⟩:=s;simp only at k1 k2 k3;subst k1;subst k3;refine dD (by unfold bC;simp;omega) (aF ⟨⟨rfl,k2,?_,?_,fun b hb' => ?_⟩,?_⟩)
  .simp only [aH (x:=(bl.length:Int)+1) (by omega)];simp
  .simp;omega
  .rcases Xs.1 hb' with h | h
   .exact e5 b h
   .rw [Qt] at h;subst h;refine ⟨?_,rfl,⟨a2,b2 (by omega)⟩,⟨a3,b3 (by omega)⟩,k4,k5⟩;have:=b1 (by omega);have:x1=0\/x1=1\/x1=2:=by omega
    rcases this with e | e | e<;>subst e<;>simp
  .simp only [aH (x:=(bl.length:Int)+1) (by omega)];omega
 obtain ⟨s1,s2,s3,s4,s5,bs⟩:=s;simp only at e1 e2 e3 e4;subst e1;have hat :∀b,b<bs.length->bs.getD b ah∈bs:=fun b hb=>by rw [getD_at _ hb];exact X1 _
 have hE:wY bs:=⟨fun b hb=>have h:=e4 _ (hat b hb);⟨fun _=>e3▸h.2.2.1,fun _=>e3▸h.2.2.2.1⟩,fun b hb=>(e4 _ (hat b hb)).1⟩;refine bG _ (Ku hE (by omega) (by omega)) fun ⟨c1,c2,c3,c4⟩ ⟨p1,p2,p3,p4,p5,p6,p7,p8⟩=>aF ⟨?_,rfl,e2⟩;simp only at p4 p5 p6 p8;have hk :∀b∈c4,b.instrs.length<=47/\(∀i∈b.instrs,MI i)/\b.kK=0:=fun b hb=>by
  obtain ⟨t,ht,q1,q2,q3⟩:=p8 b hb;have:=e4 t ht;rw [q1,q3];exact ⟨this.2.2.2.2.1,this.2.2.2.2.2,this.2.1⟩
 have hwt:=aox (k:=47) fun b hb=>(hk b hb).1;refine ⟨⟨p4,by simp only;omega⟩,by simp only;omega,fun b hb i hi => ?_,p6,fun b hb _ => ?_⟩
 .obtain ⟨d,a,hd,ha,e⟩:=(hk b hb).2.1 i hi;subst e;exact YW (g:=[]) (sg:=[]) (cl:=0) (re:=2) (.move hd ha (by simp)) (by simp) (by simp) (by omega) (by omega)
 .have:=(hk (c4.getD b ah) (by rw [getD_at _ hb];exact X1 _)).2.2;simp only;rw [this];omega
theorem aeU {l:List Int} {i:Int} (hb:Bytes l) (hi:0<=i):Ok (f8 l i) fun y=>FO y.2.2.2.1/\y.2.2.2.2.1=l/\0<=y.2.2.2.2.2.1/\Ord y.2.2.2.1.length y.2.2.2.2.2.2:=by
 unfold f8;refine bG _ (ahD hb hi) fun ⟨c1,c2,c3,c4,c5,c6⟩ ⟨h1,h2,h3⟩ => ?_;simp only at h1 h2 h3;subst h2;refine goN hb h3 (by omega) fun x j hj _ _=>bG (fun y=>FO y.2.2.2.2.2/\y.1=c4/\0<=y.2.1) (dM (fun _ => ?_) fun _=>aF ⟨h1,rfl,hj⟩) fun y ⟨q1,q2,q3⟩ => ?_
 .refine bG _ (ahz hb hj) fun ⟨d1,d2,d3,d4,d5,d6⟩ ⟨⟨sg,hR⟩,_,e2,e3⟩ => ?_;simp only at hR e2 e3;subst e2;have h0:=hR.f0;have h6:=hR.f1;have hl:=hR.sgl;have hc:=hR.cll;refine goN hb e3 (by simp only;omega) fun x2 j2 hj2 a2 b2 => ?_;have b2:=b2 (by simp only;omega);refine dD (aK.2 ⟨a2,b2⟩) (aF ⟨?_,rfl,hj2⟩);simp only at b2;have hm:d1.getD x2.toNat aC∈d1:=aeC _ a2 b2;exact (hR.rt _ hm).fo hR.gl (by omega) (by omega)
 .obtain ⟨y1,y2,y3,y4,y5,y6⟩:=y;simp only at q1 q2 q3;subst q2;have hl:=q1.len;exact bG _ (WI hb q3 (by simp only;omega) hl.1) fun z ⟨z1,z2,z3⟩=>aF ⟨q1,z1,z2,z3⟩
theorem aeV:f6=some true:=by
 apply ok_eq;unfold f6;have hF:FO [(aI.mk n_ 1 0 1 0 0 0 0),(aI.mk n_ 3 0 0 0 0 0 0)]:=by
  refine ⟨by simp,by simp [zB],fun b hb i hi => ?_,⟨fun b hb => ?_,fun b hb => ?_⟩,fun b hb _ => ?_⟩
  .rcases QP.1 hb with e | e
   .subst e;cases hi
   .rw [Qt] at e;subst e;cases hi
  all_goals
   have:b=0\/b=1:=by simp at hb;omega
   rcases this with e | e<;>subst e<;>simp
 have hO:Ord ([(aI.mk n_ 1 0 1 0 0 0 0),(aI.mk n_ 3 0 0 0 0 0 0)]:List aI).length [(0:Int),1]:=⟨List.Perm.refl _,rfl,by simp⟩;refine bG _ (EN hF hO) fun y ⟨uf,hR,e⟩ => ?_;have hu:Bl [(aI.mk n_ 1 0 1 0 0 0 0),(aI.mk n_ 3 0 0 0 0 0 0)] [(0:Int),1] 2=[jU 16 0 (-1)]:=by simp [Bl,aaY,Lp,nxt]
 have hd:uf=[jU 16 0 (-1)]:=by
  refine Rn.det hR ?_;show Rn _ (Bl _ _ 2) _;rw [hu];refine .done fun j hj => ?_;have:j=0:=by simp at hj;omega
  subst this;rfl
 subst e;subst hd;exact bG (fun y=>y=true) (goT rfl (goT rfl (dD rfl (goT rfl (aF rfl))))) fun y e=>aF e
theorem YZ {n j:Nat} {us:List dn} {fi:List Int} (hg:GL n us) (hj:j<us.length) (hf:far fi us j=false):VC (codeOf fi us j).op (codeOf fi us j).arith (codeOf fi us j).dst (codeOf fi us j).a (codeOf fi us j).b (codeOf fi us j).value (codeOf fi us j).wide (codeOf fi us j).args:=by
 have hu:=hg.at hj;have hd:=Qb (fi:=fi) hg j;unfold far at hf;unfold codeOf;obtain ⟨u,e⟩ :∃u,us.getD j aZ=u:=⟨_,rfl⟩;simp only [e] at hu hf ⊢;obtain ⟨o,w,a3,a4,d,a,b,s,n,v⟩:=hu.c;refine ⟨o,w,a3,a4,d,a,b,s,n,?_⟩;split
 .rename_i ht;have hop:=hu.j.1 ht;rw [decide_eq_true ht] at hf;unfold uY;rw [if_neg (by omega),if_neg (by omega),if_neg (by omega),if_neg (by omega),if_pos hop];cases hw:u.dQ with
  |true=>simp;omega
  |false=>rw [hw] at hf;simp at hf ⊢;omega
 .exact v
section
variable {bl:List aI} {od:List Int} {nm:List UInt8} {pa re:Int}
theorem aeW (h:Ord bl.length od) {k:Nat} :∀{i:Nat},i<=bl.length->k<i->(Dy bl od i).getD (od.getD k 0).toNat 0=st bl od k
 |0,_,hk=>absurd hk (qT _)
 |i+1,hi,hk=>by
  have hl:=h.len;have hnd:od.Nodup:=h.perm.nodup_iff.2 (by unfold nat;exact List.pairwise_map.2 (List.pairwise_lt_range.imp fun h=>by simp;omega));have ai:=h.at (i:=i) (by omega);have ak:=h.at (i:=k) (by omega);have hfl :∀i,(Dy bl od i).length=bl.length:=fun i=>by
   induction i with
   |zero=>simp [Dy]
   |succ i ih=>simp [Dy,ih]
  show ((Dy bl od i).set _ _).getD _ 0=_;rw [jY (by rw [hfl];omega)];by_cases e:k=i
  .subst e;rw [if_pos rfl]
  .rw [if_neg fun e2=>e ?_]
   .exact aeW h (by omega) (by omega)
   .have e2:od.getD k 0=od.getD i 0:=by omega
    rw [getD_at _ (by omega),getD_at _ (by omega)] at e2;exact (List.getElem_inj hnd).1 e2
theorem akQ (h:FO bl) (ho:Ord bl.length od):Ok (f17 nm pa re bl od) fun y =>∀uf,Rn (Dy bl od bl.length) (Bl bl od bl.length) uf->y=(w_ uf uf.length:Int):=by
 unfold f17;refine bG _ (EN h ho) fun y ⟨uf,hR,e⟩ => ?_;subst e;have hg:=hR.gl (KA h ho);have hg6:=hg.1;generalize Dy bl od bl.length=fi at *;have hcl:(tX fi uf).length=uf.length:=by simp [tX]
 refine bG (fun y=>y=(w_ uf uf.length:Int)) ?_ fun y e=>aF fun u2 h2=>by rw [Rn.det h2 hR];exact e
 refine cZ (fun s:Int×Int =>∃j:Nat,s=((w_ uf j:Int),(j:Int))/\j<=uf.length) (fun s=>uf.length-s.2.toNat) ⟨0,rfl,by omega⟩ fun s ⟨j,e,hj⟩ => ?_;subst e;simp only [hcl];refine dM (fun hc => ?_) fun hc=>aF ?_
 rotate_left
 .have hc:¬ j<uf.length:=by simpa using hc
  have:j=uf.length:=by omega
  subst this;rfl
 have hc:j<uf.length:=by simpa using hc
 have hco:(tX fi uf).getD j kU=codeOf fi uf j:=by rw [getD_at _ (by rw [hcl];exact hc)];simp [tX]
 have hal:=Bg hg (j+1);have hs:=pO hc;have hvc:=YZ hg hc (hR.fin j hc);refine dD (aK.2 (by omega)) ?_;simp only [QR,hco];refine bG (fun y=>y=(szU (uf.getD j aZ):Int)) ?_ fun y e => ?_
 .unfold f32;exact bG _ (aiS hvc) fun y hy=>aF (by rw [hy.2];rfl)
 subst e;refine aF ⟨⟨j+1,?_,hc⟩,?_⟩
 .rw [aH (by omega),aH (by omega),hs];rfl
 .simp only [aH (x:=(j:Int)+1) (by omega)];omega
end
theorem asl {l:List Int} {x:Int} (hl:l.length<=1000000) (hx:x∈l):f23 l x=some true:=by
 apply ok_eq;unfold f23;refine iF (fun _ =>∀j,j<l.length->l.getD j 0≠x) (ji l.length (fun j=>l.getD j 0≠x) (by omega) (fun i hi _=>goT (decide_eq_true (by omega)) (dD (aK.2 (by omega)) (dM (fun _=>aF rfl) fun h=>aF ⟨rfl,by simpa using h⟩))) fun h=>cu (decide_eq_false (by omega)) (aF h)) fun _ h => ?_;obtain ⟨j,hj,e⟩:=Wl hx;exact absurd (by rw [getD_at _ hj];exact e) (h j hj)
theorem akR {n:Nat} {u:dn} (h:GU n u) (ht:0<=u.to) (hw:u.dQ=false):szU (wid u)=szU u+3:=by
 have:=h.j.1 ht;have key :∀op n,op=13\/op=14\/op=15->YU op true n=YU op false n+3:=fun op n h=>by
  rcases h with e | e | e<;>subst e<;>simp [YU,rowOf,J7,Hy]
 show YU u.iG true u.gY.length=YU u.iG u.dQ u.gY.length+3;rw [hw];exact key _ _ (by omega)
section
variable {n:Nat} {us:List dn} {fi:List Int}
theorem aeX {j:Nat} (h:far fi us j=true):0<=(us.getD j aZ).to/\(us.getD j aZ).dQ=false/\(dst fi us j < -128\/127<dst fi us j):=by
 unfold far at h;simp only [Q6,UX,W6,decide_eq_true_eq] at h;exact ⟨h.1.1,h.1.2,h.2⟩
theorem aeY (hg:GL n us) {j:Nat} (hj:j<us.length):szU ((KG fi us).getD j aZ)=szU (us.getD j aZ)+if far fi us j=true then 3 else 0:=by
 rw [yY hj];split
 .rename_i hf;obtain ⟨h1,h2,_⟩:=aeX hf;exact akR (hg.at hj) h1 h2
 .rfl
theorem gap (hg:GL n us) {a:Nat} :∀{b:Nat},a<=b->b<=us.length->w_ us b+w_ (KG fi us) a<=w_ (KG fi us) b+w_ us a
 |0,h,_=>by
  have:a=0:=by omega
  subst this;omega
 |b+1,h,hb=>by
  by_cases e:a=b+1
  .subst e;omega
  .have:=gap hg (a:=a) (b:=b) (by omega) (by omega);have h1:=pO (us:=us) (k:=b) (by omega);have h2:=pO (us:=KG fi us) (k:=b) (by rw [mV];omega);have h3:=aeY (fi:=fi) hg (j:=b) (by omega);omega
theorem Y0 (hg:GL n us) (hF:FI n us.length fi) {j:Nat} (hj:j<us.length) (ht:0<=(us.getD j aZ).to) :
  (127<dst fi us j->127<dst fi (KG fi us) j)/\(dst fi us j < -128->dst fi (KG fi us) j<=dst fi us j)/\(dst fi us j < -128->far fi us j=true->dst fi (KG fi us) j+3 < -128):=by
 obtain ⟨f1,f2,f3⟩:=hF.at ⟨ht,(hg.at hj).t⟩;have hto:((KG fi us).getD j aZ).to=(us.getD j aZ).to:=by rw [yY hj];split<;>rfl
 unfold dst;rw [hto];generalize (fi.getD (us.getD j aZ).to.toNat 0)=t at *;obtain ⟨t,rfl⟩ :∃k:Nat,t=k:=⟨t.toNat,by omega⟩;rw [QR];have h1:=pO (us:=us) hj;have h2:=pO (us:=KG fi us) (k:=j) (by rw [mV];omega);have h3:=aeY (fi:=fi) hg hj;by_cases hk:t<=j
 .have m1:=Um us (show t<=j+1 by omega);have m2:=gap (fi:=fi) hg (a:=t) (b:=j) hk (by omega);refine ⟨fun h=>by omega,fun h=>by split at h3<;>omega,fun h hf => ?_⟩;rw [if_pos hf] at h3;omega
 .have m1:=Um us (show j+1<=t by omega);have m2:=gap (fi:=fi) hg (a:=j+1) (b:=t) (by omega) (by omega);exact ⟨fun h=>by omega,fun h=>by omega,fun h=>by omega⟩
def Ws (fi:List Int) (us:List dn):Prop :=∀j,j<us.length->(us.getD j aZ).dQ=true->127<dst fi us j\/dst fi us j+3 < -128
theorem akS (hg:GL n us) (hF:FI n us.length fi) (h:Ws fi us):Ws fi (KG fi us):=fun j hj hw=>by
 rw [mV] at hj;rw [yY hj] at hw;cases hf:far fi us j with
 |true=>
  obtain ⟨h1,h2,h3⟩:=aeX hf;obtain ⟨d1,d2,d3⟩:=Y0 hg hF hj h1;exact h3.elim (fun h=>.inr (d3 h hf)) fun h=>.inl (d1 h)
 |false=>
  rw [hf,if_neg (by simp)] at hw;have hu:=hg.at hj;have ht:0<=(us.getD j aZ).to:=hu.j.2 (hu.c.w hw);obtain ⟨d1,d2,d3⟩:=Y0 hg hF hj ht;exact (h j hj hw).elim (fun h=>.inl (d1 h)) fun h=>.inr (by have:=d2 (by omega);omega)
theorem Rn.ws {uf:List dn} (h:Rn fi us uf):GL n us->FI n us.length fi->Ws fi us->Ws fi uf:=by
 induction h with
 |done _=>exact fun _ _ h=>h
 |step _ _ ih=>exact fun hg hF hw=>ih (P_ hg) (by rw [mV];exact hF) (akS hg hF hw)
end
theorem WJ {k a t e n:Int} :∀u∈Lp k a t e n,u.dQ=false:=by
 unfold Lp
 repeat' split
 all_goals simp [jU]
section
variable {bl:List aI} {od:List Int} {nm:List UInt8} {pa re:Int}
theorem KC (h:FO bl) (ho:Ord bl.length od) :∀i,i<=bl.length->∀u∈Bl bl od i,u.dQ=false
 |0,_=>fun u hu=>by cases hu
 |i+1,hi=>fun u hu=>by
  have ha:=ho.at (i:=i) (by omega);rcases Xs.1 hu with hu | hu
  .exact KC h ho i (by omega) u hu
  .rcases Xs.1 hu with hu | hu
   .obtain ⟨i',hi',e⟩:=QQ.1 hu;subst e;exact (h.ins _ (h.blk (b:=(od.getD i 0).toNat) (by omega)).2 i' hi').2.2.1
   .exact WJ u hu
theorem akT (ho:Ord bl.length od) {t:Int} (ht:0<=t/\t<bl.length) :∃k,k<bl.length/\(Dy bl od bl.length).getD t.toNat 0=((Bl bl od k).length:Int):=by
 obtain ⟨k,hk,e⟩:=Wl (ho.mem.2 ht);have hl:=ho.len;have:=aeW ho (Ys _) (k:=k) (by omega);rw [getD_at _ hk,e] at this;exact ⟨k,by omega,this⟩
theorem aeZ {l:List Int} (hb:Bytes l):f5 l=some true:=by
 apply ok_eq;unfold f5;refine fU aeV (cu rfl (bG _ (aky hb (by omega)) fun ⟨c,i⟩ ⟨e,hb'⟩ => ?_));simp only at e;subst e;refine bG _ (aeU hb' (WN _)) fun ⟨nm,pa,re,bl,l',i',od⟩ ⟨hF,h2,h3,hO⟩ => ?_;simp only at hF h2 h3 hO;subst h2;have hlen:=hF.len;have hol:=hO.len;refine bG _ (EN hF hO) fun y ⟨uf,hR,e⟩ => ?_;subst e;have hG:=KA hF hO;have hg:=hR.gl hG;have hg6:=hg.1;have hFI:=Qa hF hO bl.length (Ys _);have hws:Ws (Dy bl od bl.length) uf:=hR.ws hG hFI fun j hj hw=>by
  rw [getD_at _ hj,KC hF hO _ (Ys _) _ (X1 _)] at hw;cases hw
 have hsl:(Dz bl od uf).length=bl.length:=by simp [Dz]
 have hcl:(tX (Dy bl od bl.length) uf).length=uf.length:=by simp [tX]
 have Ls:=hR.len;refine bG (fun y=>y=false) (cu (by simp) (aF (by simp [hsl,hol]))) fun y e => ?_;subst e;refine cu rfl (iF (fun y=>y=(w_ uf uf.length:Int)) ?_ fun y e=>bG _ (akQ hF hO) fun z hz=>aF (decide_eq_true (by rw [e,hz _ hR])));refine cZ (fun s:Int×Int =>∃j:Nat,s=((w_ uf j:Int),(j:Int))/\j<=uf.length) (fun s=>uf.length-s.2.toNat) ⟨0,rfl,by omega⟩ fun s ⟨j,e,hj⟩ => ?_;subst e;simp only [hcl];refine dM (fun hc => ?_) fun hc=>aF ?_
 rotate_left
 .have hc:¬ j<uf.length:=by simpa using hc
  have:j=uf.length:=by omega
  subst this;rfl
 have hc:j<uf.length:=by simpa using hc
 have hin:=aK.2 (show 0<=(j:Int)/\(j:Int)<uf.length by omega);have hco:(tX (Dy bl od bl.length) uf).getD j kU=codeOf (Dy bl od bl.length) uf j:=by rw [getD_at _ (by rw [hcl];exact hc)];simp [tX]
 have hal:=Bg hg (j+1);have hs:=pO hc;have hvc:=YZ hg hc (hR.fin j hc);have hu:=hg.at hc;have hd:=Qb (fi:=Dy bl od bl.length) hg j;refine iF (fun y=>y=(w_ uf (j+1):Int)) (dD hin ?_) fun y e=>aF ⟨⟨j+1,by rw [e,aH (by omega)];rfl,hc⟩,by simp only [aH (x:=(j:Int)+1) (by omega)];omega⟩;simp only [QR,hco];refine bG (fun y=>y=(szU (uf.getD j aZ):Int)) ?_ fun y e => ?_
 .unfold f22;exact bG _ (aou hvc) fun y hy=>aF (by rw [hy.2];rfl)
 subst e;have hat:dP ((w_ uf j:Int)+(szU (uf.getD j aZ):Int))=(w_ uf (j+1):Int):=by rw [aH (by omega),hs];rfl
 simp only [hat];have hop:(codeOf (Dy bl od bl.length) uf j).op=(uf.getD j aZ).iG:=rfl;have hwd:(codeOf (Dy bl od bl.length) uf j).wide=(uf.getD j aZ).dQ:=rfl;simp only [hop,hwd];refine bG (fun y=>y=decide ((uf.getD j aZ).to<0)) (dD hin ?_) fun y e => ?_
 .have hj:=hu.j;refine dM (fun n1=>dD hin (dM (fun n2=>dD hin (aF ?_)) fun n2=>aF ?_)) fun n1=>aF ?_
  all_goals simp only [W6,K6,decide_eq_false_iff_not,decide_eq_true_eq] at n1
  all_goals try simp only [W6,K6,decide_eq_false_iff_not,decide_eq_true_eq] at n2
  .rw [vp];simp only [W6,decide_eq_false_iff_not,decide_eq_true_eq];omega
  .exact (decide_eq_false (by omega)).symm
  .exact (decide_eq_false (by omega)).symm
 subst e;refine dM (fun ht=>aF rfl) fun ht => ?_;have ht:0<=(uf.getD j aZ).to:=by have:=of_decide_eq_false ht;omega
 have hv:(codeOf (Dy bl od bl.length) uf j).value=dst (Dy bl od bl.length) uf j:=if_pos ht;have hde:dst (Dy bl od bl.length) uf j=(w_ uf ((Dy bl od bl.length).getD (uf.getD j aZ).to.toNat 0).toNat:Int)-(w_ uf (j+1):Int):=rfl;obtain ⟨k,hk,hke⟩:=akT hO ⟨ht,hu.t⟩;rw [hke,QR] at hde;have hm:w_ uf (Bl bl od k).length<=603000000:=Bg hg _;have Uo:=hR.fin j hc;unfold far at Uo;rw [decide_eq_true ht] at Uo;have hws:=hws j hc;simp only [hv];obtain ⟨d,hdd⟩ :∃d,dst (Dy bl od bl.length) uf j=d:=⟨_,rfl⟩;rw [hdd] at hd hde Uo hws ⊢;have hmem:dP ((w_ uf (j+1):Int)+d)∈Dz bl od uf:=by
  rw [aH (by omega)];exact QQ.2 ⟨k,Up.2 hk,by omega⟩
 refine bG (fun y=>y=false) (dD hin (fU (asl (by omega) hmem) (cu rfl (dD hin ?_)))) fun y e => ?_
 .refine dM (fun hn=>dD hin ?_) fun hn=>aF rfl;rw [hn] at Uo;simp at Uo;exact cu (decide_eq_false (by omega)) (dD hin (aF (decide_eq_false (by omega))))
 subst e;refine cu rfl (dD hin (bG (fun y=>y=if d<0 then d+3 else d) (dM (fun h=>aF ?_) fun h=>aF ?_) fun y e => ?_))
 .rw [if_pos (of_decide_eq_true h),aH (by omega)]
 .rw [if_neg (of_decide_eq_false h)]
 subst e;refine bG (fun y=>y=false) (dD hin (dM (fun hw => ?_) fun hw=>aF rfl)) fun y e=>by subst e;exact cu rfl (aF rfl)
 have:=hws hw;refine dM (fun h=>aF (decide_eq_false ?_)) fun h=>aF rfl;have:=of_decide_eq_true h;split at this<;>split<;>omega
end
end Go.Fg.YtapemkmlinejmaaGreatDoor

