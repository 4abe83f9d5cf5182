/-
  The plain proofs: what the functions compute answers as the law says.
-/
import Derived.Test.YtapemkmlinejmaaGreatDoorLa
set_option linter.unusedSimpArgs false
set_option linter.unusedVariables false
set_option linter.unusedSectionVars false
namespace Go.Fg.YtapemkmlinejmaaGreatDoor
open Go.Fw
noncomputable def fiT (bl:List aG) (od:List Int):Nat->List Int
 |0=>List.replicate bl.length 0
 |i+1=>(fiT bl od i).set (od.getD i 0).toNat (st bl od i)
noncomputable def codeOf (fi:List Int) (us:List bM) (j:Nat):jd:=
 jd.mk (us.getD j aX).iJ (us.getD j aX).gU (us.getD j aX).jQ (us.getD j aX).pV (us.getD j aX).pW (if 0<=(us.getD j aX).to then dst fi us j else (us.getD j aX).iI) (us.getD j aX).fB (us.getD j aX).iD
noncomputable def Bd (fi:List Int) (us:List bM):List jd:=(List.range us.length).map (codeOf fi us)
noncomputable def qm (bl:List aG) (od:List Int) (us:List bM):List Int:=(List.range bl.length).map fun i=>(Ku us (Bc bl od i).length:Int)
theorem Rn.len {fi:List Int} {us uf:List bM} (h:Rn fi us uf):uf.length=us.length:=by
 induction h with
 |done h=>rfl
 |step _ _ ih=>rw [ih,ql]
theorem Rn.gl {n:Nat} {fi:List Int} {us uf:List bM} (h:Rn fi us uf):GL n us->GL n uf:=by
 induction h with
 |done h=>exact id
 |step _ _ ih=>exact fun hg=>ih (Wy hg)
section
variable {bl:List aG} {od:List Int} {nm:List UInt8} {pa re:Int}
theorem WA (h:FO bl) (ho:Ord bl.length od) :∀i,i<=bl.length->FI bl.length (Bc bl od bl.length).length (fiT bl od i)
 |0,_=>⟨by simp [fiT],fun x hx=>by have:=Kx hx;subst this;omega⟩
 |i+1,hi=>by
  obtain ⟨h1,h2⟩:=WA h ho i (by omega);refine ⟨by simp [fiT,h1],fun x hx => ?_⟩;rcases Km hx with hx | hx
  .exact h2 x hx
  .subst hx;have:=Du bl od (bl.length-i) i;rw [show i+(bl.length-i)=bl.length by omega] at this;unfold st;omega
theorem Ky (h:FO bl) (ho:Ord bl.length od):GL bl.length (Bc bl od bl.length):=
 ⟨by have:=P7 h ho bl.length (YY _);have:=h.len;omega,aeN h ho bl.length (YY _)⟩
theorem aeR {n:Nat} {us:List bM} {fi:List Int} (h:GL n us) (j:Nat):-603000000<=dst fi us j/\dst fi us j<=603000000:=by
 unfold dst;have:=Kw h (fi.getD (us.getD j aX).to.toNat 0).toNat;have:=Kw h (j+1);omega
theorem EK (h:FO bl) (ho:Ord bl.length od):Ok (f9 nm pa re bl od) fun y =>∃uf,Rn (fiT bl od bl.length) (Bc bl od bl.length) uf/\y=(0,Bd (fiT bl od bl.length) uf,qm bl od uf):=by
 have hlen:=h.len;have hol:=ho.len;have hG:=Ky h ho;unfold f9;refine bG _ (aaQ (by omega) hlen.1 (by omega)) fun y hy=>cZ (by rw [hy.2 ho];rfl) (fP (aeO h ho) (dB (JY.2 (by omega)) ?_));refine bG (fun y=>y=fiT bl od bl.length) ?_ fun fi e => ?_
 .refine cO (fun s:Int×List Int =>∃i:Nat,s=((i:Int),fiT bl od i)/\i<=bl.length) (fun s=>bl.length-s.1.toNat) ⟨0,by simp [fiT],by omega⟩ fun s ⟨i,e,hi⟩ => ?_;subst e;refine dM (fun hc => ?_) fun hc => ?_
  rotate_left
  .have hc:¬ i<od.length:=by simpa using hc
   have:i=bl.length:=by omega
   subst this;exact aC rfl
  have hc:i<od.length:=by simpa using hc
  have ha:=ho.at (i:=i) (by omega);have hf:=(WA h ho i hi).at ha;refine dB (aJ.2 (by simp only;omega)) (dB (aJ.2 (by simp;omega)) (dB hf.1 (aC ⟨⟨i+1,?_,by omega⟩,?_⟩)))
  .rw [aH (by omega)];simp only [QR];rw [getD_at (l:=(List.range bl.length).map (st bl od)) _ (by simp;omega)];simp only [KK,List.getElem_range];rfl
  .simp only [aH (x:=(i:Int)+1) (by omega)];omega
 have hF:=WA h ho bl.length (YY _);rw [<-e] at hF ⊢;generalize huT:Bc bl od bl.length=u0 at *;refine fP (Uj hG) (bG (fun y =>∃uf,Rn fi u0 uf/\y=(uf,atL uf)) ?_ fun y ⟨uf,hR,e⟩ => ?_)
 .refine cO (fun s:List bM×List Int =>∃us,s=(us,atL us)/\GL bl.length us/\us.length=u0.length/\∀uf,Rn fi us uf->Rn fi u0 uf) (fun s=>cnt s.1) ⟨u0,rfl,hG,rfl,fun _ h=>h⟩ fun s ⟨us,e,hg,NK,hR⟩ => ?_;subst e;have hu6:=hg.1;refine bG (fun y=>y=((List.range us.length).any (far fi us),rnd fi us)) ?_ fun y e => ?_
  .refine cO (fun s:Bool×Int×List bM =>∃(j:Nat) (arr:List bM),s=((List.range j).any (far fi us),(j:Int),arr)/\j<=us.length/\arr.length=us.length/\(∀k,k<j->arr.getD k aX=(rnd fi us).getD k aX)/\∀k,j<=k->k<us.length->arr.getD k aX=us.getD k aX) (fun s=>us.length-s.2.1.toNat)
    ⟨0,us,rfl,by omega,rfl,fun k hk=>absurd hk (vp _),fun _ _ _=>rfl⟩ fun s ⟨j,arr,e,h1,h2,h3,h4⟩ => ?_
   subst e;refine dM (fun hc => ?_) fun hc => ?_
   rotate_left
   .have hc:¬ j<us.length:=by simpa using hc
    have:j=us.length:=by omega
    subst this;have:arr=rnd fi us:=by
     refine qu (by rw [h2,ql]) fun k k1 k2 => ?_;have:=h3 k (by omega)
     rwa [getD_at _ k1,getD_at _ k2] at this
    subst this;exact aC rfl
   have hc:j<us.length:=by simpa using hc
   have hu:=h4 j (YY _) hc;have hgu:=hg.at hc;have aoo:far fi us j=(decide (0<=(us.getD j aX).to)&&!(us.getD j aX).fB&&(decide (dst fi us j < -128)||decide (127<dst fi us j))):=rfl;have hd:=aeR (fi:=fi) hg j;have hde:dst fi us j=(Ku us (fi.getD (us.getD j aX).to.toNat 0).toNat:Int)-(Ku us (j+1):Int):=rfl;refine bG (fun y=>y=((List.range j).any (far fi us)||far fi us j,if far fi us j=true then arr.set j (wid (us.getD j aX)) else arr)) ?_ fun y e => ?_
   .refine dB (aJ.2 (by simp only;omega)) ?_;simp only [QR,hu];generalize us.getD j aX=u at *;refine bG (fun y=>y=(decide (u.to<0)||u.fB)) (dM (fun hc=>aC ?_) fun hc=>aC ?_) fun y e => ?_
    .rw [hc];rfl
    .rw [hc];rfl
    subst e;refine dM (fun hs => ?_) fun hs => ?_
    .have hf:far fi us j=false:=by
      rw [aoo];simp only [JN,decide_eq_true_eq] at hs;rcases hs with hs | hs
      .rw [decide_eq_false (by omega)];rfl
      .rw [hs];simp
     rw [hf];exact aC (by simp)
    simp only [Vn,decide_eq_false_iff_not] at hs;obtain ⟨hs1,hs2⟩:=hs;have hto:0<=u.to:=by omega
    obtain ⟨f1,f2,f3⟩:=hF.at ⟨hto,hgu.t⟩;have aiP:far fi us j=(decide (dst fi us j < -128)||decide (127<dst fi us j)):=by rw [aoo,decide_eq_true hto,hs2];rfl
    refine dB f1 (dB (aJ.2 (by rw [zu];omega)) (dB (aJ.2 (by rw [zu,aH (by omega)];omega)) ?_));have hd2:dN ((atL us).getD (fi.getD u.to.toNat 0).toNat 0-(atL us).getD (dN ((j:Int)+1)).toNat 0)=dst fi us j:=by
     rw [aH (x:=(j:Int)+1) (by omega),show ((j:Int)+1).toNat=j+1 by omega,Kv (by omega),Kv (by omega),<-hde];exact aH (by omega)
    simp only [hd2];refine bG (fun y=>y=far fi us j) (dM (fun hc=>aC ?_) fun hc=>aC ?_) fun y e => ?_
    .rw [aiP,hc];rfl
    .rw [aiP,hc,J1];exact decide_eq_decide.2 (by omega)
    subst e;refine bG _ (dM (fun hf=>dB (aJ.2 (by omega)) (aC ?_)) fun hf=>aC ?_) fun y hy=>aC hy
    .rw [hf,if_pos rfl,Bool.or_true];rfl
    .rw [hf,if_neg (by simp),Bool.or_false]
   .subst e;refine aC ⟨⟨j+1,if far fi us j=true then arr.set j (wid (us.getD j aX)) else arr,?_,hc,?_,fun k hk => ?_,fun k hk hk2 => ?_⟩,?_⟩
    .simp only;rw [aH (by omega),Ki,List.any_append,List.any_cons,List.any_nil,Bool.or_false];rfl
    .split
     .rw [UV,h2]
     .exact h2
    .by_cases e:k=j
     .subst e;rw [EJ hc];split
      .rw [kM (by omega),if_pos rfl]
      .exact hu
     .rw [<-h3 k (by omega)];split
      .rw [kM (by omega),if_neg e]
      .rfl
    .rw [<-h4 k (by omega) hk2];split
     .rw [kM (by omega),if_neg (by omega)]
     .rfl
    .simp only [aH (x:=(j:Int)+1) (by omega)];omega
  .subst e;refine dM (fun hc=>aC ?_) fun hc => ?_
   .have hn :∀j,j<us.length->far fi us j=false:=fun j hj=>by
     simp only [Wc,List.any_eq_false,UB] at hc;simpa using hc j hj
    exact ⟨us,hR us (.done hn),by rw [aeQ hn]⟩
   .have hex :∃j,j<us.length/\far fi us j=true:=by
     simp only [K9,KB,UB] at hc;exact hc
    exact fP (Uj (Wy hg)) (aC ⟨⟨rnd fi us,rfl,Wy hg,by rw [ql,NK],fun uf hr=>hR uf (.step hex hr)⟩,ahu hex⟩)
 subst e;have hg:=hR.gl hG;have NK:=hR.len;have hg6:=hg.1;refine bG (fun y=>y=Bd fi uf) ?_ fun y e => ?_
 .refine cO (fun s:Int×List jd =>∃j:Nat,s=((j:Int),(List.range j).map (codeOf fi uf))/\j<=uf.length) (fun s=>uf.length-s.1.toNat) ⟨0,rfl,by omega⟩ fun s ⟨j,e,hj⟩ => ?_;subst e;refine dM (fun hc => ?_) fun hc => ?_
  rotate_left
  .have hc:¬ j<uf.length:=by simpa using hc
   have:j=uf.length:=by omega
   subst this;exact aC rfl
  have hc:j<uf.length:=by simpa using hc
  have hd:=aeR (fi:=fi) hg j;have hgu:=hg.at hc;have hde:dst fi uf j=(Ku uf (fi.getD (uf.getD j aX).to.toNat 0).toNat:Int)-(Ku uf (j+1):Int):=rfl;have hco:codeOf fi uf j=jd.mk (uf.getD j aX).iJ (uf.getD j aX).gU (uf.getD j aX).jQ (uf.getD j aX).pV (uf.getD j aX).pW (if 0<=(uf.getD j aX).to then dst fi uf j else (uf.getD j aX).iI) (uf.getD j aX).fB (uf.getD j aX).iD:=rfl;refine dB (aJ.2 (by simp only;omega)) ?_;simp only [QR];obtain ⟨u,hue⟩ :∃u,uf.getD j aX=u:=⟨_,rfl⟩;simp only [hue] at hgu hde hco ⊢;refine bG (fun y=>y=(u.iJ,u.gU,u.jQ,u.pV,u.pW,(if 0<=u.to then dst fi uf j else u.iI),u.fB,u.iD,u.to)) (dM (fun ht => ?_) fun ht=>aC ?_) fun y e => ?_
  .have ht:0<=u.to:=of_decide_eq_true ht;obtain ⟨f1,f2,f3⟩:=hF.at ⟨ht,hgu.t⟩;refine dB f1 (dB (aJ.2 (by rw [zu];omega)) (dB (aJ.2 (by rw [zu,aH (by omega)];omega)) (aC ?_)));rw [aH (x:=(j:Int)+1) (by omega),show ((j:Int)+1).toNat=j+1 by omega,Kv (by omega),Kv (by omega),<-hde,aH (by omega),if_pos ht]
  .rw [if_neg (of_decide_eq_false ht)]
  subst e;refine dB (by unfold bC;simp;omega) (aC ⟨⟨j+1,?_,hc⟩,?_⟩)
  .rw [aH (by omega),Ki,XX,Qf,Vv,hco];rfl
  .simp only [aH (x:=(j:Int)+1) (by omega)];omega
 subst e;refine bG (fun y=>y=qm bl od uf) ?_ fun y e=>by subst e;exact aC ⟨uf,hR,rfl⟩
 refine cO (fun s:Int×List Int =>∃i:Nat,s=((i:Int),(List.range i).map fun i=>(Ku uf (Bc bl od i).length:Int))/\i<=bl.length) (fun s=>bl.length-s.1.toNat) ⟨0,rfl,by omega⟩ fun s ⟨i,e,hi⟩ => ?_;subst e;refine dM (fun hc => ?_) fun hc => ?_
 rotate_left
 .have hc:¬ i<bl.length:=by simpa using hc
  have:i=bl.length:=by omega
  subst this;exact aC rfl
 have hc:i<bl.length:=by simpa using hc
 have hm:=Du bl od (bl.length-i) i;rw [show i+(bl.length-i)=bl.length by omega,huT] at hm;have hs:((List.range bl.length).map (st bl od)).getD i 0=((Bc bl od i).length:Int):=by rw [getD_at _ (by simpa using hc)];simp [st]
 refine dB (aJ.2 (by simp;omega)) ?_;simp only [QR,hs];refine dB (aJ.2 (by rw [zu];omega)) (dB (by unfold bC;simp;omega) (aC ⟨⟨i+1,?_,hc⟩,?_⟩))
 .rw [aH (by omega),Ki,XX,Qf,Vv,Kv (by omega)];rfl
 .simp only [aH (x:=(i:Int)+1) (by omega)];omega
end
def MI (i:dn):Prop :=∃d a:Int,(0<=d/\d<2)/\(0<=a/\a<2)/\i=dn.mk 2 0 d a 0 0 eInt
theorem aop {k:Nat} :∀{bl:List aG},(∀b∈bl,b.instrs.length<=k)->zx bl<=(k+1)*bl.length
 | [],_=>by simp [zx]
 |b::bl,h=>by
  have:=aop (k:=k) (bl:=bl) fun x hx=>h x (Vi _ hx);have:=h b qa;unfold zx at *;simp only [Qf,K3,Wl,Nat.mul_add,Nat.mul_one];omega
theorem ahw {l:List Int} {i:Int} (hb:Bytes l) (hi:0<=i):Ok (f24 l i) fun y=>FO y.2.2.2.2.2/\y.2.2.2.1=l/\0<=y.2.2.2.2.1:=by
 unfold f24;refine goN hb hi (by omega) fun x0 j0 h0 a0 b0 => ?_;have b0:=b0 (by omega);obtain ⟨N,hN⟩ :∃N:Nat,2+x0=N:=⟨(2+x0).toNat,by omega⟩;have hw:dN (2+x0)=N:=(aH (by omega)).trans hN;simp only [hw];refine bG (fun s=>s.1=l/\0<=s.2.1/\s.2.2.2.2.2.length=N/\∀b∈s.2.2.2.2.2,(b.bn=1\/b.bn=2\/b.bn=3)/\b.j_=0/\(0<=b.eY/\b.eY<N)/\(0<=b.bZ/\b.bZ<N)/\b.instrs.length<=47/\∀i∈b.instrs,MI i) ?_ fun s ⟨e1,e2,e3,e4⟩ => ?_
 .refine cO (fun s:Int×List Int×Int×List UInt8×Int×Int×List aG=>s.2.1=l/\0<=s.2.2.1/\s.1=s.2.2.2.2.2.2.length/\s.2.2.2.2.2.2.length<=N/\∀b∈s.2.2.2.2.2.2,(b.bn=1\/b.bn=2\/b.bn=3)/\b.j_=0/\(0<=b.eY/\b.eY<N)/\(0<=b.bZ/\b.bZ<N)/\b.instrs.length<=47/\∀i∈b.instrs,MI i) (fun s=>(N-s.1).toNat)
   ⟨rfl,h0,rfl,by simp,fun b h=>by cases h⟩ fun ⟨q,l',j,z1,z2,z3,bl⟩ ⟨e1,e2,e3,e4,e5⟩ => ?_
  simp only at e1 e2 e3 e4 e5;subst e1;subst e3;refine dM (fun hc => ?_) fun hc=>aC ⟨rfl,e2,by have:=of_decide_eq_false hc;simp only at this ⊢;omega,e5⟩;have hc:(bl.length:Int)<N:=of_decide_eq_true hc;refine goN hb e2 (by omega) fun x1 j1 h1 a1 b1=>dB (aJ.2 ⟨a1,by have:=b1 (by omega);simp;omega⟩) (goN hb h1 (by omega) fun x2 j2 h2 a2 b2=>goN hb h2 (by omega) fun x3 j3 h3 a3 b3=>goN hb h3 (by omega) fun x4 j4 h4 a4 b4 => ?_);have b4:=b4 (by omega);refine bG (fun s=>s.1=l'/\0<=s.2.1/\∃is:List dn,s.2.2=(List.getD [(2:Int),1,3] x1.toNat 0,0,x2,x3,0,0,0,is)/\is.length<=47/\∀i∈is,MI i) ?_ fun s ⟨k1,k2,is,k3,k4,k5⟩ => ?_
  .refine cO (fun s:Int×List Int×Int×Int×Int×Int×Int×Int×Int×Int×List dn =>∃(c j:Int) (is:List dn),s=(c,l',j,List.getD [(2:Int),1,3] x1.toNat 0,0,x2,x3,0,0,0,is)/\0<=j/\0<=c/\(is.length:Int)+c<=47/\∀i∈is,MI i) (fun s=>s.1.toNat) ⟨x4,j4,[],rfl,h4,a4,by simp only [Jx];omega,fun i h=>by cases h⟩ fun s ⟨c,j,is,e,g1,g2,g3,g4⟩ => ?_;subst e;refine dM (fun hc => ?_) fun hc=>aC ⟨rfl,g1,is,rfl,by omega,g4⟩;have hc:0<c:=of_decide_eq_true hc;refine goN hb g1 (by omega) fun x5 j5 h5 a5 b5=>goN hb h5 (by omega) fun x6 j6 h6 a6 b6=>dB (by unfold bC;simp;omega) (aC ⟨⟨c-1,j6,is++[dn.mk 2 0 x5 x6 0 0 eInt],?_,h6,by omega,?_,fun i hi => ?_⟩,?_⟩)
   .rw [aH (by omega)]
   .rw [Ys,Zs];omega
   .rcases Xs.1 hi with h | h
    .exact g4 i h
    .rw [Qt] at h;exact ⟨x5,x6,⟨a5,b5 (by omega)⟩,⟨a6,b6 (by omega)⟩,h⟩
   .simp only [aH (x:=c-1) (by omega)];omega
  obtain ⟨s1,s2,s3⟩:=s;simp only at k1 k2 k3;subst k1;subst k3;refine dB (by unfold bC;simp;omega) (aC ⟨⟨rfl,k2,?_,?_,fun b hb' => ?_⟩,?_⟩)
  .simp only [aH (x:=(bl.length:Int)+1) (by omega)];simp
  .simp;omega
  .rcases Xs.1 hb' with h | h
   .exact e5 b h
   .rw [Qt] at h;subst h;refine ⟨?_,rfl,⟨a2,b2 (by omega)⟩,⟨a3,b3 (by omega)⟩,k4,k5⟩;have:=b1 (by omega);have:x1=0\/x1=1\/x1=2:=by omega
    rcases this with e | e | e<;>subst e<;>simp
  .simp only [aH (x:=(bl.length:Int)+1) (by omega)];omega
 obtain ⟨s1,s2,s3,s4,s5,bs⟩:=s;simp only at e1 e2 e3 e4;subst e1;have hat :∀b,b<bs.length->bs.getD b ah∈bs:=fun b hb=>by rw [getD_at _ hb];exact X1 _
 have hE:wW bs:=⟨fun b hb=>have h:=e4 _ (hat b hb);⟨fun _=>e3▸h.2.2.1,fun _=>e3▸h.2.2.2.1⟩,fun b hb=>(e4 _ (hat b hb)).1⟩;refine bG _ (J9 hE (by omega) (by omega)) fun ⟨c1,c2,c3,c4⟩ ⟨p1,p2,p3,p4,p5,p6,p7,p8⟩=>aC ⟨?_,rfl,e2⟩;simp only at p4 p5 p6 p8;have hk :∀b∈c4,b.instrs.length<=47/\(∀i∈b.instrs,MI i)/\b.j_=0:=fun b hb=>by
  obtain ⟨t,ht,q1,q2,q3⟩:=p8 b hb;have:=e4 t ht;rw [q1,q3];exact ⟨this.2.2.2.2.1,this.2.2.2.2.2,this.2.1⟩
 have hwt:=aop (k:=47) fun b hb=>(hk b hb).1;refine ⟨⟨p4,by simp only;omega⟩,by simp only;omega,fun b hb i hi => ?_,p6,fun b hb _ => ?_⟩
 .obtain ⟨d,a,hd,ha,e⟩:=(hk b hb).2.1 i hi;subst e;exact YP (g:=[]) (sg:=[]) (cl:=0) (re:=2) (.move hd ha (by simp)) (by simp) (by simp) (by omega) (by omega)
 .have:=(hk (c4.getD b ah) (by rw [getD_at _ hb];exact X1 _)).2.2;simp only;rw [this];omega
theorem aeS {l:List Int} {i:Int} (hb:Bytes l) (hi:0<=i):Ok (f8 l i) fun y=>FO y.2.2.2.1/\y.2.2.2.2.1=l/\0<=y.2.2.2.2.2.1/\Ord y.2.2.2.1.length y.2.2.2.2.2.2:=by
 unfold f8;refine bG _ (ahw hb hi) fun ⟨c1,c2,c3,c4,c5,c6⟩ ⟨h1,h2,h3⟩ => ?_;simp only at h1 h2 h3;subst h2;refine goN hb h3 (by omega) fun x j hj _ _=>bG (fun y=>FO y.2.2.2.2.2/\y.1=c4/\0<=y.2.1) (dM (fun _ => ?_) fun _=>aC ⟨h1,rfl,hj⟩) fun y ⟨q1,q2,q3⟩ => ?_
 .refine bG _ (ahq hb hj) fun ⟨d1,d2,d3,d4,d5,d6⟩ ⟨⟨sg,hR⟩,_,e2,e3⟩ => ?_;simp only at hR e2 e3;subst e2;have h0:=hR.f0;have h6:=hR.f1;have hl:=hR.sgl;have hc:=hR.cll;refine goN hb e3 (by simp only;omega) fun x2 j2 hj2 a2 b2 => ?_;have b2:=b2 (by simp only;omega);refine dB (aJ.2 ⟨a2,b2⟩) (aC ⟨?_,rfl,hj2⟩);simp only at b2;have hm:d1.getD x2.toNat aB∈d1:=aey _ a2 b2;exact (hR.rt _ hm).fo hR.gl (by omega) (by omega)
 .obtain ⟨y1,y2,y3,y4,y5,y6⟩:=y;simp only at q1 q2 q3;subst q2;have hl:=q1.len;exact bG _ (Kt hb q3 (by simp only;omega) hl.1) fun z ⟨z1,z2,z3⟩=>aC ⟨q1,z1,z2,z3⟩
theorem aeT:f6=some true:=by
 apply ok_eq;unfold f6;have hF:FO [(aG.mk nX 1 0 1 0 0 0 0),(aG.mk nX 3 0 0 0 0 0 0)]:=by
  refine ⟨by simp,by simp [zx],fun b hb i hi => ?_,⟨fun b hb => ?_,fun b hb => ?_⟩,fun b hb _ => ?_⟩
  .rcases QP.1 hb with e | e
   .subst e;cases hi
   .rw [Qt] at e;subst e;cases hi
  all_goals
   have:b=0\/b=1:=by simp at hb;omega
   rcases this with e | e<;>subst e<;>simp
 have hO:Ord ([(aG.mk nX 1 0 1 0 0 0 0),(aG.mk nX 3 0 0 0 0 0 0)]:List aG).length [(0:Int),1]:=⟨List.Perm.refl _,rfl,by simp⟩;refine bG _ (EK hF hO) fun y ⟨uf,hR,e⟩ => ?_;have hu:Bc [(aG.mk nX 1 0 1 0 0 0 0),(aG.mk nX 3 0 0 0 0 0 0)] [(0:Int),1] 2=[jU 16 0 (-1)]:=by simp [Bc,P6,PZ,nxt]
 have hd:uf=[jU 16 0 (-1)]:=by
  refine Rn.det hR ?_;show Rn _ (Bc _ _ 2) _;rw [hu];refine .done fun j hj => ?_;have:j=0:=by simp at hj;omega
  subst this;rfl
 subst e;subst hd;exact bG (fun y=>y=true) (goT rfl (goT rfl (dB rfl (goT rfl (aC rfl))))) fun y e=>aC e
def cU (u:bM):Nat:=if 0<=u.to then 0 else 1
noncomputable def sU (u:bM):Nat:=if 0<=u.to then 0 else szU u
theorem ahx {w:bM->Nat} (hw :∀u,0<=u.to->w (wid u)=w u) {fi:List Int} {us:List bM}:(rnd fi us).map w=us.map w:=by
 refine qu (by simp [ql]) fun j h1 h2 => ?_;simp only [W0] at h1 h2;have:=EJ (fi:=fi) h2;rw [getD_at _ h1,getD_at _ h2] at this;simp only [KK];rw [this];split
 .rename_i hf;unfold far at hf;rw [getD_at _ h2] at hf;simp only [Q6,decide_eq_true_eq] at hf;exact hw _ hf.1.1
 .rfl
theorem Rn.map {w:bM->Nat} (hw :∀u,0<=u.to->w (wid u)=w u) {fi:List Int} {us uf:List bM} (h:Rn fi us uf):uf.map w=us.map w:=by
 induction h with
 |done _=>rfl
 |step _ _ ih=>rw [ih,ahx hw]
section
variable {bl:List aG} {od od':List Int} {nm:List UInt8} {pa re:Int} {w:bM->Nat}
noncomputable def bw (w:bM->Nat) (b:aG):Nat:=((b.instrs.map fun i=>uT (jK i)).map w).sum+if b.bn=3 then w (jU 16 b.j_ (-1)) else 0
theorem ahy (hw :∀u:bM,0<=u.to->w u=0) {b:aG} {n:Int} (ht:b.bn≠3->0<=b.eY) (he:b.bn=2->0<=b.bZ) (hk:b.bn=1\/b.bn=2\/b.bn=3):((P6 b n).map w).sum=bw w b:=by
 unfold P6 bw;rw [XX,K5];congr 1;unfold PZ;have j :∀op a t:Int,0<=t->w (jU op a t)=0:=fun op a t h=>hw _ h;split
 .simp
 rename_i h3;have ht:=ht h3;split
 .split
  .simp
  .simp [j _ _ _ ht]
 rename_i h1;have he:=he (by omega);split
 .simp [j _ _ _ ht]
 split
 .simp [j _ _ _ he]
 .simp [j _ _ _ ht,j _ _ _ he]
theorem P8 (h:FO bl) (ho:Ord bl.length od) (hw :∀u:bM,0<=u.to->w u=0) :∀i,i<=bl.length->((Bc bl od i).map w).sum=((od.take i).map fun x=>bw w (bl.getD x.toNat ah)).sum
 |0,_=>by simp [Bc]
 |i+1,hi=>by
  have ha:=ho.at (i:=i) (by omega);have hb:(od.getD i 0).toNat<bl.length:=by omega
  have hl:i<od.length:=by rw [ho.len];omega
  obtain ⟨e1,e2⟩:=h.trm.1 _ hb;rw [take_snoc hl,XX,K5,<-P8 h ho hw i (by omega)];show ((Bc bl od i++P6 (bl.getD (od.getD i 0).toNat ah) (nxt od i)).map w).sum=_;rw [XX,K5,ahy hw (fun hk=>(e1 hk).1) (fun hk=>(e2 hk).1) (h.trm.2 _ hb),getD_at _ hl];simp
theorem YR (h:FO bl) (ho:Ord bl.length od) (ho':Ord bl.length od') (hw :∀u:bM,0<=u.to->w u=0):((Bc bl od bl.length).map w).sum=((Bc bl od' bl.length).map w).sum:=by
 rw [P8 h ho hw _ (YY _),P8 h ho' hw _ (YY _),JS (by rw [ho.len];omega),JS (by rw [ho'.len];omega)];exact ((ho.perm.trans ho'.perm.symm).map _).sum_nat
theorem Uk {us:List bM} {j:Nat} (h:j<us.length):((us.take (j+1)).map w).sum=((us.take j).map w).sum+w (us.getD j aX):=by
 rw [take_snoc h,XX,K5,getD_at _ h];simp
theorem YS {n:Nat} {us:List bM} {fi:List Int} (hg:GL n us):f11 (Bd fi us)=some ((((us.map cU).sum:Nat):Int),(((us.map sU).sum:Nat):Int)):=by
 apply ok_eq;have h6:=hg.1;have hcl:(Bd fi us).length=us.length:=by simp [Bd]
 unfold f11;refine bG (fun y=>y=((((us.map cU).sum:Nat):Int),(((us.map sU).sum:Nat):Int))) ?_ fun y hy=>aC hy;refine cO (fun s:Int×Int×Int =>∃j:Nat,s=(((((us.take j).map cU).sum:Nat):Int),((((us.take j).map sU).sum:Nat):Int),(j:Int))/\j<=us.length) (fun s=>us.length-s.2.2.toNat) ⟨0,rfl,by omega⟩ fun s ⟨j,e,hj⟩ => ?_;subst e;rw [hcl];refine dM (fun hc => ?_) fun hc => ?_
 rotate_left
 .have hc:¬ j<us.length:=by simpa using hc
  have:j=us.length:=by omega
  subst this;exact aC (show (((((us.take us.length).map cU).sum:Nat):Int),((((us.take us.length).map sU).sum:Nat):Int))=((((us.map cU).sum:Nat):Int),(((us.map sU).sum:Nat):Int)) by rw [UX])
 have hc:j<us.length:=by simpa using hc
 have hgu:=hg.at hc;have hin:=aJ.2 (show 0<=(j:Int)/\(j:Int)<us.length by omega);have hco:(Bd fi us).getD j zn=codeOf fi us j:=by rw [getD_at _ (by rw [hcl];exact hc)];simp [Bd]
 have hc1:=Uk (w:=cU) hc;have hs1:=Uk (w:=sU) hc;have auj:((us.take (j+1)).map cU).sum<=j+1:=by
  have :∀l:List bM,(l.map cU).sum<=l.length:=fun l=>by
   induction l with
   |nil=>simp
   |cons u l ih=>
    simp only [Qf,K3,Wl];have:cU u<=1:=by unfold cU;split<;>omega
    omega
  have:=this (us.take (j+1));rw [Uv] at this;omega
 have auk:((us.take (j+1)).map sU).sum<=603000000:=by
  have:=Kw hg (j+1);have key :∀l:List bM,(l.map sU).sum<=(l.map szU).sum:=fun l=>by
   induction l with
   |nil=>simp
   |cons u l ih=>
    simp only [Qf,K3];have:sU u<=szU u:=by unfold sU;split<;>omega
    omega
  have:=key (us.take (j+1));unfold Ku at *;omega
 simp only [QR,hco];refine bG (fun y=>y=decide ((us.getD j aX).to<0)) ?_ fun y e => ?_
 .refine dB hin ?_;have hj:=hgu.j;have hop:(codeOf fi us j).op=(us.getD j aX).iJ:=rfl;rw [hop];refine dM (fun n1=>dB hin (dM (fun n2=>dB hin (aC ?_)) fun n2=>aC ?_)) fun n1=>aC ?_
  all_goals simp only [Wc,K9,decide_eq_false_iff_not,decide_eq_true_eq] at n1
  all_goals try simp only [Wc,K9,decide_eq_false_iff_not,decide_eq_true_eq] at n2
  .rw [vo];simp only [Wc,decide_eq_false_iff_not,decide_eq_true_eq];omega
  .exact (decide_eq_false (by omega)).symm
  .exact (decide_eq_false (by omega)).symm
 subst e;refine bG (fun y=>y=(((((us.take (j+1)).map cU).sum:Nat):Int),((((us.take (j+1)).map sU).sum:Nat):Int))) (dM (fun ht=>dB hin ?_) fun ht=>aC ?_) fun y e => ?_
 .have ht:¬ 0<=(us.getD j aX).to:=by have:=of_decide_eq_true ht;omega
  have hv:(codeOf fi us j)=jd.mk (us.getD j aX).iJ (us.getD j aX).gU (us.getD j aX).jQ (us.getD j aX).pV (us.getD j aX).pW (us.getD j aX).iI (us.getD j aX).fB (us.getD j aX).iD:=by
   unfold codeOf;rw [if_neg ht]
  rw [hv];refine bG (fun y=>y=(szU (us.getD j aX):Int)) (by unfold f22;exact bG _ (aol hgu.c) fun y hy=>aC (by rw [hy.2];rfl)) fun y e => ?_;subst e;have e1:cU (us.getD j aX)=1:=if_neg ht;have e2:sU (us.getD j aX)=szU (us.getD j aX):=if_neg ht;refine aC ?_;rw [aH (by omega),aH (by omega),hc1,hs1,e1,e2];rfl
 .have ht:0<=(us.getD j aX).to:=by have:=of_decide_eq_false ht;omega
  have e1:cU (us.getD j aX)=0:=if_pos ht;have e2:sU (us.getD j aX)=0:=if_pos ht;rw [hc1,hs1,e1,e2];rfl
 .subst e;refine aC ⟨⟨j+1,?_,hc⟩,?_⟩
  .rw [aH (by omega)];rfl
  .simp only [aH (x:=(j:Int)+1) (by omega)];omega
end
theorem aaS {bl:List aG} {od:List Int} {us:List bM} {i:Nat} (hi:i+1<bl.length):(qm bl od us).getD i 0<=(qm bl od us).getD (i+1) 0:=by
 have hl:(qm bl od us).length=bl.length:=by simp [qm]
 rw [getD_at _ (by omega),getD_at _ (by omega)];have:=aeP us (Du bl od 1 i);simp [qm];exact this
theorem aaT {l:List Int} (hb:Bytes l):f3 l=some true:=by
 apply ok_eq;unfold f3;refine fP aeT (cZ rfl (bG _ (aks hb (by omega)) fun ⟨c,i⟩ ⟨e,hb'⟩ => ?_));simp only at e;subst e;refine bG _ (aeS hb' (WN _)) fun ⟨nm,pa,re,bl,l',i',od⟩ ⟨hF,h2,h3,hO⟩ => ?_;simp only at hF h2 h3 hO;subst h2;have hlen:=hF.len;refine bG _ (EK hF hO) fun y1 ⟨u1,hR1,e1⟩=>bG _ (Kt hb' h3 (by simp only;omega) hlen.1) fun ⟨z1,z2,od2⟩ ⟨_,_,hO2⟩=>bG _ (EK hF hO2) fun y2 ⟨u2,hR2,e2⟩ => ?_;subst e1;subst e2;have hG1:=hR1.gl (Ky hF hO);have hG2:=hR2.gl (Ky hF hO2);have wc :∀u:bM,0<=u.to->cU u=0:=fun u h=>if_pos h;have ws :∀u:bM,0<=u.to->sU u=0:=fun u h=>if_pos h;have wwc :∀u:bM,0<=u.to->cU (wid u)=cU u:=fun u h=>by rw [wc u h];exact wc _ h
 have wws :∀u:bM,0<=u.to->sU (wid u)=sU u:=fun u h=>by rw [ws u h];exact ws _ h
 have hl:(qm bl od u1).length=bl.length:=by simp [qm]
 refine fP (YS hG1) (fP (YS hG2) (iF (fun _=>True) ?_ fun _ _=>bG (fun y=>y=true) (goT rfl (goT rfl (goT ?_ (aC ?_)))) fun y e=>aC e))
 .refine cO (fun s:Int =>∃i:Nat,s=((i+1:Nat):Int)/\i+1<=bl.length) (fun s=>bl.length-s.toNat) ⟨0,rfl,hlen.1⟩ fun s ⟨i,e,hi⟩ => ?_;subst e;refine dM (fun hc => ?_) fun hc=>aC trivial;have hc:i+1<bl.length:=by have:=of_decide_eq_true hc;simp only [hl] at this;omega
  have hw:dN (((i+1:Nat):Int)-1)=(i:Int):=by rw [aH (by omega)];omega
  simp only [hw,QR];refine dB (aJ.2 (by rw [hl];omega)) (dB (aJ.2 (by rw [hl];omega)) (cZ (decide_eq_false (by have:=aaS (od:=od) (us:=u1) hc;omega)) (aC ⟨⟨i+1,?_,hc⟩,?_⟩)))
  .rw [aH (by omega)];rfl
  .rw [aH (by omega)];omega
 .rw [hR1.map wwc,hR2.map wwc,YR hF hO hO2 wc];exact decide_eq_true rfl
 .rw [hR1.map wws,hR2.map wws,YR hF hO hO2 ws];exact decide_eq_true rfl
end Go.Fg.YtapemkmlinejmaaGreatDoor

