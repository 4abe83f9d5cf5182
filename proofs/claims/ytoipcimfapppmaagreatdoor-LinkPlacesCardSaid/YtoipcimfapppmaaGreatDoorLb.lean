/-
  The plain proofs: what the functions compute answers as the law says.
-/
import Derived.Test.YtoipcimfapppmaaGreatDoorLa
set_option linter.unusedSimpArgs false
set_option linter.unusedVariables false
set_option linter.unusedSectionVars false
namespace Go.Fg.YtoipcimfapppmaaGreatDoor
open Go.Fw
theorem ZY{n j:Nat}{us:List cu}{fi:List Int}(hg:GL n us)(hj:j<us.length)(hf:far fi us j=false):VC (codeOf fi us j).op (codeOf fi us j).arith (codeOf fi us j).dst (codeOf fi us j).a (codeOf fi us j).b (codeOf fi us j).value (codeOf fi us j).wide (codeOf fi us j).args:=by
 have hu:=hg.at hj;have hd:=XO (fi:=fi) hg j;unfold far at hf;unfold codeOf;obtain ⟨u,e⟩ :∃u,us.getD j bK=u:=⟨_,rfl⟩;simp only [e] at hu hf ⊢;obtain ⟨o,w,a3,a4,d,a,b,s,n,v⟩:=hu.c;refine ⟨o,w,a3,a4,d,a,b,s,n,?_⟩;split
 .rename_i ht;have hop:=hu.j.1 ht;rw [decide_eq_true ht] at hf;unfold vg;rw [if_neg (by omega),if_neg (by omega),if_neg (by omega),if_neg (by omega),if_pos hop];cases hw:u.fE with
  |true=>simp;omega
  |false=>rw [hw] at hf;simp at hf ⊢;omega
 .exact v
section
variable {bl:List aK} {od:List Int} {nm:List UInt8} {pa re:Int}
theorem al_(h:FO bl)(ho:Ord bl.length od):Ok (f31 nm pa re bl od) λy =>∀uf,Rn (IE bl od bl.length) (wX bl od bl.length) uf->y=(zH uf uf.length:Int):=by
 unfold f31;refine bD _ (FB h ho) λy ⟨uf,hR,e⟩=>?_;subst e;have hg:=hR.gl (Ls h ho);have hg6:=hg.1;generalize IE bl od bl.length=fi at *;have hcl:(wY fi uf).length=uf.length:=by simp [wY]
 refine bD (λy=>y=(zH uf uf.length:Int)) ?_ λy e=>aI λu2 h2=>by rw [Rn.det h2 hR];exact e
 refine bQ (λs:Int×Int =>∃j:Nat,s=((zH uf j:Int),(j:Int))/\j<=uf.length) (λs=>uf.length-s.2.toNat) ⟨0,rfl,by omega⟩ λs ⟨j,e,hj⟩=>?_;subst e;simp only [hcl];refine dX (λhc=>?_) λhc=>aI ?_
 rotate_left
 .have hc:¬ j<uf.length:=by simpa using hc
  have:j=uf.length:=by omega
  subst this;rfl
 have hc:j<uf.length:=by simpa using hc
 have hco:(wY fi uf).getD j DK=codeOf fi uf j:=by rw [getD_at _ (by rw [hcl];exact hc)];simp [wY]
 have hal:=Lr hg (j+1);have hs:=D8 hc;have hvc:=ZY hg hc (hR.fin j hc);refine bW (aF.2 (by omega)) ?_;simp only [Qt,hco];refine bD (λy=>y=(szU (uf.getD j bK):Int)) ?_ λy e=>?_
 .unfold f55;exact bD _ (afQ hvc) λy hy=>aI (by rw [hy.2];rfl)
 subst e;refine aI ⟨⟨j+1,?_,hc⟩,?_⟩
 .rw [aG (by omega),aG (by omega),hs];rfl
 .simp only [aG (x:=(j:Int)+1) (by omega)];omega
end
def CQ(fs:List aO)(u:cu):Prop:=u.iq.length<=10/\(u.jd=11->u.to<0/\(0<=u.gZ/\u.gZ<fs.length)/\(fs.getD u.gZ.toNat ah).params=u.iq.length)
def TQ(sg:List (List UInt8×Nat))(t:C8):Prop:=t.2.2.2.2.2.2.2.length<=10/\(t.1=11->(0<=t.2.2.2.2.2.1/\t.2.2.2.2.2.1<sg.length)/\(sg.getD t.2.2.2.2.2.1.toNat ([],0)).2=t.2.2.2.2.2.2.2.length)
theorem apG{g:List aA}{sg:List (List UInt8×Nat)}{cl re:Int}{i:dB}(h:IV g sg cl re i):TQ sg (jD i):=by
 have key :∀t:C8,f62 i.kind i.op i.dst i.a i.b i.value i.args=some t->TQ sg t->TQ sg (jD i):=λt h1 h2=>by
  have:jD i=t:=by unfold jD;rw [h1];rfl
  rw [this];exact h2
 have n :∀{t:C8},t.2.2.2.2.2.2.2=eInt->t.1≠11->TQ sg t:=λh1 h2=>⟨by rw [h1];simp,λh=>absurd h h2⟩;cases h with
 |@const o d a b v ar hd ha=>exact key (1,0,d,0,0,v,false,eInt) rfl (n rfl (by simp))
 |@move o d a b v ar hd h1 ha=>exact key (2,0,d,a,0,0,false,eInt) rfl (n rfl (by simp))
 |@un o d a b v ar hd h1 ho ha=>exact key (3,o,d,a,0,0,false,eInt) rfl (n rfl (by simp))
 |@bin o d a b v ar hd h1 h2 ho ha=>exact key (4,o,d,a,b,0,false,eInt) rfl (n rfl (by simp))
 |@load o d a b v ar hd hv ha=>exact key (5,0,d,0,0,v,false,eInt) rfl (n rfl (by simp))
 |@store o d a b v ar h1 hv ha=>exact key (6,0,0,a,0,v,false,eInt) rfl (n rfl (by simp))
 |@elem o d a b v ar hd h1 hv ha=>exact key (7,0,d,a,0,v,false,eInt) rfl (n rfl (by simp))
 |@set o d a b v ar h1 h2 hv ha=>exact key (8,0,0,a,b,v,false,eInt) rfl (n rfl (by simp))
 |@read o d a b v ar hd ha=>exact key (9,0,d,0,0,0,false,eInt) rfl (n rfl (by simp))
 |@print o d a b v ar h1 ha=>exact key (10,0,0,a,0,0,false,eInt) rfl (n rfl (by simp))
 |@call o d a b v ar hd hv hpar hr' ha=>
  have hcap:aX (List.length eInt) ar.length 8=true:=by unfold aX;simp;omega
  refine key (11,0,d,0,0,v,false,ar) ?_ ⟨ha,λ_=>⟨hv,hpar⟩⟩;show f62 11 o d a b v ar=_;unfold f62;rw [hcap];rfl
 |@Lj o d a b v ar hd h1 hr' ha=>
  have hcap:aX (List.length eInt) ar.length 8=true:=by unfold aX;simp;omega
  refine key (12,0,d,a,0,0,false,ar) ?_ ⟨ha,λh=>by simp at h⟩;show f62 12 o d a b v ar=_;unfold f62;rw [hcap];rfl
 |@func o d a b v ar hd hv ha=>exact key (18,0,d,0,0,v,false,eInt) rfl (n rfl (by simp))
theorem ama{fs:List aO}{k a t e n:Int} :∀u∈MP k a t e n,CQ fs u:=by
 have hj :∀op a to:Int,op≠11->CQ fs (jU op a to):=λop a to h=>⟨by simp [jU],λh'=>absurd h' h⟩;have h1 :∀(op a to:Int),op≠11->∀u∈[jU op a to],CQ fs u:=λop a to h u hu=>by rw [QP] at hu;subst hu;exact hj _ _ _ h
 unfold MP;split
 .exact h1 _ _ _ (by simp)
 split
 .split
  .intro u hu;cases hu
  .exact h1 _ _ _ (by simp)
 split
 .exact h1 _ _ _ (by simp)
 split
 .exact h1 _ _ _ (by simp)
 .intro u hu;rcases QQ.1 hu with e1 | hu
  .subst e1;exact hj _ _ _ (by simp)
  .exact h1 _ _ _ (by simp) u hu
theorem Rn.all{P:cu->Prop}(hw :∀u,P u->P (wid u)){fi:List Int}{us uf:List cu}(h:Rn fi us uf):(∀u∈us,P u)->∀u∈uf,P u:=by
 induction h with
 |done h=>exact id
 |@step us uf _ _ ih=>
  intro hp;refine ih λu hu=>?_;obtain ⟨j,hj,e⟩:=W8 hu;have hj':j<us.length:=by rw [qw] at hj;exact hj
  have:=Fz (fi:=fi) hj';rw [getD_at _ hj,e] at this;have hm:P (us.getD j bK):=hp _ (by rw [getD_at _ hj'];exact X1 _);rw [this];split
  .exact hw _ hm
  .exact hm
section
variable {bl:List aK} {od:List Int} {nm:List UInt8} {pa re:Int}
open Classical in
noncomputable def xI(bl:List aK)(od:List Int):List cu:=if h :∃uf,Rn (IE bl od bl.length) (wX bl od bl.length) uf then h.choose else []
theorem BF(h:FO bl)(ho:Ord bl.length od):Rn (IE bl od bl.length) (wX bl od bl.length) (xI bl od):=by
 obtain ⟨y,_,uf,hR,_⟩:=FB (nm:=[]) (pa:=0) (re:=0) h ho;have hx :∃uf,Rn (IE bl od bl.length) (wX bl od bl.length) uf:=⟨uf,hR⟩;unfold xI;rw [dif_pos hx];exact hx.choose_spec
noncomputable def Vm(bl:List aK)(od:List Int):List gq:=wY (IE bl od bl.length) (xI bl od)
noncomputable def Af(bl:List aK)(od:List Int)(b:Nat):Nat:=zH (xI bl od) (wX bl od b).length
noncomputable def Q5(bl:List aK)(od:List Int):Nat:=Af bl od bl.length
theorem amb(h:FO bl)(ho:Ord bl.length od):f32 nm pa re bl od=some (0,Vm bl od,(List.range bl.length).map λi=>(Af bl od i:Int)):=by
 refine ok_eq (jq (FB h ho) λy ⟨uf,hR,e⟩=>?_);rw [e,Rn.det hR (BF h ho)];rfl
theorem XP(h:FO bl)(ho:Ord bl.length od):(xI bl od).length=(wX bl od bl.length).length:=(BF h ho).len
theorem amc(h:FO bl)(ho:Ord bl.length od):f31 nm pa re bl od=some (Q5 bl od:Int):=by
 refine ok_eq (jq (al_ h ho) λy hy=>?_);rw [hy _ (BF h ho)];unfold Q5 Af;rw [XP h ho]
theorem QN:Af bl od 0=0:=by simp [Af,zH,wX]
theorem QO{i j:Nat}(h:i<=j):Af bl od i<=Af bl od j:=by
 have:=D7 bl od (j-i) i;rw [show i+(j-i)=j by omega] at this;exact Vk _ this
theorem apH(h:FO bl)(ho:Ord bl.length od):GL bl.length (xI bl od):=(BF h ho).gl (Ls h ho)
theorem wZ:(Vm bl od).length=(xI bl od).length:=by simp [Vm,wY]
theorem ajP{j:Nat}(hj:j<(xI bl od).length):(Vm bl od).getD j DK=codeOf (IE bl od bl.length) (xI bl od) j:=by
 rw [getD_at _ (by rw [wZ];exact hj)];simp [Vm,wY]
theorem apI(h:FO bl)(ho:Ord bl.length od){j:Nat}(hj:j<(xI bl od).length):VC (codeOf (IE bl od bl.length) (xI bl od) j).op (codeOf (IE bl od bl.length) (xI bl od) j).arith (codeOf (IE bl od bl.length) (xI bl od) j).dst (codeOf (IE bl od bl.length) (xI bl od) j).a (codeOf (IE bl od bl.length) (xI bl od) j).b (codeOf (IE bl od bl.length) (xI bl od) j).value (codeOf (IE bl od bl.length) (xI bl od) j).wide (codeOf (IE bl od bl.length) (xI bl od) j).args:=
 ZY (apH h ho) hj ((BF h ho).fin j hj)
theorem afV{fs:List aO}{sg:List (List UInt8×Nat)}{g:List aA}{cl r:Int}(hi :∀b∈bl,∀i∈b.instrs,IV g sg cl r i)(hl:sg.length=fs.length)(hp :∀i,i<fs.length->(fs.getD i ah).params=((sg.getD i ([],0)).2:Int))(ho:Ord bl.length od) :∀i,i<=bl.length->∀u∈wX bl od i,CQ fs u
 |0,_=>λu hu=>by cases hu
 |i+1,hk=>λu hu=>by
  have ha:=ho.at (i:=i) (by omega);rcases Xs.1 hu with hu | hu
  .exact afV hi hl hp ho i (by omega) u hu
  .rcases Xs.1 hu with hu | hu
   .obtain ⟨x,hx,e⟩:=QR.1 hu;obtain ⟨q1,q2⟩:=apG (hi _ (afD _ ha.1 ha.2) x hx);subst e;refine ⟨q1,λh11=>⟨by show (-1:Int)<0;omega,?_⟩⟩;obtain ⟨q3,q4⟩:=q2 h11;rw [hl] at q3;refine ⟨q3,?_⟩;show (fs.getD (jD x).2.2.2.2.2.1.toNat ah).params=_;rw [hp _ (by omega),q4];rfl
   .exact ama u hu
theorem ajQ{fs:List aO}{sg:List (List UInt8×Nat)}{g:List aA}{cl r:Int}(h:FO bl)(hi :∀b∈bl,∀i∈b.instrs,IV g sg cl r i)(hl:sg.length=fs.length)(hp :∀i,i<fs.length->(fs.getD i ah).params=((sg.getD i ([],0)).2:Int))(ho:Ord bl.length od) :∀u∈xI bl od,CQ fs u:=
 (BF h ho).all (λu h=>h) (afV hi hl hp ho bl.length (XS _))
theorem aiA{op:Int}{wd:Bool}{n:Nat}(hn:n<=10):szc op wd n<=45:=by
 unfold szc;have hz :∀x,Ht wd n x<=11:=λx=>by
  unfold Ht
  repeat' split
  all_goals omega
 have :∀l:List UInt8,(l.map (Ht wd n)).sum<=11*l.length:=λl=>by
  induction l with
  |nil=>simp
  |cons x l ih=>have:=hz x;simp only [Q6,J1,Wl];omega
 have:=this (rowOf op);have:=(Ll op).1;omega
def wB(bl:List aK)(x:Int):Nat:=(bl.getD x.toNat au).instrs.length+2
theorem ajR(ho:Ord bl.length od) :∀i,i<=bl.length->(wX bl od i).length<=((od.take i).map (wB bl)).sum
 |0,_=>by simp [wX]
 |i+1,hi=>by
  have:=ajR ho i (by omega);have hl:=ho.len;have:=ZW (b:=bl.getD (od.getD i 0).toNat au) (n:=nxt od i);have e:(od.getD i 0)=od[i]'(by omega):=getD_at _ _;rw [take_snoc (by omega),X2,K8];simp only [wX,XN,Q6,WF,J1,List.sum_nil];have:wB bl (od[i]'(by omega))=(bl.getD (od.getD i 0).toNat au).instrs.length+2:=by rw [e];rfl
  omega
theorem apJ(bl:List aK){β:Type}(w:aK->β):(nat bl.length).map (λx=>w (bl.getD x.toNat au))=bl.map w:=by
 refine KS (by simp [nat]) λi h1 h2=>?_;have hi:i<bl.length:=by simpa using h2
 simp only [Kg];congr 1;have:(nat bl.length)[i]'(by rw [o_];exact hi)=(i:Int):=by simp [nat]
 rw [this,Qt,getD_at _ hi]
theorem ajS(h:FO bl)(ho:Ord bl.length od):(xI bl od).length<=4096:=by
 rw [XP h ho];have h1:=ajR ho bl.length (XS _);rw [V2 (by rw [ho.len];exact XS _),(ho.perm.map (wB bl)).sum_nat] at h1;have h2:=apJ bl λb=>b.instrs.length+2;have h3:(nat bl.length).map (wB bl)=bl.map λb=>b.instrs.length+2:=h2;rw [h3] at h1;have h4 :∀l:List aK,(l.map λb=>b.instrs.length+2).sum<=2*Ag l:=λl=>by
  induction l with
  |nil=>simp
  |cons b l ih=>unfold Ag at ih ⊢;simp only [Q6,J1];omega
 have:=h4 bl;have:=h.wt;omega
theorem amd{fs:List aO}(h:FO bl)(ho:Ord bl.length od)(hq :∀u∈xI bl od,CQ fs u):Q5 bl od<=184320:=by
 have key :∀l:List cu,(∀u∈l,CQ fs u)->(l.map szU).sum<=45*l.length:=λl=>by
  induction l with
  |nil=>intro _;simp
  |cons u l ih=>
   intro hl;have:=ih λu hu=>hl u (WD _ hu);have:szU u<=45:=aiA (hl u Kh).1;simp only [Q6,J1,Wl];omega
 unfold Q5 Af zH;have h1:=key _ λu hu=>hq u (ZZ (i:=(wX bl od bl.length).length) hu);have h2:=ajS h ho;have h3:((xI bl od).take (wX bl od bl.length).length).length<=4096:=by rw [Vc];omega
 omega
end
structure LO(fs:List aO)(fo:List Int)(bo:List (List Int)):Prop where
 perm:fo.Perm (nat fs.length)
 len:bo.length=fs.length
 od :∀i,i<fs.length->Ord (fs.getD i ah).blocks.length (bo.getD i eInt)
theorem LO.XQ{fs:List aO}{fo:List Int}{bo:List (List Int)}(h:LO fs fo bo):fo.length=fs.length:=by rw [h.perm.length_eq,o_]
theorem LO.at{fs:List aO}{fo:List Int}{bo:List (List Int)}(h:LO fs fo bo){k:Nat}(hk:k<fs.length):0<=fo.getD k 0/\fo.getD k 0<fs.length:=by
 have:=h.XQ;rw [getD_at _ (by omega)];exact QL.1 (h.perm.mem_iff.1 (X1 _))
theorem LO.inj{fs:List aO}{fo:List Int}{bo:List (List Int)}(h:LO fs fo bo){i j:Nat}(hi:i<fs.length)(hj:j<fs.length)(e:(fo.getD i 0).toNat=(fo.getD j 0).toNat):i=j:=by
 have hl:=h.XQ;have ai:=h.at hi;have aj:=h.at hj;have hnd:fo.Nodup:=h.perm.nodup_iff.2 (by unfold nat;exact List.pairwise_map.2 (List.pairwise_lt_range.imp λh=>by simp;omega));have e2:fo.getD i 0=fo.getD j 0:=by omega
 rw [getD_at _ (by omega),getD_at _ (by omega)] at e2;exact (List.getElem_inj hnd).1 e2
theorem Ord.inj{n:Nat}{od:List Int}(h:Ord n od){i j:Nat}(hi:i<n)(hj:j<n)(e:od.getD i 0=od.getD j 0):i=j:=by
 have hl:=h.len;have hnd:od.Nodup:=h.perm.nodup_iff.2 (by unfold nat;exact List.pairwise_map.2 (List.pairwise_lt_range.imp λh=>by simp;omega));rw [getD_at _ (by omega),getD_at _ (by omega)] at e;exact (List.getElem_inj hnd).1 e
structure LP(g:List aA)(fs:List aO):Prop where
 gl:g.length<=32
 n:0<fs.length/\fs.length<=5
 fo :∀i,i<fs.length->FO (fs.getD i ah).blocks
 pr :∀i,i<fs.length->0<=(fs.getD i ah).params
 cq :∀i,i<fs.length->∀od,Ord (fs.getD i ah).blocks.length od->∀u∈xI (fs.getD i ah).blocks od,CQ fs u
theorem RtP.lp{g:List aA}{sg:List (List UInt8×Nat)}{cl:Int}{fs:List aO}(h:RtP g sg cl fs):LP g fs:=by
 have h5:=h.f1;have hs:=h.sgl;have hc:=h.cll;have hr :∀i,i<fs.length->Rt g sg cl (fs.getD i ah):=λi hi=>h.rt _ (by rw [getD_at _ hi];exact X1 _);have hf :∀i,i<fs.length->FO (fs.getD i ah).blocks:=λi hi=>(hr i hi).fo h.gl (by omega) (by omega);exact ⟨h.gl,⟨h.f0,h5⟩,hf,λi hi=>(hr i hi).par.1,λi hi od ho=>ajQ (hf i hi) (hr i hi).ins hs h.par ho⟩
section
variable {g:List aA} {fs:List aO} {ca co:Int}
theorem aiB(h :∀i,i<fs.length->(fs.getD i ah).blocks.length<=256)(hn:fs.length<=5):Ok (f27 g fs ca co) λy=>y.1=nat fs.length/\y.2.length=fs.length:=by
 unfold f27;refine bD (λy=>y.1=nat fs.length/\y.2.length=fs.length) ?_ λy hy=>aI hy;refine bQ (λs:Int×List Int×List (List Int) =>∃i:Nat,s.1=i/\i<=fs.length/\s.2.1=nat i/\s.2.2.length=i) (λs=>fs.length-s.1.toNat) ⟨0,rfl,by omega,rfl,rfl⟩ λ⟨i',l,b⟩ ⟨i,e,hi,e1,e2⟩=>?_;simp only at e e1 e2;subst e;subst e1;refine dX (λhc=>?_) λhc=>?_
 .have hc:i<fs.length:=by simpa using hc
  refine bW (by unfold aX;simp [o_];omega) (bW (aF.2 (by simp only;omega)) ?_);simp only [Qt];refine gy (Fv (by have:=h i hc;omega)) (bW (by unfold aX;simp;omega) (aI ⟨⟨i+1,?_,by omega,?_,?_⟩,?_⟩))
  .simp only [aG (x:=(i:Int)+1) (by omega)];rfl
  .rw [Lm]
  .simp [e2]
  .simp only [aG (x:=(i:Int)+1) (by omega)];omega
 .have hc:¬ i<fs.length:=by simpa using hc
  have:i=fs.length:=by omega
  subst this;exact aI ⟨rfl,e2⟩
theorem Z4(h :∀i,i<fs.length->(fs.getD i ah).blocks.length<=256)(hn:fs.length<=5):Ok (f23 g fs ca co) λy=>y.1=nat fs.length/\y.2=(List.range fs.length).map λj=>nat (fs.getD j ah).blocks.length:=by
 unfold f23;refine bD (λy=>y.1=nat fs.length/\y.2=(List.range fs.length).map λj=>nat (fs.getD j ah).blocks.length) ?_ λy hy=>aI hy;refine bQ (λs:Int×List Int×List (List Int) =>∃i:Nat,s.1=i/\i<=fs.length/\s.2.1=nat i/\s.2.2=(List.range i).map λj=>nat (fs.getD j ah).blocks.length) (λs=>fs.length-s.1.toNat) ⟨0,rfl,by omega,rfl,rfl⟩ λ⟨i',l,b⟩ ⟨i,e,hi,e1,e2⟩=>?_;simp only at e e1 e2;subst e;subst e1;subst e2;refine dX (λhc=>?_) λhc=>?_
 .have hc:i<fs.length:=by simpa using hc
  refine bW (aF.2 (by simp only;omega)) (bW (by unfold aX;simp [o_];omega) ?_);simp only [Qt];refine gy (Ov (by have:=h i hc;omega)) (bW (by unfold aX;simp;omega) (aI ⟨⟨i+1,?_,by omega,?_,?_⟩,?_⟩))
  .simp only [aG (x:=(i:Int)+1) (by omega)];rfl
  .rw [Lm]
  .rw [JP,X2];rfl
  .simp only [aG (x:=(i:Int)+1) (by omega)];omega
 .have hc:¬ i<fs.length:=by simpa using hc
  have:i=fs.length:=by omega
  subst this;exact aI ⟨rfl,rfl⟩
theorem ab6{l:List Int}{j:Int}(hb:Bytes l)(hj:0<=j)(h:LP g fs):Ok (f9 g fs ca co l j) λy=>y.1=l/\0<=y.2.1/\LO fs y.2.2.1 y.2.2.2:=by
 have hn:=h.n;have hbl :∀i,i<fs.length->(fs.getD i ah).blocks.length<=256:=λi hi=>(h.fo i hi).len.2;unfold f9;refine bD _ (aiB hbl hn.2) λ⟨c1,c2⟩ ⟨e1,e2⟩=>?_;simp only at e1 e2;subst e1;refine bD (λy=>y.1=l/\0<=y.2.1/\y.2.2.Perm (nat fs.length)) ?_ λ⟨s1,s2,s3⟩ ⟨e1,q1,q2⟩=>?_
 .refine bQ (λs:Int×List Int×Int×List Int =>∃i:Nat,s.1=i/\1<=i/\i<=fs.length/\s.2.1=l/\0<=s.2.2.1/\s.2.2.2.Perm (nat fs.length)) (λs=>fs.length-s.1.toNat) ⟨1,rfl,by omega,by omega,rfl,hj,List.Perm.refl _⟩ λ⟨i',l',j,od⟩ ⟨i,e,h1,h2,e2,h3,ho⟩=>?_;simp only at e e2 h3 ho;subst e;subst e2;have hl:od.length=fs.length:=by rw [ho.length_eq,o_]
  refine dX (λhc=>?_) λhc=>aI ⟨rfl,h3,ho⟩;have hc:i<od.length:=by simpa using hc
  have hw:dL ((i:Int)+1)=(i+1:Nat):=(aG (by omega)).trans rfl;simp only [hw];refine goN hb h3 (by omega) λx k hk ax bx=>?_;have bx:=bx (by omega);obtain ⟨q,hq⟩ :∃q:Nat,x=q:=⟨x.toNat,by omega⟩;subst hq;simp only [Qt];have hi1:=aF.2 (show 0<=(i:Int)/\(i:Int)<od.length by omega);refine bW (aF.2 (by omega)) (bW hi1 (bW hi1 (bW (aF.2 (by rw [Up];omega)) (aI ⟨⟨i+1,rfl,by omega,by omega,rfl,hk,?_⟩,?_⟩))))
  .simp only;rw [getD_at _ (show q<od.length by omega),getD_at _ hc];exact (List.set_set_perm hc (by omega)).trans ho
  .simp only;omega
 simp only at e1 q1 q2;subst e1;refine bD (λy=>y.1=s1/\0<=y.2.1/\y.2.2.length=fs.length/\∀i,i<fs.length->Ord (fs.getD i ah).blocks.length (y.2.2.getD i eInt)) ?_ λy ⟨k1,k2,k3,k4⟩=>aI ⟨k1,k2,q2,k3,k4⟩;refine bQ (λs:Int×List Int×Int×List (List Int) =>∃i:Nat,s.1=i/\i<=fs.length/\s.2.1=s1/\0<=s.2.2.1/\s.2.2.2.length=fs.length/\∀k,k<i->Ord (fs.getD k ah).blocks.length (s.2.2.2.getD k eInt)) (λs=>fs.length-s.1.toNat) ⟨0,rfl,by omega,rfl,q1,e2,λk hk=>absurd hk (Kk _)⟩ λ⟨i',l',j,od⟩ ⟨i,e,h2,e2,h3,h4,h5⟩=>?_;simp only at e e2 h3 h4 h5;subst e;subst e2;refine dX (λhc=>?_) λhc=>?_
 rotate_left
 .have hc:¬ i<od.length:=by simpa using hc
  exact aI ⟨rfl,h3,h4,λk hk=>h5 k (by omega)⟩
 have hc:i<od.length:=by simpa using hc
 have hi:i<fs.length:=by omega
 refine bW (aF.2 (by simp only;omega)) ?_;simp only [Qt];refine bD _ (XJ hb h3 (by have:=hbl i hi;omega) (h.fo i hi).len.1) λ⟨z1,z2,z3⟩ ⟨y1,y2,y3⟩=>?_;simp only at y1 y2 y3;subst y1;refine bW (aF.2 (by omega)) (aI ⟨⟨i+1,?_,by omega,rfl,y2,by simp only;rw [Up];exact h4,λk hk=>?_⟩,?_⟩)
 .simp only [aG (x:=(i:Int)+1) (by omega)];rfl
 .simp only;rw [jC (show i<od.length by omega)];split
  .rename_i e;subst e;exact y3
  .exact h5 k (by omega)
 .simp only [aG (x:=(i:Int)+1) (by omega)];omega
theorem afW{fo:List Int}{bo:List (List Int)}(h:LP g fs)(hl:LO fs fo bo):f29 g fs ca co fo bo=some 0:=by
 apply ok_eq;have hn:=h.n;have hfl:=hl.XQ;have hbl:=hl.len;have h256 :∀i,i<fs.length->(fs.getD i ah).blocks.length<=256:=λi hi=>(h.fo i hi).len.2;unfold f29;refine gy (D6 (by omega)) (gy (afR (by omega)) (bD (λy=>y=false) (bD _ (Z4 h256 hn.2) λy ⟨e1,e2⟩=>?_) λy e=>?_))
 .rw [e1,Vg.2 hl.perm];refine gy (Vh (by rw [o_];omega)) (b_ (by simp) (aI (by simp [hbl])))
 subst e;refine b_ rfl (iU (λ_=>True) (jv fs.length (λ_=>True) (by omega) (λi hi _=>?_) λ_=>b_ (decide_eq_false (by omega)) (aI trivial)) λ_ _=>aI rfl);refine goT (decide_eq_true (by omega)) (bW (aF.2 (by omega)) (bW (aF.2 (by omega)) ?_));simp only [Qt];have ho:=hl.od i hi;refine bD _ (Ox (by have:=h256 i hi;omega) (h.fo i hi).len.1 (by rw [ho.len];have:=h256 i hi;omega)) λy hy=>b_ (by rw [hy.2 ho];rfl) (aI ⟨rfl,trivial⟩)
end
section
variable (fs:List aO) (fo:List Int) (bo:List (List Int))
noncomputable def mV(k:Nat):List aK:=(fs.getD (fo.getD k 0).toNat ah).blocks
noncomputable def qj(k:Nat):List Int:=bo.getD (fo.getD k 0).toNat eInt
noncomputable def E:Nat->Nat
 |0=>0
 |k+1=>E k+Q5 (mV fs fo k) (qj fo bo k)
structure EN(en:List Int):Prop where
 len:en.length=fs.length
 ats :∀j,j<fs.length->en.getD (fo.getD j 0).toNat 0=(E fs fo bo j:Int)
def XR(en:List Int)(c:gq):gq:=gq.mk c.op c.arith c.dst c.a c.b (if c.op=11 then en.getD c.value.toNat 0 else c.value) c.wide c.args
noncomputable def MQ(c:gq):List Int:=((f33 c.op c.arith c.dst c.a c.b c.value c.wide c.args).getD (0,[])).2
noncomputable def cdT(en:List Int):Nat->List gq
 |0=>[]
 |k+1=>cdT en k++(Vm (mV fs fo k) (qj fo bo k)).map (XR en)
noncomputable def Z5(i:Nat)(bl:List aK)(od:List Int)(e:Nat)(b:Nat):List fQ:=(List.range b).map λ(b:Nat)=>fQ.mk (i:Int) (od.getD b 0) ((e+Af bl od b:Nat):Int) ((Af bl od (b+1)-Af bl od b:Nat):Int)
noncomputable def QT:Nat->List fQ
 |0=>[]
 |k+1=>QT k++Z5 (fo.getD k 0).toNat (mV fs fo k) (qj fo bo k) (E fs fo bo k) (mV fs fo k).length
end
def VCc(c:gq):Prop:=VC c.op c.arith c.dst c.a c.b c.value c.wide c.args
def szC(c:gq):Nat:=szc c.op c.wide c.args.length
theorem ajT{c:gq}(h:VCc c):f33 c.op c.arith c.dst c.a c.b c.value c.wide c.args=some (0,MQ c)/\(MQ c).length=szC c:=by
 obtain ⟨y,hy,h1,h2⟩:=afQ h;have:y=(0,MQ c):=by
  unfold MQ;rw [hy];obtain ⟨y1,y2⟩:=y;simp only at h1;subst h1;rfl
 rw [hy,this];refine ⟨rfl,?_⟩;rw [this] at h2;exact h2
theorem aiC{en:List Int}{c:gq}(h:VCc c)(he:c.op=11->0<=en.getD c.value.toNat 0/\en.getD c.value.toNat 0<=1048576):VCc (XR en c):=by
 obtain ⟨o,w,a3,a4,d,a,b,s,n,v⟩:=h;refine ⟨o,w,a3,a4,d,a,b,s,n,?_⟩;show vg c.op (if c.op=11 then _ else c.value) c.wide=true;split
 .rename_i h11;have:=he h11;obtain ⟨x,hx⟩ :∃x,en.getD c.value.toNat 0=x:=⟨_,rfl⟩;rw [hx] at this ⊢;unfold vg;rw [if_neg (by omega),if_pos h11];simp;omega
 .exact v
section
variable {g:List aA} {fs:List aO} {ca co:Int} {fo:List Int} {bo:List (List Int)}
theorem LO.blk(hl:LO fs fo bo){k:Nat}(hk:k<fs.length):Ord (mV fs fo k).length (qj fo bo k):=hl.od _ (by have:=hl.at hk;omega)
theorem LP.fok(h:LP g fs)(hl:LO fs fo bo){k:Nat}(hk:k<fs.length):FO (mV fs fo k):=h.fo _ (by have:=hl.at hk;omega)
theorem LP.cqk(h:LP g fs)(hl:LO fs fo bo){k:Nat}(hk:k<fs.length) :∀u∈xI (mV fs fo k) (qj fo bo k),CQ fs u:=h.cq _ (by have:=hl.at hk;omega) _ (hl.blk hk)
theorem aiD(h:LP g fs)(hl:LO fs fo bo) :∀k,k<=fs.length->E fs fo bo k<=184320*k
 |0,_=>by simp [E]
 |k+1,hk=>by
  have:=aiD h hl k (by omega);have:=amd (h.fok hl (k:=k) (by omega)) (hl.blk (by omega)) (h.cqk hl (by omega));show E fs fo bo k+_<=_;omega
theorem LO.find(hl:LO fs fo bo){v:Int}(hv:0<=v/\v<fs.length) :∃k,k<fs.length/\fo.getD k 0=v:=by
 obtain ⟨k,hk,e⟩:=W8 (hl.perm.mem_iff.2 (QL.2 hv));exact ⟨k,by rw [<-hl.XQ];exact hk,by rw [getD_at _ hk];exact e⟩
theorem EN.rng{en:List Int}(he:EN fs fo bo en)(h:LP g fs)(hl:LO fs fo bo){v:Int}(hv:0<=v/\v<fs.length):0<=en.getD v.toNat 0/\en.getD v.toNat 0<=921600:=by
 obtain ⟨k,hk,e⟩:=hl.find hv;have:=he.ats k hk;have:=aiD h hl k (by omega);have:=h.n;rw [e] at *;omega
theorem ajU{en:List Int}(he:EN fs fo bo en)(h:LP g fs)(hl:LO fs fo bo){k:Nat}(hk:k<fs.length){c:gq}(hc:c∈Vm (mV fs fo k) (qj fo bo k)) :
  VCc (XR en c)/\szC (XR en c)=szC c/\(c.op=11->(0<=c.value/\c.value<fs.length)/\(fs.getD c.value.toNat ah).params=c.args.length):=by
 obtain ⟨j,hj,e⟩:=W8 hc;have hj':j<(xI (mV fs fo k) (qj fo bo k)).length:=by rw [wZ] at hj;exact hj
 have hv:=apI (h.fok hl hk) (hl.blk hk) hj';have hq:=h.cqk hl hk _ (X1 hj');have e2:=ajP hj';rw [getD_at _ hj,e] at e2;rw [<-e2] at hv;have h11:c.op=11->(0<=c.value/\c.value<fs.length)/\(fs.getD c.value.toNat ah).params=c.args.length:=by
  rw [e2];unfold codeOf;rw [getD_at _ hj'];intro hop;simp only at hop ⊢;obtain ⟨q1,q2,q3⟩:=hq.2 hop;rw [if_neg (by omega)];exact ⟨q2,q3⟩
 exact ⟨aiC hv λho=>by have:=he.rng h hl (h11 ho).1;omega,rfl,h11⟩
theorem ame{bl:List aK}{od:List Int}{j:Nat}(hj:j<(xI bl od).length):szC ((Vm bl od)[j]'(by rw [wZ];exact hj))=szU ((xI bl od).getD j bK):=by
 have:=ajP hj;rw [getD_at _ (by rw [wZ];exact hj)] at this;rw [this];rfl
noncomputable def byT(en:List Int)(fs:List aO)(fo:List Int)(bo:List (List Int))(k:Nat):List Int:=(cdT fs fo bo en k).flatMap MQ
theorem IG{en:List Int}(he:EN fs fo bo en)(h:LP g fs)(hl:LO fs fo bo){k:Nat}(hk:k<fs.length) :∀j,j<=(xI (mV fs fo k) (qj fo bo k)).length->((((Vm (mV fs fo k) (qj fo bo k)).take j).map (XR en)).flatMap MQ).length=zH (xI (mV fs fo k) (qj fo bo k)) j
 |0,_=>by simp [zH]
 |j+1,hj=>by
  have ih:=IG he h hl hk j (by omega);have hc:j<(Vm (mV fs fo k) (qj fo bo k)).length:=by rw [wZ];omega
  obtain ⟨q1,q2,_⟩:=ajU he h hl hk (X1 hc);rw [take_snoc hc,X2,qa,XN,ih,D8 (by omega),<-ame (by omega)];simp only [Q6,WF,Z2,List.flatMap_nil,K7];rw [(ajT q1).2,q2]
theorem Vo{bl:List aK}{od:List Int}(h:FO bl)(ho:Ord bl.length od):zH (xI bl od) (xI bl od).length=Q5 bl od:=by
 unfold Q5 Af;rw [XP h ho]
theorem Lu{en:List Int}(he:EN fs fo bo en)(h:LP g fs)(hl:LO fs fo bo) :∀k,k<=fs.length->(byT en fs fo bo k).length=E fs fo bo k
 |0,_=>by simp [byT,cdT,E]
 |k+1,hk=>by
  have ih:=Lu he h hl k (by omega);have:=IG he h hl (k:=k) (by omega) _ (XS _);rw [V2 (by rw [wZ];exact XS _),Vo (h.fok hl (by omega)) (hl.blk (by omega))] at this;unfold byT at ih ⊢;show ((_++_:List gq).flatMap MQ).length=E fs fo bo k+_;rw [qa,XN,ih,this]
theorem QU{i:Nat}{bl:List aK}{od:List Int}{e b:Nat}:(Z5 i bl od e b).length=b:=by simp [Z5]
theorem QV(h:LP g fs)(hl:LO fs fo bo) :∀k,k<=fs.length->(QT fs fo bo k).length<=256*k
 |0,_=>by simp [QT]
 |k+1,hk=>by
  have:=QV h hl k (by omega);have:=(h.fok hl (k:=k) (by omega)).len;show (_++_:List fQ).length<=_;rw [XN,QU];omega
theorem aiE{l:List aA}(h:l.length<=1000000):Ok (f30 l) λ_=>True:=by
 unfold f30;have hc:aX (List.length eG) l.length 24=true:=by unfold aX;simp;omega
 cases l with
 |nil=>exact goT rfl ⟨eG,by simp [both,ck,aX],trivial⟩
 |cons a l=>exact b_ rfl (bW hc (aI trivial))
theorem afX(h:LP g fs)(hl:LO fs fo bo):Ok (f10 g fs ca co fo bo) λy=>y.2.2.1=0/\∃en,EN fs fo bo en/\y.2.2.2.1=byT en fs fo bo fs.length/\y.2.2.2.2.1=en/\y.2.2.2.2.2.1=fs.map aO.params/\y.2.2.2.2.2.2.2.2=QT fs fo bo fs.length:=by
 have hn:=h.n;have hfl:=hl.XQ;have hbl:=hl.len;have hE:=λk hk=>aiD h hl k hk;unfold f10;refine gy (afW h hl) (b_ rfl (bD _ (aiE (by have:=h.gl;omega)) λc2 _=>bW (DF.2 (by omega)) ?_));refine bD (λy=>y.2.2.1=fs.map aO.params) ?_ λ⟨p1,p2,p3,p4⟩ e=>?_
 .refine bQ (λs:Int×Int×Int×List Int×List Int =>∃i:Nat,s.1=i/\i<=fs.length/\s.2.2.2.1=(fs.take i).map aO.params/\s.2.2.2.2.length=i) (λs=>fs.length-s.1.toNat) ⟨0,rfl,by omega,rfl,rfl⟩ λ⟨i',a,b,l,r⟩ ⟨i,e,hi,e1,e2⟩=>?_;simp only at e e1 e2;subst e;subst e1;refine dX (λhc=>?_) λhc=>?_
  .have hc:i<fs.length:=by simpa using hc
   refine bW (aF.2 (by simp only;omega)) (bW (by unfold aX;simp;omega) (bW (by unfold aX;simp;omega) (aI ⟨⟨i+1,?_,by omega,?_,?_⟩,?_⟩)))
   .simp only [aG (x:=(i:Int)+1) (by omega)];rfl
   .simp only [Qt];rw [take_snoc hc,X2,getD_at _ hc];rfl
   .simp [e2]
   .simp only [aG (x:=(i:Int)+1) (by omega)];omega
  .have hc:¬ i<fs.length:=by simpa using hc
   exact aI (show (fs.take i).map aO.params=fs.map aO.params by rw [V2 (by omega)])
 simp only at e;subst e;refine bD (λy=>y.1=E fs fo bo fs.length/\EN fs fo bo y.2) ?_ λ⟨sz,en⟩ ⟨e,he⟩=>?_
 .refine bQ (λs:Int×Int×List Int =>∃k:Nat,s.1=E fs fo bo k/\s.2.1=k/\k<=fs.length/\s.2.2.length=fs.length/\∀j,j<k->s.2.2.getD (fo.getD j 0).toNat 0=(E fs fo bo j:Int)) (λs=>fs.length-s.2.1.toNat) ⟨0,rfl,rfl,by omega,by simp,λj hj=>absurd hj (Kk _)⟩ λ⟨z,k',en⟩ ⟨k,e1,e2,hk,e3,e4⟩=>?_;simp only at e1 e2 e3 e4;subst e1;subst e2;refine dX (λhc=>?_) λhc=>?_
  rotate_left
  .have hc:¬ k<fo.length:=by simpa using hc
   have:k=fs.length:=by omega
   subst this;exact aI ⟨rfl,e3,e4⟩
  have hc:k<fo.length:=by simpa using hc
  have hc:k<fs.length:=by omega
  have ha:=hl.at hc;have hs:=amc (nm:=(fs.getD (fo.getD k 0).toNat ah).name) (pa:=(fs.getD (fo.getD k 0).toNat ah).params) (re:=(fs.getD (fo.getD k 0).toNat ah).regs) (h.fok hl hc) (hl.blk hc);have hk1:=hE (k+1) hc;have hEs:E fs fo bo (k+1)=E fs fo bo k+Q5 (mV fs fo k) (qj fo bo k):=rfl;refine bW (aF.2 (by simp only;omega)) ?_;simp only [Qt];refine bW (aF.2 (by omega)) (bW (aF.2 (by omega)) (bW (aF.2 (by omega)) (gy hs (aI ⟨⟨k+1,?_,?_,hc,?_,λj hj=>?_⟩,?_⟩))))
  .simp only;rw [aG (by omega),hEs];rfl
  .simp only [aG (x:=(k:Int)+1) (by omega)];rfl
  .simp only;rw [Up];exact e3
  .simp only;rw [jC (by omega)];split
   .rename_i e;have:=hl.inj (i:=j) (j:=k) (by omega) hc e;subst this;rfl
   .rename_i e;refine e4 j (Nat.lt_of_le_of_ne (by omega) λe2=>e ?_);rw [e2]
  .simp only [aG (x:=(k:Int)+1) (by omega)];omega
 simp only at e he;subst e;have hEn:=hE fs.length (XS _);refine b_ (decide_eq_false (by simp only;omega)) ?_;refine bD (λy=>y.2.2.1=byT en fs fo bo fs.length/\y.2.2.2=QT fs fo bo fs.length) ?_ λy ⟨y1,y2⟩=>aI ⟨rfl,en,he,y1,rfl,rfl,y2⟩;refine bQ (λs:Int×Int×Int×List Int×List fQ =>∃k:Nat,s.1=k/\k<=fs.length/\s.2.2.2.1=byT en fs fo bo k/\s.2.2.2.2=QT fs fo bo k) (λs=>fs.length-s.1.toNat) ⟨0,rfl,by omega,rfl,rfl⟩ λ⟨k',a,b,code,LC⟩ ⟨k,e,hk,e1,e2⟩=>?_;simp only at e e1 e2;subst e;subst e1;subst e2;refine dX (λhc=>?_) λhc=>?_
 rotate_left
 .have hc:¬ k<fo.length:=by simpa using hc
  have:k=fs.length:=by omega
  subst this;exact aI ⟨rfl,rfl⟩
 have hc:k<fo.length:=by simpa using hc
 have hc:k<fs.length:=by omega
 have ha:=hl.at hc;have hF:=h.fok hl hc;have hO:=hl.blk hc;have hs:=amb (nm:=(fs.getD (fo.getD k 0).toNat ah).name) (pa:=(fs.getD (fo.getD k 0).toNat ah).params) (re:=(fs.getD (fo.getD k 0).toNat ah).regs) hF hO;have apK:=Lu he h hl k (by omega);have hE1:E fs fo bo k+Q5 (mV fs fo k) (qj fo bo k)<=921600:=by have:=hE (k+1) hc;have:E fs fo bo (k+1)=E fs fo bo k+Q5 (mV fs fo k) (qj fo bo k):=rfl;omega
 have hol:=hO.len;have hFl:=hF.len;refine bW (aF.2 (by simp only;omega)) ?_;simp only [Qt];refine bW (aF.2 (by omega)) (bW (aF.2 (by omega)) (gy hs ?_));simp only;refine bD (λy=>y.2.2=byT en fs fo bo (k+1)) ?_ λ⟨z1,z2,z3⟩ e=>?_
 .refine bQ (λs:Int×Int×Int×List Int =>∃j:Nat,s.1=j/\j<=(xI (mV fs fo k) (qj fo bo k)).length/\s.2.2.2=byT en fs fo bo k++(((Vm (mV fs fo k) (qj fo bo k)).take j).map (XR en)).flatMap MQ) (λs=>(xI (mV fs fo k) (qj fo bo k)).length-s.1.toNat) ⟨0,rfl,by omega,by simp⟩ λ⟨j',a,b,code⟩ ⟨j,e,hj,e1⟩=>?_;simp only at e e1;subst e;subst e1;simp only [wZ];refine dX (λhj2=>?_) λhj2=>?_
  rotate_left
  .have hj2:¬ j<(xI (mV fs fo k) (qj fo bo k)).length:=by simpa using hj2
   refine aI (show byT en fs fo bo k++(((Vm (mV fs fo k) (qj fo bo k)).take j).map (XR en)).flatMap MQ=byT en fs fo bo (k+1) from ?_);rw [V2 (by rw [wZ];omega)];unfold byT;show _=(_++_:List gq).flatMap MQ;rw [qa]
  have hj2:j<(xI (mV fs fo k) (qj fo bo k)).length:=by simpa using hj2
  have hjc:j<(Vm (mV fs fo k) (qj fo bo k)).length:=by rw [wZ];exact hj2
  have hbt:=IG he h hl hc j (by omega);have hu4:=ajS hF hO;have apL:=IG he h hl hc (j+1) hj2;have hat:zH (xI (mV fs fo k) (qj fo bo k)) (j+1)<=Q5 (mV fs fo k) (qj fo bo k):=by rw [<-Vo hF hO];exact Vk _ (by omega)
  obtain ⟨c,hce⟩ :∃c,(Vm (mV fs fo k) (qj fo bo k)).getD j DK=c:=⟨_,rfl⟩;have hcm:c∈Vm (mV fs fo k) (qj fo bo k):=by rw [<-hce,getD_at _ hjc];exact X1 _
  have hct:(Vm (mV fs fo k) (qj fo bo k)).take (j+1)=(Vm (mV fs fo k) (qj fo bo k)).take j++[c]:=by rw [take_snoc hjc,<-hce,getD_at _ hjc]
  obtain ⟨q1,q2,q3⟩:=ajU he h hl hc hcm;obtain ⟨w1,w2⟩:=ajT q1;rw [hct,X2,qa,XN] at apL;simp only [Q6,WF,Z2,List.flatMap_nil,K7] at apL;refine bW (aF.2 (by omega)) ?_;simp only [Qt,hce];refine bD (λy=>y=(c.op,c.arith,c.dst,c.a,c.b,(if c.op=11 then en.getD c.value.toNat 0 else c.value),c.wide,c.args)) (dX (λh11=>?_) λh11=>aI ?_) λy e=>?_
  .have h11:c.op=11:=by simpa using h11
   have:=(q3 h11).1;have:=he.len;rw [if_pos h11];exact bW (aF.2 (by omega)) (aI rfl)
  .have h11:¬ c.op=11:=by simpa using h11
   rw [if_neg h11]
  subst e;refine gy w1 (bW (by unfold aX;simp only [XN,hbt,apK];simp;omega) (aI ⟨⟨j+1,?_,by omega,?_⟩,?_⟩))
  .simp only [aG (x:=(j:Int)+1) (by omega)];rfl
  .simp only;rw [hct,X2,qa,Wb];simp
  .simp only [aG (x:=(j:Int)+1) (by omega)];omega
 simp only at e;subst e;have avt:=Lu he h hl (k+1) hc;have hEs:E fs fo bo (k+1)=E fs fo bo k+Q5 (mV fs fo k) (qj fo bo k):=rfl;have hbase:dL (((byT en fs fo bo (k+1)).length:Int)-(byT en fs fo bo k).length)=(Q5 (mV fs fo k) (qj fo bo k):Int):=by rw [aG (by omega)];omega
 simp only [hbase];have hst:((List.range (mV fs fo k).length).map λi=>(Af (mV fs fo k) (qj fo bo k) i:Int))++[(Q5 (mV fs fo k) (qj fo bo k):Int)]=(List.range ((mV fs fo k).length+1)).map λi=>(Af (mV fs fo k) (qj fo bo k) i:Int):=by
  rw [JP,X2];rfl
 refine bW (by unfold aX;simp;omega) ?_;simp only [hst];obtain ⟨st,amf⟩ :∃st:List Int,((List.range ((mV fs fo k).length+1)).map λi=>(Af (mV fs fo k) (qj fo bo k) i:Int))=st:=⟨_,rfl⟩;have avu:st.length=(mV fs fo k).length+1:=by rw [<-amf];simp
 have apM :∀b,b<=(mV fs fo k).length->st.getD b 0=(Af (mV fs fo k) (qj fo bo k) b:Int):=λb hb=>by rw [getD_at _ (by omega)];simp [<-amf]
 simp only [amf];have hpl:=QV h hl k (by omega);refine bW (aF.2 (by omega)) ?_;obtain ⟨q,hq⟩ :∃q:Nat,fo.getD k 0=q:=⟨(fo.getD k 0).toNat,by omega⟩;have hod:bo.getD q eInt=qj fo bo k:=by unfold qj;rw [hq];rfl
 have atu:QT fs fo bo (k+1)=QT fs fo bo k++Z5 q (mV fs fo k) (qj fo bo k) (E fs fo bo k) (mV fs fo k).length:=by show _++Z5 (fo.getD k 0).toNat _ _ _ _=_;rw [hq];rfl
 simp only [hq,Qt,hod];refine bD (λy=>y.2.2=QT fs fo bo (k+1)) ?_ λ⟨y1,y2,y3⟩ e=>?_
 .refine bQ (λs:Int×Int×Int×List fQ =>∃b:Nat,s.1=b/\b<=(mV fs fo k).length/\s.2.2.2=QT fs fo bo k++Z5 q (mV fs fo k) (qj fo bo k) (E fs fo bo k) b) (λs=>(mV fs fo k).length-s.1.toNat) ⟨0,rfl,by omega,by simp [Z5]⟩ λ⟨b',a1,a2,ps⟩ ⟨b,e,hb,e1⟩=>?_;simp only at e e1;subst e;subst e1;simp only [hol];refine dX (λhb2=>?_) λhb2=>?_
  rotate_left
  .have hb2:¬ b<(mV fs fo k).length:=by simpa using hb2
   have:b=(mV fs fo k).length:=by omega
   subst this;exact aI atu.symm
  have hb2:b<(mV fs fo k).length:=by simpa using hb2
  have hA1:Af (mV fs fo k) (qj fo bo k) (b+1)<=Q5 (mV fs fo k) (qj fo bo k):=QO (by omega);have hA0:Af (mV fs fo k) (qj fo bo k) b<=Af (mV fs fo k) (qj fo bo k) (b+1):=QO (by omega);have hw:dL ((b:Int)+1)=(b+1:Nat):=(aG (by omega)).trans rfl;simp only [hw];refine bW (aF.2 (by omega)) (bW (aF.2 (by omega)) (bW (aF.2 (by omega)) (bW (aF.2 (by omega)) (bW ?_ (aI ⟨⟨b+1,rfl,by omega,?_⟩,?_⟩)))))
  .unfold aX;simp [QU];omega
  .simp only [Qt];rw [apM b (by omega),apM (b+1) (by omega),apK,aG (by omega),aG (by omega),Wb];congr 1;unfold Z5;rw [JP,X2];simp only [Q6,WF];rw [Int.natCast_sub hA0];rfl
  .simp only;omega
 simp only at e;subst e;refine aI ⟨⟨k+1,?_,hc,rfl,rfl⟩,?_⟩
 .simp only [aG (x:=(k:Int)+1) (by omega)];rfl
 .simp only [aG (x:=(k:Int)+1) (by omega)];omega
end
theorem aiF{α β:Type}(l:List α)(d:α)(w:α->β):(nat l.length).map (λx=>w (l.getD x.toNat d))=l.map w:=by
 refine KS (by simp [nat]) λi h1 h2=>?_;have hi:i<l.length:=by simpa using h2
 simp only [Kg];congr 1;have:(nat l.length)[i]'(by rw [o_];exact hi)=(i:Int):=by simp [nat]
 rw [this,Qt,getD_at _ hi]
def zI:aK:=aK.mk ([]:List dB) 3 0 0 0 0 0 0
def rE:List aO:=[aO.mk bI 0 1 [zI]]
theorem XT:FO [zI]:=by
 refine ⟨by simp,by simp [Ag,zI],λb hb i hi=>?_,⟨λb hb=>?_,λb hb=>?_⟩,λb hb _=>?_⟩
 .rw [QP] at hb;subst hb;cases hi
 all_goals
  have:b=0:=by simp at hb;omega
  subst this;simp [zI]
theorem II:Ord [zI].length (nat 1):=⟨List.Perm.refl _,rfl,by simp⟩
theorem ajV(od:List Int)(h:Ord 1 od):wX [zI] od 1=[jU 16 0 (-1)]:=by
 have hz:=h.zero;show []++XK ([zI].getD (od.getD 0 0).toNat au) _=_;rw [hz];simp [XK,MP,zI]
theorem afY:LP eG rE:=by
 refine ⟨by simp,by simp [rE],λi hi=>?_,λi hi=>?_,λi hi od ho=>?_⟩
 all_goals
  have:i=0:=by simp [rE] at hi;omega
  subst this
 .exact XT
 .show (0:Int)<=0;omega
 .refine ajQ (fs:=rE) (sg:=[([],0)]) (g:=[]) (cl:=0) (r:=1) XT (λb hb i hi=>?_) rfl (λi hi=>?_) ho
  .have hb:b∈[zI]:=hb;rw [QP] at hb;subst hb;cases hi
  .have:i=0:=by simp [rE] at hi;omega
   subst this;rfl
theorem afZ:LO rE (nat rE.length) ((List.range rE.length).map λj=>nat (rE.getD j ah).blocks.length):=by
 refine ⟨List.Perm.refl _,by simp,λi hi=>?_⟩;have:i=0:=by simp [rE] at hi;omega
 subst this;exact II
theorem af0:Q5 [zI] (nat 1)=2:=by
 have hu:xI [zI] (nat 1)=[jU 16 0 (-1)]:=by
  refine Rn.det (BF XT II) ?_;show Rn _ (wX _ _ 1) _;rw [ajV _ II];refine .done λj hj=>?_;have:j=0:=by simp at hj;omega
  subst this;rfl
 unfold Q5 Af;rw [hu];show zH _ (wX [zI] (nat 1) 1).length=2;rw [ajV _ II];rfl
theorem af2:f6=some true:=by
 apply ok_eq;unfold f6;refine bD _ (Z4 (g:=eG) (fs:=rE) (ca:=0) (co:=0) (λi hi=>?_) (by simp [rE])) λy ⟨e1,e2⟩=>?_
 .have:i=0:=by simp [rE] at hi;omega
  subst this;simp [rE]
 obtain ⟨y1,y2⟩:=y;simp only at e1 e2;subst e1;subst e2;refine bD _ (afX afY afZ) λz ⟨z1,en,he,z2,z3,z4,z5⟩=>?_;have hlen:=Lu he afY afZ 1 (by simp [rE]);have hE:E rE (nat rE.length) ((List.range rE.length).map λj=>nat (rE.getD j ah).blocks.length) 1=2:=by
  show 0+Q5 [zI] (nat 1)=2;rw [af0]
 have hP:QT rE (nat rE.length) ((List.range rE.length).map λj=>nat (rE.getD j ah).blocks.length) 1=[fQ.mk 0 0 0 2]:=by
  show []++Z5 0 [zI] (nat 1) 0 1=_;have h0:Af [zI] (nat 1) 0=0:=QN;have h1:Af [zI] (nat 1) 1=2:=af0;unfold Z5;rw [show List.range 1=[0] from rfl];simp only [Kj,Q6,WF];rw [h0,h1];rfl
 have z2':z.2.2.2.1.length=2:=by rw [z2];exact hlen.trans hE
 have z5':z.2.2.2.2.2.2.2.2=[fQ.mk 0 0 0 2]:=by rw [z5];exact hP
 rw [z5'];refine bD (λy=>y=true) (goT (decide_eq_true z1) (goT (decide_eq_true (by omega)) (goT rfl (bW rfl (aI rfl))))) λy e=>aI e
def Cont:Int->List fQ->Int->Prop
 |a,[],e=>a=e
 |a,x::l,e=>x.address=a/\0<=x.size/\Cont (a+x.size) l e
theorem Cont.app :∀{l m:List fQ} {a b c:Int},Cont a l b->Cont b m c->Cont a (l++m) c
 | [],m,a,b,c,h,h2=>by cases h;exact h2
 |x::l,m,a,b,c,⟨h1,h2,h3⟩,h4=>⟨h1,h2,h3.app h4⟩
theorem Cont.le :∀{l:List fQ} {a b:Int},Cont a l b->a<=b
 | [],a,b,h=>by cases h;exact Wz _
 |x::l,a,b,⟨_,h2,h3⟩=>by have:=h3.le;omega
theorem Vp(i:Nat)(bl:List aK)(od:List Int)(e:Nat) :∀b,Cont (e:Int) (Z5 i bl od e b) ((e+Af bl od b:Nat):Int)
 |0=>by show ((e:Nat):Int)=_;rw [QN];rfl
 |b+1=>by
  have h:=Vp i bl od e b;have hs:Z5 i bl od e (b+1)=Z5 i bl od e b++[fQ.mk (i:Int) (od.getD b 0) ((e+Af bl od b:Nat):Int) ((Af bl od (b+1)-Af bl od b:Nat):Int)]:=by unfold Z5;rw [JP,X2];rfl
  have hA:Af bl od b<=Af bl od (b+1):=QO (by omega);rw [hs];refine h.app ⟨rfl,by simp only;omega,?_⟩;show ((e+Af bl od b:Nat):Int)+((Af bl od (b+1)-Af bl od b:Nat):Int)=((e+Af bl od (b+1):Nat):Int);omega
section
variable {g:List aA} {fs:List aO} {ca co:Int} {fo:List Int} {bo:List (List Int)}
theorem Vq(fs:List aO)(fo:List Int)(bo:List (List Int)) :∀k,Cont 0 (QT fs fo bo k) (E fs fo bo k)
 |0=>rfl
 |k+1=>(Vq fs fo bo k).app (Vp _ _ _ _ _)
theorem Z7{x:fQ} :∀{k:Nat},x∈QT fs fo bo k->∃j,j<k/\∃b,b<(mV fs fo j).length/\x=fQ.mk ((fo.getD j 0).toNat:Int) ((qj fo bo j).getD b 0) ((E fs fo bo j+Af (mV fs fo j) (qj fo bo j) b:Nat):Int) ((Af (mV fs fo j) (qj fo bo j) (b+1)-Af (mV fs fo j) (qj fo bo j) b:Nat):Int)
 |0,h=>by cases h
 |k+1,h=>by
  rcases Xs.1 h with h | h
  .obtain ⟨j,hj,r⟩:=Z7 h;exact ⟨j,by omega,r⟩
  .obtain ⟨b,hb,e⟩:=QR.1 h;exact ⟨k,by omega,b,Uq.1 hb,e.symm⟩
theorem Z8{j b:Nat}(hb:b<(mV fs fo j).length) :∀{k:Nat},j<k->fQ.mk ((fo.getD j 0).toNat:Int) ((qj fo bo j).getD b 0) ((E fs fo bo j+Af (mV fs fo j) (qj fo bo j) b:Nat):Int) ((Af (mV fs fo j) (qj fo bo j) (b+1)-Af (mV fs fo j) (qj fo bo j) b:Nat):Int)∈QT fs fo bo k
 |0,h=>absurd h (Kk _)
 |k+1,h=>by
  by_cases e:j=k
  .subst e;exact Xs.2 (.inr (QR.2 ⟨b,Uq.2 hb,rfl⟩))
  .exact Xs.2 (.inl (Z8 hb (by omega)))
theorem Oy(hl:LO fs fo bo) :∀k,k<=fs.length->(QT fs fo bo k).length=((fo.take k).map λx=>(fs.getD x.toNat ah).blocks.length).sum
 |0,_=>by simp [QT]
 |k+1,hk=>by
  have hfl:=hl.XQ;have e:fo.getD k 0=fo[k]'(by omega):=getD_at _ _;show (_++_:List fQ).length=_;rw [XN,QU,Oy hl k (by omega),take_snoc (by omega),X2,K8,<-e];simp [mV]
theorem ab8(hl:LO fs fo bo):(QT fs fo bo fs.length).length=(fs.map λf=>f.blocks.length).sum:=by
 rw [Oy hl _ (XS _),V2 (by rw [hl.XQ];exact XS _),(hl.perm.map _).sum_nat,aiF fs ah λf=>f.blocks.length]
theorem af4{p0 p1 p2 p3:List Int}{p4 p5:Int}{p6:List aA}{LC:List fQ}{f b:Int}(hl:LC.length<=1000000)(h :∃x∈LC,x.func=f/\x.block=b):Ok (f11 p0 p1 p2 p3 p4 p5 p6 LC f b) λy=>y.2.2.2.2=true:=by
 unfold f11;refine iU (λ_=>False) (jv LC.length (λi=>¬ ((LC.getD i pV).func=f/\(LC.getD i pV).block=b)) (by omega) (λi hi _=>?_) λhall=>?_) λ_ h=>h.elim
 .refine goT (decide_eq_true (by omega)) (bW (aF.2 (by omega)) ?_);simp only [Qt];refine bD (λy=>y=true↔((LC.getD i pV).func=f/\(LC.getD i pV).block=b)) (dX (λh1=>aI ?_) λh1=>aI ?_) λy hy=>dX (λh=>aI rfl) λh=>aI ⟨rfl,λh2=>by rw [hy.2 h2] at h;cases h⟩
  .have h1:=of_decide_eq_true h1;exact ⟨λh2=>⟨h1,of_decide_eq_true h2⟩,λh2=>decide_eq_true h2.2⟩
  .have h1:=of_decide_eq_false h1;exact ⟨λh2=>(by cases h2),λh2=>absurd h2.1 h1⟩
 .obtain ⟨x,hx,h1,h2⟩:=h;obtain ⟨i,hi,e⟩:=W8 hx;exact absurd ⟨by rw [getD_at _ hi,e];exact h1,by rw [getD_at _ hi,e];exact h2⟩ (hall i hi)
theorem ab9{l:List Int}(hb:Bytes l):f3 l=some true:=by
 apply ok_eq;unfold f3;refine gy af2 (b_ rfl (bD _ (alU hb (by omega)) λ⟨c,i⟩ ⟨e,hb'⟩=>?_));simp only at e;subst e;refine bD _ (aiw hb' (Wz _)) λ⟨fs,ca,co,l',i',g⟩ ⟨⟨sg,hR⟩,_,h2,h3⟩=>?_;simp only at hR h2 h3;subst h2;have h:=hR.lp;refine bD _ (ab6 hb' h3 h) λ⟨w1,w2,fo,bo⟩ ⟨_,_,hl⟩=>?_;simp only at hl ⊢;refine bD _ (afX h hl) λ⟨z1,z2,z3,code,en,z6,z7,z8,LC⟩ ⟨e0,en',he,e1,e2,_,e3⟩=>?_;simp only at e0 e1 e2 e3;subst e2;subst e0;subst e1;subst e3;have hn:=h.n;have hcl:=Lu he h hl _ (XS _);have hEn:=aiD h hl _ (XS _);have hpl:=QV h hl _ (XS _);have hco:=Vq fs fo bo fs.length;have hmem :∀x∈QT fs fo bo fs.length,0<=x.size/\(0<=x.func/\x.func<fs.length)/\(x.block=0->en.getD x.func.toNat 0=x.address):=λx hx=>by
  obtain ⟨j,hj,b,hb,e⟩:=Z7 hx;have ha:=hl.at hj;subst e;refine ⟨Int.natCast_nonneg _,by simp only;omega,λh0=>?_⟩;simp only at h0 ⊢;have ho:=hl.blk hj;have:b=0:=ho.inj hb (by omega) (h0.trans ho.zero.symm);subst this;rw [Qt,he.ats j hj,QN];rfl
 have htot:=ab8 hl;obtain ⟨LC,hpe⟩ :∃LC,QT fs fo bo fs.length=LC:=⟨_,rfl⟩;have hin :∀i,i<fs.length->∀b,b<(fs.getD i ah).blocks.length->∃x∈LC,x.func=(i:Int)/\x.block=(b:Int):=λi hi b hb=>by
  obtain ⟨k,hk,ek⟩:=hl.find (v:=(i:Int)) (by omega);have hbk:mV fs fo k=(fs.getD i ah).blocks:=by unfold mV;rw [ek];rfl
  have ho:=hl.blk hk;obtain ⟨q,hq,eq⟩:=W8 (ho.mem.2 (show 0<=(b:Int)/\(b:Int)<(mV fs fo k).length by rw [hbk];omega));rw [<-hpe];refine ⟨_,Z8 (b:=q) (by rw [<-ho.len];exact hq) hk,?_,?_⟩
  .simp only;rw [ek];rfl
  .simp only;rw [getD_at _ hq];exact eq
 simp only [hpe] at *;refine bD (λy=>y=false) (b_ rfl (aI (by simp [he.len]))) λy e=>?_;subst e;refine b_ rfl (iU (λy=>y=E fs fo bo fs.length) ?_ λy1 e=>?_)
 .refine bQ (λs:Int×Int =>∃i:Nat,s.2=i/\i<=LC.length/\0<=s.1/\Cont s.1 (LC.drop i) (E fs fo bo fs.length)) (λs=>LC.length-s.2.toNat) ⟨0,rfl,by omega,Wz _,hco⟩ λ⟨a,i'⟩ ⟨i,e,hi,h0,hc⟩=>?_;simp only at e h0 hc;subst e;refine dX (λhi2=>?_) λhi2=>?_
  rotate_left
  .have hi2:¬ i<LC.length:=by simpa using hi2
   rw [List.drop_eq_nil_of_le (by omega)] at hc;exact aI hc
  have hi2:i<LC.length:=by simpa using hi2
  obtain ⟨x,hx⟩ :∃x,LC.getD i pV=x:=⟨_,rfl⟩;have hxm:x∈LC:=by rw [<-hx,getD_at _ hi2];exact X1 _
  obtain ⟨m1,⟨m2,m3⟩,m4⟩:=hmem x hxm;rw [v8 hi2,<-getD_at pV hi2,hx] at hc;obtain ⟨c1,c2,c3⟩:=hc;have c4:=c3.le;refine bW (aF.2 (by simp only;omega)) ?_;simp only [Qt,hx];refine bD (λy=>y=false) (b_ (by simp [c1]) (b_ (decide_eq_false (by omega)) (b_ (decide_eq_false (by omega)) (b_ (decide_eq_false (by omega)) (dX (λhb0=>?_) λ_=>aI rfl))))) λy e=>?_
  .have hb0:=m4 (of_decide_eq_true hb0);exact bW (aF.2 (by rw [he.len];exact ⟨m2,m3⟩)) (aI (by rw [hb0,c1];simp))
  subst e;refine b_ rfl (aI ⟨⟨i+1,?_,by omega,?_,?_⟩,?_⟩)
  .simp only [aG (x:=(i:Int)+1) (by omega)];rfl
  .simp only;rw [aG (by omega)];omega
  .simp only;rw [aG (by omega)];exact c3
  .simp only [aG (x:=(i:Int)+1) (by omega)];omega
 subst e;have hsum :∀i,i<=fs.length->((fs.take i).map λf=>f.blocks.length).sum<=256*i:=λi=>by
  induction i with
  |zero=>intro _;simp
  |succ i ih=>
   intro hi;have:=ih (by omega);have hf:=(h.fo i (by omega)).len.2;rw [getD_at _ (by omega)] at hf;rw [take_snoc (by omega),X2,K8];simp only [Q6,WF,J1,List.sum_nil];omega
 refine iU (λy=>y=(LC.length:Int)) ?_ λy2 e=>?_
 .refine bQ (λs:Int×Int =>∃i:Nat,s.2=i/\i<=fs.length/\s.1=(((fs.take i).map λf=>f.blocks.length).sum:Nat)) (λs=>fs.length-s.2.toNat) ⟨0,rfl,by omega,rfl⟩ λ⟨a,i'⟩ ⟨i,e,hi,e1⟩=>?_;simp only at e e1;subst e;subst e1;refine dX (λhi2=>?_) λhi2=>?_
  rotate_left
  .have hi2:¬ i<fs.length:=by simpa using hi2
   refine aI (show ((((fs.take i).map λf=>f.blocks.length).sum:Nat):Int)=LC.length from ?_);rw [V2 (by omega),htot]
  have hi2:i<fs.length:=by simpa using hi2
  have hs:=hsum i (by omega);have hf:=(h.fo i hi2).len.2;have hin1:=aF.2 (show 0<=(i:Int)/\(i:Int)<fs.length by omega);refine bW hin1 ?_;simp only [Qt];refine iU (λ_=>True) (jv (fs.getD i ah).blocks.length (λ_=>True) (by omega) (λb hb _=>?_) λ_=>?_) λ_ _=>aI ⟨⟨i+1,?_,by omega,?_⟩,?_⟩
  .refine bW hin1 (goT (decide_eq_true (by omega)) (bD _ (af4 (by omega) (hin i hi2 b hb)) λy hy=>b_ (by rw [hy];rfl) (aI ⟨rfl,trivial⟩)))
  .exact bW hin1 (b_ (decide_eq_false (by omega)) (aI trivial))
  .simp only [aG (x:=(i:Int)+1) (by omega)];rfl
  .simp only;rw [aG (by omega),take_snoc hi2,X2,K8,getD_at _ hi2];simp
  .simp only [aG (x:=(i:Int)+1) (by omega)];omega
 subst e;refine bD (λy=>y=true) (goT (decide_eq_true (by rw [hcl])) (aI (decide_eq_true rfl))) λy e=>aI e
end
end Go.Fg.YtoipcimfapppmaaGreatDoor

