/-
  The plain proofs: what the functions compute answers as the law says.
-/
import Derived.Test.YtoipcimfapppmaaGreatDoorLa
open Option renaming some->zw,none->zz
open Bool renaming true->zj,false->zv
set_option linter.unusedSimpArgs false
set_option linter.unusedVariables false
set_option linter.unusedSectionVars false
variable{a e k t v:Int}{h:List (List UInt8×Nat)}{l:List Int}{j n:Nat}
namespace Go.Fg.YtoipcimfapppmaaGreatDoor
open Go.Fw
section
variable {c:dQ}
def rT(c:dQ)(q:Nat)(s:F6):Int×Int×Int×Int×Int×Int×Int×Bool×List Int:=((q:Int),c.op,s.1,s.2.1,s.2.2.1,s.2.2.2.1,s.2.2.2.2.1,c.wide,s.2.2.2.2.2)
theorem as3(h:VCc c)(hC:Can c){data:List Int}(hd:data.length<=1000000000)(H:At data n (gY c)):
  f14 data (n:Int)=zw (c.op,c.arith,c.dst,c.a,c.b,vD c,c.wide,(Dw c:Int),0,c.args):=by
 have T:=qO c;have NZ:VC c.op c.arith c.dst c.a c.b c.value c.wide c.args:=h;have ho:=NZ.o;have hn:=NZ.n;obtain⟨r,hr,hr0,hl,d⟩:=amm ho;have d:=d c.wide;obtain⟨q1,q2,q3,q4⟩:=J3 h;have hpl:=at_len H (by rw[T];unfold Dw szc;omega);obtain⟨hp,hb,H⟩:=Tn H;rw[<-d]at H;have U:1+((r.map (kR c.wide)).flatMap (nC c.arith c.dst c.a c.b c.value c.args)).length=Dw c:=by rw[<-T,d];unfold gY;rw[Wm];omega
 apply ok_eq;unfold f14;refine bW m_ (bW m_ (bK nZ (bK nZ ?_)));simp only[Q4,hb,q3,q4];refine d_ hr (bG (λy=>y=zv) (bW hr0 (dA (λJ=>?_) λ_=>aG rfl)) λy e=>?_)
 .have:=NZ.w J;unfold f38;refine bG (λy=>y=zj) (bG (λy=>y=zj) (dA (λ_=>aG rfl) λn1=>dA (λ_=>aG rfl) λn2=>aG (W5 (by have:=ZD n1;have:=ZD n2;omega))) λy e=>aG e) λy e=>aG (by rw[e];rfl)
 subst e;refine bW rfl (iH (λy=>y=rT c (n+Dw c) (fK c (ksM c.op c.wide))) ?_ λy e=>?_)
 rotate_left
 .subst e;have hf:fK c (ksM c.op c.wide)=_:=hC;rw[hf];refine d_ (aml (amq h)) (bW rfl (aG ?_));show (_,_,_,_,_,_,_,bP (((n+Dw c:Nat):Int)-n),_,_)=_;rw[aF (by omega),show (((n+Dw c:Nat):Int)-n)=Dw c by omega];rfl
 rw[show bP ((n:Int)+1)=((n+1:Nat):Int) from (aF (by omega)).trans rfl];refine bF (λs:Int×Int×Int×Int×Int×Int×Int×Int×Bool×List Int=>∃(i q:Nat) (F:F6),s=((q:Int),(i:Int),(rT c q F).2)/\i<=r.length/\F=fK c ((r.take i).map (kR c.wide))/\At data q (((r.drop i).map (kR c.wide)).flatMap (nC c.arith c.dst c.a c.b c.value c.args))/\q+(((r.drop i).map (kR c.wide)).flatMap (nC c.arith c.dst c.a c.b c.value c.args)).length=n+Dw c/\F.2.2.2.2.2.length<=i*250) (λs=>r.length-s.2.1.toNat) ⟨0,n+1,z6,rfl,by omega,rfl,H,by rw[<-U,List.drop_zero];omega,by simp[z6]⟩ λs ⟨i,q,F,e,h1,h2,h3,h4,h5⟩=>?_;subst e;refine dA (λL=>?_) λL=>?_
 rotate_left
 .have L:¬ i<r.length:=by simpa using L
  rw[vR (by omega)]at h4;rw[WN (by omega),d]at h2;subst h2;have:q=n+Dw c:=by simpa using h4
  subst this;exact aG rfl
 have L:i<r.length:=by simpa using L
 have hg:=ahw h d _ (X2 L);obtain⟨x,M⟩ :∃x,r[i]=x:=⟨_,rfl⟩;have hxd:r.getD i 0=x:=by rw[getD_at _ L,M]
 have htk:r.take (i+1)=r.take i++[x]:=by rw[take_snoc L,M]
 rw[KB L,M,Qf,Z6]at h3 h4;rw[M]at hg;obtain⟨N,h3⟩:=wJ h3;obtain⟨N,h3b⟩:=at_k N;rw[XS]at h4;have hin:=aQ.2 (show 0<=(i:Int)/\(i:Int)<r.length by omega);have X:=Ag c.arith c.dst c.a c.b c.value c.args (kR c.wide x);have hw1:=hg.1;have Y:=at_len N (by rw[kV];omega);rw[kV]at Y;refine bK hin ?_;simp only[Q4,hxd];refine d_ (abt (wd:=c.wide)) (bW (ZS (by rw[aF (by omega)];omega)) (d_ (aht hw1 N hd) (bK hin ?_)));rw[show bP ((q:Int)+((kR c.wide x).2:Int))=((q+(kR c.wide x).2:Nat):Int) from (aF (by omega)).trans rfl];refine iH (λy=>y=rT c (q+(nC c.arith c.dst c.a c.b c.value c.args (kR c.wide x)).length) (Dq c.arith c.dst c.a c.b c.value c.args F (kR c.wide x))) ?_ λy e=>aG ⟨⟨i+1,q+(nC c.arith c.dst c.a c.b c.value c.args (kR c.wide x)).length,Dq c.arith c.dst c.a c.b c.value c.args F (kR c.wide x),?_,L,?_,h3,by omega,?_⟩,?_⟩
 rotate_left
 .subst e;rw[aF (by omega)];rfl
 .rw [htk,XX,h2,Qf,Vc,abu]
 .have:(Dq c.arith c.dst c.a c.b c.value c.args F (kR c.wide x)).2.2.2.2.2.length<=F.2.2.2.2.2.length+c.args.length:=by
   unfold Dq
   repeat' split
   all_goals simp
  omega
 .show r.length-(bP ((i:Int)+1)).toNat<r.length-(i:Int).toNat;rw[aF (by omega)];omega
 have key :∀p:Nat,decide ((x.toNat:Int)=(p:Int))=zj->x.toNat=p:=λp h=>by have:=Zs h;omega
 have neg :∀p:Nat,decide ((x.toNat:Int)=(p:Int))=zv->¬ x.toNat=p:=λp h=>by have:=ZD h;omega
 have K:(kR c.wide x).1≠6->q+(nC c.arith c.dst c.a c.b c.value c.args (kR c.wide x)).length=q+(kR c.wide x).2:=λh6=>by rw[X,Qt h6];rfl
 have z:(kR c.wide x).1≠5->bP ((nR (qN c.arith c.dst c.a c.b c.value c.args (kR c.wide x).1) % 256 ^ (kR c.wide x).2:Nat):Int)=rdK c.arith c.dst c.a c.b c.value c.args (kR c.wide x):=λh5=>ahy hg h5;refine dA (λB=>aG ?_) λn1=>iH _ ?_ λy Z=>aG Z
 .have d:kR c.wide x=(0,1):=by simp[kR,key 111 B]
  rw[z (by rw[d];simp),K (by rw[d];simp),d];rfl
 refine dA (λB=>aG ?_) λn2=>iH _ ?_ λy Z=>aG Z
 .have d:kR c.wide x=(1,1):=by simp[kR,key 100 B]
  rw[z (by rw[d];simp),K (by rw[d];simp),d];rfl
 refine dA (λB=>aG ?_) λn3=>iH _ ?_ λy Z=>aG Z
 .have d:kR c.wide x=(2,1):=by simp[kR,key 97 B]
  rw[z (by rw[d];simp),K (by rw[d];simp),d];rfl
 refine dA (λB=>aG ?_) λn4=>iH _ ?_ λy Z=>aG Z
 .have d:kR c.wide x=(3,1):=by simp[kR,key 98 B]
  rw[z (by rw[d];simp),K (by rw[d];simp),d];rfl
 refine dA (λB=>?_) λn5=>?_
 .have d:kR c.wide x=(6,1):=by simp[kR,key 110 B]
  have h3c:=h3b (by rw[d]);rw[z (by rw[d];simp)];rw[d]at X h3c ⊢;have hr6:rdK c.arith c.dst c.a c.b c.value c.args (6,1)=(c.args.length:Int):=rfl;rw[hr6,X];have hle:q+1+c.args.length<=data.length:=by
   rcases qd c.args.length with h0|h0
   .rw [d]at Y;simp only at Y;omega
   .have:=at_len h3c (by rw[wK];exact h0);rw[wK]at this;simp only at this;omega
  refine bW (ZS (by rw[aF (by simp only;omega)];simp only;omega)) (bG (λy=>y=(rT c (q+1) (Dq c.arith c.dst c.a c.b c.value c.args F (6,1))).2) ?_ λy e=>aG ?_)
  .refine bF (λs:Int×Int×Int×Int×Int×Int×Int×Bool×List Int=>∃j:Nat,s=((j:Int),(rT c (q+1) (F.1,F.2.1,F.2.2.1,F.2.2.2.1,F.2.2.2.2.1,F.2.2.2.2.2++c.args.take j)).2)/\j<=c.args.length) (λs=>c.args.length-s.1.toNat) ⟨0,by simp[rT],by omega⟩ λs ⟨j,e,g1⟩=>?_;subst e;refine dA (λm=>?_) λm=>?_
   .have m:j<c.args.length:=by simpa using m
    have ha:=NC h3c m;have hr:=NZ.s _ (X2 m);rw[<-getD_at 0 m]at hr;rw[akU (by omega)]at ha;obtain⟨g2,g3,_⟩:=Tn ha;simp only at g2 g3;have hw2:bP (((q+(6,1).2:Nat):Int)+((j:Int),(rT c (q+1) (F.1,F.2.1,F.2.2.1,F.2.2.2.1,F.2.2.2.2.1,F.2.2.2.2.2++c.args.take j)).2).1)=((q+1+j:Nat):Int):=by simp only;rw[aF (by omega)];omega
    simp only[hw2,Q4,g3];refine bK nZ (bK ?_ (aG ⟨⟨j+1,?_,m⟩,?_⟩))
    .unfold aX;simp[rT];omega
    .rw [aF (by omega),aF (by omega)];simp only[rT];rw[take_snoc m,<-W3,<-getD_at 0 m];rfl
    .simp only[aF (x:=(j:Int)+1) (by omega)];omega
   .have m:¬ j<c.args.length:=by simpa using m
    have:j=c.args.length:=by omega
    subst this;refine aG (show (rT c (q+1) _).2=_ from ?_);rw[K7];rfl
  .subst e;rw[aF (by simp only;omega)];show (((q+1:Nat):Int)+(c.args.length:Int),_)=(((q+(1+c.args.length):Nat):Int),_);rw[show ((q+1:Nat):Int)+(c.args.length:Int)=((q+(1+c.args.length):Nat):Int) by omega];rfl
 .have n1:=neg 111 n1;have n2:=neg 100 n2;have n3:=neg 97 n3;have n4:=neg 98 n4;have n5:=neg 110 n5;have h45:(kR c.wide x).1=4\/(kR c.wide x).1=5:=by unfold kR;rw[Qt n1,Qt n2,Qt n3,Qt n4,Qt n5];split<;>simp
  have hset:Dq c.arith c.dst c.a c.b c.value c.args F (kR c.wide x)=(F.1,F.2.1,F.2.2.1,F.2.2.2.1,(if(kR c.wide x).2=8 then bP c.value else c.value),F.2.2.2.2.2):=by unfold Dq;rcases h45 with e|e<;>simp[e]
  have hfv:qN c.arith c.dst c.a c.b c.value c.args (kR c.wide x).1=c.value:=by rcases h45 with e|e<;>rw[e]<;>rfl
  refine bG (λy=>y=(c.op,F.1,F.2.1,F.2.2.1,F.2.2.2.1,(if(kR c.wide x).2=8 then bP c.value else c.value),c.wide)) (dA (λB=>?_) λB=>aG ?_) λy e=>aG ?_
  .have d:kR c.wide x=(5,if c.wide then 4 else 1):=by simp[kR,key 106 B]
   rw[d]at hg;have m:if c.wide then -2147483648<=c.value/\c.value<=2147483647 else -128<=c.value/\c.value<=127:=by
    rcases hg.2.2.1 with⟨h,_⟩|⟨h,_⟩|⟨_,_,h⟩
    .simp at h
    .simp at h
    .exact h
   have hu:=oH c.value;rw[hfv,d];refine bG (λy=>y=(c.op,F.1,F.2.1,F.2.2.1,F.2.2.2.1,c.value,c.wide)) (dA (λJ=>aG ?_) λJ=>aG ?_) λy e=>aG ?_
   .have J:c.wide=zj:=J;rw[J]at m ⊢;simp only[if_true]at m;show (c.op,F.1,F.2.1,F.2.2.1,F.2.2.2.1,bP (Go.IntKind.wrap .i32 ((nR c.value % 256 ^ 4:Nat):Int)),c.wide)=_;have:bP (Go.IntKind.wrap .i32 ((nR c.value % 256 ^ 4:Nat):Int))=c.value:=by rw[wrap_i32,aF (by split<;>omega)];split<;>omega
    rw[this,J]
   .have J:c.wide=zv:=J;rw[J]at m ⊢;simp only[if_false,Wb]at m;show (c.op,F.1,F.2.1,F.2.2.1,F.2.2.2.1,bP (Go.IntKind.wrap .i8 ((nR c.value % 256 ^ 1:Nat):Int)),c.wide)=_;have:bP (Go.IntKind.wrap .i8 ((nR c.value % 256 ^ 1:Nat):Int))=c.value:=by rw[abq,aF (by split<;>omega)];split<;>omega
    rw[this,J]
   .rw [e,Qt (by simp only;split<;>omega)]
  .have h6:=neg 106 B;have h4:(kR c.wide x).1≠5:=by unfold kR;rw[Qt n1,Qt n2,Qt n3,Qt n4,Qt n5,Qt h6];simp
   have:=z h4;unfold rdK at this;rw[hfv]at this;rw[hfv,this];rfl
  .subst e;rw[K (by rcases h45 with e|e<;>rw[e]<;>simp),hset];rfl
end
theorem ND(h:l.length<=1000000000):f51 l=zw l:=by
 apply ok_eq;unfold f51;have d:aX (List.length eInt) l.length 8=zj:=by unfold aX;simp[eInt];omega
 exact bK d (aG rfl)
theorem aoW(h:l.length<=1000000):f52 l=zw (l.mergeSort λx y=>decide (x<=y)):=by show acW l=_;unfold acW;have:decide (l.length<4611686018427387904)=zj:=W5 (by omega);rw[this]
abbrev C8:=Int×Int×Int×Int×Int×Int×Bool×List Int
def VT(v:Int)(t:C8):Prop:=VC t.1 t.2.1 t.2.2.1 t.2.2.2.1 t.2.2.2.2.1 v t.2.2.2.2.2.2.1 t.2.2.2.2.2.2.2
noncomputable def jy(i:dP):C8:=(f62 i.kind i.op i.dst i.a i.b i.value i.args).getD (0,0,0,0,0,0,zv,[])
def CG(t:C8):Prop:=t.2.2.2.2.2.2.1=zv/\¬ (13<=t.1/\t.1<=15)/\VT t.2.2.2.2.2.1 t/\VT 0 t
section
variable {g:List aC} {sg:List (List UInt8×Nat)} {cl re:Int} {i:dP}
theorem ni{t:C8}(d:f62 i.kind i.op i.dst i.a i.b i.value i.args=zw t)(j:f85 i.kind i.op i.dst i.a i.b i.value i.args=zw t)(h:CG t):
  f62 i.kind i.op i.dst i.a i.b i.value i.args=zw (jy i)/\f85 i.kind i.op i.dst i.a i.b i.value i.args=zw (jy i)/\CG (jy i):=by
 have:jy i=t:=by unfold jy;rw[d];rfl
 rw[this];exact⟨d,j,h⟩
theorem wL{op d:Int}{args:List Int}(j:1<=op/\op<=18/\¬ (13<=op/\op<=15))(m:op=3->1<=t/\t<=2)(q:op=4->3<=t/\t<=11)(hd:0<=k/\k<=249)(w:0<=e/\e<=249)(y:0<=v/\v<=249)(hs :∀x∈args,0<=x/\x<=249)(hn:args.length<=250)(z:nP op d zv=zj)(B:nP op 0 zv=zj):CG (op,t,k,e,v,d,zv,args):=⟨rfl,j.2.2,⟨⟨j.1,j.2.1⟩,(λh=>by cases h),m,q,hd,w,y,hs,hn,z⟩,⟨⟨j.1,j.2.1⟩,(λh=>by cases h),m,q,hd,w,y,hs,hn,B⟩⟩
theorem akW(h:IV g sg cl re i)(hg:g.length<=32)(hs:sg.length<=64)(U:cl<=64)(X:re<=250):
  f62 i.kind i.op i.dst i.a i.b i.value i.args=zw (jy i)/\f85 i.kind i.op i.dst i.a i.b i.value i.args=zw (jy i)/\CG (jy i):=by
 have z:(0:Int)<=0/\(0:Int)<=249:=by omega
 have e :∀x∈(eInt:List Int),0<=x/\x<=249:=λx K=>by cases K
 have y:(eInt:List Int).length<=250:=by simp
 have w :∀{x:Int},RG re x->0<=x/\x<=249:=λh=>⟨h.1,by have:=h.2;omega⟩;have L :∀{a:Bool} {v:Int},GI a g v->0<=v/\v<=31:=λh=>by have:=h.1;omega
 cases h with
 |@const o d a b v j hd q=>exact ni (t:=(1,0,d,0,0,v,zv,eInt)) rfl rfl (wL (by omega) (by omega) (by omega) (w hd) z z e y rfl rfl)
 |@move o d a b v j hd m q=>exact ni (t:=(2,0,d,a,0,0,zv,eInt)) rfl rfl (wL (by omega) (by omega) (by omega) (w hd) (w m) z e y rfl rfl)
 |@un o d a b v j hd m N q=>exact ni (t:=(3,o,d,a,0,0,zv,eInt)) rfl rfl (wL (by omega) (λ_=>by omega) (by omega) (w hd) (w m) z e y rfl rfl)
 |@bin o d a b v j hd m M N q=>exact ni (t:=(4,o,d,a,b,0,zv,eInt)) rfl rfl (wL (by omega) (by omega) (λ_=>N) (w hd) (w m) (w M) e y rfl rfl)
 |@load o d a b v j hd H q=>exact ni (t:=(5,0,d,0,0,v,zv,eInt)) rfl rfl (wL (by omega) (by omega) (by omega) (w hd) z z e y (by have:=L H;simp[nP];omega) rfl)
 |@store o d a b v j m H q=>exact ni (t:=(6,0,0,a,0,v,zv,eInt)) rfl rfl (wL (by omega) (by omega) (by omega) z (w m) z e y (by have:=L H;simp[nP];omega) rfl)
 |@elem o d a b v j hd m H q=>exact ni (t:=(7,0,d,a,0,v,zv,eInt)) rfl rfl (wL (by omega) (by omega) (by omega) (w hd) (w m) z e y (by have:=L H;simp[nP];omega) rfl)
 |@set o d a b v j m M H q=>exact ni (t:=(8,0,0,a,b,v,zv,eInt)) rfl rfl (wL (by omega) (by omega) (by omega) z (w m) (w M) e y (by have:=L H;simp[nP];omega) rfl)
 |@read o d a b v j hd q=>exact ni (t:=(9,0,d,0,0,0,zv,eInt)) rfl rfl (wL (by omega) (by omega) (by omega) (w hd) z z e y rfl rfl)
 |@print o d a b v j m q=>exact ni (t:=(10,0,0,a,0,0,zv,eInt)) rfl rfl (wL (by omega) (by omega) (by omega) z (w m) z e y rfl rfl)
 |@call o d a b v j hd H T J q=>
  have B:aX (List.length eInt) j.length 8=zj:=by unfold aX;simp;omega
  refine ni (t:=(11,0,d,0,0,v,zv,j)) ?_ ?_ (wL (by omega) (by omega) (by omega) (w hd) z z (λx K=>w (J x K)) (by omega) (by simp[nP];omega) rfl)
  .show f62 11 o d a b v j=_;unfold f62;rw[B];rfl
  .show f85 11 o d a b v j=_;unfold f85;rw[ND (by omega)];rfl
 |@I_ o d a b v j hd m J q=>
  have B:aX (List.length eInt) j.length 8=zj:=by unfold aX;simp;omega
  refine ni (t:=(12,0,d,a,0,0,zv,j)) ?_ ?_ (wL (by omega) (by omega) (by omega) (w hd) (w m) z (λx K=>w (J x K)) (by omega) rfl rfl)
  .show f62 12 o d a b v j=_;unfold f62;rw[B];rfl
  .show f85 12 o d a b v j=_;unfold f85;rw[ND (by omega)];rfl
 |@func o d a b v j hd H q=>exact ni (t:=(18,0,d,0,0,v,zv,eInt)) rfl rfl (wL (by omega) (by omega) (by omega) (w hd) z z e y (by simp[nP];omega) rfl)
end
def jU(op a to:Int):dh:=dh.mk op 0 0 a 0 0 zv eInt to
def Ho(k a t e n:Int):List dh:=
 if k=3 then[jU 16 a (-1)]else if k=1\/t=e then(if t=n then[]else[jU 13 0 t])
 else if e=n then[jU 14 a t]else if t=n then[jU 15 a e]else[jU 14 a t,jU 13 0 e]
theorem aoX:f86 a t k e v=zw (Ho a t k e v):=by
 apply ok_eq;unfold f86 Ho;refine dA (λh=>?_) λh=>?_
 .rw [QQ (Zs h)];exact aG rfl
 rw[Qt (ZD h)];refine bG (λy=>y=decide (a=1\/k=e)) (dA (λh=>aG ?_) λh=>aG ?_) λy d=>?_
 .exact (W5 (.inl (Zs h))).symm
 .exact decide_eq_decide.2 (by have:=ZD h;simp[this])
 subst d;refine dA (λh=>?_) λh=>?_
 .rw [QQ (Zs h)];refine dA (λh=>?_) λh=>?_
  .rw [QQ (Zs h)];exact aG rfl
  .rw [Qt (ZD h)];exact aG rfl
 rw[Qt (ZD h)];refine dA (λh=>?_) λh=>?_
 .rw [QQ (Zs h)];exact aG rfl
 rw[Qt (ZD h)];refine dA (λh=>?_) λh=>?_
 .rw [QQ (Zs h)];exact aG rfl
 .rw [Qt (ZD h)];exact aG rfl
def nat(n:Nat):List Int:=(List.range n).map Int.ofNat
theorem NG(n:Nat):nat (n+1)=nat n++[(n:Int)]:=by unfold nat;rw[JN,XX];rfl
theorem yw(n:Nat):(nat n).length=n:=by simp[nat]
theorem aoY(h:j<n):(nat n).getD j 0=j:=by rw[getD_at _ (by simpa[yw]using h)];simp[nat]
theorem Tq{x:Int}:x∈nat n↔0<=x/\x<n:=by
 unfold nat;rw[XN];constructor
 .rintro ⟨a,d,e⟩;have:=Uq.1 d;subst e;simp;omega
 .intro ⟨h,j⟩;exact⟨x.toNat,Uq.2 (by omega),by simp;omega⟩
variable{nm:List UInt8}{pa:Int}{bl:List aN}
theorem Hq{re:Int}(h:bl.length<=1000000):f50 nm pa re bl=zw (nat bl.length):=by
 apply ok_eq;unfold f50;refine bG (λy=>y=nat bl.length) ?_ λy j=>aG j;refine bF (λs:Int×List Int=>∃i:Nat,s=((i:Int),nat i)/\i<=bl.length) (λs=>bl.length-s.1.toNat) ⟨0,rfl,by omega⟩ λs ⟨i,e,m⟩=>?_;subst e;refine dA (λd=>?_) λd=>?_
 .have d:i<bl.length:=by simpa using d
  refine bK (by unfold aX;simp[yw];omega) (aG ⟨⟨i+1,?_,by omega⟩,?_⟩)
  .rw [NG];simp only[aF (x:=(i:Int)+1) (by omega)];rfl
  .simp only[aF (x:=(i:Int)+1) (by omega)];omega
 .have d:¬ i<bl.length:=by simpa using d
  exact aG (show nat i=nat bl.length by rw[show i=bl.length by omega])
theorem adK{re:Int}(h:bl.length<=1000000):f44 nm pa re bl=zw (nat bl.length):=Hq (nm:=nm) (pa:=pa) (re:=re) h
structure Ord(n:Nat)(od:List Int):Prop where
 perm:od.Perm (nat n)
 zero:od.getD 0 0=0
 pos:0<n
theorem Ord.len{od:List Int}(h:Ord n od):od.length=n:=by rw[h.perm.length_eq,yw]
theorem Ord.mem{od:List Int}(h:Ord n od){x:Int}:x∈od↔0<=x/\x<n:=h.perm.mem_iff.trans Tq
variable{i:Nat}
theorem Ord.at{od:List Int}(h:Ord n od)(hi:i<n):0<=od.getD i 0/\od.getD i 0<n:=by rw[getD_at _ (by rw[h.len];exact hi)];exact h.mem.1 (X2 _)
theorem YU(n:Nat):(nat n).Pairwise λx y=>x<=y:=by unfold nat;rw[vL];exact List.pairwise_le_range.imp λh=>by simp;omega
theorem ahA{od:List Int}:(od.mergeSort λx y=>decide (x<=y))=nat n↔od.Perm (nat n):=by
 constructor
 .intro h;rw[<-h];exact(List.mergeSort_perm od _).symm
 .intro h;refine List.Perm.eq_of_pairwise (le:=λx y=>x<=y) (λa b _ _ d j=>Int.le_antisymm d j) ?_ (YU n) ((List.mergeSort_perm od _).trans h);exact(List.pairwise_mergeSort (le:=λx y:Int=>decide (x<=y)) (λa b c d j=>by simp at *;omega) (λa b=>by simp;omega) od).imp λh=>by simpa using h
theorem ahB{b:List Int}(y:l.length<=1000000):f53 l b=zw (decide (l=b)):=by
 apply ok_eq;unfold f53;refine dA (λh=>aG ?_) λh=>?_
 .have h:¬ (l.length:Int)=b.length:=by simpa using h
  exact(ZS λe=>h (by rw[e])).symm
 have h:l.length=b.length:=by simp at h;omega
 refine iH (λ_=>l=b) (iK l.length (λi=>l.getD i 0=b.getD i 0) (by omega) (λi z _=>goT GX (bK nZ (bK nZ (dA (λd=>aG ?_) λd=>aG ⟨rfl,by simpa using d⟩)))) λj=>bW m_ (aG ?_)) λ_ m=>aG (W5 m).symm
 .have d:¬ l.getD i 0=b.getD i 0:=by simpa using d
  exact(ZS λe=>d (by rw[e])).symm
 .refine Km h λi q w=>?_;have:=j i q
  rwa [getD_at _ q,getD_at _ w]at this
theorem adL{q:List UInt8}{re:Int}{od:List Int}(h:bl.length<=1000000)(w:0<bl.length)(m:od.length<=1000000):Ok (f54 q a re bl od) λy=>y=zj↔Ord bl.length od:=by
 unfold f54;refine bG (λy=>y=zj↔od=[]\/od.getD 0 0≠0) (dA (λd=>aG ?_) λd=>?_) λy pa=>dA (λd=>aG ?_) λd=>?_
 .have:od.length=0:=by simpa using d
  simp[WF.1 this]
 .have d:¬ od.length=0:=by simpa using d
  refine bK nZ (aG ?_);have:od≠[]:=λe=>d (by rw[e];rfl);simp only[vA,V0,decide_eq_false_iff_not];exact⟨λh=>.inr h,λh=>h.resolve_left this⟩
 .refine ⟨(λh=>by cases h),λj=>?_⟩;rcases pa.1 d with e|e
  .have:=j.len;rw[e]at this;simp at this;omega
  .exact absurd j.zero e
 .have d:¬ (od=[]\/od.getD 0 0≠0):=λh=>by rw[pa.2 h]at d;cases d
  refine d_ (ND (by omega)) (d_ (aoW m) (d_ (adK h) (d_ (ahB (by simpa using m)) (aG ?_))));rw[decide_eq_true_iff,ahA];exact⟨λz=>⟨z,K8 λB=>d (.inr B),w⟩,λj=>j.perm⟩
theorem YV{q:List UInt8}{re:Int}(K:Bytes l)(L:0<=k)(h:bl.length<=60000)(z:0<bl.length):Ok (f28 q a re bl l k) λy=>y.1=l/\0<=y.2.1/\Ord bl.length y.2.2:=by
 unfold f28;refine d_ (Hq (by omega)) (bG (λy=>y.1=l/\0<=y.2.1/\Ord bl.length y.2.2) ?_ λy M=>aG M);refine bF (λs:Int×List Int×Int×List Int=>∃i:Nat,s.1=i/\1<=i/\i<=bl.length/\s.2.1=l/\0<=s.2.2.1/\Ord bl.length s.2.2.2) (λs=>bl.length-s.1.toNat) ⟨1,rfl,by omega,by omega,rfl,L,List.Perm.refl _,aoY z,z⟩ λ⟨Y,Z,k,od⟩ ⟨i,e,h1,h2,H,B,m⟩=>?_;simp only at e H B m;subst e;subst H;have hl:=m.len;refine dA (λd=>?_) λd=>aG ⟨rfl,B,m⟩;have d:i<od.length:=by simpa using d
 refine goN K B (by omega) λx pa N ax J=>?_;have J:=J (by omega);obtain⟨nm,T⟩ :∃nm:Nat,1+x=nm:=⟨(1+x).toNat,by omega⟩;have U:bP (1+x)=(nm:Int):=(aF (by omega)).trans T;simp only[U,Q4];have w:=aQ.2 (show 0<=(i:Int)/\(i:Int)<od.length by omega);refine bK nZ (bK w (bK w (bK (aQ.2 (by rw[UI];omega)) (aG ⟨⟨i+1,?_,by omega,by omega,rfl,N,?_,?_,z⟩,?_⟩))))
 .simp only[aF (x:=(i:Int)+1) (by omega)];rfl
 .simp only;rw[getD_at _ (show nm<od.length by omega),getD_at _ d];exact(List.set_set_perm d (by omega)).trans m.perm
 .have X:=m.zero;simp only;rw[iM (by rw[UI];omega),Qt (by omega),iM d,Qt (by omega)];exact X
 .simp only[aF (x:=(i:Int)+1) (by omega)];omega
structure FO(bl:List aN):Prop where
 len:0<bl.length/\bl.length<=256
 wt:Dl bl<=2048
 ins :∀b∈bl,∀i∈b.instrs,f62 i.kind i.op i.dst i.a i.b i.value i.args=zw (jy i)/\f85 i.kind i.op i.dst i.a i.b i.value i.args=zw (jy i)/\CG (jy i)
 trm:Ad bl
 ta :∀b,b<bl.length->(bl.getD b aB).cu≠1->0<=(bl.getD b aB).lN/\(bl.getD b aB).lN<=249
variable{g:List aC}
theorem Rt.fo{f:aS}(sg:Rt g h a f)(hg:g.length<=32)(hs:h.length<=64)(j:a<=64):FO f.blocks:=⟨⟨sg.good.2.1,sg.len⟩,sg.wt,λb d i m=>akW (sg.ins b d i m) hg hs j sg.reg.2,sg.good.2.2.1,λb d q=>by have:=(sg.trm b d).reg q;have w:=sg.reg.2;exact⟨this.1,by have:=this.2;omega⟩⟩
structure GU(n:Nat)(u:dh):Prop where
 z:VC u.gZ u.fC u.iF u.lK u.lM 0 u.dJ u.fP
 c:VC u.gZ u.fC u.iF u.lK u.lM u.fD u.dJ u.fP
 j:0<=u.to↔13<=u.gZ/\u.gZ<=15
 t:u.to<n
def uT(t:C8):dh:=dh.mk t.1 t.2.1 t.2.2.1 t.2.2.2.1 t.2.2.2.2.1 t.2.2.2.2.2.1 t.2.2.2.2.2.2.1 t.2.2.2.2.2.2.2 (-1)
theorem as4{t:C8}(h:CG t):GU n (uT t):=⟨h.2.2.2,h.2.2.1,⟨λd=>absurd d (show ¬ (0:Int)<=-1 by omega),λd=>absurd d h.2.1⟩,by show (-1:Int)<n;omega⟩
theorem WV{op to:Int}(d:13<=op/\op<=15)(m:0<=t/\t<=249)(j:0<=to/\to<n):GU n (jU op t to):=by have:VC op 0 0 t 0 0 zv eInt:=⟨by omega,(λh=>by cases h),by omega,by omega,by omega,m,by omega,(λx q=>by cases q),by simp,by unfold nP;rw[Qt (by omega),Qt (by omega),Qt (by omega),Qt (by omega),QQ d];rfl⟩;exact⟨this,this,⟨λ_=>d,λ_=>j.1⟩,j.2⟩
theorem as5(d:0<=a/\a<=249):GU n (jU 16 a (-1)):=by have:VC 16 0 0 a 0 0 zv eInt:=⟨by omega,(λh=>by cases h),by omega,by omega,by omega,d,by omega,(λx j=>by cases j),by simp,rfl⟩;exact⟨this,this,⟨λh=>absurd h (by show ¬ (0:Int)<=-1;omega),λh=>absurd h.2 (by show ¬ (16:Int)<=15;omega)⟩,by show (-1:Int)<n;omega⟩
theorem aoZ(z:a=1\/a=2\/a=3)(d:a≠1->0<=t/\t<=249)(h:a≠3->0<=k/\k<n)(j:a=2->0<=e/\e<n):∀u∈Ho a t k e v,GU n u:=by
 unfold Ho;split
 .intro u hu;rw[X1]at hu;subst hu;exact as5 (d (by omega))
 rename_i q;have h:=h q;split
 .split
  .intro u hu;cases hu
  .intro u hu;rw[X1]at hu;subst hu;exact WV (by omega) (by omega) h
 rename_i B;have w:a=2:=by omega
 have d:=d (by omega);have j:=j w;split
 .intro u hu;rw[X1]at hu;subst hu;exact WV (by omega) d h
 split
 .intro u hu;rw[X1]at hu;subst hu;exact WV (by omega) d j
 .intro u hu;rcases Xs.1 hu with y|hu
  .subst y;exact WV (by omega) d h
  .rw [X1]at hu;subst hu;exact WV (by omega) (by omega) j
theorem Tt(k a t e n:Int):(Ho k a t e n).length<=2:=by
 unfold Ho;repeat' split
 all_goals simp
noncomputable def YW(b:aN)(n:Int):List dh:=(b.instrs.map λi=>uT (jy i))++Ho b.cu b.lN b.gu b.dM n
def nxt(od:List Int)(i:Nat):Int:=if i+1<od.length then od.getD (i+1) 0 else -1
noncomputable def rD(bl:List aN)(od:List Int):Nat->List dh
 |0=>[]
 |i+1=>rD bl od i++YW (bl.getD (od.getD i 0).toNat aB) (nxt od i)
noncomputable def st(bl:List aN)(od:List Int)(i:Nat):Int:=(rD bl od i).length
section
variable {bl:List aN} {od:List Int} {nm:List UInt8} {pa re:Int}
theorem FO.blk(h:FO bl){b:Nat}(j:b<bl.length):(bl.getD b aB).instrs.length<=2047/\bl.getD b aB∈bl:=by
 have d:bl.getD b aB∈bl:=by rw[getD_at _ j];exact X2 _
 have:=YP _ d;have:=h.wt;exact⟨by omega,d⟩
theorem abv{b:aN}{n:Int}:(YW b n).length<=b.instrs.length+2:=by unfold YW;have:=Tt b.cu b.lN b.gu b.dM n;simp only[XS,We];omega
theorem J4(h:FO bl)(d:Ord bl.length od):∀i,i<=bl.length->(rD bl od i).length<=2049*i
 |0,_=>by simp[rD]
 |i+1,j=>by have:=J4 h d i (by omega);have m:=d.at (i:=i) (by omega);have:=(h.blk (b:=(od.getD i 0).toNat) (by omega)).1;have:=abv (b:=bl.getD (od.getD i 0).toNat aB) (n:=nxt od i);simp only[rD,XS];omega
theorem Ah(bl:List aN)(od:List Int):∀k i,(rD bl od i).length<=(rD bl od (i+k)).length
 |0,i=>YY _
 |k+1,i=>by have:=Ah bl od k i;show _<=(rD bl od (i+k)++_).length;rw[XS];omega
theorem ahD(h:FO bl)(m:Ord bl.length od):∀i,i<=bl.length->∀u∈rD bl od i,GU bl.length u
 |0,_=>λu hu=>by cases hu
 |i+1,z=>λu hu=>by
  have B:=m.at (i:=i) (by omega);have d:(od.getD i 0).toNat<bl.length:=by omega
  rcases Ys.1 hu with hu|hu
  .exact ahD h m i (by omega) u hu
  .rcases Ys.1 hu with hu|hu
   .obtain ⟨q,j,e⟩:=XN.1 hu;subst e;exact as4 (h.ins _ (h.blk d).2 q j).2.2
   .obtain ⟨w,y⟩:=h.trm.1 _ d;exact aoZ (h.trm.2 _ d) (h.ta _ d) w y u hu
theorem ahE(h:FO bl)(w:Ord bl.length od):f56 nm pa re bl od=zw (rD bl od bl.length,(List.range bl.length).map (st bl od)):=by
 apply ok_eq;have B:=h.len;have J:=w.len;unfold f56;refine bG (λy=>y=(rD bl od bl.length,(List.range bl.length).map (st bl od))) ?_ λy K=>aG K;refine bF (λs:Int×List dh×List Int=>∃i:Nat,s=((i:Int),rD bl od i,(List.range i).map (st bl od))/\i<=bl.length) (λs=>bl.length-s.1.toNat) ⟨0,rfl,by omega⟩ λs ⟨i,e,L⟩=>?_;subst e;refine dA (λd=>?_) λd=>?_
 rotate_left
 .have d:¬ i<od.length:=by simpa using d
  have:i=bl.length:=by omega
  subst this;exact aG rfl
 have d:i<od.length:=by simpa using d
 have U:=w.at (i:=i) (by omega);have H:(od.getD i 0).toNat<bl.length:=by omega
 have X:=J4 h w i L;have M:=(h.blk H).1;have m:=aQ.2 (show 0<=od.getD i 0/\od.getD i 0<bl.length by omega);obtain⟨b,j⟩ :∃b,bl.getD (od.getD i 0).toNat aB=b:=⟨_,rfl⟩;have q:=h.ins b (j▸(h.blk H).2);rw[j]at M;refine bK nZ (bK (by unfold aX;simp;omega) (bK m ?_));simp only[Q4,j];refine bG (λy=>y=rD bl od i++b.instrs.map λi=>uT (jy i)) ?_ λN e=>?_
 .refine bF (λs:Int×List dh=>∃k:Nat,s=((k:Int),rD bl od i++(b.instrs.take k).map λi=>uT (jy i))/\k<=b.instrs.length) (λs=>b.instrs.length-s.1.toNat) ⟨0,by simp,by omega⟩ λs ⟨k,e,Y⟩=>?_;subst e;refine dA (λd=>?_) λd=>?_
  .have d:k<b.instrs.length:=by simpa using d
   refine bK (aQ.2 (by simp only;omega)) ?_;simp only[Q4,getD_at _ d];refine d_ (q _ (X2 d)).2.1 (bK (by unfold aX;simp;omega) (aG ⟨⟨k+1,?_,by omega⟩,?_⟩))
   .rw [aF (by omega),take_snoc d,XX,<-W3];rfl
   .simp only[aF (x:=(k:Int)+1) (by omega)];omega
  .have d:¬ k<b.instrs.length:=by simpa using d
   refine aG (show rD bl od i++(b.instrs.take k).map (λi=>uT (jy i))=_ from ?_);rw[WN (by omega)]
 subst e;have z:bP ((i:Int)+1)=(i+1:Nat):=(aF (by omega)).trans rfl;refine bG (λy=>y=nxt od i) ?_ λy e=>?_
 .simp only[z];unfold nxt;refine dA (λd=>?_) λd=>?_
  .have d:i+1<od.length:=by have:=Zs d;omega
   rw[QQ d];exact bK nZ (aG rfl)
  .rw [Qt (by have:=ZD d;omega)];exact aG rfl
 subst e;have T:=Tt b.cu b.lN b.gu b.dM (nxt od i);refine bK m ?_;refine d_ aoX (bK (by unfold aX;simp;omega) (aG ⟨⟨i+1,?_,by omega⟩,?_⟩))
 .rw [z,JN,XX];show _=(_,rD bl od i++YW (bl.getD (od.getD i 0).toNat aB) (nxt od i),_);rw[j];unfold YW;rw[W3];rfl
 .simp only[z,Q4];omega
end
noncomputable def szU(u:dh):Nat:=szc u.gZ u.dJ u.fP.length
noncomputable def yN(us:List dh)(k:Nat):Nat:=((us.take k).map szU).sum
noncomputable def YX(us:List dh):List Int:=(List.range (us.length+1)).map λk=>(yN us k:Int)
theorem o9(us:List dh):(YX us).length=us.length+1:=by simp[YX]
theorem u_{us:List dh}(h:n<=us.length):(YX us).getD n 0=yN us n:=by rw[getD_at _ (by rw[o9];omega)];simp[YX]
variable{k:Nat}
theorem wM{us:List dh}(h:k<us.length):yN us (k+1)=yN us k+szU (us.getD k aT):=by unfold yN;rw[take_snoc h,XX,vb,getD_at _ h];simp
theorem WW(us:List dh)(h:i<=j):yN us i<=yN us j:=by
 induction j with
 |zero=>
  have:i=0:=by omega
  subst this;exact YY _
 |succ j d=>
  by_cases e:i=j+1
  .subst e;exact YY _
  .have:=d (by omega);by_cases m:j<us.length
   .have:=wM m;omega
   .have q:us.take (j+1)=us.take j:=by rw[WN (show us.length<=j+1 by omega),WN (show us.length<=j by omega)]
    unfold yN at this ⊢;rw[q];exact this
theorem ao0{op:Int}{wd:Bool}(hn:n<=250):szc op wd n<=1005:=by
 unfold szc;have d :∀x,szm wd n x<=251:=λx=>by
  unfold szm
  repeat' split
  all_goals omega
 have :∀l:List UInt8,(l.map (szm wd n)).sum<=251*l.length:=λl=>by
  induction l with
  |nil=>simp
  |cons x l h=>have:=d x;simp only[Qf,JS,Wm];omega
 have:=this (rowOf op);have:=(Dp op).1;omega
def GL(n:Nat)(us:List dh):Prop:=us.length<=600000/\∀u∈us,GU n u
section
variable {n:Nat} {us:List dh} {fi:List Int}
theorem GL.at(h:GL n us)(d:k<us.length):GU n (us.getD k aT):=h.2 _ (by rw[getD_at _ d];exact X2 _)
theorem Hr(h:GL n us)(k:Nat):yN us k<=603000000:=by
 have key :∀l:List dh,(∀u∈l,GU n u)->(l.map szU).sum<=1005*l.length:=λl=>by
  induction l with
  |nil=>intro _;simp
  |cons u l j=>intro d;have:=j λu hu=>d u (V1 _ hu);have:=ao0 (op:=u.gZ) (wd:=u.dJ) (d u Kc).z.n;simp only[Qf,JS,Wm];unfold szU at *;omega
 have:=key (us.take k) λu hu=>h.2 u (Wl hu);have m:=h.1;have:(us.take k).length<=us.length:=by rw[VV];omega
 unfold yN;omega
theorem WY(h:GL n us):f57 us=zw (YX us):=by
 apply ok_eq;have z:=h.1;unfold f57;refine bG (λy=>y=YX us) ?_ λy j=>aG j;refine bF (λs:Int×List Int=>∃k:Nat,s=((k:Int),(List.range (k+1)).map λk=>(yN us k:Int))/\k<=us.length) (λs=>us.length-s.1.toNat) ⟨0,by simp[yN],by omega⟩ λs ⟨k,e,B⟩=>?_;subst e;refine dA (λd=>?_) λd=>?_
 rotate_left
 .have d:¬ k<us.length:=by simpa using d
  have:k=us.length:=by omega
  subst this;exact aG rfl
 have d:k<us.length:=by simpa using d
 have H:=Hr h k;have m:=Hr h (k+1);have q:=wM d;refine bK (aQ.2 (by simp only;omega)) (bK (aQ.2 (by simp;omega)) ?_);have hg:=h.at d;simp only[Q4];refine bG (λy=>y=(szU (us.getD k aT):Int)) ?_ λy e=>?_
 .unfold f55;exact bG _ (amn hg.c) λy j=>aG (by rw[j.2];rfl)
 subst e;have w:((List.range (k+1)).map λk=>(yN us k:Int)).getD k 0=yN us k:=by rw[getD_at _ (by simp)];simp
 rw[w];refine bK (by unfold aX;simp;omega) (aG ⟨⟨k+1,?_,by omega⟩,?_⟩)
 .rw [aF (by omega),aF (by omega),JN (n:=k+1),XX,Qf,Vc,q,Int.natCast_add];rfl
 .simp only[aF (x:=(k:Int)+1) (by omega)];omega
noncomputable def dst(fi:List Int)(us:List dh)(j:Nat):Int:=(yN us (fi.getD (us.getD j aT).to.toNat 0).toNat:Int)-(yN us (j+1):Int)
noncomputable def far(fi:List Int)(us:List dh)(j:Nat):Bool:=decide (0<=(us.getD j aT).to)&&!(us.getD j aT).dJ&&(decide (dst fi us j < -128)||decide (127<dst fi us j))
def wid(u:dh):dh:=dh.mk u.gZ u.fC u.iF u.lK u.lM u.fD zj u.fP u.to
noncomputable def OE(fi:List Int)(us:List dh):List dh:=(List.range us.length).map λj=>if far fi us j=zj then wid (us.getD j aT)else us.getD j aT
theorem nU:(OE fi us).length=us.length:=by simp[OE]
theorem Ai(h:j<us.length):(OE fi us).getD j aT=if far fi us j=zj then wid (us.getD j aT)else us.getD j aT:=by rw[getD_at _ (by rw[nU];exact h)];simp[OE]
theorem Fa(h :∀j,j<us.length->far fi us j=zv):OE fi us=us:=by refine Km nU λj m d=>?_;have:=Ai (fi:=fi) d;rw[getD_at _ m,h j d,getD_at _ d]at this;simpa using this
theorem ao1{u:dh}(h:GU n u)(B:0<=u.to):GU n (wid u):=by
 obtain⟨z,c,j,t⟩:=h;have y:=j.1 B;have m :∀v:Int,nP u.gZ v u.dJ=zj->u.dJ=zv->nP u.gZ v zj=zj:=λv m w=>by rw[w]at m;unfold nP at m ⊢;rw[Qt (by omega),Qt (by omega),Qt (by omega),Qt (by omega),QQ y]at m ⊢;simp at m ⊢;omega
 have q :∀v:Int,nP u.gZ v u.dJ=zj->nP u.gZ v zj=zj:=λv h=>by cases w:u.dJ;exact m v h w;rw[w]at h;exact h
 exact⟨⟨z.o,λ_=>y,z.a3,z.a4,z.d,z.a,z.b,z.s,z.n,q _ z.v⟩,⟨c.o,λ_=>y,c.a3,c.a4,c.d,c.a,c.b,c.s,c.n,q _ c.v⟩,j,t⟩
theorem Tv(h:GL n us):GL n (OE fi us):=by
 refine⟨by rw[nU];exact h.1,λu hu=>?_⟩;obtain⟨j,m,e⟩:=Wz hu;have d:j<us.length:=by rw[nU]at m;exact m
 have:=Ai (fi:=fi) d;rw[getD_at _ m,e]at this;rw[this];split
 .rename_i q;unfold far at q;simp only[QR,Wa]at q;exact ao1 (h.at d) q.1.1
 .exact h.at d
def cnt(us:List dh):Nat:=((List.range us.length).map λj=>if(us.getD j aT).dJ then 0 else 1).sum
theorem sum_lt{f g:Nat->Nat}:∀{n:Nat},(∀j,j<n->g j<=f j)->((List.range n).map g).sum<=((List.range n).map f).sum/\((∃j,j<n/\g j<f j)->((List.range n).map g).sum<((List.range n).map f).sum)
 |0,_=>⟨YY _,λ⟨j,h,_⟩=>absurd h (Kf _)⟩
 |n+1,h=>by
  obtain⟨w,m⟩:=sum_lt (f:=f) (g:=g) (n:=n) λj q=>h j (by omega);have hn:=h n (by omega);simp only[JN,XX,vb,Qf,Vc,JS,List.sum_nil];refine⟨by omega,λ⟨j,q,d⟩=>?_⟩;by_cases e:j=n
  .subst e;omega
  .have:=m ⟨j,by omega,d⟩;omega
theorem abw(h :∃j,j<us.length/\far fi us j=zj):cnt (OE fi us)<cnt us:=by
 unfold cnt;rw[nU];refine(sum_lt λj d=>?_).2 ?_
 .rw [Ai d];split
  .exact ve _
  .exact YY _
 .obtain ⟨j,d,m⟩:=h;refine⟨j,d,?_⟩;rw[Ai d,QQ m];unfold far at m;simp only[QR,V0]at m;rw[m.1.2];exact Nat.one_pos
inductive Rn(fi:List Int):List dh->List dh->Prop
 |done {us:List dh}:(∀j,j<us.length->far fi us j=zv)->Rn fi us us
 |step {us uf:List dh}:(∃j,j<us.length/\far fi us j=zj)->Rn fi (OE fi us) uf->Rn fi us uf
theorem Rn.det{us a b:List dh}(w:Rn fi us a)(q:Rn fi us b):a=b:=by
 induction w with
 |done h=>
  cases q with
  |done _=>rfl
  |step d _=>obtain⟨j,m,e⟩:=d;rw[h j m]at e;cases e
 |step h _ y=>
  cases q with
  |done d=>obtain⟨j,m,e⟩:=h;rw[d j m]at e;cases e
  |step _ d=>exact y d
structure FI(n m:Nat)(fi:List Int):Prop where
 len:fi.length=n
 rng :∀x∈fi,0<=x/\x<=m
theorem FI.at{m:Nat}(h:FI n m fi)(d:0<=t/\t<n):inB t fi.length=zj/\0<=fi.getD t.toNat 0/\fi.getD t.toNat 0<=m:=by refine⟨aQ.2 (by rw[h.len];omega),?_⟩;have j:=h.len;rw[getD_at _ (by omega)];exact h.rng _ (X2 _)
end
noncomputable def Aj(bl:List aN)(od:List Int):Nat->List Int
 |0=>List.replicate bl.length 0
 |i+1=>(Aj bl od i).set (od.getD i 0).toNat (st bl od i)
noncomputable def codeOf(fi:List Int)(us:List dh)(j:Nat):dQ:=dQ.mk (us.getD j aT).gZ (us.getD j aT).fC (us.getD j aT).iF (us.getD j aT).lK (us.getD j aT).lM (if 0<=(us.getD j aT).to then dst fi us j else(us.getD j aT).fD) (us.getD j aT).dJ (us.getD j aT).fP
noncomputable def sS(fi:List Int)(us:List dh):List dQ:=(List.range us.length).map (codeOf fi us)
noncomputable def J5(bl:List aN)(od:List Int)(us:List dh):List Int:=(List.range bl.length).map λi=>(yN us (rD bl od i).length:Int)
variable{d:List dh}
theorem Rn.fin{us:List dh}(h:Rn l us d):∀j,j<d.length->far l d j=zv:=by
 induction h with
 |done h=>exact h
 |step _ _ m=>exact m
variable{fi:List Int}
theorem Rn.len{us:List dh}(h:Rn fi us d):d.length=us.length:=by
 induction h with
 |done h=>rfl
 |step _ _ j=>rw[j,nU]
theorem Rn.gl{us:List dh}(h:Rn fi us d):GL n us->GL n d:=by
 induction h with
 |done h=>exact id
 |step _ _ j=>exact λhg=>j (Tv hg)
section
variable {bl:List aN} {od:List Int} {nm:List UInt8} {pa re:Int}
theorem NH(h:FO bl)(d:Ord bl.length od):∀i,i<=bl.length->FI bl.length (rD bl od bl.length).length (Aj bl od i)
 |0,_=>⟨by simp[Aj],λx hx=>by have:=qz hx;subst this;omega⟩
 |i+1,q=>by obtain⟨j,m⟩:=NH h d i (by omega);refine⟨by simp[Aj,j],λx hx=>?_⟩;rcases qu hx with hx|hx;exact m x hx;subst hx;have:=Ah bl od (bl.length-i) i;rw[show i+(bl.length-i)=bl.length by omega]at this;unfold st;omega
theorem NI(h:FO bl)(d:Ord bl.length od):GL bl.length (rD bl od bl.length):=⟨by have:=J4 h d bl.length (YY _);have:=h.len;omega,ahD h d bl.length (YY _)⟩
theorem Tz{us:List dh}(h:GL n us)(j:Nat):-603000000<=dst fi us j/\dst fi us j<=603000000:=by unfold dst;have:=Hr h (fi.getD (us.getD j aT).to.toNat 0).toNat;have:=Hr h (j+1);omega
theorem adM(h:FO bl)(z:Ord bl.length od):Ok (f32 nm pa re bl od) λy=>∃m,Rn (Aj bl od bl.length) (rD bl od bl.length) m/\y=(0,sS (Aj bl od bl.length) m,J5 bl od m):=by
 have K:=h.len;have hol:=z.len;have U:=NI h z;unfold f32;refine bG _ (adL (by omega) K.1 (by omega)) λy X=>bW (by rw[X.2 z];rfl) (d_ (ahE h z) (bK (o7.2 (by omega)) ?_));refine bG (λy=>y=Aj bl od bl.length) ?_ λfi e=>?_
 .refine bF (λs:Int×List Int=>∃i:Nat,s=((i:Int),Aj bl od i)/\i<=bl.length) (λs=>bl.length-s.1.toNat) ⟨0,by simp[Aj],by omega⟩ λs ⟨i,e,hi⟩=>?_;subst e;refine dA (λd=>?_) λd=>?_
  rotate_left
  .have d:¬ i<od.length:=by simpa using d
   have:i=bl.length:=by omega
   subst this;exact aG rfl
  have d:i<od.length:=by simpa using d
  have ha:=z.at (i:=i) (by omega);have B:=(NH h z i hi).at ha;refine bK (aQ.2 (by simp only;omega)) (bK (aQ.2 (by simp;omega)) (bK B.1 (aG ⟨⟨i+1,?_,by omega⟩,?_⟩)))
  .rw [aF (by omega)];simp only[Q4];rw[getD_at (l:=(List.range bl.length).map (st bl od)) _ (by simp;omega)];simp only[Kn,vd];rfl
  .simp only[aF (x:=(i:Int)+1) (by omega)];omega
 have Y:=NH h z bl.length (YY _);rw[<-e]at Y ⊢;generalize Z:rD bl od bl.length=T at *;refine d_ (WY U) (bG (λy=>∃m,Rn fi T m/\y=(m,YX m)) ?_ λy ⟨m,H,e⟩=>?_)
 .refine bF (λs:List dh×List Int=>∃us,s=(us,YX us)/\GL bl.length us/\us.length=T.length/\∀m,Rn fi us m->Rn fi T m) (λs=>cnt s.1) ⟨T,rfl,U,rfl,λ_ h=>h⟩ λs ⟨us,e,hg,Kv,H⟩=>?_;subst e;have hu6:=hg.1;refine bG (λy=>y=((List.range us.length).any (far fi us),OE fi us)) ?_ λy e=>?_
  .refine bF (λs:Bool×Int×List dh=>∃(j:Nat) (arr:List dh),s=((List.range j).any (far fi us),(j:Int),arr)/\j<=us.length/\arr.length=us.length/\(∀k,k<j->arr.getD k aT=(OE fi us).getD k aT)/\∀k,j<=k->k<us.length->arr.getD k aT=us.getD k aT) (λs=>us.length-s.2.1.toNat)
    ⟨0,us,rfl,by omega,rfl,λk hk=>absurd hk (Kf _),λ_ _ _=>rfl⟩ λs ⟨j,arr,e,h1,h2,h3,h4⟩=>?_
   subst e;refine dA (λd=>?_) λd=>?_
   rotate_left
   .have d:¬ j<us.length:=by simpa using d
    have:j=us.length:=by omega
    subst this;have:arr=OE fi us:=by
     refine Km (by rw[h2,nU]) λk k1 k2=>?_;have:=h3 k (by omega)
     rwa [getD_at _ k1,getD_at _ k2]at this
    subst this;exact aG rfl
   have d:j<us.length:=by simpa using d
   have hu:=h4 j (YY _) d;have q:=hg.at d;have L:far fi us j=(decide (0<=(us.getD j aT).to)&&!(us.getD j aT).dJ&&(decide (dst fi us j < -128)||decide (127<dst fi us j))):=rfl;have hd:=Tz (fi:=fi) hg j;have w:dst fi us j=(yN us (fi.getD (us.getD j aT).to.toNat 0).toNat:Int)-(yN us (j+1):Int):=rfl;refine bG (λy=>y=((List.range j).any (far fi us)||far fi us j,if far fi us j=zj then arr.set j (wid (us.getD j aT))else arr)) ?_ λy e=>?_
   .refine bK (aQ.2 (by simp only;omega)) ?_;simp only[Q4,hu];generalize us.getD j aT=u at *;refine bG (λy=>y=(decide (u.to<0)||u.dJ)) (dA (λd=>aG ?_) λd=>aG ?_) λy e=>?_
    .rw [d];rfl
    .rw [d];rfl
    subst e;refine dA (λhs=>?_) λhs=>?_
    .have B:far fi us j=zv:=by
      rw[L];simp only[Kb,Wa]at hs;rcases hs with hs|hs
      .rw [ZS (by omega)];rfl
      .rw [hs];simp
     rw[B];exact aG (by simp)
    simp only[J2,decide_eq_false_iff_not]at hs;obtain⟨hs1,hs2⟩:=hs;have M:0<=u.to:=by omega
    obtain⟨f1,f2,f3⟩:=Y.at ⟨M,q.t⟩;have Qo:far fi us j=(decide (dst fi us j < -128)||decide (127<dst fi us j)):=by rw[L,W5 M,hs2];rfl
    refine bK f1 (bK (aQ.2 (by rw[o9];omega)) (bK (aQ.2 (by rw[o9,aF (by omega)];omega)) ?_));have hd2:bP ((YX us).getD (fi.getD u.to.toNat 0).toNat 0-(YX us).getD (bP ((j:Int)+1)).toNat 0)=dst fi us j:=by rw[aF (x:=(j:Int)+1) (by omega),show ((j:Int)+1).toNat=j+1 by omega,u_ (by omega),u_ (by omega),<-w];exact aF (by omega)
    simp only[hd2];refine bG (λy=>y=far fi us j) (dA (λd=>aG ?_) λd=>aG ?_) λy e=>?_
    .rw [Qo,d];rfl
    .rw [Qo,d,Ka];exact decide_eq_decide.2 (by omega)
    subst e;refine bG _ (dA (λB=>bK nZ (aG ?_)) λB=>aG ?_) λy X=>aG X
    .rw [B,QQ rfl,Bool.or_true];rfl
    .rw [B,Qt (by simp),za]
   .subst e;refine aG ⟨⟨j+1,if far fi us j=zj then arr.set j (wid (us.getD j aT))else arr,?_,d,?_,λk hk=>?_,λk hk hk2=>?_⟩,?_⟩
    .simp only;rw[aF (by omega),JN,List.any_append,List.any_cons,List.any_nil,za];rfl
    .split
     .rw [UI,h2]
     .exact h2
    .by_cases e:k=j
     .subst e;rw[Ai d];split
      .rw [iM (by omega),QQ rfl]
      .exact hu
     .rw [<-h3 k (by omega)];split
      .rw [iM (by omega),Qt e]
      .rfl
    .rw [<-h4 k (by omega) hk2];split
     .rw [iM (by omega),Qt (by omega)]
     .rfl
    .simp only[aF (x:=(j:Int)+1) (by omega)];omega
  .subst e;refine dA (λd=>aG ?_) λd=>?_
   .have hn :∀j,j<us.length->far fi us j=zv:=λj hj=>by simp only[V0,List.any_eq_false,Uq]at d;simpa using d j hj
    exact⟨us,H us (.done hn),by rw[Fa hn]⟩
   .have hex :∃j,j<us.length/\far fi us j=zj:=by simp only[va,qa,Uq]at d;exact d
    exact d_ (WY (Tv hg)) (aG ⟨⟨OE fi us,rfl,Tv hg,by rw[nU,Kv],λm hr=>H m (.step hex hr)⟩,abw hex⟩)
 subst e;have hg:=H.gl U;have Kv:=H.len;have hg6:=hg.1;refine bG (λy=>y=sS fi m) ?_ λy e=>?_
 .refine bF (λs:Int×List dQ=>∃j:Nat,s=((j:Int),(List.range j).map (codeOf fi m))/\j<=m.length) (λs=>m.length-s.1.toNat) ⟨0,rfl,by omega⟩ λs ⟨j,e,hj⟩=>?_;subst e;refine dA (λd=>?_) λd=>?_
  rotate_left
  .have d:¬ j<m.length:=by simpa using d
   have:j=m.length:=by omega
   subst this;exact aG rfl
  have d:j<m.length:=by simpa using d
  have hd:=Tz (fi:=fi) hg j;have q:=hg.at d;have w:dst fi m j=(yN m (fi.getD (m.getD j aT).to.toNat 0).toNat:Int)-(yN m (j+1):Int):=rfl;have N:codeOf fi m j=dQ.mk (m.getD j aT).gZ (m.getD j aT).fC (m.getD j aT).iF (m.getD j aT).lK (m.getD j aT).lM (if 0<=(m.getD j aT).to then dst fi m j else(m.getD j aT).fD) (m.getD j aT).dJ (m.getD j aT).fP:=rfl;refine bK (aQ.2 (by simp only;omega)) ?_;simp only[Q4];obtain⟨u,hue⟩ :∃u,m.getD j aT=u:=⟨_,rfl⟩;simp only[hue]at q w N ⊢;refine bG (λy=>y=(u.gZ,u.fC,u.iF,u.lK,u.lM,(if 0<=u.to then dst fi m j else u.fD),u.dJ,u.fP,u.to)) (dA (λJ=>?_) λJ=>aG ?_) λy e=>?_
  .have J:0<=u.to:=Zs J;obtain⟨f1,f2,f3⟩:=Y.at ⟨J,q.t⟩;refine bK f1 (bK (aQ.2 (by rw[o9];omega)) (bK (aQ.2 (by rw[o9,aF (by omega)];omega)) (aG ?_)));rw[aF (x:=(j:Int)+1) (by omega),show ((j:Int)+1).toNat=j+1 by omega,u_ (by omega),u_ (by omega),<-w,aF (by omega),QQ J]
  .rw [Qt (ZD J)]
  subst e;refine bK (by unfold aX;simp;omega) (aG ⟨⟨j+1,?_,d⟩,?_⟩)
  .rw [aF (by omega),JN,XX,Qf,Vc,N];rfl
  .simp only[aF (x:=(j:Int)+1) (by omega)];omega
 subst e;refine bG (λy=>y=J5 bl od m) ?_ λy e=>by subst e;exact aG ⟨m,H,rfl⟩
 refine bF (λs:Int×List Int=>∃i:Nat,s=((i:Int),(List.range i).map λi=>(yN m (rD bl od i).length:Int))/\i<=bl.length) (λs=>bl.length-s.1.toNat) ⟨0,rfl,by omega⟩ λs ⟨i,e,hi⟩=>?_;subst e;refine dA (λd=>?_) λd=>?_
 rotate_left
 .have d:¬ i<bl.length:=by simpa using d
  have:i=bl.length:=by omega
  subst this;exact aG rfl
 have d:i<bl.length:=by simpa using d
 have hm:=Ah bl od (bl.length-i) i;rw[show i+(bl.length-i)=bl.length by omega,Z]at hm;have hs:((List.range bl.length).map (st bl od)).getD i 0=((rD bl od i).length:Int):=by rw[getD_at _ (by simpa using d)];simp[st]
 refine bK (aQ.2 (by simp;omega)) ?_;simp only[Q4,hs];refine bK (aQ.2 (by rw[o9];omega)) (bK (by unfold aX;simp;omega) (aG ⟨⟨i+1,?_,d⟩,?_⟩))
 .rw [aF (by omega),JN,XX,Qf,Vc,u_ (by omega)];rfl
 .simp only[aF (x:=(i:Int)+1) (by omega)];omega
end
def iV(v:Int)(u:dh):gq:=gq.mk u.gZ u.fC u.iF u.lK u.lM v u.dJ u.fP u.to
def iU(u:dh):gq:=iV u.fD u
theorem adN{k:Int}:f63 a t k e v=zw ((Ho a t k e v).map iU):=by
 apply ok_eq;unfold f63 Ho;refine dA (λh=>?_) λh=>?_
 .rw [QQ (Zs h)];exact aG rfl
 rw[Qt (ZD h)];refine bG (λy=>y=decide (a=1\/k=e)) (dA (λh=>aG ?_) λh=>aG ?_) λy d=>?_
 .exact (W5 (.inl (Zs h))).symm
 .exact decide_eq_decide.2 (by have:=ZD h;simp[this])
 subst d;refine dA (λh=>?_) λh=>?_
 .rw [QQ (Zs h)];refine dA (λh=>?_) λh=>?_
  .rw [QQ (Zs h)];exact aG rfl
  .rw [Qt (ZD h)];exact aG rfl
 rw[Qt (ZD h)];refine dA (λh=>?_) λh=>?_
 .rw [QQ (Zs h)];exact aG rfl
 rw[Qt (ZD h)];refine dA (λh=>?_) λh=>?_
 .rw [QQ (Zs h)];exact aG rfl
 .rw [Qt (ZD h)];exact aG rfl
theorem Ht:∀(n:Nat) (l:List Int),l.Nodup->(∀x∈l,0<=x/\x<n)->l.length<=n
 |0,l,_,h=>by
  cases l with
  |nil=>simp
  |cons a l=>have:=h a Kc;omega
 |n+1,l,hn,h=>by
  by_cases j:(n:Int)∈l
  .have m:=List.perm_cons_erase j;have w:=Ht n (l.erase n) (hn.erase _) λx d=>by
    have q:=h x (List.mem_of_mem_erase d);have:x≠n:=λe=>by subst e;exact hn.not_mem_erase d
    omega
   have:=m.length_eq;rw[Wm]at this;omega
  .have:=Ht n l hn λx d=>by have q:=h x d;have:x≠n:=λe=>j (e▸d);omega
   omega
theorem WZ:∀(n:Nat) (l:List Int),l.Nodup->(∀x∈l,0<=x/\x<n)->l.length=n->l.Perm (nat n)
 |0,l,_,_,h=>by rw[WF]at h;subst h;exact List.Perm.refl _
 |n+1,l,hn,h,z=>by
  by_cases m:(n:Int)∈l
  .have q:=List.perm_cons_erase m;have d:=q.length_eq;rw[Wm]at d;have w:=WZ n (l.erase n) (hn.erase _) (λx j=>by
    have y:=h x (List.mem_of_mem_erase j);have:x≠n:=λe=>by subst e;exact hn.not_mem_erase j
    omega) (by omega)
   rw[NG];exact q.trans ((w.cons _).trans (List.perm_append_singleton _ _).symm)
  .have:=Ht n l hn λx j=>by have y:=h x j;have:x≠n:=λe=>m (e▸j);omega
   omega
section
variable {bl:List aN} {od:List Int} {nm:List UInt8} {pa re:Int}
theorem Qp(X:0<bl.length)(hl:od.length<=1000000):Ok (f61 nm pa re bl od) λy=>y=zj↔Ord bl.length od:=by
 unfold f61;refine bG (λy=>y=zj↔od.length≠bl.length\/od.length=0\/od.getD 0 0≠0) (dA (λd=>aG ?_) λd=>dA (λw=>aG ?_) λw=>?_) λy H=>dA (λd=>aG ?_) λd=>?_
 .have:¬ od.length=bl.length:=by simp at d;omega
  exact⟨λ_=>.inl this,λ_=>rfl⟩
 .have:od.length=0:=by simpa using w
  exact⟨λ_=>.inr (.inl this),λ_=>rfl⟩
 .have Y:od.length=bl.length:=by simp at d;omega
  have w:¬ od.length=0:=by simpa using w
  refine bK nZ (aG ?_);simp only[vA,V0,decide_eq_false_iff_not];exact⟨λh=>.inr (.inr h),λh=>(h.resolve_left (λe=>e Y)).resolve_left w⟩
 .refine ⟨(λh=>by cases h),λj=>?_⟩;rcases H.1 d with e|e|e
  .exact absurd j.len e
  .have:=j.len;omega
  .exact absurd j.zero e
 have hn:¬ (od.length≠bl.length\/od.length=0\/od.getD 0 0≠0):=λh=>by rw[H.2 h]at d;cases d
 have Z:od.length=bl.length:=K8 λh=>hn (.inl h);have e2:od.getD 0 0=0:=K8 λh=>hn (.inr (.inr h));refine bK (o7.2 (by omega)) (iH (λ_=>Ord bl.length od) ?_ λ_ j=>aG ⟨λ_=>j,λ_=>rfl⟩);refine bF (λs:Int×List Bool=>∃i:Nat,s.1=i/\i<=od.length/\s.2.length=bl.length/\(∀x∈od.take i,0<=x/\x<bl.length)/\(od.take i).Nodup/\∀x,x<bl.length->(s.2.getD x zv=zj↔(x:Int)∈od.take i)) (λs=>od.length-s.1.toNat)
  ⟨0,rfl,by omega,by simp;omega,(λx J=>by simp at J),by simp,λx J=>by rw[getD_at _ (by rw[Kh];omega)];simp⟩ λ⟨i',sn⟩ ⟨i,q1,q2,q3,q4,q5,q6⟩=>?_
 simp only at q1 q3 q4 q5 q6;subst q1;refine dA (λd=>?_) λd=>aG ?_
 rotate_left
 .have d:¬ i<od.length:=by simpa using d
  rw[WN (by omega)]at q4 q5;exact⟨WZ _ _ q5 q4 Z,e2,X⟩
 have d:i<od.length:=by simpa using d
 have B:=aQ.2 (show 0<=(i:Int)/\(i:Int)<od.length by omega);have m:od.take (i+1)=od.take i++[od.getD i 0]:=by rw[take_snoc d,getD_at _ d]
 have q:od.getD i 0∈od:=by rw[getD_at _ d];exact X2 _
 obtain⟨x,J⟩ :∃x,od.getD i 0=x:=⟨_,rfl⟩;rw[J]at m q;refine bG (λy=>(y=zj->¬ Ord bl.length od)/\(y=zv->(0<=x/\x<bl.length)/\sn.getD x.toNat zv=zv)) ?_ λy ⟨y1,y2⟩=>dA (λH=>aG ⟨(λh=>by cases h),λj=>absurd j (y1 H)⟩) λH=>?_
 .refine bK B ?_;simp only[Q4,J];refine dA (λh=>aG ⟨λ_ j=>?_,λh=>by cases h⟩) λh=>bK B (dA (λw=>aG ⟨λ_ j=>?_,λh=>by cases h⟩) λw=>bK B ?_)
  .have:=j.mem.1 q;have:=Zs h;omega
  .have:=j.mem.1 q;have:=Zs w;omega
  .have h:=ZD h;have w:=ZD w;refine bK nZ (aG ⟨λK j=>?_,λK=>⟨by omega,K⟩⟩);have T:=(q6 x.toNat (by omega)).1 K;rw[JP (by omega)]at T;have M:od.Nodup:=j.perm.nodup_iff.2 (by unfold nat;exact vL.2 (List.pairwise_lt_range.imp λh=>by simp;omega));have:(od.take (i+1)).Nodup:=M.sublist (List.take_sublist _ _);rw[m,List.nodup_append]at this;exact this.2.2 x T x (by simp) rfl
 .obtain ⟨⟨x0,x1⟩,K⟩:=y2 H;refine bK B ?_;simp only[Q4,J];have N:x∉od.take i:=λh=>by have:=(q6 x.toNat (by omega)).2 (by rw[JP x0];exact h);rw[K]at this;cases this
  refine bK nZ (aG ⟨⟨i+1,?_,d,by simpa using q3,λz L=>?_,?_,λz L=>?_⟩,?_⟩)
  .rw [aF (by omega)];rfl
  .rw [m]at L;rcases Ys.1 L with h|h;exact q4 z h;rw[X1]at h;omega
  .rw [m,List.nodup_append];exact⟨q5,by simp,λa ha b U=>by rw[X1]at U;subst U;exact λe=>N (e▸ha)⟩
  .rw [iM (by omega),m,Ys,X1];split
   .rename_i e;exact⟨λ_=>.inr (by omega),λ_=>rfl⟩
   .rename_i e;rw[q6 z L];exact⟨.inl,λh=>h.resolve_right λh=>e (by omega)⟩
  .simp only[aF (x:=(i:Int)+1) (by omega)];omega
end
theorem w1(h:i<n)(hn:n<=4000000000):bP ((i:Int)+1)=((i+1:Nat):Int):=by rw[aF (by omega)];rfl
theorem akX{us:List dh}(hg:GL n us)(y:j<us.length)(h:far fi us j=zv):VC (codeOf fi us j).op (codeOf fi us j).arith (codeOf fi us j).dst (codeOf fi us j).a (codeOf fi us j).b (codeOf fi us j).value (codeOf fi us j).wide (codeOf fi us j).args:=by
 have hu:=hg.at y;have hd:=Tz (fi:=fi) hg j;unfold far at h;unfold codeOf;obtain⟨u,e⟩ :∃u,us.getD j aT=u:=⟨_,rfl⟩;simp only[e]at hu h ⊢;obtain⟨o,w,a3,a4,d,a,b,s,n,v⟩:=hu.c;refine⟨o,w,a3,a4,d,a,b,s,n,?_⟩;split
 rotate_left
 exact v;rename_i q;have m:=hu.j.1 q;rw[W5 q]at h;unfold nP;rw[Qt (by omega),Qt (by omega),Qt (by omega),Qt (by omega),QQ m];cases z:u.dJ with
 |true=>simp;omega
 |false=>rw[z]at h;simp at h ⊢;omega
section
variable {bl:List aN} {od:List Int} {nm:List UInt8} {pa re:Int}
theorem ahG(h:Ord bl.length od){k:Nat}:∀{i:Nat},i<=bl.length->k<i->(Aj bl od i).getD (od.getD k 0).toNat 0=st bl od k
 |0,_,q=>absurd q (Kf _)
 |i+1,y,q=>by
  have z:=h.len;have d:od.Nodup:=h.perm.nodup_iff.2 (by unfold nat;exact vL.2 (List.pairwise_lt_range.imp λh=>by simp;omega));have B:=h.at (i:=i) (by omega);have H:=h.at (i:=k) (by omega);have j :∀i,(Aj bl od i).length=bl.length:=λi=>by
   induction i with
   |zero=>simp[Aj]
   |succ i w=>simp[Aj,w]
  show ((Aj bl od i).set _ _).getD _ 0=_;rw[iM (by rw[j];omega)];by_cases e:k=i
  .subst e;rw[QQ rfl]
  .rw [Qt λm=>e ?_]
   .exact ahG h (by omega) (by omega)
   .have m:od.getD k 0=od.getD i 0:=by omega
    rw[getD_at _ (by omega),getD_at _ (by omega)]at m;exact(List.getElem_inj d).1 m
end
def tab{α:Type}(n:Nat)(f:Nat->α):List α:=(List.range n).map f
theorem AX{α:Type}{f:Nat->α}:(tab n f).length=n:=by simp[tab]
theorem Hu{α:Type}{f:Nat->α}{d:α}(h:j<n):(tab n f).getD j d=f j:=by rw[getD_at _ (by rw[AX];exact h)];simp[tab]
theorem Fb{α:Type}{f g:Nat->α}(h :∀j,j<n->f j=g j):tab n f=tab n g:=W8 λj d=>h j (Uq.1 d)
theorem TB{α:Type}{f g:Nat->α}{x:α}(h :∀k,k<n->g k=if k=j then x else f k):(tab n f).set j x=tab n g:=by
 refine Km (by simp[tab]) λk q d=>?_;have m:k<n:=by simpa[tab]using d
 rw[List.getElem_set];simp only[tab,Kn,vd,h k m];by_cases e:j=k
 .rw [QQ e,QQ e.symm]
 .rw [Qt e,Qt λh=>e h.symm]
theorem ao3{α:Type}{l:List α}(d:α)(h:l.length=n):l=tab n λk=>l.getD k d:=by subst h;refine Km (by simp[tab]) λk j m=>?_;simp only[tab,Kn,vd,getD_at d j]
def Jc(v:Nat->Int)(u:dh)(j:Nat):gq:=iV (if 0<=u.to then v j else u.fD) u
noncomputable def Jp(v:Nat->Int)(us:List dh):List gq:=tab us.length λj=>Jc v (us.getD j aT) j
section
variable {bl:List aN} {od:List Int} {nm:List UInt8} {pa re:Int}
theorem ahH{u:dh}(h:GU n u):f35 u.gZ u.fC u.iF u.lK u.lM v u.dJ u.fP=zw (szU u:Int):=by apply ok_eq;unfold f35 f64;exact d_ (y:=(szU u:Int)) (ok_eq (bG _ (as1 h.z) λy d=>aG (by rw[d.2];rfl))) (aG rfl)
theorem W9(h:FO bl)(T:Ord bl.length od):Ok (f34 nm pa re bl od) λy=>∃w,Rn (Aj bl od bl.length) (rD bl od bl.length) w/\y=(0,sS (Aj bl od bl.length) w,J5 bl od w):=by
 have hlen:=h.len;have hol:=T.len;have hG:=NI h T;unfold f34;refine bG _ (Qp hlen.1 (by omega)) λy hy=>bW (by rw[hy.2 T];rfl) (bK (o7.2 (by omega)) ?_);refine bG (λy=>y=((rD bl od bl.length).map iU,Aj bl od bl.length)) ?_ λy e=>?_
 .refine bF (λs:Int×List gq×List Int=>∃i:Nat,s=((i:Int),(rD bl od i).map iU,Aj bl od i)/\i<=bl.length) (λs=>bl.length-s.1.toNat) ⟨0,by rw[hol];rfl,by omega⟩ λs ⟨i,e,hi⟩=>?_;subst e;refine dA (λm=>?_) λm=>?_
  rotate_left
  .have m:¬ i<od.length:=by simpa using m
   have:i=bl.length:=by omega
   subst this;exact aG rfl
  have m:i<od.length:=by simpa using m
  have ha:=T.at (i:=i) (by omega);have hb:(od.getD i 0).toNat<bl.length:=by omega
  have Kv:=J4 h T i hi;have hx:=(h.blk hb).1;have q:=aQ.2 (show 0<=(i:Int)/\(i:Int)<od.length by omega);have L:=(NH h T i hi).at ha;obtain⟨b,U⟩ :∃b,bl.getD (od.getD i 0).toNat aB=b:=⟨_,rfl⟩;have hins:=h.ins b (U▸(h.blk hb).2);rw[U]at hx;refine bK q (bK (aQ.2 (by simp only[Q4];omega)) (bK q (bK L.1 ?_)));simp only[Q4,U];refine bG (λy=>y=(rD bl od i++b.instrs.map λi=>uT (jy i)).map iU) ?_ λs16 e=>?_
  .refine bF (λs:Int×List gq=>∃k:Nat,s=((k:Int),(rD bl od i++(b.instrs.take k).map λi=>uT (jy i)).map iU)/\k<=b.instrs.length) (λs=>b.instrs.length-s.1.toNat) ⟨0,by simp,by omega⟩ λs ⟨k,e,J⟩=>?_;subst e;refine dA (λm=>?_) λm=>?_
   .have m:k<b.instrs.length:=by simpa using m
    refine bK (aQ.2 (by simp only;omega)) ?_;simp only[Q4,getD_at _ m];refine d_ (hins _ (X2 m)).1 (bK (by unfold aX;simp;omega) (aG ⟨⟨k+1,?_,by omega⟩,?_⟩))
    .have e:(rD bl od i++(b.instrs.take (k+1)).map λi=>uT (jy i)).map iU=(rD bl od i++(b.instrs.take k).map λi=>uT (jy i)).map iU++[iU (uT (jy b.instrs[k]))]:=by rw[take_snoc m,XX (f:=λi=>uT (jy i)),<-W3,XX (f:=iU)];rfl
     rw[aF (by omega),e];rfl
    .simp only[aF (x:=(k:Int)+1) (by omega)];omega
   .have m:¬ k<b.instrs.length:=by simpa using m
    refine aG (show (rD bl od i++(b.instrs.take k).map (λi=>uT (jy i))).map iU=_ from ?_);rw[WN (by omega)]
  subst e;have H:=w1 m (by omega);refine bG (λy=>y=nxt od i) ?_ λy e=>?_
  .simp only[H];unfold nxt;refine dA (λm=>?_) λm=>?_
   .have m:i+1<od.length:=by have:=Zs m;omega
    rw[QQ m];exact bK nZ (aG rfl)
   .rw [Qt (by have:=ZD m;omega)];exact aG rfl
  subst e;have hel:=Tt b.cu b.lN b.gu b.dM (nxt od i);refine d_ adN (bK (by unfold aX;simp;omega) (aG ⟨⟨i+1,?_,by omega⟩,?_⟩))
  .rw [H];show _=(_,(rD bl od i++YW (bl.getD (od.getD i 0).toNat aB) (nxt od i)).map iU,(Aj bl od i).set (od.getD i 0).toNat (st bl od i));rw[U];unfold YW st;simp only[XX,W3,We]
  .simp only[H,Q4];omega
 subst e;have hF:=NH h T bl.length (YY _);have hFa :∀k,k<bl.length->(Aj bl od bl.length).getD (od.getD k 0).toNat 0=st bl od k:=λk J=>ahG T (YY _) J;generalize Aj bl od bl.length=fi at *;have hst :∀i,i<=bl.length->(rD bl od i).length<=(rD bl od bl.length).length:=λi hi=>by
  have:=Ah bl od (bl.length-i) i
  rwa [show i+(bl.length-i)=bl.length by omega]at this
 generalize huT:rD bl od bl.length=M at *;have hu6:=hG.1;have hw0:bP ((M.length:Int)+1)=((M.length+1:Nat):Int):=by rw[aF (by omega)];rfl
 simp only[We,hw0];refine bK (o7.2 (by omega)) (bG (λy=>∃w,Rn fi M w/\y=(Jp (dst fi w) w,YX w)) ?_ λy ⟨w,hR,e⟩=>?_)
 .refine bF (λs:Bool×List gq×List Int=>∃us v,s.2.1=Jp v us/\GL bl.length us/\us.length=M.length/\(∀w,Rn fi us w->Rn fi M w)/\(s.2.2.length=us.length+1/\s.2.2.getD 0 0=0)/\(s.1=zv->(∀j,j<us.length->far fi us j=zv)/\v=dst fi us/\s.2.2=YX us)) (λs=>(List.map (λx:gq=>if x.dJ then 0 else 1) s.2.1).sum*2+if s.1 then 1 else 0)
   ⟨M,λj=>(M.getD j aT).fD,?_,hG,rfl,λ_ h=>h,⟨by simp,by simp⟩,λh=>by cases h⟩ λ⟨more,its,at'⟩ ⟨us,v,e,hg,Kv,hR,⟨ha1,ha2⟩,Z⟩=>?_
  .show M.map iU=_;rw[ao3 aT (rfl:M.length=_)];unfold Jp tab;rw[We,qr,UP];refine W8 λj N=>?_;have:=Hu (f:=λk=>M.getD k aT) (d:=aT) (Uq.1 N);unfold tab at this;simp only[Function.comp,this,Jc,iU,ite_self]
  simp only at e ha1 ha2 Z;subst e;refine dA (λhm=>?_) λhm=>?_
  rotate_left
  .obtain ⟨f1,f2,f3⟩:=Z hm;subst f2;exact aG ⟨us,hR us (.done f1),by rw[f3]⟩
  have X:(Jp v us).length=us.length:=AX;have hg6:=hg.1;refine bG (λy=>y=YX us) ?_ λy e=>?_
  .refine bF (λs:Int×List Int=>∃k:Nat,s.1=k/\k<=us.length/\s.2.length=us.length+1/\∀i,i<=k->s.2.getD i 0=(yN us i:Int)) (λs=>us.length-s.1.toNat) ⟨0,rfl,by omega,ha1,λi hi=>by
    have:i=0:=by omega
    subst this;rw[ha2];simp[yN]⟩ λ⟨k',arr⟩ ⟨k,e,g1,g2,g3⟩=>?_
   simp only at e g2 g3;subst e;rw[X];refine dA (λm=>?_) λm=>?_
   rotate_left
   .have m:¬ k<us.length:=by simpa using m
    refine aG (show arr=_ from Km (by rw[g2,o9]) λi h1 h2=>?_);have:=g3 i (by omega)
    rwa [<-u_ (by omega),getD_at _ h1,getD_at _ h2]at this
   have m:k<us.length:=by simpa using m
   have H:=w1 m (by omega);have hu:=hg.at m;refine bK (aQ.2 (by simp only;omega)) (bK (aQ.2 (by simp only;omega)) ?_);have K:(Jp v us).getD k fF=Jc v (us.getD k aT) k:=Hu m;simp only[Q4,K,H];have hal:=Hr hg (k+1);refine d_ (ahH hu) (bK nZ (aG ⟨⟨k+1,rfl,m,by simpa using g2,λi hi=>?_⟩,?_⟩))
   .simp only[Q4];rw[iM (by omega),g3 k (by omega)];split
    .rename_i e;subst e;rw[wM m,aF (by rw[wM m]at hal;omega)];rfl
    .exact g3 i (by omega)
   .simp only;omega
  subst e;simp only[X];refine bK (o7.2 (by omega)) ?_;rw[Q4];refine bG (λy=>y=((List.range us.length).any (far fi us),Jp (dst fi us) us,tab us.length (far fi us))) ?_ λy e=>?_
  .refine bF (λs:Bool×Int×List gq×List Bool=>∃j:Nat,s=((List.range j).any (far fi us),(j:Int),Jp (λk=>if k<j then dst fi us k else v k) us,tab us.length λk=>decide (k<j)&&far fi us k)/\j<=us.length) (λs=>us.length-s.2.1.toNat)
    ⟨0,?_,by omega⟩ λs ⟨j,e,N⟩=>?_
   .have:List.replicate us.length zv=tab us.length λk=>decide (k<0)&&far fi us k:=by unfold tab;rw[List.map_eq_replicate_iff.2 λx _=>(by simp:(decide (x<0)&&far fi us x)=zv),qr]
    rw[this];simp
   subst e;have as6 :∀v,(Jp v us).length=us.length:=λv=>AX;have Y :∀f:Nat->Bool,(tab us.length f).length=us.length:=λf=>AX;simp only[as6];refine dA (λm=>?_) λm=>?_
   rotate_left
   .have m:¬ j<us.length:=by simpa using m
    have:j=us.length:=by omega
    subst this;refine aG (show _=_ from ?_);have e1:Jp (λk=>if k<us.length then dst fi us k else v k) us=Jp (dst fi us) us:=Fb λk J=>by simp only[Jc,QQ J]
    have e2:(tab us.length λk=>decide (k<us.length)&&far fi us k)=tab us.length (far fi us):=Fb λk J=>by rw[W5 J];rfl
    rw[e1,e2]
   have m:j<us.length:=by simpa using m
   have q:=aQ.2 (show 0<=(j:Int)/\(j:Int)<us.length by omega);have hgu:=hg.at m;have H:=w1 m (by omega);have ahF:far fi us j=(decide (0<=(us.getD j aT).to)&&!(us.getD j aT).dJ&&(decide (dst fi us j < -128)||decide (127<dst fi us j))):=rfl;have hd:=Tz (fi:=fi) hg j;have hde:dst fi us j=(yN us (fi.getD (us.getD j aT).to.toNat 0).toNat:Int)-(yN us (j+1):Int):=rfl;have K :∀v,(Jp v us).getD j fF=Jc v (us.getD j aT) j:=λv=>Hu m;have z:(List.range (j+1)).any (far fi us)=((List.range j).any (far fi us)||far fi us j):=by rw[JN,List.any_append,List.any_cons,List.any_nil,za]
   refine bG (λy=>y=((List.range (j+1)).any (far fi us),Jp (λk=>if k<j+1 then dst fi us k else v k) us,tab us.length λk=>decide (k<j+1)&&far fi us k)) (bK q ?_) λy e=>?_
   .simp only[Q4,K];refine dA (λht=>aG ?_) λht=>bK q ?_
    .have ht:(us.getD j aT).to<0:=Zs ht;have L:far fi us j=zv:=by rw[ahF,ZS (by omega)];rfl
     rw[z,L,za];have e1:Jp (λk=>if k<j then dst fi us k else v k) us=Jp (λk=>if k<j+1 then dst fi us k else v k) us:=Fb λk J=>by
      by_cases e:k=j
      .subst e;simp only[Jc];rw[Qt (by omega),Qt (by omega)]
      .unfold Jc;simp only[show (k<j+1)=(k<j) from propext (by omega)]
     have e2:(tab us.length λk=>decide (k<j)&&far fi us k)=tab us.length λk=>decide (k<j+1)&&far fi us k:=Fb λk J=>by
      by_cases e:k=j
      .subst e;simp[L]
      .simp only[show (k<j+1)=(k<j) from propext (by omega)]
     rw[e1,e2]
    have ht:0<=(us.getD j aT).to:=by have:=ZD ht;simp only[Jc,iV]at this;omega
    obtain⟨f1,f2,f3⟩:=hF.at ⟨ht,hgu.t⟩;have Qo:far fi us j=(!(us.getD j aT).dJ&&(decide (dst fi us j < -128)||decide (127<dst fi us j))):=by rw[ahF,W5 ht];rfl
    have hto :∀v,(Jc v (us.getD j aT) j).to=(us.getD j aT).to:=λ_=>rfl;have e1:(Jp (λk=>if k<j then dst fi us k else v k) us).set j (iV (dst fi us j) (us.getD j aT))=Jp (λk=>if k<j+1 then dst fi us k else v k) us:=TB λk J=>by
     by_cases e:k=j
     .subst e;rw[QQ rfl];simp only[Jc,QQ ht,QQ (Nat.lt_succ_self k)]
     .rw [Qt e];unfold Jc;simp only[show (k<j+1)=(k<j) from propext (by omega)]
    have e2 :∀x,x=far fi us j->(tab us.length λk=>decide (k<j)&&far fi us k).set j x=tab us.length λk=>decide (k<j+1)&&far fi us k:=λx hx=>TB λk J=>by
     by_cases e:k=j
     .subst e;rw[QQ rfl,W5 (by omega),hx];rfl
     .rw [Qt e];simp only[show (k<j+1)=(k<j) from propext (by omega)]
    simp only[hto,H];refine bK f1 (bK (aQ.2 (by rw[o9];omega)) (bK (aQ.2 (by rw[o9];omega)) (bK q ?_)));have hd2:bP ((YX us).getD (fi.getD (us.getD j aT).to.toNat 0).toNat 0-(YX us).getD (((j+1:Nat):Int)).toNat 0)=dst fi us j:=by rw[Q4,u_ (by omega),u_ (by omega),<-hde];exact aF (by omega)
    have hmk:gq.mk (Jc (λk=>if k<j then dst fi us k else v k) (us.getD j aT) j).gZ (Jc (λk=>if k<j then dst fi us k else v k) (us.getD j aT) j).fC (Jc (λk=>if k<j then dst fi us k else v k) (us.getD j aT) j).iF (Jc (λk=>if k<j then dst fi us k else v k) (us.getD j aT) j).lK (Jc (λk=>if k<j then dst fi us k else v k) (us.getD j aT) j).lM (dst fi us j) (Jc (λk=>if k<j then dst fi us k else v k) (us.getD j aT) j).dJ (Jc (λk=>if k<j then dst fi us k else v k) (us.getD j aT) j).fP (us.getD j aT).to=iV (dst fi us j) (us.getD j aT):=rfl;simp only[hd2,hmk,e1];refine bG (λy=>y=tab us.length λk=>decide (k<j+1)&&far fi us k) (bK (by rw[as6];exact q) ?_) λy e=>?_
    .have B:((Jp (λk=>if k<j+1 then dst fi us k else v k) us).getD j fF).dJ=(us.getD j aT).dJ:=by rw[K];rfl
     rw[B];refine dA (λhn=>dA (λhl=>?_) λhl=>?_) λhn=>?_
     .exact bK (by rw[Y];exact q) (aG (e2 _ (by rw[Qo,hn,hl];rfl)))
     .exact bK (by rw[Y];exact q) (aG (e2 _ (by rw[Qo,hn,hl];rfl)))
     .exact bK (by rw[Y];exact q) (aG (e2 _ (by rw[Qo,hn];rfl)))
    subst e;refine bG (λy=>y=(List.range (j+1)).any (far fi us)) (dA (λhg=>aG ?_) λhg=>bK (by rw[Y];exact q) (aG ?_)) λy e=>by subst e;exact aG rfl
    .rw [z,hg];rfl
    .rw [z,hg,Hu m,W5 (by omega)];rfl
   .subst e;refine aG ⟨⟨j+1,by rw[H],m⟩,?_⟩;simp only[H,Q4];omega
  subst e;refine bG (λy=>y=Jp (dst fi us) (OE fi us)) ?_ λy e=>?_
  .have hrl:(OE fi us).length=us.length:=nU;refine bF (λs:Int×List gq=>∃j:Nat,s=((j:Int),tab us.length λk=>Jc (dst fi us) (if k<j then(OE fi us).getD k aT else us.getD k aT) k)/\j<=us.length) (λs=>us.length-s.1.toNat) ⟨0,by simp[Jp],by omega⟩ λs ⟨j,e,N⟩=>?_;subst e;simp only[AX];refine dA (λm=>?_) λm=>?_
   rotate_left
   .have m:¬ j<us.length:=by simpa using m
    have:j=us.length:=by omega
    subst this;refine aG (show _=Jp _ _ from ?_);unfold Jp;rw[hrl];exact Fb λk J=>by rw[QQ J]
   have m:j<us.length:=by simpa using m
   have q:=aQ.2 (show 0<=(j:Int)/\(j:Int)<us.length by omega);have H:=w1 m (by omega);have hgu:=hg.at m;simp only[Q4,Hu m,H];rw[Qt (KV j)];have key :∀x,x=Jc (dst fi us) ((OE fi us).getD j aT) j->(tab us.length λk=>Jc (dst fi us) (if k<j then(OE fi us).getD k aT else us.getD k aT) k).set j x=tab us.length λk=>Jc (dst fi us) (if k<j+1 then(OE fi us).getD k aT else us.getD k aT) k:=λx hx=>TB λk J=>by
    by_cases e:k=j
    .subst e;rw[QQ rfl,QQ (by omega),hx]
    .rw [Qt e];simp only[show (k<j+1)=(k<j) from propext (by omega)]
   refine bG (λy=>y=tab us.length λk=>Jc (dst fi us) (if k<j+1 then(OE fi us).getD k aT else us.getD k aT) k) (bK q (dA (λB=>bK q (aG (key _ ?_))) λB=>bK q (bK q (aG (key _ ?_))))) λy e=>?_
   .have B:(us.getD j aT).dJ=zj:=B;have L:far fi us j=zv:=by unfold far;rw[B];simp
    rw[Ai m,L,Qt (by simp)];unfold Jc iV;rw[B]
   .have B:(us.getD j aT).dJ=zv:=B;rw[Ai m];cases L:far fi us j with
    |true=>rw[QQ rfl];rfl
    |false=>rw[Qt (by simp)];unfold Jc iV;rw[B]
   .subst e;refine aG ⟨⟨j+1,rfl,m⟩,?_⟩;simp only[Q4];omega
  subst e;have hm:more=zj:=hm;subst hm;have hcnt :∀v us,(List.map (λx:gq=>if x.dJ then 0 else 1) (Jp v us)).sum=cnt us:=λv us=>by unfold Jp tab cnt;rw[UP];rfl
  refine aG ⟨⟨OE fi us,dst fi us,rfl,Tv hg,by rw[nU,Kv],λw hr=>?_,⟨by simp only[nU,o9],by simp only;rw[u_ (ve _)];simp[yN]⟩,λhn=>?_⟩,?_⟩
  .by_cases hex :∃j,j<us.length/\far fi us j=zj;exact hR w (.step hex hr);have:OE fi us=us:=Fa λj N=>by
    cases L:far fi us j with
    |false=>rfl
    |true=>exact absurd ⟨j,N,L⟩ hex
   rw[this]at hr;exact hR w hr
  .have hn :∀j,j<us.length->far fi us j=zv:=λj N=>by simp only[List.any_eq_false,Uq]at hn;simpa using hn j N
   rw[Fa hn];exact⟨hn,rfl,rfl⟩
  .simp only[hcnt];cases z:(List.range us.length).any (far fi us)with
   |true=>simp only[qa,Uq]at z;have:=abw z;simp;omega
   |false=>simp only[List.any_eq_false,Uq]at z;rw[Fa λj N=>by simpa using z j N];simp
 subst e;have hg:=hR.gl hG;have Kv:=hR.len;have hg6:=hg.1;have X:(Jp (dst fi w) w).length=w.length:=AX;simp only[X];refine bG (λy=>y=sS fi w) ?_ λy e=>?_
 .refine bF (λs:Int×List dQ=>∃j:Nat,s=((j:Int),(List.range j).map (codeOf fi w))/\j<=w.length) (λs=>w.length-s.1.toNat) ⟨0,rfl,by omega⟩ λs ⟨j,e,N⟩=>?_;subst e;refine dA (λm=>?_) λm=>?_
  rotate_left
  .have m:¬ j<w.length:=by simpa using m
   have:j=w.length:=by omega
   subst this;exact aG rfl
  have m:j<w.length:=by simpa using m
  have H:=w1 m (by omega);have K:(Jp (dst fi w) w).getD j fF=Jc (dst fi w) (w.getD j aT) j:=Hu m;refine bK (aQ.2 (by simp only;omega)) ?_;simp only[Q4,K,H];refine bK (by unfold aX;simp;omega) (aG ⟨⟨j+1,?_,m⟩,?_⟩)
  .rw [JN,XX,Qf,Vc];rfl
  .simp only[Q4];omega
 subst e;refine bG (λy=>y=J5 bl od w) ?_ λy e=>by subst e;exact aG ⟨w,hR,rfl⟩
 refine bF (λs:Int×List Int=>∃i:Nat,s=((i:Int),(List.range i).map λi=>(yN w (rD bl od i).length:Int))/\i<=bl.length) (λs=>bl.length-s.1.toNat) ⟨0,rfl,by omega⟩ λs ⟨i,e,hi⟩=>?_;subst e;refine dA (λm=>?_) λm=>?_
 rotate_left
 .have m:¬ i<od.length:=by simpa using m
  have:i=bl.length:=by omega
  subst this;exact aG rfl
 have m:i<od.length:=by simpa using m
 have H:=w1 m (by omega);have ha:=T.at (i:=i) (by omega);have L:=hF.at ha;have hm:=hst i (by omega);refine bK (aQ.2 (by simp only;omega)) ?_;simp only[Q4,hFa i (by omega),H];refine bK L.1 (bK (aQ.2 (by rw[o9];unfold st;omega)) (bK (by unfold aX;simp;omega) (aG ⟨⟨i+1,?_,by omega⟩,?_⟩)))
 .unfold st;rw[Q4,JN,XX,Qf,Vc,u_ (by omega)]
 .simp only[Q4];omega
end
def CQ(fs:List aS)(u:dh):Prop:=u.fP.length<=10/\(u.gZ=11->u.to<0/\(0<=u.fD/\u.fD<fs.length)/\(fs.getD u.fD.toNat ah).params=u.fP.length)
def TQ(sg:List (List UInt8×Nat))(t:C8):Prop:=t.2.2.2.2.2.2.2.length<=10/\(t.1=11->(0<=t.2.2.2.2.2.1/\t.2.2.2.2.2.1<sg.length)/\(sg.getD t.2.2.2.2.2.1.toNat ([],0)).2=t.2.2.2.2.2.2.2.length)
theorem as7{re:Int}{i:dP}(cl:IV g h a re i):TQ h (jy i):=by
 have key :∀t:C8,f62 i.kind i.op i.dst i.a i.b i.value i.args=zw t->TQ h t->TQ h (jy i):=λt q z=>by
  have:jy i=t:=by unfold jy;rw[q];rfl
  rw[this];exact z
 have n :∀{t:C8},t.2.2.2.2.2.2.2=eInt->t.1≠11->TQ h t:=λq z=>⟨by rw[q];simp,λcl=>absurd cl z⟩;cases cl with
 |@const o d sg b v j hd m=>exact key (1,0,d,0,0,v,zv,eInt) rfl (n rfl (by simp))
 |@move o d sg b v j hd q m=>exact key (2,0,d,sg,0,0,zv,eInt) rfl (n rfl (by simp))
 |@un o d sg b v j hd q J m=>exact key (3,o,d,sg,0,0,zv,eInt) rfl (n rfl (by simp))
 |@bin o d sg b v j hd q z J m=>exact key (4,o,d,sg,b,0,zv,eInt) rfl (n rfl (by simp))
 |@load o d sg b v j hd y m=>exact key (5,0,d,0,0,v,zv,eInt) rfl (n rfl (by simp))
 |@store o d sg b v j q y m=>exact key (6,0,0,sg,0,v,zv,eInt) rfl (n rfl (by simp))
 |@elem o d sg b v j hd q y m=>exact key (7,0,d,sg,0,v,zv,eInt) rfl (n rfl (by simp))
 |@set o d sg b v j q z y m=>exact key (8,0,0,sg,b,v,zv,eInt) rfl (n rfl (by simp))
 |@read o d sg b v j hd m=>exact key (9,0,d,0,0,0,zv,eInt) rfl (n rfl (by simp))
 |@print o d sg b v j q m=>exact key (10,0,0,sg,0,0,zv,eInt) rfl (n rfl (by simp))
 |@call o d sg b v j hd y B H m=>
  have w:aX (List.length eInt) j.length 8=zj:=by unfold aX;simp;omega
  refine key (11,0,d,0,0,v,zv,j) ?_ ⟨m,λ_=>⟨y,B⟩⟩;show f62 11 o d sg b v j=_;unfold f62;rw[w];rfl
 |@I_ o d sg b v j hd q H m=>
  have w:aX (List.length eInt) j.length 8=zj:=by unfold aX;simp;omega
  refine key (12,0,d,sg,0,0,zv,j) ?_ ⟨m,λcl=>by simp at cl⟩;show f62 12 o d sg b v j=_;unfold f62;rw[w];rfl
 |@func o d sg b v j hd y m=>exact key (18,0,d,0,0,v,zv,eInt) rfl (n rfl (by simp))
variable{fs:List aS}
theorem ao4{k n:Int}:∀u∈Ho a t k e n,CQ fs u:=by
 have j :∀op t to:Int,op≠11->CQ fs (jU op t to):=λop t to h=>⟨by simp[jU],λm=>absurd m h⟩;have d :∀(op t to:Int),op≠11->∀u∈[jU op t to],CQ fs u:=λop t to h u hu=>by rw[X1]at hu;subst hu;exact j _ _ _ h
 unfold Ho;split
 .exact d _ _ _ (by simp)
 split
 .split
  .intro u hu;cases hu
  .exact d _ _ _ (by simp)
 split
 .exact d _ _ _ (by simp)
 split
 .exact d _ _ _ (by simp)
 .intro u hu;rcases Xs.1 hu with q|hu
  .subst q;exact j _ _ _ (by simp)
  .exact d _ _ _ (by simp) u hu
theorem Rn.all{P:dh->Prop}(y :∀u,P u->P (wid u)){us m:List dh}(h:Rn fi us m):(∀u∈us,P u)->∀u∈m,P u:=by
 induction h with
 |done h=>exact id
 |@step us m _ _ z=>
  intro B;refine z λu hu=>?_;obtain⟨j,q,e⟩:=Wz hu;have d:j<us.length:=by rw[nU]at q;exact q
  have:=Ai (fi:=fi) d;rw[getD_at _ q,e]at this;have w:P (us.getD j aT):=B _ (by rw[getD_at _ d];exact X2 _);rw[this];split
  .exact y _ w
  .exact w
section
variable {bl:List aN} {od:List Int} {nm:List UInt8} {pa re:Int}
open Classical in
noncomputable def yx(bl:List aN)(od:List Int):List dh:=if h :∃d,Rn (Aj bl od bl.length) (rD bl od bl.length) d then h.choose else[]
theorem Du(h:FO bl)(m:Ord bl.length od):Rn (Aj bl od bl.length) (rD bl od bl.length) (yx bl od):=by obtain⟨y,_,d,q,_⟩:=adM (nm:=[]) (pa:=0) (re:=0) h m;have j :∃d,Rn (Aj bl od bl.length) (rD bl od bl.length) d:=⟨d,q⟩;unfold yx;rw[dif_pos j];exact j.choose_spec
noncomputable def T_(bl:List aN)(od:List Int):List dQ:=sS (Aj bl od bl.length) (yx bl od)
noncomputable def Af(bl:List aN)(od:List Int)(b:Nat):Nat:=yN (yx bl od) (rD bl od b).length
noncomputable def szF(bl:List aN)(od:List Int):Nat:=Af bl od bl.length
theorem ahI(h:FO bl)(d:Ord bl.length od):(yx bl od).length=(rD bl od bl.length).length:=(Du h d).len
theorem akY:Af bl od 0=0:=by simp[Af,yN,rD]
theorem TD(h:i<=j):Af bl od i<=Af bl od j:=by have:=Ah bl od (j-i) i;rw[show i+(j-i)=j by omega]at this;exact WW _ this
theorem ahJ(h:FO bl)(d:Ord bl.length od):GL bl.length (yx bl od):=(Du h d).gl (NI h d)
theorem vg:(T_ bl od).length=(yx bl od).length:=by simp[T_,sS]
theorem ahK(d:n<(yx bl od).length):(T_ bl od).getD n yg=codeOf (Aj bl od bl.length) (yx bl od) n:=by rw[getD_at _ (by rw[vg];exact d)];simp[T_,sS]
theorem as8(h:FO bl)(d:Ord bl.length od)(m:n<(yx bl od).length):VC (codeOf (Aj bl od bl.length) (yx bl od) n).op (codeOf (Aj bl od bl.length) (yx bl od) n).arith (codeOf (Aj bl od bl.length) (yx bl od) n).dst (codeOf (Aj bl od bl.length) (yx bl od) n).a (codeOf (Aj bl od bl.length) (yx bl od) n).b (codeOf (Aj bl od bl.length) (yx bl od) n).value (codeOf (Aj bl od bl.length) (yx bl od) n).wide (codeOf (Aj bl od bl.length) (yx bl od) n).args:=akX (ahJ h d) m ((Du h d).fin n m)
theorem ahL{fs:List aS}{sg:List (List UInt8×Nat)}{g:List aC}{cl r:Int}(hi :∀b∈bl,∀i∈b.instrs,IV g sg cl r i)(h:sg.length=fs.length)(j :∀i,i<fs.length->(fs.getD i ah).params=((sg.getD i ([],0)).2:Int))(m:Ord bl.length od):∀i,i<=bl.length->∀u∈rD bl od i,CQ fs u
 |0,_=>λu hu=>by cases hu
 |i+1,y=>λu hu=>by
  have q:=m.at (i:=i) (by omega);rcases Ys.1 hu with hu|hu
  .exact ahL hi h j m i (by omega) u hu
  .rcases Ys.1 hu with hu|hu
   rotate_left
   exact ao4 u hu;obtain⟨x,w,e⟩:=XN.1 hu;obtain⟨q1,q2⟩:=as7 (hi _ (YM _ q.1 q.2) x w);subst e;refine⟨q1,λd=>⟨by show (-1:Int)<0;omega,?_⟩⟩;obtain⟨q3,q4⟩:=q2 d;rw[h]at q3;refine⟨q3,?_⟩;show (fs.getD (jy x).2.2.2.2.2.1.toNat ah).params=_;rw[j _ (by omega),q4];rfl
theorem as9(sg:FO bl)(hi :∀b∈bl,∀i∈b.instrs,IV g h a t i)(j:h.length=fs.length)(m :∀i,i<fs.length->(fs.getD i ah).params=((h.getD i ([],0)).2:Int))(d:Ord bl.length od):∀u∈yx bl od,CQ fs u:=(Du sg d).all (λu sg=>sg) (ahL hi j m d bl.length (YY _))
theorem akZ{op:Int}{wd:Bool}(hn:n<=10):szc op wd n<=45:=by
 unfold szc;have d :∀x,szm wd n x<=11:=λx=>by
  unfold szm
  repeat' split
  all_goals omega
 have :∀l:List UInt8,(l.map (szm wd n)).sum<=11*l.length:=λl=>by
  induction l with
  |nil=>simp
  |cons x l h=>have:=d x;simp only[Qf,JS,Wm];omega
 have:=this (rowOf op);have:=(Dp op).1;omega
def wB(bl:List aN)(x:Int):Nat:=(bl.getD x.toNat aB).instrs.length+2
theorem amr(d:Ord bl.length od):∀i,i<=bl.length->(rD bl od i).length<=((od.take i).map (wB bl)).sum
 |0,_=>by simp[rD]
 |i+1,h=>by
  have:=amr d i (by omega);have j:=d.len;have:=abv (b:=bl.getD (od.getD i 0).toNat aB) (n:=nxt od i);have e:(od.getD i 0)=od[i]'(by omega):=getD_at _ _;rw[take_snoc (by omega),XX,vb];simp only[rD,XS,Qf,Vc,JS,List.sum_nil];have:wB bl (od[i]'(by omega))=(bl.getD (od.getD i 0).toNat aB).instrs.length+2:=by rw[e];rfl
  omega
theorem ata(bl:List aN){β:Type}(w:aN->β):(nat bl.length).map (λx=>w (bl.getD x.toNat aB))=bl.map w:=by
 refine Km (by simp[nat]) λi j h=>?_;have d:i<bl.length:=by simpa using h
 simp only[Kn];congr 1;have:(nat bl.length)[i]'(by rw[yw];exact d)=(i:Int):=by simp[nat]
 rw[this,Q4,getD_at _ d]
theorem ams(h:FO bl)(d:Ord bl.length od):(yx bl od).length<=4096:=by
 rw[ahI h d];have j:=amr d bl.length (YY _);rw[WN (by rw[d.len];exact YY _),(d.perm.map (wB bl)).sum_nat]at j;have m:=ata bl λb=>b.instrs.length+2;have q:(nat bl.length).map (wB bl)=bl.map λb=>b.instrs.length+2:=m;rw[q]at j;have w :∀l:List aN,(l.map λb=>b.instrs.length+2).sum<=2*Dl l:=λl=>by
  induction l with
  |nil=>simp
  |cons b l y=>unfold Dl at y ⊢;simp only[Qf,JS];omega
 have:=w bl;have:=h.wt;omega
theorem ao5(h:FO bl)(j:Ord bl.length od)(m :∀u∈yx bl od,CQ fs u):szF bl od<=184320:=by
 have key :∀l:List dh,(∀u∈l,CQ fs u)->(l.map szU).sum<=45*l.length:=λl=>by
  induction l with
  |nil=>intro _;simp
  |cons u l q=>intro d;have:=q λu hu=>d u (V1 _ hu);have:szU u<=45:=akZ (d u Kc).1;simp only[Qf,JS,Wm];omega
 unfold szF Af yN;have w:=key _ λu hu=>m u (Wl (i:=(rD bl od bl.length).length) hu);have y:=ams h j;have z:((yx bl od).take (rD bl od bl.length).length).length<=4096:=by rw[VV];omega
 omega
end
structure LO(fs:List aS)(fo:List Int)(bo:List (List Int)):Prop where
 perm:fo.Perm (nat fs.length)
 len:bo.length=fs.length
 od :∀i,i<fs.length->Ord (fs.getD i ah).blocks.length (bo.getD i eInt)
theorem LO.ahM{fo:List Int}{bo:List (List Int)}(h:LO fs fo bo):fo.length=fs.length:=by rw[h.perm.length_eq,yw]
theorem LO.at{fo:List Int}{bo:List (List Int)}(h:LO fs fo bo)(d:k<fs.length):0<=fo.getD k 0/\fo.getD k 0<fs.length:=by have:=h.ahM;rw[getD_at _ (by omega)];exact Tq.1 (h.perm.mem_iff.1 (X2 _))
theorem LO.inj{fs:List aS}{fo:List Int}{bo:List (List Int)}(h:LO fs fo bo){i j:Nat}(hi:i<fs.length)(q:j<fs.length)(e:(fo.getD i 0).toNat=(fo.getD j 0).toNat):i=j:=by
 have w:=h.ahM;have y:=h.at hi;have z:=h.at q;have d:fo.Nodup:=h.perm.nodup_iff.2 (by unfold nat;exact vL.2 (List.pairwise_lt_range.imp λh=>by simp;omega));have m:fo.getD i 0=fo.getD j 0:=by omega
 rw[getD_at _ (by omega),getD_at _ (by omega)]at m;exact(List.getElem_inj d).1 m
structure LP(g:List aC)(fs:List aS):Prop where
 gl:g.length<=32
 n:0<fs.length/\fs.length<=5
 fo :∀i,i<fs.length->FO (fs.getD i ah).blocks
 pr :∀i,i<fs.length->0<=(fs.getD i ah).params
 cq :∀i,i<fs.length->∀od,Ord (fs.getD i ah).blocks.length od->∀u∈yx (fs.getD i ah).blocks od,CQ fs u
theorem RtP.lp(sg:RtP g h a fs):LP g fs:=by have q:=sg.f1;have w:=sg.sgl;have z:=sg.cll;have j :∀i,i<fs.length->Rt g h a (fs.getD i ah):=λi d=>sg.rt _ (by rw[getD_at _ d];exact X2 _);have m :∀i,i<fs.length->FO (fs.getD i ah).blocks:=λi d=>(j i d).fo sg.gl (by omega) (by omega);exact⟨sg.gl,⟨sg.f0,q⟩,m,λi d=>(j i d).par.1,λi d od y=>as9 (m i d) (j i d).ins w sg.par y⟩
section
variable {g:List aC} {fs:List aS} {ca co:Int}
theorem ak0(h :∀i,i<fs.length->(fs.getD i ah).blocks.length<=256)(hn:fs.length<=5):Ok (f27 g fs ca co) λy=>y.1=nat fs.length/\y.2.length=fs.length:=by
 unfold f27;refine bG (λy=>y.1=nat fs.length/\y.2.length=fs.length) ?_ λy q=>aG q;refine bF (λs:Int×List Int×List (List Int)=>∃i:Nat,s.1=i/\i<=fs.length/\s.2.1=nat i/\s.2.2.length=i) (λs=>fs.length-s.1.toNat) ⟨0,rfl,by omega,rfl,rfl⟩ λ⟨w,l,b⟩ ⟨i,e,z,m,j⟩=>?_;simp only at e m j;subst e;subst m;refine dA (λd=>?_) λd=>?_
 .have d:i<fs.length:=by simpa using d
  refine bK (by unfold aX;simp[yw];omega) (bK (aQ.2 (by simp only;omega)) ?_);simp only[Q4];refine d_ (Hq (by have:=h i d;omega)) (bK (by unfold aX;simp;omega) (aG ⟨⟨i+1,?_,by omega,?_,?_⟩,?_⟩))
  .simp only[aF (x:=(i:Int)+1) (by omega)];rfl
  .rw [NG]
  .simp [j]
  .simp only[aF (x:=(i:Int)+1) (by omega)];omega
 .have d:¬ i<fs.length:=by simpa using d
  have:i=fs.length:=by omega
  subst this;exact aG ⟨rfl,j⟩
theorem adO(T:Bytes l)(hj:0<=a)(h:LP g fs):Ok (f9 g fs ca co l a) λy=>y.1=l/\0<=y.2.1/\LO fs y.2.2.1 y.2.2.2:=by
 have hn:=h.n;have z :∀i,i<fs.length->(fs.getD i ah).blocks.length<=256:=λi K=>(h.fo i K).len.2;unfold f9;refine bG _ (ak0 z hn.2) λ⟨c1,c2⟩ ⟨B,m⟩=>?_;simp only at B m;subst B;refine bG (λy=>y.1=l/\0<=y.2.1/\y.2.2.Perm (nat fs.length)) ?_ λ⟨U,s2,s3⟩ ⟨B,q1,q2⟩=>?_
 .refine bF (λs:Int×List Int×Int×List Int=>∃i:Nat,s.1=i/\1<=i/\i<=fs.length/\s.2.1=l/\0<=s.2.2.1/\s.2.2.2.Perm (nat fs.length)) (λs=>fs.length-s.1.toNat) ⟨1,rfl,by omega,by omega,rfl,hj,List.Perm.refl _⟩ λ⟨i',l',a,od⟩ ⟨i,e,h1,h2,m,w,L⟩=>?_;simp only at e m w L;subst e;subst m;have hl:od.length=fs.length:=by rw[L.length_eq,yw]
  refine dA (λd=>?_) λd=>aG ⟨rfl,w,L⟩;have d:i<od.length:=by simpa using d
  have hw:bP ((i:Int)+1)=(i+1:Nat):=(aF (by omega)).trans rfl;simp only[hw];refine goN T w (by omega) λx k H ax X=>?_;have X:=X (by omega);obtain⟨q,hq⟩ :∃q:Nat,x=q:=⟨x.toNat,by omega⟩;subst hq;simp only[Q4];have J:=aQ.2 (show 0<=(i:Int)/\(i:Int)<od.length by omega);refine bK nZ (bK J (bK J (bK (aQ.2 (by rw[UI];omega)) (aG ⟨⟨i+1,rfl,by omega,by omega,rfl,H,?_⟩,?_⟩))))
  .simp only;rw[getD_at _ (show q<od.length by omega),getD_at _ d];exact(List.set_set_perm d (by omega)).trans L
  .simp only;omega
 simp only at B q1 q2;subst B;refine bG (λy=>y.1=U/\0<=y.2.1/\y.2.2.length=fs.length/\∀i,i<fs.length->Ord (fs.getD i ah).blocks.length (y.2.2.getD i eInt)) ?_ λy ⟨k1,k2,k3,k4⟩=>aG ⟨k1,k2,q2,k3,k4⟩;refine bF (λs:Int×List Int×Int×List (List Int)=>∃i:Nat,s.1=i/\i<=fs.length/\s.2.1=U/\0<=s.2.2.1/\s.2.2.2.length=fs.length/\∀k,k<i->Ord (fs.getD k ah).blocks.length (s.2.2.2.getD k eInt)) (λs=>fs.length-s.1.toNat) ⟨0,rfl,by omega,rfl,q1,m,λk H=>absurd H (Kf _)⟩ λ⟨i',l',a,od⟩ ⟨i,e,h2,m,w,M,N⟩=>?_;simp only at e m w M N;subst e;subst m;refine dA (λd=>?_) λd=>?_
 rotate_left
 .have d:¬ i<od.length:=by simpa using d
  exact aG ⟨rfl,w,M,λk H=>N k (by omega)⟩
 have d:i<od.length:=by simpa using d
 have K:i<fs.length:=by omega
 refine bK (aQ.2 (by simp only;omega)) ?_;simp only[Q4];refine bG _ (YV T w (by have:=z i K;omega) (h.fo i K).len.1) λ⟨z1,z2,z3⟩ ⟨Y,Z,y3⟩=>?_;simp only at Y Z y3;subst Y;refine bK nZ (aG ⟨⟨i+1,?_,by omega,rfl,Z,by simp only;rw[UI];exact M,λk H=>?_⟩,?_⟩)
 .simp only[aF (x:=(i:Int)+1) (by omega)];rfl
 .simp only;rw[iM (show i<od.length by omega)];split
  .rename_i e;subst e;exact y3
  .exact N k (by omega)
 .simp only[aF (x:=(i:Int)+1) (by omega)];omega
end
section
variable (fs:List aS) (fo:List Int) (bo:List (List Int))
noncomputable def qm(k:Nat):List aN:=(fs.getD (fo.getD k 0).toNat ah).blocks
noncomputable def vC(k:Nat):List Int:=bo.getD (fo.getD k 0).toNat eInt
noncomputable def E:Nat->Nat
 |0=>0
 |k+1=>E k+szF (qm fs fo k) (vC fo bo k)
structure EN(en:List Int):Prop where
 len:en.length=fs.length
 ats :∀j,j<fs.length->en.getD (fo.getD j 0).toNat 0=(E fs fo bo j:Int)
def OG(en:List Int)(c:dQ):dQ:=dQ.mk c.op c.arith c.dst c.a c.b (if c.op=11 then en.getD c.value.toNat 0 else c.value) c.wide c.args
noncomputable def OH(c:dQ):List Int:=((f33 c.op c.arith c.dst c.a c.b c.value c.wide c.args).getD (0,[])).2
noncomputable def cdT(en:List Int):Nat->List dQ
 |0=>[]
 |k+1=>cdT en k++(T_ (qm fs fo k) (vC fo bo k)).map (OG en)
noncomputable def plF(i:Nat)(bl:List aN)(od:List Int)(e:Nat)(b:Nat):List eY:=(List.range b).map λ(b:Nat)=>eY.mk (i:Int) (od.getD b 0) ((e+Af bl od b:Nat):Int) ((Af bl od (b+1)-Af bl od b:Nat):Int)
noncomputable def plT:Nat->List eY
 |0=>[]
 |k+1=>plT k++plF (fo.getD k 0).toNat (qm fs fo k) (vC fo bo k) (E fs fo bo k) (qm fs fo k).length
end
variable{c:dQ}
theorem ahN(h:VCc c):f33 c.op c.arith c.dst c.a c.b c.value c.wide c.args=zw (0,OH c)/\(OH c).length=Dw c:=by
 obtain⟨y,d,j,m⟩:=amn h;have:y=(0,OH c):=by unfold OH;rw[d];obtain⟨q,w⟩:=y;simp only at j;subst j;rfl
 rw[d,this];refine⟨rfl,?_⟩;rw[this]at m;exact m
theorem ak1(h:VCc c)(q:c.op=11->0<=l.getD c.value.toNat 0/\l.getD c.value.toNat 0<=1048576):VCc (OG l c):=by
 obtain⟨o,w,a3,a4,d,a,b,s,n,v⟩:=h;refine⟨o,w,a3,a4,d,a,b,s,n,?_⟩;show nP c.op (if c.op=11 then _ else c.value) c.wide=zj;split
 rotate_left
 exact v;rename_i j;have:=q j;obtain⟨x,y⟩ :∃x,l.getD c.value.toNat 0=x:=⟨_,rfl⟩;rw[y]at this ⊢;unfold nP;rw[Qt (by omega),QQ j];simp;omega
section
variable {g:List aC} {fs:List aS} {ca co:Int} {fo:List Int} {bo:List (List Int)}
theorem LO.blk(d:LO fs fo bo)(h:k<fs.length):Ord (qm fs fo k).length (vC fo bo k):=d.od _ (by have:=d.at h;omega)
theorem LP.fok(h:LP g fs)(d:LO fs fo bo)(j:k<fs.length):FO (qm fs fo k):=h.fo _ (by have:=d.at j;omega)
theorem LP.cqk(h:LP g fs)(d:LO fs fo bo)(j:k<fs.length):∀u∈yx (qm fs fo k) (vC fo bo k),CQ fs u:=h.cq _ (by have:=d.at j;omega) _ (d.blk j)
theorem ak2(h:LP g fs)(d:LO fs fo bo):∀k,k<=fs.length->E fs fo bo k<=184320*k
 |0,_=>by simp[E]
 |k+1,j=>by have:=ak2 h d k (by omega);have:=ao5 (h.fok d (k:=k) (by omega)) (d.blk (by omega)) (h.cqk d (by omega));show E fs fo bo k+_<=_;omega
theorem LO.find(d:LO fs fo bo){v:Int}(j:0<=v/\v<fs.length):∃k,k<fs.length/\fo.getD k 0=v:=by obtain⟨k,h,e⟩:=Wz (d.perm.mem_iff.2 (Tq.2 j));exact⟨k,by rw[<-d.ahM];exact h,by rw[getD_at _ h];exact e⟩
theorem EN.rng(m:EN fs fo bo l)(h:LP g fs)(j:LO fs fo bo)(q:0<=a/\a<fs.length):0<=l.getD a.toNat 0/\l.getD a.toNat 0<=921600:=by obtain⟨k,w,e⟩:=j.find q;have:=m.ats k w;have:=ak2 h j k (by omega);have:=h.n;rw[e]at *;omega
theorem ahO(K:EN fs fo bo l)(h:LP g fs)(w:LO fs fo bo)(z:k<fs.length)(L:c∈T_ (qm fs fo k) (vC fo bo k)):
  VCc (OG l c)/\Dw (OG l c)=Dw c/\(c.op=11->(0<=c.value/\c.value<fs.length)/\(fs.getD c.value.toNat ah).params=c.args.length):=by
 obtain⟨j,B,e⟩:=Wz L;have d:j<(yx (qm fs fo k) (vC fo bo k)).length:=by rw[vg]at B;exact B
 have J:=as8 (h.fok w z) (w.blk z) d;have M:=h.cqk w z _ (X2 d);have H:=ahK d;rw[getD_at _ B,e]at H;rw[<-H]at J;have m:c.op=11->(0<=c.value/\c.value<fs.length)/\(fs.getD c.value.toNat ah).params=c.args.length:=by rw[H];unfold codeOf;rw[getD_at _ d];intro q;simp only at q ⊢;obtain⟨q1,q2,q3⟩:=M.2 q;rw[Qt (by omega)];exact⟨q2,q3⟩
 exact⟨ak1 J λN=>by have:=K.rng h w (m N).1;omega,rfl,m⟩
theorem ao8{od:List Int}(d:n<(yx bl od).length):Dw ((T_ bl od)[n]'(by rw[vg];exact d))=szU ((yx bl od).getD n aT):=by have:=ahK d;rw[getD_at _ (by rw[vg];exact d)]at this;rw[this];rfl
noncomputable def byT(en:List Int)(fs:List aS)(fo:List Int)(bo:List (List Int))(k:Nat):List Int:=(cdT fs fo bo en k).flatMap OH
theorem J6{d:List Int}(m:EN fs fo bo d)(h:LP g fs)(q:LO fs fo bo){k:Nat}(w:k<fs.length):∀j,j<=(yx (qm fs fo k) (vC fo bo k)).length->((((T_ (qm fs fo k) (vC fo bo k)).take j).map (OG d)).flatMap OH).length=yN (yx (qm fs fo k) (vC fo bo k)) j
 |0,_=>by simp[yN]
 |j+1,B=>by
  have z:=J6 m h q w j (by omega);have y:j<(T_ (qm fs fo k) (vC fo bo k)).length:=by rw[vg];omega
  obtain⟨q1,q2,_⟩:=ahO m h q w (X2 y);rw[take_snoc y,XX,K1,XS,z,wM (by omega),<-ao8 (by omega)];simp only[Qf,Vc,Z6,List.flatMap_nil,K6];rw[(ahN q1).2,q2]
theorem NJ{od:List Int}(h:FO bl)(d:Ord bl.length od):yN (yx bl od) (yx bl od).length=szF bl od:=by unfold szF Af;rw[ahI h d]
theorem YZ{j:List Int}(m:EN fs fo bo j)(h:LP g fs)(d:LO fs fo bo):∀k,k<=fs.length->(byT j fs fo bo k).length=E fs fo bo k
 |0,_=>by simp[byT,cdT,E]
 |k+1,w=>by have q:=YZ m h d k (by omega);have:=J6 m h d (k:=k) (by omega) _ (YY _);rw[WN (by rw[vg];exact YY _),NJ (h.fok d (by omega)) (d.blk (by omega))]at this;unfold byT at q ⊢;show ((_++_:List dQ).flatMap OH).length=E fs fo bo k+_;rw[K1,XS,q,this]
theorem abx{od:List Int}{b:Nat}:(plF n bl od j b).length=b:=by simp[plF]
theorem TF(h:LP g fs)(d:LO fs fo bo):∀k,k<=fs.length->(plT fs fo bo k).length<=256*k
 |0,_=>by simp[plT]
 |k+1,j=>by have:=TF h d k (by omega);have:=(h.fok d (k:=k) (by omega)).len;show (_++_:List eY).length<=_;rw[XS,abx];omega
end
def Cont:Int->List eY->Int->Prop
 |a,[],e=>a=e
 |a,x::l,e=>x.address=a/\0<=x.size/\Cont (a+x.size) l e
theorem Cont.app:∀{l m:List eY} {a b c:Int},Cont a l b->Cont b m c->Cont a (l++m) c
 | [],m,a,b,c,h,d=>by cases h;exact d
 |x::l,m,a,b,c,⟨j,d,q⟩,w=>⟨j,d,q.app w⟩
theorem Cont.le:∀{l:List eY} {a b:Int},Cont a l b->a<=b
 | [],a,b,h=>by cases h;exact Vn _
 |x::l,a,b,⟨_,j,d⟩=>by have:=d.le;omega
theorem W_(i:Nat)(bl:List aN)(od:List Int)(e:Nat):∀b,Cont (e:Int) (plF i bl od e b) ((e+Af bl od b:Nat):Int)
 |0=>by show ((e:Nat):Int)=_;rw[akY];rfl
 |b+1=>by
  have h:=W_ i bl od e b;have d:plF i bl od e (b+1)=plF i bl od e b++[eY.mk (i:Int) (od.getD b 0) ((e+Af bl od b:Nat):Int) ((Af bl od (b+1)-Af bl od b:Nat):Int)]:=by unfold plF;rw[JN,XX];rfl
  have j:Af bl od b<=Af bl od (b+1):=TD (by omega);rw[d];refine h.app ⟨rfl,by simp only;omega,?_⟩;show ((e+Af bl od b:Nat):Int)+((Af bl od (b+1)-Af bl od b:Nat):Int)=((e+Af bl od (b+1):Nat):Int);omega
section
variable {g:List aC} {fs:List aS} {ca co:Int} {fo:List Int} {bo:List (List Int)}
theorem Xa(fs:List aS)(fo:List Int)(bo:List (List Int)):∀k,Cont 0 (plT fs fo bo k) (E fs fo bo k)
 |0=>rfl
 |k+1=>(Xa fs fo bo k).app (W_ _ _ _ _ _)
end
def ahP(t:C8):Prop :=∀v wd,(wd=zj->13<=t.1/\t.1<=15)->(v=t.2.2.2.2.2.1\/t.1=11\/13<=t.1/\t.1<=15)->Can (dQ.mk t.1 t.2.1 t.2.2.1 t.2.2.2.1 t.2.2.2.2.1 v wd t.2.2.2.2.2.2.2)
def TG(u:dh):Prop:=ahP (u.gZ,u.fC,u.iF,u.lK,u.lM,u.fD,zv,u.fP)
theorem wO{op k d:Int}{w:Bool}{args:List Int}(h:Can (dQ.mk op t k e v d zv args))(m:op≠11)(j:¬ (13<=op/\op<=15)):ahP (op,t,k,e,v,d,w,args):=by
 intro z wd q y;have:wd=zv:=by
  cases wd with
  |false=>rfl
  |true=>exact absurd (q rfl) j
 subst this;rcases y with rfl|h|h
 .exact h
 .exact absurd h m
 .exact absurd h j
theorem ak3{re:Int}{i:dP}(cl:IV g h a re i):ahP (jy i):=by
 have key :∀t:C8,f62 i.kind i.op i.dst i.a i.b i.value i.args=zw t->ahP t->ahP (jy i):=λt w z=>by
  have:jy i=t:=by unfold jy;rw[w];rfl
  rw[this];exact z
 cases cl with
 |@const o d sg b v j hd m=>exact key (1,0,d,0,0,v,zv,eInt) rfl (wO rfl (by simp) (by simp))
 |@move o d sg b v j hd w m=>exact key (2,0,d,sg,0,0,zv,eInt) rfl (wO rfl (by simp) (by simp))
 |@un o d sg b v j hd w J m=>exact key (3,o,d,sg,0,0,zv,eInt) rfl (wO rfl (by simp) (by simp))
 |@bin o d sg b v j hd w z J m=>exact key (4,o,d,sg,b,0,zv,eInt) rfl (wO rfl (by simp) (by simp))
 |@load o d sg b v j hd y m=>exact key (5,0,d,0,0,v,zv,eInt) rfl (wO rfl (by simp) (by simp))
 |@store o d sg b v j w y m=>exact key (6,0,0,sg,0,v,zv,eInt) rfl (wO rfl (by simp) (by simp))
 |@elem o d sg b v j hd w y m=>exact key (7,0,d,sg,0,v,zv,eInt) rfl (wO rfl (by simp) (by simp))
 |@set o d sg b v j w z y m=>exact key (8,0,0,sg,b,v,zv,eInt) rfl (wO rfl (by simp) (by simp))
 |@read o d sg b v j hd m=>exact key (9,0,d,0,0,0,zv,eInt) rfl (wO rfl (by simp) (by simp))
 |@print o d sg b v j w m=>exact key (10,0,0,sg,0,0,zv,eInt) rfl (wO rfl (by simp) (by simp))
 |@call o d sg b v j hd y H B m=>
  have q:aX (List.length eInt) j.length 8=zj:=by unfold aX;simp;omega
  refine key (11,0,d,0,0,v,zv,j) ?_ λL wd K y=>?_
  .show f62 11 o d sg b v j=_;unfold f62;rw[q];rfl
  .cases wd with
   |false=>rfl
   |true=>have:=K rfl;simp at this
 |@I_ o d sg b v j hd w B m=>
  have q:aX (List.length eInt) j.length 8=zj:=by unfold aX;simp;omega
  refine key (12,0,d,sg,0,0,zv,j) ?_ (wO rfl (by simp) (by simp));show f62 12 o d sg b v j=_;unfold f62;rw[q];rfl
 |@func o d sg b v j hd y m=>exact key (18,0,d,0,0,v,zv,eInt) rfl (wO rfl (by simp) (by simp))
theorem ak4{k:Int}:∀u∈Ho a t k e v,TG u:=by
 have d :∀to:Int,TG (jU 13 0 to):=λto n wd _ _=>by cases wd<;>rfl
 have j :∀t to:Int,TG (jU 14 t to):=λt to n wd _ _=>by cases wd<;>rfl
 have q :∀t to:Int,TG (jU 15 t to):=λt to n wd _ _=>by cases wd<;>rfl
 have w :∀t to:Int,TG (jU 16 t to):=λt to=>wO rfl (by simp[jU]) (by simp[jU]);have m :∀x:dh,TG x->∀u∈[x],TG u:=λx h u hu=>by rw[X1]at hu;subst hu;exact h
 unfold Ho;split
 .exact m _ (w _ _)
 split
 .split
  .intro u hu;cases hu
  .exact m _ (d _)
 split
 .exact m _ (j _ _)
 split;exact m _ (q _ _);intro u hu;rcases Xs.1 hu with y|hu
 .subst y;exact j _ _
 .exact m _ (d _) u hu
section
variable {bl:List aN} {od:List Int} {nm:List UInt8} {pa re:Int}
theorem aby{g:List aC}{sg:List (List UInt8×Nat)}{cl r:Int}(hi :∀b∈bl,∀i∈b.instrs,IV g sg cl r i)(d:Ord bl.length od):∀i,i<=bl.length->∀u∈rD bl od i,TG u
 |0,_=>λu hu=>by cases hu
 |i+1,m=>λu hu=>by
  have h:=d.at (i:=i) (by omega);rcases Ys.1 hu with hu|hu
  .exact aby hi d i (by omega) u hu
  .rcases Ys.1 hu with hu|hu
   .obtain ⟨x,j,e⟩:=XN.1 hu;subst e;exact ak3 (hi _ (YM _ h.1 h.2) x j)
   .exact ak4 u hu
theorem ahQ(h:FO bl)(w:Ord bl.length od):f12 nm pa re bl od=zw (szF bl od:Int):=by
 apply ok_eq;unfold f12;refine bG _ (W9 h w) λy ⟨d,H,e⟩=>?_;subst e;have:=Rn.det H (Du h w);subst this;have hg:=ahJ h w;have J:=hg.1;have z:=NJ h w;generalize Aj bl od bl.length=fi at *;generalize yx bl od=d at *;have q:(sS fi d).length=d.length:=by simp[sS]
 refine bG (λy=>y=(yN d d.length:Int)) ?_ λy e=>aG (by rw[e,z]);refine bF (λs:Int×Int=>∃j:Nat,s=((yN d j:Int),(j:Int))/\j<=d.length) (λs=>d.length-s.2.toNat) ⟨0,rfl,by omega⟩ λs ⟨j,e,M⟩=>?_;subst e;simp only[q];refine dA (λm=>?_) λm=>aG ?_
 rotate_left
 .have m:¬ j<d.length:=by simpa using m
  have:j=d.length:=by omega
  subst this;rfl
 have m:j<d.length:=by simpa using m
 have B:(sS fi d).getD j yg=codeOf fi d j:=by rw[getD_at _ (by rw[q];exact m)];simp[sS]
 have K:=Hr hg (j+1);have L:=wM m;refine bK nZ ?_;simp only[Q4,B,w1 m (show d.length<=4000000000 by omega)];refine d_ (ahH (v:=(codeOf fi d j).value) (hg.at m)) (aG ⟨⟨j+1,?_,m⟩,?_⟩)
 .rw [aF (by omega),L];rfl
 .simp only[Q4];omega
end
def off(cs:List dQ)(k:Nat):Nat:=((cs.take k).map Dw).sum
def strm(cs:List dQ):List Int:=cs.flatMap gY
def SG(cs:List dQ):Prop :=∀c∈cs,VCc c/\Can c
variable{cs:List dQ}
theorem NK(h:k<cs.length):off cs (k+1)=off cs k+Dw cs[k]:=by unfold off;rw[take_snoc h,XX,vb];simp
theorem Xb(cs:List dQ):(strm cs).length=(cs.map Dw).sum:=by
 induction cs with
 |nil=>rfl
 |cons c cs d=>unfold strm at *;rw[Z6,XS,d,qO,Qf,JS]
theorem NM(cs:List dQ):off cs cs.length=(strm cs).length:=by rw[Xb];unfold off;rw[K7]
theorem TJ(h:k<cs.length):At (strm cs) (off cs k) (gY cs[k]):=by
 have e:cs=cs.take k++(cs[k]::cs.drop (k+1)):=by rw[<-KB h,K3]
 have d:strm cs=strm (cs.take k)++gY cs[k]++strm (cs.drop (k+1)):=by
  conv=>lhs;rw[e]
  unfold strm;rw[K1,Z6,W3]
 have j:off cs k=(strm (cs.take k)).length:=by rw[Xb];rfl
 rw[d,j];exact aoT _ _ _
theorem AY(c:dQ):1<=Dw c:=by unfold Dw szc;omega
theorem TL(h:k<cs.length):off cs k+Dw cs[k]<=(strm cs).length:=by
 have:=at_len (TJ h) (by rw[qO];exact AY _)
 rwa [qO]at this
theorem Y0(h:k<=cs.length):k<=off cs k:=by
 induction k with
 |zero=>omega
 |succ k d=>have:=d (by omega);rw[NK (by omega)];have:=AY cs[k];omega
section
variable {cs:List dQ} {p1 p2 p3:List Int} {p4 p5:Int} {p6:List aC} {p7:List eY}
theorem ahR(h:SG cs)(K:(strm cs).length<=1048576):f13 (strm cs) p1 p2 p3 p4 p5 p6 p7=zw ((List.range cs.length).map λk=>(off cs k:Int)):=by
 apply ok_eq;unfold f13;refine bG (λy=>y=(List.range cs.length).map λk=>(off cs k:Int)) ?_ λy e=>aG e;refine bF (λs:Int×List Int=>∃k:Nat,s=((off cs k:Int),(List.range k).map λk=>(off cs k:Int))/\k<=cs.length) (λs=>(strm cs).length-s.1.toNat) ⟨0,rfl,by omega⟩ λs ⟨k,e,q⟩=>?_;subst e;have w:=Y0 q;refine dA (λj=>?_) λj=>aG ?_
 .have j:off cs k<(strm cs).length:=by simpa using j
  have d:k<cs.length:=Nat.lt_of_le_of_ne q λe=>by rw[e,NM]at j;omega
  have m:=TL d;have z:=AY cs[k];obtain⟨B,H⟩:=h _ (X2 d);refine d_ (as2 B H (by omega) (TJ d)) (bW rfl (bK (by unfold aX;simp;omega) (aG ⟨⟨k+1,?_,d⟩,?_⟩)))
  .simp only;rw[aF (by omega),NK d,JN,XX];rfl
  .simp only;rw[aF (by omega)];omega
 .have j:¬ off cs k<(strm cs).length:=by simpa using j
  have:k=cs.length:=K8 λJ=>by have m:=TL (cs:=cs) (k:=k) (by omega);have z:=AY (cs[k]'(by omega));omega
  subst this;rfl
theorem ahS(h:SG cs)(K:(strm cs).length<=1048576):f22 (strm cs) p1 p2 p3 p4 p5 p6 p7=zw ((List.range cs.length).map λk=>(off cs k:Int)):=by
 apply ok_eq;unfold f22;refine iH (λy=>y=(List.range cs.length).map λk=>(off cs k:Int)) ?_ λy e=>aG e;refine bF (λs:Int×List Int=>∃k:Nat,s=((off cs k:Int),(List.range k).map λk=>(off cs k:Int))/\k<=cs.length) (λs=>(strm cs).length-s.1.toNat) ⟨0,rfl,by omega⟩ λs ⟨k,e,q⟩=>?_;subst e;have w:=Y0 q;refine dA (λj=>?_) λj=>aG ?_
 .have j:off cs k<(strm cs).length:=by simpa using j
  have d:k<cs.length:=Nat.lt_of_le_of_ne q λe=>by rw[e,NM]at j;omega
  have m:=TL d;have z:=AY cs[k];obtain⟨B,H⟩:=h _ (X2 d);refine d_ (as3 B H (by omega) (TJ d)) (bW rfl (bK (by unfold aX;simp;omega) (aG ⟨⟨k+1,?_,d⟩,?_⟩)))
  .simp only;rw[aF (by omega),NK d,JN,XX];rfl
  .simp only;rw[aF (by omega)];omega
 .have j:¬ off cs k<(strm cs).length:=by simpa using j
  have:k=cs.length:=K8 λJ=>by have m:=TL (cs:=cs) (k:=k) (by omega);have z:=AY (cs[k]'(by omega));omega
  subst this;show _=_;rfl
end
section
variable {g:List aC} {fs:List aS} {ca co:Int} {fo:List Int} {bo:List (List Int)}
theorem abz{m:List Int}{c:dQ}:∀{k:Nat},c∈cdT fs fo bo m k->∃j,j<k/\∃d∈T_ (qm fs fo j) (vC fo bo j),c=OG m d
 |0,h=>by cases h
 |k+1,h=>by
  rcases Ys.1 h with h|h
  .obtain ⟨j,w,r⟩:=abz h;exact⟨j,by omega,r⟩
  .obtain ⟨d,q,e⟩:=XN.1 h;exact⟨k,by omega,d,q,e.symm⟩
def CN(fs:List aS):Prop :=∀i,i<fs.length->∀od,Ord (fs.getD i ah).blocks.length od->∀u∈yx (fs.getD i ah).blocks od,TG u
theorem RtP.cn(sg:RtP g h a fs):CN fs:=λi d od j=>by have m:Rt g h a (fs.getD i ah):=sg.rt _ (by rw[getD_at _ d];exact X2 _);exact(Du (sg.lp.fo i d) j).all (λu sg=>sg) (aby m.ins j _ (YY _))
theorem NP(N:EN fs fo bo l)(h:LP g fs)(J:CN fs)(y:LO fs fo bo)(T:c∈cdT fs fo bo l fs.length):
  VCc c/\Can c/\(c.op=11->∃v:Int,(0<=v/\v<fs.length)/\c.value=l.getD v.toNat 0/\(fs.getD v.toNat ah).params=c.args.length):=by
 obtain⟨k,z,K,H,e⟩:=abz T;obtain⟨q1,_,q3⟩:=ahO N h y z H;subst e;refine⟨q1,?_,λm=>⟨K.value,(q3 m).1,QQ m,(q3 m).2⟩⟩;obtain⟨j,L,e⟩:=Wz H;have q:j<(yx (qm fs fo k) (vC fo bo k)).length:=by rw[vg]at L;exact L
 have U:=y.at z;have hu:=J (fo.getD k 0).toNat (by omega) _ (y.blk z) _ (X2 q);have hg:=(ahJ (h.fok y z) (y.blk z)).at q;have M:=ahK q;rw[getD_at _ L,e]at M;rw[getD_at _ q]at hg;have d:=hu (OG l K).value K.wide;rw[M]at d ⊢;unfold codeOf OG at d ⊢;simp only[getD_at aT q]at d ⊢;refine d hg.c.w ?_;split
 .rename_i m;exact .inr (.inl m)
 .split
  .rename_i H;exact .inr (.inr (hg.j.1 H))
  .exact .inl rfl
theorem abA{α β:Type}{f g:α->List β}:∀{l:List α},(∀x∈l,f x=g x)->l.flatMap f=l.flatMap g
 | [],_=>rfl
 |x::l,h=>by rw[Z6,Z6,h x Kc,abA λy d=>h y (V1 _ d)]
theorem ak5(w:EN fs fo bo l)(h:LP g fs)(j:CN fs)(y:LO fs fo bo):byT l fs fo bo fs.length=strm (cdT fs fo bo l fs.length):=by refine abA λc z=>?_;have m:=(NP w h j y z).1;have q:=(ahN m).1;rw[ahv m]at q;exact(Prod.mk.inj (Wt q)).2.symm
end
theorem atb{od:List Int}{re:Int}(h:FO bl)(d:Ord bl.length od):f34 nm pa re bl od=zw (0,T_ bl od,(List.range bl.length).map λi=>(Af bl od i:Int)):=by refine ok_eq (lC (W9 h d) λy ⟨m,j,e⟩=>?_);rw[e,Rn.det j (Du h d)];rfl
section
variable {g:List aC} {fs:List aS} {ca co:Int} {fo:List Int} {bo:List (List Int)}
theorem ahT(h:LP g fs)(q:LO fs fo bo):f72 g fs ca co fo bo=zw 0:=by
 apply ok_eq;have hn:=h.n;have w:=q.ahM;have z:=q.len;unfold f72;refine bG (λy=>y=zv) (bW (by simp[w]) (aG (by simp[z]))) λy e=>?_;subst e;refine bW rfl (bK (o7.2 (by omega)) (iH (λ_=>True) ?_ λ_ _=>iH (λ_=>True) (iK fs.length (λ_=>True) (by omega) (λi B _=>?_) λ_=>bW m_ (aG trivial)) λ_ _=>aG rfl))
 .refine bF (λs:Int×List Bool=>∃k:Nat,s.1=k/\k<=fs.length/\s.2.length=fs.length/\∀x:Int,s.2.getD x.toNat zv=zj->∃j,j<k/\(fo.getD j 0).toNat=x.toNat) (λs=>fs.length-s.1.toNat) ⟨0,rfl,by omega,by simp,λx d=>?_⟩ λ⟨U,b⟩ ⟨k,e,X,J,H⟩=>?_
  .simp only[Q4]at d;rw[Q1,vB]at d;split at d<;>simp at d
  simp only at e J H;subst e;refine dA (λm=>?_) λm=>aG trivial;have m:k<fs.length:=by simpa using m
  have Y:=q.at m;refine bK (aQ.2 (by simp only;omega)) ?_;simp only[Q4];refine bG (λy=>y=zv) (bW m_ (bW m_ (bK nZ (aG ?_)))) λy e=>?_
  .cases M:b.getD (fo.getD k 0).toNat zv with
   |false=>rfl
   |true=>obtain⟨j,N,e⟩:=H _ M;have:=q.inj (i:=j) (j:=k) (by omega) m e;omega
  subst e;refine bW rfl (bK nZ (aG ⟨⟨k+1,?_,m,by simp only;rw[UI];exact J,λx d=>?_⟩,?_⟩))
  .simp only[aF (x:=(k:Int)+1) (by omega)];rfl
  .simp only at d;rw[iM (by omega)]at d;split at d
   .rename_i e;exact⟨k,by omega,e.symm⟩
   .obtain ⟨j,N,e⟩:=H x d;exact⟨j,by omega,e⟩
  .simp only[aF (x:=(k:Int)+1) (by omega)];omega
 .refine goT GX (bK nZ (bK nZ ?_));simp only[Q4];have K:=q.od i B;have L:=(h.fo i B).len.2;refine bG _ (Qp (h.fo i B).len.1 (by rw[K.len];omega)) λy T=>bW (by rw[T.2 K];rfl) (aG ⟨rfl,trivial⟩)
theorem ao9(h:LP g fs)(w:LO fs fo bo):Ok (f41 g fs ca co fo bo) λy=>∃H,EN fs fo bo H/\y.2.2.2.1=byT H fs fo bo fs.length/\y.2.2.2.2.2.2.2.2=plT fs fo bo fs.length:=by
 have hn:=h.n;have hfl:=w.ahM;have hbl:=w.len;have hE:=λk hk=>ak2 h w k hk;have hgl:=h.gl;unfold f41;refine d_ (ahT h w) (bW rfl (bK (o7.2 (by omega)) (bK (by unfold aX;simp;omega) ?_)));refine bG (λy=>y.1=E fs fo bo fs.length/\EN fs fo bo y.2) ?_ λ⟨sz,H⟩ ⟨e,M⟩=>?_
 .refine bF (λs:Int×Int×List Int=>∃k:Nat,s.1=E fs fo bo k/\s.2.1=k/\k<=fs.length/\s.2.2.length=fs.length/\∀j,j<k->s.2.2.getD (fo.getD j 0).toNat 0=(E fs fo bo j:Int)) (λs=>fs.length-s.2.1.toNat) ⟨0,rfl,rfl,by omega,by simp,λj hj=>absurd hj (Kf _)⟩ λ⟨z,k',H⟩ ⟨k,J,L,hk,e3,e4⟩=>?_;simp only at J L e3 e4;subst J;subst L;refine dA (λd=>?_) λd=>?_
  rotate_left
  .have d:¬ k<fs.length:=by simpa using d
   have:k=fs.length:=by omega
   subst this;exact aG ⟨rfl,e3,e4⟩
  have d:k<fs.length:=by simpa using d
  have ha:=w.at d;have hs:=ahQ (nm:=(fs.getD (fo.getD k 0).toNat ah).name) (pa:=(fs.getD (fo.getD k 0).toNat ah).params) (re:=(fs.getD (fo.getD k 0).toNat ah).regs) (h.fok w d) (w.blk d);have hk1:=hE (k+1) d;have hEs:E fs fo bo (k+1)=E fs fo bo k+szF (qm fs fo k) (vC fo bo k):=rfl;refine bK (aQ.2 (by simp only;omega)) ?_;simp only[Q4];refine bK nZ (bK nZ (bK nZ (d_ hs (aG ⟨⟨k+1,?_,?_,d,?_,λj hj=>?_⟩,?_⟩))))
  .simp only;rw[aF (by omega),hEs];rfl
  .simp only[aF (x:=(k:Int)+1) (by omega)];rfl
  .simp only;rw[UI];exact e3
  .simp only;rw[iM (by omega)];split
   .rename_i e;have:=w.inj (i:=j) (j:=k) (by omega) d e;subst this;rfl
   .rename_i e;refine e4 j (Nat.lt_of_le_of_ne (by omega) λL=>e ?_);rw[L]
  .simp only[aF (x:=(k:Int)+1) (by omega)];omega
 simp only at e M;subst e;have hEn:=hE fs.length (YY _);refine bW (ZS (by simp only;omega)) ?_;refine bG (λy=>y.2.2.1=byT H fs fo bo fs.length/\y.2.2.2=plT fs fo bo fs.length) ?_ λy ⟨y1,y2⟩=>bG (λ_=>True) ?_ λz _=>aG ⟨H,M,y1,y2⟩
 rotate_left
 .refine bF (λs:Int×Int×Int×List Int×List Int=>∃i:Nat,s.1=i/\i<=fs.length/\s.2.2.2.1.length=i/\s.2.2.2.2.length=i) (λs=>fs.length-s.1.toNat) ⟨0,rfl,by omega,rfl,rfl⟩ λ⟨i',a,b,l,r⟩ ⟨i,e,hi,J,L⟩=>?_;simp only at e J L;subst e;refine dA (λd=>?_) λd=>aG trivial;have d:i<fs.length:=by simpa using d
  refine bK (aQ.2 (by simp only;omega)) (bK (by unfold aX;simp;omega) (bK (aQ.2 (by simp only;omega)) (bK (by unfold aX;simp;omega) (aG ⟨⟨i+1,?_,by omega,?_,?_⟩,?_⟩))))
  .simp only[aF (x:=(i:Int)+1) (by omega)];rfl
  .simp [J]
  .simp [L]
  .simp only[aF (x:=(i:Int)+1) (by omega)];omega
 refine bF (λs:Int×Int×Int×List Int×List eY=>∃k:Nat,s.1=k/\k<=fs.length/\s.2.2.2.1=byT H fs fo bo k/\s.2.2.2.2=plT fs fo bo k) (λs=>fs.length-s.1.toNat) ⟨0,rfl,by omega,rfl,rfl⟩ λ⟨k',a,b,code,iO⟩ ⟨k,e,hk,J,L⟩=>?_;simp only at e J L;subst e;subst J;subst L;refine dA (λd=>?_) λd=>?_
 rotate_left
 .have d:¬ k<fs.length:=by simpa using d
  have:k=fs.length:=by omega
  subst this;exact aG ⟨rfl,rfl⟩
 have d:k<fs.length:=by simpa using d
 have ha:=w.at d;have Z:=h.fok w d;have hO:=w.blk d;have hs:=atb (nm:=(fs.getD (fo.getD k 0).toNat ah).name) (pa:=(fs.getD (fo.getD k 0).toNat ah).params) (re:=(fs.getD (fo.getD k 0).toNat ah).regs) Z hO;have hz:=ahQ (nm:=(fs.getD (fo.getD k 0).toNat ah).name) (pa:=(fs.getD (fo.getD k 0).toNat ah).params) (re:=(fs.getD (fo.getD k 0).toNat ah).regs) Z hO;have axX:=YZ M h w k (by omega);have hE1:E fs fo bo k+szF (qm fs fo k) (vC fo bo k)<=921600:=by have:=hE (k+1) d;have:E fs fo bo (k+1)=E fs fo bo k+szF (qm fs fo k) (vC fo bo k):=rfl;omega
 have hol:=hO.len;have hFl:=Z.len;have N:=M.ats k d;have hel:=M.len;refine bK (aQ.2 (by simp only;omega)) ?_;simp only[Q4];refine bK nZ (bK nZ (d_ hs ?_));simp only;refine bG (λy=>y.2.2=byT H fs fo bo (k+1)) ?_ λ⟨z1,z2,z3⟩ e=>?_
 .refine bF (λs:Int×Int×Int×List Int=>∃j:Nat,s.1=j/\j<=(yx (qm fs fo k) (vC fo bo k)).length/\s.2.2.2=byT H fs fo bo k++(((T_ (qm fs fo k) (vC fo bo k)).take j).map (OG H)).flatMap OH) (λs=>(yx (qm fs fo k) (vC fo bo k)).length-s.1.toNat) ⟨0,rfl,by omega,by simp⟩ λ⟨j',a,b,code⟩ ⟨j,e,hj,J⟩=>?_;simp only at e J;subst e;subst J;simp only[vg];refine dA (λB=>?_) λB=>?_
  rotate_left
  .have B:¬ j<(yx (qm fs fo k) (vC fo bo k)).length:=by simpa using B
   refine aG (show byT H fs fo bo k++(((T_ (qm fs fo k) (vC fo bo k)).take j).map (OG H)).flatMap OH=byT H fs fo bo (k+1) from ?_);rw[WN (by rw[vg];omega)];unfold byT;show _=(_++_:List dQ).flatMap OH;rw[K1]
  have B:j<(yx (qm fs fo k) (vC fo bo k)).length:=by simpa using B
  have T:j<(T_ (qm fs fo k) (vC fo bo k)).length:=by rw[vg];exact B
  have hbt:=J6 M h w d j (by omega);have hu4:=ams Z hO;have atc:=J6 M h w d (j+1) B;have hat:yN (yx (qm fs fo k) (vC fo bo k)) (j+1)<=szF (qm fs fo k) (vC fo bo k):=by rw[<-NJ Z hO];exact WW _ (by omega)
  obtain⟨c,U⟩ :∃c,(T_ (qm fs fo k) (vC fo bo k)).getD j yg=c:=⟨_,rfl⟩;have hcm:c∈T_ (qm fs fo k) (vC fo bo k):=by rw[<-U,getD_at _ T];exact X2 _
  have hct:(T_ (qm fs fo k) (vC fo bo k)).take (j+1)=(T_ (qm fs fo k) (vC fo bo k)).take j++[c]:=by rw[take_snoc T,<-U,getD_at _ T]
  obtain⟨q1,q2,q3⟩:=ahO M h w d hcm;have w0:=(ahN q1).1;rw[ahv q1]at w0;have w1:=ahx q1;rw[(Prod.mk.inj (Wt w0)).2]at w1;rw[hct,XX,K1,XS]at atc;simp only[Qf,Vc,Z6,List.flatMap_nil,K6]at atc;refine bK nZ ?_;simp only[Q4,U];refine bG (λy=>y=(c.op,c.arith,c.dst,c.a,c.b,(if c.op=11 then H.getD c.value.toNat 0 else c.value),c.wide,c.args)) (dA (λm=>?_) λm=>aG ?_) λy e=>?_
  .have m:c.op=11:=by simpa using m
   have:=(q3 m).1;rw[QQ m];exact bK nZ (aG rfl)
  .have m:¬ c.op=11:=by simpa using m
   rw[Qt m]
  subst e;refine d_ w1 (bK (by unfold aX;simp only[XS,hbt,axX];simp;omega) (aG ⟨⟨j+1,?_,by omega,?_⟩,?_⟩))
  .simp only[aF (x:=(j:Int)+1) (by omega)];rfl
  .simp only;rw[hct,XX,K1,W3];simp
  .simp only[aF (x:=(j:Int)+1) (by omega)];omega
 simp only at e;subst e;obtain⟨st,X⟩ :∃st:List Int,((List.range (qm fs fo k).length).map λi=>(Af (qm fs fo k) (vC fo bo k) i:Int))=st:=⟨_,rfl⟩;have azX:st.length=(qm fs fo k).length:=by rw[<-X];simp
 have atd :∀b,b<(qm fs fo k).length->st.getD b 0=(Af (qm fs fo k) (vC fo bo k) b:Int):=λb hb=>by rw[getD_at _ (by omega)];simp[<-X]
 simp only[X];have hpl:=TF h w k (by omega);obtain⟨q,hq⟩ :∃q:Nat,fo.getD k 0=q:=⟨(fo.getD k 0).toNat,by omega⟩;have hod:bo.getD q eInt=vC fo bo k:=by unfold vC;rw[hq];rfl
 have axY:plT fs fo bo (k+1)=plT fs fo bo k++plF q (qm fs fo k) (vC fo bo k) (E fs fo bo k) (qm fs fo k).length:=by show _++plF (fo.getD k 0).toNat _ _ _ _=_;rw[hq];rfl
 rw[hq]at hz N;have hz':f12 (fs.getD q ah).name (fs.getD q ah).params (fs.getD q ah).regs (fs.getD q ah).blocks (vC fo bo k)=zw (szF (qm fs fo k) (vC fo bo k):Int):=by
  have hb:(fs.getD q ah).blocks=qm fs fo k:=by unfold qm;rw[hq];rfl
  rw[hb];exact hz
 simp only[Q4]at N;simp only[hq,Q4,hod];have hqf:q<fs.length:=by omega
 refine bG (λy=>y.2.2=plT fs fo bo (k+1)) ?_ λ⟨y1,y2,y3⟩ e=>?_
 .refine bF (λs:Int×Int×Int×List eY=>∃b:Nat,s.1=b/\b<=(qm fs fo k).length/\s.2.2.2=plT fs fo bo k++plF q (qm fs fo k) (vC fo bo k) (E fs fo bo k) b) (λs=>(qm fs fo k).length-s.1.toNat) ⟨0,rfl,by omega,by simp[plF]⟩ λ⟨b',a1,a2,ps⟩ ⟨b,e,hb,J⟩=>?_;simp only at e J;subst e;subst J;simp only[hol];refine dA (λK=>?_) λK=>?_
  rotate_left
  .have K:¬ b<(qm fs fo k).length:=by simpa using K
   have:b=(qm fs fo k).length:=by omega
   subst this;exact aG axY.symm
  have K:b<(qm fs fo k).length:=by simpa using K
  have hA1:Af (qm fs fo k) (vC fo bo k) (b+1)<=szF (qm fs fo k) (vC fo bo k):=TD (by omega);have hA0:Af (qm fs fo k) (vC fo bo k) b<=Af (qm fs fo k) (vC fo bo k) (b+1):=TD (by omega);have hw:bP ((b:Int)+1)=(b+1:Nat):=(aF (by omega)).trans rfl;simp only[hw];refine bK nZ (d_ hz' (bG (λy=>y=(Af (qm fs fo k) (vC fo bo k) (b+1):Int)) (dA (λY=>?_) λY=>aG ?_) λy e=>?_))
  .have Y:b+1<(qm fs fo k).length:=by have:=Zs Y;omega
   exact bK nZ (aG (atd _ Y))
  .have Y:¬ b+1<(qm fs fo k).length:=by have:=ZD Y;omega
   have:b+1=(qm fs fo k).length:=by omega
   rw[this];rfl
  subst e;refine bK nZ (bK nZ (bK nZ (bK nZ (bK ?_ (aG ⟨⟨b+1,rfl,by omega,?_⟩,?_⟩)))))
  .unfold aX;simp[abx];omega
  .simp only[Q4];rw[atd b K,N,aF (by omega),aF (by omega),W3];congr 1;unfold plF;rw[JN,XX];simp only[Qf,Vc];rw[Int.natCast_sub hA0];rfl
  .simp only;omega
 simp only at e;subst e;refine aG ⟨⟨k+1,?_,d,rfl,rfl⟩,?_⟩
 .simp only[aF (x:=(k:Int)+1) (by omega)];rfl
 .simp only[aF (x:=(k:Int)+1) (by omega)];omega
end
def Xf(iO:List eY)(p:eY->Bool):Int×Int×Int×Int×Bool:=
 match iO.find? p with
 |some x=>(x.func,x.block,x.address,x.size,zj)
 |none=>(0,0,0,0,zv)
theorem Fe{iO:List eY}{p:eY->Bool}(hi:i<iO.length)(d:p (iO.getD i aZ)=zj)(h :∀j,j<i->p (iO.getD j aZ)=zv):
  Xf iO p=((iO.getD i aZ).func,(iO.getD i aZ).block,(iO.getD i aZ).address,(iO.getD i aZ).size,zj):=by
 have:iO.find? p=zw (iO.getD i aZ):=by rw[List.find?_eq_some_iff_getElem];refine⟨d,i,hi,(getD_at _ hi).symm,λj m=>?_⟩;have:=h j m;rw[getD_at _ (by omega)]at this;rw[this];rfl
 unfold Xf;rw[this]
theorem Fh{iO:List eY}{p:eY->Bool}(h :∀j,j<iO.length->p (iO.getD j aZ)=zv):Xf iO p=(0,0,0,0,zv):=by
 have:iO.find? p=zz:=by rw[vr];intro x m;obtain⟨i,d,e⟩:=Wz m;have:=h i d;rw[getD_at _ d,e]at this;rw[this];simp
 unfold Xf;rw[this]
structure PGo(iO:List eY):Prop where
 len:iO.length<=1000000
 cont:Cont 0 iO ((iO.map eY.size).sum)
 le:(iO.map eY.size).sum<=1048576
theorem Cont.sum:∀{l:List eY} {a b:Int},Cont a l b->b=a+(l.map eY.size).sum
 | [],a,b,h=>by cases h;simp
 |x::l,a,b,⟨_,_,d⟩=>by have:=d.sum;simp only[Qf,JS];omega
theorem Cont.ats:∀{l:List eY} {a b:Int},Cont a l b->∀{i:Nat},i<l.length->(a<=(l.getD i aZ).address/\0<=(l.getD i aZ).size/\(l.getD i aZ).address+(l.getD i aZ).size<=b)/\(i=0->(l.getD i aZ).address=a)/\(i+1<l.length->(l.getD (i+1) aZ).address=(l.getD i aZ).address+(l.getD i aZ).size)
 | [],a,b,_,i,d=>absurd d (Kf _)
 |x::l,a,b,⟨q,w,j⟩,0,d=>by
  have:=j.le;refine⟨⟨?_,w,?_⟩,λ_=>q,λm=>?_⟩
  .show a<=x.address;omega
  .show x.address+x.size<=b;omega
  .have:=(j.ats (i:=0) (by simpa using m)).2.1 rfl;show (l.getD 0 aZ).address=x.address+x.size;omega
 |x::l,a,b,⟨q,w,j⟩,i+1,d=>by obtain⟨q1,q2,q3⟩:=j.ats (i:=i) (by simpa using d);refine⟨⟨?_,q1.2⟩,λh=>by simp at h,λm=>q3 (by simpa using m)⟩;show a<=(l.getD i aZ).address;omega
section
variable {p0 p1 p2 p3:List Int} {p4 p5:Int} {p6:List aC} {iO:List eY} {f b a:Int}
theorem abB(z:iO.length<=1000000):f11 p0 p1 p2 p3 p4 p5 p6 iO f b=zw (Xf iO λx=>decide (x.func=f)&&decide (x.block=b)):=by apply ok_eq;unfold f11;refine iH (λ_=>Xf iO (λx=>decide (x.func=f)&&decide (x.block=b))=(0,0,0,0,zv)) (iK iO.length (λi=>(decide ((iO.getD i aZ).func=f)&&decide ((iO.getD i aZ).block=b))=zv) (by omega) (λi q w=>?_) λd=>bW m_ (aG (Fh d))) λ_ h=>aG h.symm;refine goT GX (bK nZ ?_);simp only[Q4];refine bG (λy=>y=(decide ((iO.getD i aZ).func=f)&&decide ((iO.getD i aZ).block=b))) (dA (λj=>aG (by rw[j];rfl)) λj=>aG (by rw[j];rfl)) λy m=>dA (λh=>aG ?_) λh=>aG ⟨rfl,by rw[<-m];exact h⟩;exact(Fe (p:=λx=>decide (x.func=f)&&decide (x.block=b)) q (by rw[<-m];exact h) w).symm
theorem abC(B:iO.length<=1000000):f20 p0 p1 p2 p3 p4 p5 p6 iO f b=zw (Xf iO λx=>decide (x.func=f)&&decide (x.block=b)):=by apply ok_eq;unfold f20;refine iH (λ_=>Xf iO (λx=>decide (x.func=f)&&decide (x.block=b))=(0,0,0,0,zv)) (iK iO.length (λi=>(decide ((iO.getD i aZ).func=f)&&decide ((iO.getD i aZ).block=b))=zv) (by omega) (λi w z=>?_) λj=>bW m_ (aG (Fh j))) λ_ h=>aG h.symm;have d:=aQ.2 (show 0<=(i:Int)/\(i:Int)<iO.length by omega);refine goT GX ?_;simp only[Q4];refine bG (λy=>y=(decide ((iO.getD i aZ).func=f)&&decide ((iO.getD i aZ).block=b))) (bK d (dA (λm=>bK d (aG (by rw[m];rfl))) λm=>aG (by rw[m];rfl))) λy q=>dA (λh=>bK d (aG ?_)) λh=>aG ⟨rfl,by rw[<-q];exact h⟩;exact(Fe (p:=λx=>decide (x.func=f)&&decide (x.block=b)) w (by rw[<-q];exact h) z).symm
theorem Y1(h:PGo iO):f17 p0 p1 p2 p3 p4 p5 p6 iO a=zw (Xf iO λx=>decide (x.address<=a)&&decide (a<x.address+x.size)):=by
 apply ok_eq;have H:=h.len;have w:=h.le;unfold f17;refine iH (λ_=>Xf iO (λx=>decide (x.address<=a)&&decide (a<x.address+x.size))=(0,0,0,0,zv)) (iK iO.length (λi=>(decide ((iO.getD i aZ).address<=a)&&decide (a<(iO.getD i aZ).address+(iO.getD i aZ).size))=zv) (by omega) (λi m z=>?_) λd=>bW m_ (aG (Fh d))) λ_ h=>aG h.symm;have J:=(h.cont.ats m).1;refine goT GX (bK nZ ?_);simp only[Q4];have B:bP ((iO.getD i aZ).address+(iO.getD i aZ).size)=(iO.getD i aZ).address+(iO.getD i aZ).size:=aF (by omega);refine bG (λy=>y=(decide ((iO.getD i aZ).address<=a)&&decide (a<(iO.getD i aZ).address+(iO.getD i aZ).size))) (dA (λj=>aG ((decide_eq_decide.2 (by rw[B])).trans (by rw[j];rfl))) λj=>aG (by rw[j];rfl)) λy q=>dA (λh=>aG ?_) λh=>aG ⟨rfl,by rw[<-q];exact h⟩;exact(Fe (p:=λx=>decide (x.address<=a)&&decide (a<x.address+x.size)) m (by rw[<-q];exact h) z).symm
theorem adP(h:PGo iO):Ok (f42 (iO.length:Int) p0 p1 p2 p3 p4 p5 p6 iO a) λy=>∃i:Nat,y=((i:Int),p0,p1,p2,p3,p4,p5,p6,iO,a)/\i<=iO.length/\(∀j,j<i->(iO.getD j aZ).address+(iO.getD j aZ).size<=a)/\(i<iO.length->a<(iO.getD i aZ).address+(iO.getD i aZ).size):=by
 have hl:=h.len;have U:=h.le;unfold f42;refine bG _ ?_ λy X=>aG X;refine bF (λs:Int×Int×List Int×List Int×List Int×List Int×Int×Int×List aC×List eY×Int=>∃i j:Nat,s=((i:Int),(j:Int),p0,p1,p2,p3,p4,p5,p6,iO,a)/\i<=j/\j<=iO.length/\(∀k,k<i->(iO.getD k aZ).address+(iO.getD k aZ).size<=a)/\(j<iO.length->a<(iO.getD j aZ).address+(iO.getD j aZ).size)) (λs=>(s.2.1-s.1).toNat) ⟨0,iO.length,rfl,by omega,YY _,λk H=>absurd H (Kf _),λh=>absurd h (KV _)⟩ λs ⟨i,j,e,h1,L,M,N⟩=>?_;subst e;refine dA (λB=>?_) λB=>?_
 rotate_left
 .have B:¬ i<j:=by simpa using B
  have:i=j:=by omega
  subst this;exact aG ⟨i,rfl,L,M,N⟩
 have B:i<j:=by simpa using B
 have T:bP (Int.fdiv (Go.IntKind.wrap .u64 (bP ((i:Int)+(j:Int)))) ((2:Int) ^ (min (Int.toNat (1:Int)) (64:Nat))))=(((i+j)/2:Nat):Int):=by rw[aF (x:=(i:Int)+j) (by omega),wrap_u64];have Y:((2:Int) ^ (min (Int.toNat (1:Int)) (64:Nat)))=2:=rfl;rw[Y,Int.fdiv_eq_ediv_of_nonneg _ (by omega),aF (by omega)];omega
 obtain⟨m,J⟩ :∃m:Nat,(i+j)/2=m:=⟨_,rfl⟩;rw[J]at T;simp only[T];have K:m<iO.length:=by omega
 have Z:=(h.cont.ats K).1;refine d_ (y:=(decide (a<(iO.getD m aZ).address+(iO.getD m aZ).size),p0,p1,p2,p3,p4,p5,p6,iO,a)) ?_ ?_
 .apply ok_eq;unfold f43;refine bK nZ (bK nZ (aG ?_));rw[Q4,aF (by omega)]
 refine bG (λy=>∃w q:Nat,y=((w:Int),(q:Int))/\w<=q/\q<=iO.length/\(∀k,k<w->(iO.getD k aZ).address+(iO.getD k aZ).size<=a)/\(q<iO.length->a<(iO.getD q aZ).address+(iO.getD q aZ).size)/\q-w<j-i) (dA (λz=>aG ?_) λz=>aG ?_) λy ⟨w,q,e,g1,g2,g3,g4,g5⟩=>?_
 .have z:¬ a<(iO.getD m aZ).address+(iO.getD m aZ).size:=by simpa using z
  refine⟨m+1,j,by rw[aF (by omega)];rfl,by omega,L,λk H=>?_,N,by omega⟩;have key :∀d k,k+d=m->(iO.getD k aZ).address+(iO.getD k aZ).size<=(iO.getD m aZ).address+(iO.getD m aZ).size:=λd=>by
   induction d with
   |zero=>
    intro k H;have:k=m:=by omega
    subst this;exact Vn _
   |succ d ih=>intro k H;have:=ih (k+1) (by omega);have q1:=(h.cont.ats (i:=k) (by omega)).2.2 (by omega);have q2:=(h.cont.ats (i:=k+1) (by omega)).1;omega
  have:=key (m-k) k (by omega);omega
 .have z:a<(iO.getD m aZ).address+(iO.getD m aZ).size:=by simpa using z
  exact⟨i,m,rfl,by omega,by omega,M,λ_=>z,by omega⟩
 .subst e;refine aG ⟨⟨w,q,rfl,g1,g2,g3,g4⟩,?_⟩;simp only;omega
theorem Y2(h:PGo iO):f16 p0 p1 p2 p3 p4 p5 p6 iO a=zw (Xf iO λx=>decide (x.address<=a)&&decide (a<x.address+x.size)):=by
 apply ok_eq;have N:=h.len;have J:=h.le;unfold f16;refine bG _ (adP h) λy ⟨i,e,T,K,L⟩=>?_;subst e;have z :∀j,j<i->(λx:eY=>decide (x.address<=a)&&decide (a<x.address+x.size)) (iO.getD j aZ)=zv:=λj H=>by have:=K j H;simp only[Bool.and_eq_false_iff,decide_eq_false_iff_not];omega
 have q:(i<iO.length->a<(iO.getD i aZ).address)->Xf iO (λx=>decide (x.address<=a)&&decide (a<x.address+x.size))=(0,0,0,0,zv):=λw=>by
  refine Fh λj H=>?_;by_cases B:j<i
  .exact z j B
  have key :∀d,i+d<iO.length->a<(iO.getD (i+d) aZ).address:=λd=>by
   induction d with
   |zero=>exact w
   |succ d M=>intro hd;have:=M (by omega);have q1:=(h.cont.ats (i:=i+d) (by omega)).2.2 (by omega);have q2:=(h.cont.ats (i:=i+d) (by omega)).1;rw[show i+(d+1)=i+d+1 by omega];omega
  have:=key (j-i) (by omega);rw[show i+(j-i)=j by omega]at this;simp only[Bool.and_eq_false_iff,decide_eq_false_iff_not];omega
 refine bG (λy=>y=decide (i<iO.length->a<(iO.getD i aZ).address)) (dA (λm=>aG ?_) λm=>?_) λy e=>?_
 .have m:i=iO.length:=by have:=Zs m;simp only at this;omega
  exact(W5 λw=>by omega).symm
 .have m:i<iO.length:=by have:=ZD m;simp only at this;omega
  refine bK (aQ.2 (by simp only;omega)) (aG ?_);exact decide_eq_decide.2 ⟨λh _=>h,λh=>h m⟩
 subst e;refine dA (λm=>aG (q (Zs m)).symm) λm=>?_;have m:=ZD m;have w:i<iO.length:=K8 λhn=>m λw=>absurd w hn;have U:(iO.getD i aZ).address<=a:=by refine K8 λhn=>m λ_=>?_;omega
 refine bK (aQ.2 (by simp only;omega)) (aG ?_);have:=L w;exact(Fe w (by simp only[QR,Wa];omega) z).symm
end
theorem adQ(h:l.length<=4000000):f21 l l=zw zj:=by apply ok_eq;unfold f21;exact bW (by simp) (iH (λ_=>True) (iK l.length (λ_=>True) (by omega) (λi d _=>goT GX (bK nZ (bK nZ (bW (by simp) (aG ⟨rfl,trivial⟩))))) λ_=>bW m_ (aG trivial)) λ_ _=>aG rfl)
theorem ahU(B:Bytes l)(hi:0<=a):Ok (f15 l a) λy=>(∃cs,SG cs/\(strm cs).length<=1048576/\y.2.2.2.2.1=strm cs)/\PGo y.2.2.2.2.2.2.2.2.2.2.2.1/\y.2.1.length<=5/\∀k,k<y.2.1.length->(y.2.1.getD k ah).blocks.length<=256:=by
 unfold f15;refine bG _ (akQ B hi) λ⟨fs,ca,co,l',i',g⟩ ⟨⟨sg,z⟩,_,H,J⟩=>?_;simp only at z H J;subst H;have h:=z.lp;have j:=z.cn;refine bG _ (adO B J h) λ⟨w1,w2,fo,bo⟩ ⟨_,_,d⟩=>?_;simp only at d ⊢;refine bG _ (ao9 h d) λ⟨z1,z2,z3,code,T,z6,z7,z8,iO⟩ ⟨U,w,K,L⟩=>aG ?_;simp only at K L;subst K;subst L;have hn:=h.n;have X:=YZ w h d _ (YY _);have Y:=ak2 h d _ (YY _);have m:=ak5 w h j d;have q:=Xa fs fo bo fs.length;have Z:=TF h d _ (YY _);have M:=q.sum;refine⟨⟨cdT fs fo bo U fs.length,λc N=>⟨(NP w h j d N).1,(NP w h j d N).2.1⟩,by rw[<-m];omega,m⟩,⟨by simp only;omega,?_,by simp only;omega⟩,hn.2,λk hk=>(h.fo k hk).len.2⟩;have:(((plT fs fo bo fs.length).map eY.size).sum)=(E fs fo bo fs.length:Int):=by omega
 simp only;rw[this];exact q
theorem ak6:f6=zw zj:=by kernel_rfl
theorem ahV{k:Int}(Y:Bytes l):f5 l a t k=zw zj:=by
 apply ok_eq;unfold f5;refine d_ ak6 (bW rfl (bG _ (aoJ Y (by omega)) λ⟨c,i⟩ ⟨e,H⟩=>?_));simp only at e;subst e;refine bG _ (ahU H (Vn _)) λ⟨g,fs,ca,co,code,M,N,T,U,X,m,iO,Z,y13⟩ ⟨⟨cs,q,w,e⟩,j,hn,z⟩=>?_;simp only at e j hn z;subst e;have d:=j.len;have B:=Y0 (cs:=cs) (YY _);rw[NM]at B;have same :∀x:Int×Int×Int×Int×Bool,(!((decide (x.1=x.1))&&((decide (x.2.1=x.2.1))&&((decide (x.2.2.1=x.2.2.1))&&((decide (x.2.2.2.1=x.2.2.2.1))&&zj)))))=zv:=λx=>by simp
 have J :∀a:Int,f18 (strm cs) M N T U X m iO a=zw ((Xf iO λx=>decide (x.address<=a)&&decide (a<x.address+x.size)).1,(Xf iO λx=>decide (x.address<=a)&&decide (a<x.address+x.size)).2.2.2.2):=λa=>by apply ok_eq;unfold f18;exact d_ (Y2 j) (aG rfl)
 have K :∀a:Int,f19 (strm cs) M N T U X m iO a=zw ((Xf iO λx=>decide (x.address<=a)&&decide (a<x.address+x.size)).1,(Xf iO λx=>decide (x.address<=a)&&decide (a<x.address+x.size)).2.2.2.2):=λa=>by apply ok_eq;unfold f19;exact d_ (Y1 j) (aG rfl)
 refine iH (λ_=>True) ?_ λ_ _=>?_
 .refine bF (λs:Int=>-1<=s/\s<=400) (λs=>(400-s).toNat) ⟨by omega,by omega⟩ λs ⟨h1,h2⟩=>?_;refine bG (λy=>y=zj->s<400) (dA (λ_=>aG λh=>Zs h) λ_=>aG λh=>by cases h) λy hy=>dA (λh=>?_) λ_=>aG trivial;have hs:=hy h;refine d_ (Y2 j) (d_ (Y1 j) (d_ (J _) (d_ (K _) (bG (λy=>y=zv) (bW (same _) (bW (by simp) (bW (by simp) (aG (by simp))))) λy e=>?_))));subst e;refine bW rfl (aG ⟨?_,?_⟩)
  .simp only[aF (x:=s+1) (by omega)];omega
  .simp only[aF (x:=s+1) (by omega)];omega
 refine d_ (Y2 j) (d_ (Y1 j) (d_ (abB d) (d_ (abC d) (bG (λy=>y=zv) (bW (same _) (bW (by simp) (bW (same _) (bW (by simp) (d_ (ahR q w) (d_ (ahS q w) (d_ (adQ (by simp;omega)) (aG rfl)))))))) λy e=>?_))));subst e;refine bW rfl (iH (λ_=>True) (iK fs.length (λ_=>True) (by omega) (λf hk _=>?_) λ_=>bW (ZS (by simp only;omega)) (aG trivial)) λ_ _=>aG rfl);have L:=aQ.2 (show 0<=(f:Int)/\(f:Int)<fs.length by omega);have hkb:=z f hk;refine goT (W5 (by simp only;omega)) (iH (λ_=>True) ?_ λ_ _=>aG ⟨rfl,trivial⟩);refine bF (λs:Int=>-1<=s/\s<=300) (λs=>(300-s).toNat) ⟨by omega,by omega⟩ λs ⟨h1,h2⟩=>bK L (dA (λh=>?_) λ_=>aG trivial);have h:s<=256:=by have:=Zs h;simp only[Q4]at this;omega
 refine d_ (abB d) (d_ (abC d) (bG (λy=>y=zv) (bW (same _) (aG (by simp))) λy e=>?_));subst e;refine bW rfl (aG ⟨?_,?_⟩)
 .simp only[aF (x:=s+1) (by omega)];omega
 .simp only[aF (x:=s+1) (by omega)];omega
end Go.Fg.YtoipcimfapppmaaGreatDoor

