/-
  The plain proofs: what the functions compute answers as the law says.
-/
import Derived.Test.YtoipcimfapppmaaGreatDoorLa
open Option renaming some->zw,none->zz
open Bool renaming true->zj,false->zv
set_option linter.unusedSimpArgs false
set_option linter.unusedVariables false
set_option linter.unusedSectionVars false
namespace Go.Fg.YtoipcimfapppmaaGreatDoor
open Go.Fw
section
variable {c:dM}
def rT(c:dM)(q:Nat)(s:F6):Int×Int×Int×Int×Int×Int×Int×Bool×List Int:=((q:Int),c.op,s.1,s.2.1,s.2.2.1,s.2.2.2.1,s.2.2.2.2.1,c.wide,s.2.2.2.2.2)
theorem ar5(h:VCc c)(hC:Can c){data:List Int}(hd:data.length<=1000000000){p:Nat}(H:At data p (gW c)):
  f14 data (p:Int)=zw (c.op,c.arith,c.dst,c.a,c.b,vD c,c.wide,(Dh c:Int),0,c.args):=by
 have T:=qJ c;have J6:VC c.op c.arith c.dst c.a c.b c.value c.wide c.args:=h;have ho:=J6.o;have hn:=J6.n;obtain⟨r,hr,hr0,hl,d⟩:=alL ho;have d:=d c.wide;obtain⟨q1,q2,q3,q4⟩:=JL h;have hpl:=at_len H (by rw[T];unfold Dh szc;omega);obtain⟨hp,hb,H⟩:=SI H;rw[<-d]at H;have U:1+((r.map (kR c.wide)).flatMap (mZ c.arith c.dst c.a c.b c.value c.args)).length=Dh c:=by rw[<-T,d];unfold gW;rw[Wm];omega
 apply ok_eq;unfold f14;refine b_ (Qt (by omega)) (b_ (Qt (by omega)) (bK (aC.2 (by omega)) (bK (aC.2 (by omega)) ?_)));simp only[Q4,hb,q3,q4];refine eP hr (bF (λy=>y=zv) (b_ hr0 (dA (λJ=>?_) λ_=>aI rfl)) λy e=>?_)
 .have:=J6.w J;unfold f38;refine bF (λy=>y=zj) (bF (λy=>y=zj) (dA (λ_=>aI rfl) λn1=>dA (λ_=>aI rfl) λn2=>aI (YY (by have:=ZZ n1;have:=ZZ n2;omega))) λy e=>aI e) λy e=>aI (by rw[e];rfl)
 subst e;refine b_ rfl (iI (λy=>y=rT c (p+Dh c) (fK c (ksM c.op c.wide))) ?_ λy e=>?_)
 rotate_left
 .subst e;have hf:fK c (ksM c.op c.wide)=_:=hC;rw[hf];refine eP (alJ (alN h)) (b_ rfl (aI ?_));show (_,_,_,_,_,_,_,bT (((p+Dh c:Nat):Int)-p),_,_)=_;rw[aG (by omega),show (((p+Dh c:Nat):Int)-p)=Dh c by omega];rfl
 rw[show bT ((p:Int)+1)=((p+1:Nat):Int) from (aG (by omega)).trans rfl];refine bD (λs:Int×Int×Int×Int×Int×Int×Int×Int×Bool×List Int=>∃(i q:Nat) (F:F6),s=((q:Int),(i:Int),(rT c q F).2)/\i<=r.length/\F=fK c ((r.take i).map (kR c.wide))/\At data q (((r.drop i).map (kR c.wide)).flatMap (mZ c.arith c.dst c.a c.b c.value c.args))/\q+(((r.drop i).map (kR c.wide)).flatMap (mZ c.arith c.dst c.a c.b c.value c.args)).length=p+Dh c/\F.2.2.2.2.2.length<=i*250) (λs=>r.length-s.2.1.toNat) ⟨0,p+1,z6,rfl,by omega,rfl,H,by rw[<-U,List.drop_zero];omega,by simp[z6]⟩ λs ⟨i,q,F,e,h1,h2,h3,h4,h5⟩=>?_;subst e;refine dA (λL=>?_) λL=>?_
 rotate_left
 .have L:¬ i<r.length:=by simpa using L
  rw[vQ (by omega)]at h4;rw[WD (by omega),d]at h2;subst h2;have:q=p+Dh c:=by simpa using h4
  subst this;exact aI rfl
 have L:i<r.length:=by simpa using L
 have hg:=ag5 h d _ (Xs L);obtain⟨x,M⟩ :∃x,r[i]=x:=⟨_,rfl⟩;have hxd:r.getD i 0=x:=by rw[getD_at _ L,M]
 have htk:r.take (i+1)=r.take i++[x]:=by rw[take_snoc L,M]
 rw[Ks L,M,Qf,ZD]at h3 h4;rw[M]at hg;obtain⟨N,h3⟩:=wF h3;obtain⟨N,h3b⟩:=at_k N;rw[XX]at h4;have hin:=aC.2 (show 0<=(i:Int)/\(i:Int)<r.length by omega);have X:=zW c.arith c.dst c.a c.b c.value c.args (kR c.wide x);have hw1:=hg.1;have Y:=at_len N (by rw[kU];omega);rw[kU]at Y;refine bK hin ?_;simp only[Q4,hxd];refine eP (aa4 (wd:=c.wide)) (b_ (Qt (by rw[aG (by omega)];omega)) (eP (ag3 hw1 N hd) (bK hin ?_)));rw[show bT ((q:Int)+((kR c.wide x).2:Int))=((q+(kR c.wide x).2:Nat):Int) from (aG (by omega)).trans rfl];refine iI (λy=>y=rT c (q+(mZ c.arith c.dst c.a c.b c.value c.args (kR c.wide x)).length) (C_ c.arith c.dst c.a c.b c.value c.args F (kR c.wide x))) ?_ λy e=>aI ⟨⟨i+1,q+(mZ c.arith c.dst c.a c.b c.value c.args (kR c.wide x)).length,C_ c.arith c.dst c.a c.b c.value c.args F (kR c.wide x),?_,L,?_,h3,by omega,?_⟩,?_⟩
 rotate_left
 .subst e;rw[aG (by omega)];rfl
 .rw [htk,Ys,h2,Qf,V2,aa5]
 .have:(C_ c.arith c.dst c.a c.b c.value c.args F (kR c.wide x)).2.2.2.2.2.length<=F.2.2.2.2.2.length+c.args.length:=by
   unfold C_
   repeat' split
   all_goals simp
  omega
 .show r.length-(bT ((i:Int)+1)).toNat<r.length-(i:Int).toNat;rw[aG (by omega)];omega
 have key :∀n:Nat,decide ((x.toNat:Int)=(n:Int))=zj->x.toNat=n:=λn h=>by have:=ZS h;omega
 have neg :∀n:Nat,decide ((x.toNat:Int)=(n:Int))=zv->¬ x.toNat=n:=λn h=>by have:=ZZ h;omega
 have K:(kR c.wide x).1≠6->q+(mZ c.arith c.dst c.a c.b c.value c.args (kR c.wide x)).length=q+(kR c.wide x).2:=λh6=>by rw[X,QP h6];rfl
 have z:(kR c.wide x).1≠5->bT ((nN (qI c.arith c.dst c.a c.b c.value c.args (kR c.wide x).1) % 256 ^ (kR c.wide x).2:Nat):Int)=rdK c.arith c.dst c.a c.b c.value c.args (kR c.wide x):=λh5=>ag7 hg h5;refine dA (λB=>aI ?_) λn1=>iI _ ?_ λy Z=>aI Z
 .have d:kR c.wide x=(0,1):=by simp[kR,key 111 B]
  rw[z (by rw[d];simp),K (by rw[d];simp),d];rfl
 refine dA (λB=>aI ?_) λn2=>iI _ ?_ λy Z=>aI Z
 .have d:kR c.wide x=(1,1):=by simp[kR,key 100 B]
  rw[z (by rw[d];simp),K (by rw[d];simp),d];rfl
 refine dA (λB=>aI ?_) λn3=>iI _ ?_ λy Z=>aI Z
 .have d:kR c.wide x=(2,1):=by simp[kR,key 97 B]
  rw[z (by rw[d];simp),K (by rw[d];simp),d];rfl
 refine dA (λB=>aI ?_) λn4=>iI _ ?_ λy Z=>aI Z
 .have d:kR c.wide x=(3,1):=by simp[kR,key 98 B]
  rw[z (by rw[d];simp),K (by rw[d];simp),d];rfl
 refine dA (λB=>?_) λn5=>?_
 .have d:kR c.wide x=(6,1):=by simp[kR,key 110 B]
  have h3c:=h3b (by rw[d]);rw[z (by rw[d];simp)];rw[d]at X h3c ⊢;have hr6:rdK c.arith c.dst c.a c.b c.value c.args (6,1)=(c.args.length:Int):=rfl;rw[hr6,X];have hle:q+1+c.args.length<=data.length:=by
   rcases qa c.args.length with h0|h0
   .rw [d]at Y;simp only at Y;omega
   .have:=at_len h3c (by rw[wG];exact h0);rw[wG]at this;simp only at this;omega
  refine b_ (Qt (by rw[aG (by simp only;omega)];simp only;omega)) (bF (λy=>y=(rT c (q+1) (C_ c.arith c.dst c.a c.b c.value c.args F (6,1))).2) ?_ λy e=>aI ?_)
  .refine bD (λs:Int×Int×Int×Int×Int×Int×Int×Bool×List Int=>∃j:Nat,s=((j:Int),(rT c (q+1) (F.1,F.2.1,F.2.2.1,F.2.2.2.1,F.2.2.2.2.1,F.2.2.2.2.2++c.args.take j)).2)/\j<=c.args.length) (λs=>c.args.length-s.1.toNat) ⟨0,by simp[rT],by omega⟩ λs ⟨j,e,g1⟩=>?_;subst e;refine dA (λm=>?_) λm=>?_
   .have m:j<c.args.length:=by simpa using m
    have ha:=Nr h3c m;have hr:=J6.s _ (Xs m);rw[<-getD_at 0 m]at hr;rw[akg (by omega)]at ha;obtain⟨g2,g3,_⟩:=SI ha;simp only at g2 g3;have hw2:bT (((q+(6,1).2:Nat):Int)+((j:Int),(rT c (q+1) (F.1,F.2.1,F.2.2.1,F.2.2.2.1,F.2.2.2.2.1,F.2.2.2.2.2++c.args.take j)).2).1)=((q+1+j:Nat):Int):=by simp only;rw[aG (by omega)];omega
    simp only[hw2,Q4,g3];refine bK (aC.2 (by omega)) (bK ?_ (aI ⟨⟨j+1,?_,m⟩,?_⟩))
    .unfold aV;simp[rT];omega
    .rw [aG (by omega),aG (by omega)];simp only[rT];rw[take_snoc m,<-W4,<-getD_at 0 m];rfl
    .simp only[aG (x:=(j:Int)+1) (by omega)];omega
   .have m:¬ j<c.args.length:=by simpa using m
    have:j=c.args.length:=by omega
    subst this;refine aI (show (rT c (q+1) _).2=_ from ?_);rw[K7];rfl
  .subst e;rw[aG (by simp only;omega)];show (((q+1:Nat):Int)+(c.args.length:Int),_)=(((q+(1+c.args.length):Nat):Int),_);rw[show ((q+1:Nat):Int)+(c.args.length:Int)=((q+(1+c.args.length):Nat):Int) by omega];rfl
 .have n1:=neg 111 n1;have n2:=neg 100 n2;have n3:=neg 97 n3;have n4:=neg 98 n4;have n5:=neg 110 n5;have h45:(kR c.wide x).1=4\/(kR c.wide x).1=5:=by unfold kR;rw[QP n1,QP n2,QP n3,QP n4,QP n5];split<;>simp
  have hset:C_ c.arith c.dst c.a c.b c.value c.args F (kR c.wide x)=(F.1,F.2.1,F.2.2.1,F.2.2.2.1,(if(kR c.wide x).2=8 then bT c.value else c.value),F.2.2.2.2.2):=by unfold C_;rcases h45 with e|e<;>simp[e]
  have hfv:qI c.arith c.dst c.a c.b c.value c.args (kR c.wide x).1=c.value:=by rcases h45 with e|e<;>rw[e]<;>rfl
  refine bF (λy=>y=(c.op,F.1,F.2.1,F.2.2.1,F.2.2.2.1,(if(kR c.wide x).2=8 then bT c.value else c.value),c.wide)) (dA (λB=>?_) λB=>aI ?_) λy e=>aI ?_
  .have d:kR c.wide x=(5,if c.wide then 4 else 1):=by simp[kR,key 106 B]
   rw[d]at hg;have m:if c.wide then -2147483648<=c.value/\c.value<=2147483647 else -128<=c.value/\c.value<=127:=by
    rcases hg.2.2.1 with⟨h,_⟩|⟨h,_⟩|⟨_,_,h⟩
    .simp at h
    .simp at h
    .exact h
   have hu:=oC c.value;rw[hfv,d];refine bF (λy=>y=(c.op,F.1,F.2.1,F.2.2.1,F.2.2.2.1,c.value,c.wide)) (dA (λJ=>aI ?_) λJ=>aI ?_) λy e=>aI ?_
   .have J:c.wide=zj:=J;rw[J]at m ⊢;simp only[if_true]at m;show (c.op,F.1,F.2.1,F.2.2.1,F.2.2.2.1,bT (Go.IntKind.wrap .i32 ((nN c.value % 256 ^ 4:Nat):Int)),c.wide)=_;have:bT (Go.IntKind.wrap .i32 ((nN c.value % 256 ^ 4:Nat):Int))=c.value:=by rw[wrap_i32,aG (by split<;>omega)];split<;>omega
    rw[this,J]
   .have J:c.wide=zv:=J;rw[J]at m ⊢;simp only[if_false,Wb]at m;show (c.op,F.1,F.2.1,F.2.2.1,F.2.2.2.1,bT (Go.IntKind.wrap .i8 ((nN c.value % 256 ^ 1:Nat):Int)),c.wide)=_;have:bT (Go.IntKind.wrap .i8 ((nN c.value % 256 ^ 1:Nat):Int))=c.value:=by rw[aa2,aG (by split<;>omega)];split<;>omega
    rw[this,J]
   .rw [e,QP (by simp only;split<;>omega)]
  .have h6:=neg 106 B;have h4:(kR c.wide x).1≠5:=by unfold kR;rw[QP n1,QP n2,QP n3,QP n4,QP n5,QP h6];simp
   have:=z h4;unfold rdK at this;rw[hfv]at this;rw[hfv,this];rfl
  .subst e;rw[K (by rcases h45 with e|e<;>rw[e]<;>simp),hset];rfl
end
theorem ES{l:List Int}(h:l.length<=1000000000):f51 l=zw l:=by
 apply ok_eq;unfold f51;have b:aV (List.length eInt) l.length 8=zj:=by unfold aV;simp[eInt];omega
 cases l with
 |nil=>exact goT rfl ⟨[],by simp[both,eInt,ck,aV],rfl⟩
 |cons a l=>exact b_ rfl (bK b (aI (by simp[eInt])))
theorem ag9{l:List Int}(h:l.length<=1000000):f52 l=zw (l.mergeSort λx y=>decide (x<=y)):=by show acD l=_;unfold acD;have:decide (l.length<4611686018427387904)=zj:=YY (by omega);rw[this]
abbrev C8:=Int×Int×Int×Int×Int×Int×Bool×List Int
def VT(v:Int)(t:C8):Prop:=VC t.1 t.2.1 t.2.2.1 t.2.2.2.1 t.2.2.2.2.1 v t.2.2.2.2.2.2.1 t.2.2.2.2.2.2.2
noncomputable def jq(i:dK):C8:=(f62 i.kind i.op i.dst i.a i.b i.value i.args).getD (0,0,0,0,0,0,zv,[])
def CG(t:C8):Prop:=t.2.2.2.2.2.2.1=zv/\¬ (13<=t.1/\t.1<=15)/\VT t.2.2.2.2.2.1 t/\VT 0 t
section
variable {g:List aF} {sg:List (List UInt8×Nat)} {cl re:Int} {i:dK}
theorem mX{t:C8}(d:f62 i.kind i.op i.dst i.a i.b i.value i.args=zw t)(j:f85 i.kind i.op i.dst i.a i.b i.value i.args=zw t)(h:CG t):
  f62 i.kind i.op i.dst i.a i.b i.value i.args=zw (jq i)/\f85 i.kind i.op i.dst i.a i.b i.value i.args=zw (jq i)/\CG (jq i):=by
 have:jq i=t:=by unfold jq;rw[d];rfl
 rw[this];exact⟨d,j,h⟩
theorem wH{op ar d a b v:Int}{args:List Int}(j:1<=op/\op<=18/\¬ (13<=op/\op<=15))(m:op=3->1<=ar/\ar<=2)(q:op=4->3<=ar/\ar<=11)(hd:0<=d/\d<=249)(w:0<=a/\a<=249)(y:0<=b/\b<=249)(hs :∀x∈args,0<=x/\x<=249)(hn:args.length<=250)(z:nM op v zv=zj)(B:nM op 0 zv=zj):CG (op,ar,d,a,b,v,zv,args):=⟨rfl,j.2.2,⟨⟨j.1,j.2.1⟩,(λh=>by cases h),m,q,hd,w,y,hs,hn,z⟩,⟨⟨j.1,j.2.1⟩,(λh=>by cases h),m,q,hd,w,y,hs,hn,B⟩⟩
theorem aki(h:IV g sg cl re i)(hg:g.length<=32)(hs:sg.length<=64)(U:cl<=64)(X:re<=250):
  f62 i.kind i.op i.dst i.a i.b i.value i.args=zw (jq i)/\f85 i.kind i.op i.dst i.a i.b i.value i.args=zw (jq i)/\CG (jq i):=by
 have z:(0:Int)<=0/\(0:Int)<=249:=by omega
 have e :∀x∈(eInt:List Int),0<=x/\x<=249:=λx K=>by cases K
 have y:(eInt:List Int).length<=250:=by simp
 have w :∀{x:Int},RG re x->0<=x/\x<=249:=λh=>⟨h.1,by have:=h.2;omega⟩;have L :∀{a:Bool} {v:Int},GI a g v->0<=v/\v<=31:=λh=>by have:=h.1;omega
 cases h with
 |@const o d a b v j hd q=>exact mX (t:=(1,0,d,0,0,v,zv,eInt)) rfl rfl (wH (by omega) (by omega) (by omega) (w hd) z z e y rfl rfl)
 |@move o d a b v j hd m q=>exact mX (t:=(2,0,d,a,0,0,zv,eInt)) rfl rfl (wH (by omega) (by omega) (by omega) (w hd) (w m) z e y rfl rfl)
 |@un o d a b v j hd m N q=>exact mX (t:=(3,o,d,a,0,0,zv,eInt)) rfl rfl (wH (by omega) (λ_=>by omega) (by omega) (w hd) (w m) z e y rfl rfl)
 |@bin o d a b v j hd m M N q=>exact mX (t:=(4,o,d,a,b,0,zv,eInt)) rfl rfl (wH (by omega) (by omega) (λ_=>N) (w hd) (w m) (w M) e y rfl rfl)
 |@load o d a b v j hd H q=>exact mX (t:=(5,0,d,0,0,v,zv,eInt)) rfl rfl (wH (by omega) (by omega) (by omega) (w hd) z z e y (by have:=L H;simp[nM];omega) rfl)
 |@store o d a b v j m H q=>exact mX (t:=(6,0,0,a,0,v,zv,eInt)) rfl rfl (wH (by omega) (by omega) (by omega) z (w m) z e y (by have:=L H;simp[nM];omega) rfl)
 |@elem o d a b v j hd m H q=>exact mX (t:=(7,0,d,a,0,v,zv,eInt)) rfl rfl (wH (by omega) (by omega) (by omega) (w hd) (w m) z e y (by have:=L H;simp[nM];omega) rfl)
 |@set o d a b v j m M H q=>exact mX (t:=(8,0,0,a,b,v,zv,eInt)) rfl rfl (wH (by omega) (by omega) (by omega) z (w m) (w M) e y (by have:=L H;simp[nM];omega) rfl)
 |@read o d a b v j hd q=>exact mX (t:=(9,0,d,0,0,0,zv,eInt)) rfl rfl (wH (by omega) (by omega) (by omega) (w hd) z z e y rfl rfl)
 |@print o d a b v j m q=>exact mX (t:=(10,0,0,a,0,0,zv,eInt)) rfl rfl (wH (by omega) (by omega) (by omega) z (w m) z e y rfl rfl)
 |@call o d a b v j hd H T J q=>
  have B:aV (List.length eInt) j.length 8=zj:=by unfold aV;simp;omega
  refine mX (t:=(11,0,d,0,0,v,zv,j)) ?_ ?_ (wH (by omega) (by omega) (by omega) (w hd) z z (λx K=>w (J x K)) (by omega) (by simp[nM];omega) rfl)
  .show f62 11 o d a b v j=_;unfold f62;rw[B];rfl
  .show f85 11 o d a b v j=_;unfold f85;rw[ES (by omega)];rfl
 |@IW o d a b v j hd m J q=>
  have B:aV (List.length eInt) j.length 8=zj:=by unfold aV;simp;omega
  refine mX (t:=(12,0,d,a,0,0,zv,j)) ?_ ?_ (wH (by omega) (by omega) (by omega) (w hd) (w m) z (λx K=>w (J x K)) (by omega) rfl rfl)
  .show f62 12 o d a b v j=_;unfold f62;rw[B];rfl
  .show f85 12 o d a b v j=_;unfold f85;rw[ES (by omega)];rfl
 |@func o d a b v j hd H q=>exact mX (t:=(18,0,d,0,0,v,zv,eInt)) rfl rfl (wH (by omega) (by omega) (by omega) (w hd) z z e y (by simp[nM];omega) rfl)
end
def jU(op a to:Int):cu:=cu.mk op 0 0 a 0 0 zv eInt to
def ET(k a t e n:Int):List cu:=
 if k=3 then[jU 16 a (-1)]else if k=1\/t=e then(if t=n then[]else[jU 13 0 t])
 else if e=n then[jU 14 a t]else if t=n then[jU 15 a e]else[jU 14 a t,jU 13 0 e]
theorem aoh{k a t e n:Int}:f86 k a t e n=zw (ET k a t e n):=by
 apply ok_eq;unfold f86 ET;refine dA (λh=>?_) λh=>?_
 .rw [QR (ZS h)];exact aI rfl
 rw[QP (ZZ h)];refine bF (λy=>y=decide (k=1\/t=e)) (dA (λh=>aI ?_) λh=>aI ?_) λy b=>?_
 .exact (YY (.inl (ZS h))).symm
 .exact decide_eq_decide.2 (by have:=ZZ h;simp[this])
 subst b;refine dA (λh=>?_) λh=>?_
 .rw [QR (ZS h)];refine dA (λh=>?_) λh=>?_
  .rw [QR (ZS h)];exact aI rfl
  .rw [QP (ZZ h)];exact aI rfl
 rw[QP (ZZ h)];refine dA (λh=>?_) λh=>?_
 .rw [QR (ZS h)];exact aI rfl
 rw[QP (ZZ h)];refine dA (λh=>?_) λh=>?_
 .rw [QR (ZS h)];exact aI rfl
 .rw [QP (ZZ h)];exact aI rfl
def nat(n:Nat):List Int:=(List.range n).map Int.ofNat
theorem EU(n:Nat):nat (n+1)=nat n++[(n:Int)]:=by unfold nat;rw[JN,Ys];rfl
theorem qX(n:Nat):(nat n).length=n:=by simp[nat]
theorem aoi{n i:Nat}(h:i<n):(nat n).getD i 0=i:=by rw[getD_at _ (by simpa[qX]using h)];simp[nat]
theorem SK{n:Nat}{x:Int}:x∈nat n↔0<=x/\x<n:=by
 unfold nat;rw[XS];constructor
 .rintro ⟨a,b,e⟩;have:=Up.1 b;subst e;simp;omega
 .intro ⟨d,h⟩;exact⟨x.toNat,Up.2 (by omega),by simp;omega⟩
theorem G6{nm:List UInt8}{pa re:Int}{bl:List aO}(h:bl.length<=1000000):f50 nm pa re bl=zw (nat bl.length):=by
 apply ok_eq;unfold f50;refine bF (λy=>y=nat bl.length) ?_ λy d=>aI d;refine bD (λs:Int×List Int=>∃i:Nat,s=((i:Int),nat i)/\i<=bl.length) (λs=>bl.length-s.1.toNat) ⟨0,rfl,by omega⟩ λs ⟨i,e,j⟩=>?_;subst e;refine dA (λb=>?_) λb=>?_
 .have b:i<bl.length:=by simpa using b
  refine bK (by unfold aV;simp[qX];omega) (aI ⟨⟨i+1,?_,by omega⟩,?_⟩)
  .rw [EU];simp only[aG (x:=(i:Int)+1) (by omega)];rfl
  .simp only[aG (x:=(i:Int)+1) (by omega)];omega
 .have b:¬ i<bl.length:=by simpa using b
  exact aI (show nat i=nat bl.length by rw[show i=bl.length by omega])
theorem P9{nm:List UInt8}{pa re:Int}{bl:List aO}(h:bl.length<=1000000):f44 nm pa re bl=zw (nat bl.length):=G6 (nm:=nm) (pa:=pa) (re:=re) h
structure Ord(n:Nat)(od:List Int):Prop where
 perm:od.Perm (nat n)
 zero:od.getD 0 0=0
 pos:0<n
theorem Ord.len{n:Nat}{od:List Int}(h:Ord n od):od.length=n:=by rw[h.perm.length_eq,qX]
theorem Ord.mem{n:Nat}{od:List Int}(h:Ord n od){x:Int}:x∈od↔0<=x/\x<n:=h.perm.mem_iff.trans SK
theorem Ord.at{n:Nat}{od:List Int}(h:Ord n od){i:Nat}(hi:i<n):0<=od.getD i 0/\od.getD i 0<n:=by rw[getD_at _ (by rw[h.len];exact hi)];exact h.mem.1 (Xs _)
theorem YF(n:Nat):(nat n).Pairwise λx y=>x<=y:=by unfold nat;rw[vE];exact List.pairwise_le_range.imp λh=>by simp;omega
theorem WA{od:List Int}{n:Nat}:(od.mergeSort λx y=>decide (x<=y))=nat n↔od.Perm (nat n):=by
 constructor
 .intro h;rw[<-h];exact(List.mergeSort_perm od _).symm
 .intro h;refine List.Perm.eq_of_pairwise (le:=λx y=>x<=y) (λa b _ _ d j=>Int.le_antisymm d j) ?_ (YF n) ((List.mergeSort_perm od _).trans h);exact(List.pairwise_mergeSort (le:=λx y:Int=>decide (x<=y)) (λa b c d j=>by simp at *;omega) (λa b=>by simp;omega) od).imp λh=>by simpa using h
theorem WB{a b:List Int}(y:a.length<=1000000):f53 a b=zw (decide (a=b)):=by
 apply ok_eq;unfold f53;refine dA (λh=>aI ?_) λh=>?_
 .have h:¬ (a.length:Int)=b.length:=by simpa using h
  exact(Qt λe=>h (by rw[e])).symm
 have h:a.length=b.length:=by simp at h;omega
 refine iI (λ_=>a=b) (jA a.length (λi=>a.getD i 0=b.getD i 0) (by omega) (λi z _=>goT (YY (by omega)) (bK (aC.2 (by omega)) (bK (aC.2 (by omega)) (dA (λd=>aI ?_) λd=>aI ⟨rfl,by simpa using d⟩)))) λj=>b_ (Qt (by omega)) (aI ?_)) λ_ m=>aI (YY m).symm
 .have d:¬ a.getD i 0=b.getD i 0:=by simpa using d
  exact(Qt λe=>d (by rw[e])).symm
 .refine Kl h λi q w=>?_;have:=j i q
  rwa [getD_at _ q,getD_at _ w]at this
theorem P_{nm:List UInt8}{pa re:Int}{bl:List aO}{od:List Int}(h:bl.length<=1000000)(q:0<bl.length)(j:od.length<=1000000):Ok (f54 nm pa re bl od) λy=>y=zj↔Ord bl.length od:=by
 unfold f54;refine bF (λy=>y=zj↔od=[]\/od.getD 0 0≠0) (dA (λb=>aI ?_) λb=>?_) λy m=>dA (λb=>aI ?_) λb=>?_
 .have:od.length=0:=by simpa using b
  simp[WF.1 this]
 .have b:¬ od.length=0:=by simpa using b
  refine bK (aC.2 (by omega)) (aI ?_);have:od≠[]:=λe=>b (by rw[e];rfl);simp only[vz,V0,decide_eq_false_iff_not];exact⟨λh=>.inr h,λh=>h.resolve_left this⟩
 .refine ⟨(λh=>by cases h),λd=>?_⟩;rcases m.1 b with e|e
  .have:=d.len;rw[e]at this;simp at this;omega
  .exact absurd d.zero e
 .have b:¬ (od=[]\/od.getD 0 0≠0):=λh=>by rw[m.2 h]at b;cases b
  refine eP (ES (by omega)) (eP (ag9 j) (eP (P9 h) (eP (WB (by simpa using j)) (aI ?_))));rw[decide_eq_true_iff,WA];exact⟨λw=>⟨w,qv λz=>b (.inr z),q⟩,λd=>d.perm⟩
theorem YG{nm:List UInt8}{pa re:Int}{bl:List aO}{l:List Int}{j:Int}(J:Bytes l)(K:0<=j)(h:bl.length<=60000)(w:0<bl.length):Ok (f28 nm pa re bl l j) λy=>y.1=l/\0<=y.2.1/\Ord bl.length y.2.2:=by
 unfold f28;refine eP (G6 (by omega)) (bF (λy=>y.1=l/\0<=y.2.1/\Ord bl.length y.2.2) ?_ λy L=>aI L);refine bD (λs:Int×List Int×Int×List Int=>∃i:Nat,s.1=i/\1<=i/\i<=bl.length/\s.2.1=l/\0<=s.2.2.1/\Ord bl.length s.2.2.2) (λs=>bl.length-s.1.toNat) ⟨1,rfl,by omega,by omega,rfl,K,vA _,aoi w,w⟩ λ⟨X,Y,j,od⟩ ⟨i,e,Z,h2,B,z,d⟩=>?_;simp only at e B z d;subst e;subst B;have hl:=d.len;refine dA (λb=>?_) λb=>aI ⟨rfl,z,d⟩;have b:i<od.length:=by simpa using b
 refine goN J z (by omega) λx k M ax H=>?_;have H:=H (by omega);obtain⟨q,N⟩ :∃q:Nat,1+x=q:=⟨(1+x).toNat,by omega⟩;have T:bT (1+x)=(q:Int):=(aG (by omega)).trans N;simp only[T,Q4];have m:=aC.2 (show 0<=(i:Int)/\(i:Int)<od.length by omega);refine bK (aC.2 (by omega)) (bK m (bK m (bK (aC.2 (by rw[J0];omega)) (aI ⟨⟨i+1,?_,by omega,by omega,rfl,M,?_,?_,w⟩,?_⟩))))
 .simp only[aG (x:=(i:Int)+1) (by omega)];rfl
 .simp only;rw[getD_at _ (show q<od.length by omega),getD_at _ b];exact(List.set_set_perm b (by omega)).trans d.perm
 .have U:=d.zero;simp only;rw[iO (by rw[J0];omega),QP (by omega),iO b,QP (by omega)];exact U
 .simp only[aG (x:=(i:Int)+1) (by omega)];omega
structure FO(bl:List aO):Prop where
 len:0<bl.length/\bl.length<=256
 wt:Bo bl<=2048
 ins :∀b∈bl,∀i∈b.instrs,f62 i.kind i.op i.dst i.a i.b i.value i.args=zw (jq i)/\f85 i.kind i.op i.dst i.a i.b i.value i.args=zw (jq i)/\CG (jq i)
 trm:zU bl
 ta :∀b,b<bl.length->(bl.getD b aA).bV≠1->0<=(bl.getD b aA).lJ/\(bl.getD b aA).lJ<=249
theorem Rt.fo{g:List aF}{sg:List (List UInt8×Nat)}{cl:Int}{f:aQ}(h:Rt g sg cl f)(hg:g.length<=32)(hs:sg.length<=64)(j:cl<=64):FO f.blocks:=⟨⟨h.good.2.1,h.len⟩,h.wt,λb d i m=>aki (h.ins b d i m) hg hs j h.reg.2,h.good.2.2.1,λb d q=>by have:=(h.trm b d).reg q;have w:=h.reg.2;exact⟨this.1,by have:=this.2;omega⟩⟩
structure GU(n:Nat)(u:cu):Prop where
 z:VC u.gX u.eX u.iD u.lH u.lI 0 u.dF u.fJ
 c:VC u.gX u.eX u.iD u.lH u.lI u.eY u.dF u.fJ
 j:0<=u.to↔13<=u.gX/\u.gX<=15
 t:u.to<n
def uT(t:C8):cu:=cu.mk t.1 t.2.1 t.2.2.1 t.2.2.2.1 t.2.2.2.2.1 t.2.2.2.2.2.1 t.2.2.2.2.2.2.1 t.2.2.2.2.2.2.2 (-1)
theorem ar6{t:C8}{n:Nat}(h:CG t):GU n (uT t):=⟨h.2.2.2,h.2.2.1,⟨λb=>absurd b (show ¬ (0:Int)<=-1 by omega),λb=>absurd b h.2.1⟩,by show (-1:Int)<n;omega⟩
theorem WC{op a to:Int}{n:Nat}(b:13<=op/\op<=15)(j:0<=a/\a<=249)(d:0<=to/\to<n):GU n (jU op a to):=by have:VC op 0 0 a 0 0 zv eInt:=⟨by omega,(λh=>by cases h),by omega,by omega,by omega,j,by omega,(λx m=>by cases m),by simp,by unfold nM;rw[QP (by omega),QP (by omega),QP (by omega),QP (by omega),QR b];rfl⟩;exact⟨this,this,⟨λ_=>b,λ_=>d.1⟩,d.2⟩
theorem ar7{a:Int}{n:Nat}(b:0<=a/\a<=249):GU n (jU 16 a (-1)):=by have:VC 16 0 0 a 0 0 zv eInt:=⟨by omega,(λh=>by cases h),by omega,by omega,by omega,b,by omega,(λx d=>by cases d),by simp,rfl⟩;exact⟨this,this,⟨λh=>absurd h (by show ¬ (0:Int)<=-1;omega),λh=>absurd h.2 (by show ¬ (16:Int)<=15;omega)⟩,by show (-1:Int)<n;omega⟩
theorem aoj{k a t e n:Int}{m:Nat}(y:k=1\/k=2\/k=3)(b:k≠1->0<=a/\a<=249)(d:k≠3->0<=t/\t<m)(h:k=2->0<=e/\e<m):∀u∈ET k a t e n,GU m u:=by
 unfold ET;split
 .intro u hu;rw[X2]at hu;subst hu;exact ar7 (b (by omega))
 rename_i j;have d:=d j;split
 .split
  .intro u hu;cases hu
  .intro u hu;rw[X2]at hu;subst hu;exact WC (by omega) (by omega) d
 rename_i z;have q:k=2:=by omega
 have b:=b (by omega);have h:=h q;split
 .intro u hu;rw[X2]at hu;subst hu;exact WC (by omega) b d
 split
 .intro u hu;rw[X2]at hu;subst hu;exact WC (by omega) b h
 .intro u hu;rcases XN.1 hu with w|hu
  .subst w;exact WC (by omega) b d
  .rw [X2]at hu;subst hu;exact WC (by omega) (by omega) h
theorem SL(k a t e n:Int):(ET k a t e n).length<=2:=by
 unfold ET;repeat' split
 all_goals simp
noncomputable def SN(b:aO)(n:Int):List cu:=(b.instrs.map λi=>uT (jq i))++ET b.bV b.lJ b.f_ b.dI n
def nxt(od:List Int)(i:Nat):Int:=if i+1<od.length then od.getD (i+1) 0 else -1
noncomputable def qK(bl:List aO)(od:List Int):Nat->List cu
 |0=>[]
 |i+1=>qK bl od i++SN (bl.getD (od.getD i 0).toNat aA) (nxt od i)
noncomputable def st(bl:List aO)(od:List Int)(i:Nat):Int:=(qK bl od i).length
section
variable {bl:List aO} {od:List Int} {nm:List UInt8} {pa re:Int}
theorem FO.blk(h:FO bl){b:Nat}(j:b<bl.length):(bl.getD b aA).instrs.length<=2047/\bl.getD b aA∈bl:=by
 have d:bl.getD b aA∈bl:=by rw[getD_at _ j];exact Xs _
 have:=YA _ d;have:=h.wt;exact⟨by omega,d⟩
theorem aa6{b:aO}{n:Int}:(SN b n).length<=b.instrs.length+2:=by unfold SN;have:=SL b.bV b.lJ b.f_ b.dI n;simp only[XX,We];omega
theorem JM(h:FO bl)(d:Ord bl.length od):∀i,i<=bl.length->(qK bl od i).length<=2049*i
 |0,_=>by simp[qK]
 |i+1,j=>by have:=JM h d i (by omega);have m:=d.at (i:=i) (by omega);have:=(h.blk (b:=(od.getD i 0).toNat) (by omega)).1;have:=aa6 (b:=bl.getD (od.getD i 0).toNat aA) (n:=nxt od i);simp only[qK,XX];omega
theorem zX(bl:List aO)(od:List Int):∀k i,(qK bl od i).length<=(qK bl od (i+k)).length
 |0,i=>Z1 _
 |k+1,i=>by have:=zX bl od k i;show _<=(qK bl od (i+k)++_).length;rw[XX];omega
theorem aha(h:FO bl)(j:Ord bl.length od):∀i,i<=bl.length->∀u∈qK bl od i,GU bl.length u
 |0,_=>λu hu=>by cases hu
 |i+1,y=>λu hu=>by
  have z:=j.at (i:=i) (by omega);have b:(od.getD i 0).toNat<bl.length:=by omega
  rcases Z0.1 hu with hu|hu
  .exact aha h j i (by omega) u hu
  .rcases Z0.1 hu with hu|hu
   .obtain ⟨m,d,e⟩:=XS.1 hu;subst e;exact ar6 (h.ins _ (h.blk b).2 m d).2.2
   .obtain ⟨q,w⟩:=h.trm.1 _ b;exact aoj (h.trm.2 _ b) (h.ta _ b) q w u hu
theorem ahb(h:FO bl)(w:Ord bl.length od):f56 nm pa re bl od=zw (qK bl od bl.length,(List.range bl.length).map (st bl od)):=by
 apply ok_eq;have B:=h.len;have J:=w.len;unfold f56;refine bF (λy=>y=(qK bl od bl.length,(List.range bl.length).map (st bl od))) ?_ λy K=>aI K;refine bD (λs:Int×List cu×List Int=>∃i:Nat,s=((i:Int),qK bl od i,(List.range i).map (st bl od))/\i<=bl.length) (λs=>bl.length-s.1.toNat) ⟨0,rfl,by omega⟩ λs ⟨i,e,L⟩=>?_;subst e;refine dA (λd=>?_) λd=>?_
 rotate_left
 .have d:¬ i<od.length:=by simpa using d
  have:i=bl.length:=by omega
  subst this;exact aI rfl
 have d:i<od.length:=by simpa using d
 have U:=w.at (i:=i) (by omega);have H:(od.getD i 0).toNat<bl.length:=by omega
 have X:=JM h w i L;have M:=(h.blk H).1;have m:=aC.2 (show 0<=od.getD i 0/\od.getD i 0<bl.length by omega);obtain⟨b,j⟩ :∃b,bl.getD (od.getD i 0).toNat aA=b:=⟨_,rfl⟩;have q:=h.ins b (j▸(h.blk H).2);rw[j]at M;refine bK (aC.2 (by omega)) (bK (by unfold aV;simp;omega) (bK m ?_));simp only[Q4,j];refine bF (λy=>y=qK bl od i++b.instrs.map λi=>uT (jq i)) ?_ λN e=>?_
 .refine bD (λs:Int×List cu=>∃k:Nat,s=((k:Int),qK bl od i++(b.instrs.take k).map λi=>uT (jq i))/\k<=b.instrs.length) (λs=>b.instrs.length-s.1.toNat) ⟨0,by simp,by omega⟩ λs ⟨k,e,Y⟩=>?_;subst e;refine dA (λd=>?_) λd=>?_
  .have d:k<b.instrs.length:=by simpa using d
   refine bK (aC.2 (by simp only;omega)) ?_;simp only[Q4,getD_at _ d];refine eP (q _ (Xs d)).2.1 (bK (by unfold aV;simp;omega) (aI ⟨⟨k+1,?_,by omega⟩,?_⟩))
   .rw [aG (by omega),take_snoc d,Ys,<-W4];rfl
   .simp only[aG (x:=(k:Int)+1) (by omega)];omega
  .have d:¬ k<b.instrs.length:=by simpa using d
   refine aI (show qK bl od i++(b.instrs.take k).map (λi=>uT (jq i))=_ from ?_);rw[WD (by omega)]
 subst e;have z:bT ((i:Int)+1)=(i+1:Nat):=(aG (by omega)).trans rfl;refine bF (λy=>y=nxt od i) ?_ λy e=>?_
 .simp only[z];unfold nxt;refine dA (λd=>?_) λd=>?_
  .have d:i+1<od.length:=by have:=ZS d;omega
   rw[QR d];exact bK (aC.2 (by omega)) (aI rfl)
  .rw [QP (by have:=ZZ d;omega)];exact aI rfl
 subst e;have T:=SL b.bV b.lJ b.f_ b.dI (nxt od i);refine bK m ?_;refine eP aoh (bK (by unfold aV;simp;omega) (aI ⟨⟨i+1,?_,by omega⟩,?_⟩))
 .rw [z,JN,Ys];show _=(_,qK bl od i++SN (bl.getD (od.getD i 0).toNat aA) (nxt od i),_);rw[j];unfold SN;rw[W4];rfl
 .simp only[z,Q4];omega
end
noncomputable def szU(u:cu):Nat:=szc u.gX u.dF u.fJ.length
noncomputable def wI(us:List cu)(k:Nat):Nat:=((us.take k).map szU).sum
noncomputable def YH(us:List cu):List Int:=(List.range (us.length+1)).map λk=>(wI us k:Int)
theorem oV(us:List cu):(YH us).length=us.length+1:=by simp[YH]
theorem uX{us:List cu}{k:Nat}(h:k<=us.length):(YH us).getD k 0=wI us k:=by rw[getD_at _ (by rw[oV];omega)];simp[YH]
theorem sJ{us:List cu}{k:Nat}(h:k<us.length):wI us (k+1)=wI us k+szU (us.getD k aT):=by unfold wI;rw[take_snoc h,Ys,vb,getD_at _ h];simp
theorem WE(us:List cu){i j:Nat}(h:i<=j):wI us i<=wI us j:=by
 induction j with
 |zero=>
  have:i=0:=by omega
  subst this;exact Z1 _
 |succ j b=>
  by_cases e:i=j+1
  .subst e;exact Z1 _
  .have:=b (by omega);by_cases d:j<us.length
   .have:=sJ d;omega
   .have m:us.take (j+1)=us.take j:=by rw[WD (show us.length<=j+1 by omega),WD (show us.length<=j by omega)]
    unfold wI at this ⊢;rw[m];exact this
theorem aok{op:Int}{wd:Bool}{n:Nat}(hn:n<=250):szc op wd n<=1005:=by
 unfold szc;have b :∀x,szm wd n x<=251:=λx=>by
  unfold szm
  repeat' split
  all_goals omega
 have :∀l:List UInt8,(l.map (szm wd n)).sum<=251*l.length:=λl=>by
  induction l with
  |nil=>simp
  |cons x l d=>have:=b x;simp only[Qf,K4,Wm];omega
 have:=this (rowOf op);have:=(C9 op).1;omega
def GL(n:Nat)(us:List cu):Prop:=us.length<=600000/\∀u∈us,GU n u
section
variable {n:Nat} {us:List cu} {fi:List Int}
theorem GL.at(h:GL n us){k:Nat}(b:k<us.length):GU n (us.getD k aT):=h.2 _ (by rw[getD_at _ b];exact Xs _)
theorem Dc(h:GL n us)(k:Nat):wI us k<=603000000:=by
 have key :∀l:List cu,(∀u∈l,GU n u)->(l.map szU).sum<=1005*l.length:=λl=>by
  induction l with
  |nil=>intro _;simp
  |cons u l d=>intro b;have:=d λu hu=>b u (V1 _ hu);have:=aok (op:=u.gX) (wd:=u.dF) (b u Kb).z.n;simp only[Qf,K4,Wm];unfold szU at *;omega
 have:=key (us.take k) λu hu=>h.2 u (Wl hu);have j:=h.1;have:(us.take k).length<=us.length:=by rw[VM];omega
 unfold wI;omega
theorem WG(h:GL n us):f57 us=zw (YH us):=by
 apply ok_eq;have w:=h.1;unfold f57;refine bF (λy=>y=YH us) ?_ λy d=>aI d;refine bD (λs:Int×List Int=>∃k:Nat,s=((k:Int),(List.range (k+1)).map λk=>(wI us k:Int))/\k<=us.length) (λs=>us.length-s.1.toNat) ⟨0,by simp[wI],by omega⟩ λs ⟨k,e,z⟩=>?_;subst e;refine dA (λb=>?_) λb=>?_
 rotate_left
 .have b:¬ k<us.length:=by simpa using b
  have:k=us.length:=by omega
  subst this;exact aI rfl
 have b:k<us.length:=by simpa using b
 have B:=Dc h k;have j:=Dc h (k+1);have m:=sJ b;refine bK (aC.2 (by simp only;omega)) (bK (aC.2 (by simp;omega)) ?_);have hg:=h.at b;simp only[Q4];refine bF (λy=>y=(szU (us.getD k aT):Int)) ?_ λy e=>?_
 .unfold f55;exact bF _ (ag6 hg.c) λy d=>aI (by rw[d.2];rfl)
 subst e;have q:((List.range (k+1)).map λk=>(wI us k:Int)).getD k 0=wI us k:=by rw[getD_at _ (by simp)];simp
 rw[q];refine bK (by unfold aV;simp;omega) (aI ⟨⟨k+1,?_,by omega⟩,?_⟩)
 .rw [aG (by omega),aG (by omega),JN (n:=k+1),Ys,Qf,V2,m,Int.natCast_add];rfl
 .simp only[aG (x:=(k:Int)+1) (by omega)];omega
noncomputable def dst(fi:List Int)(us:List cu)(j:Nat):Int:=(wI us (fi.getD (us.getD j aT).to.toNat 0).toNat:Int)-(wI us (j+1):Int)
noncomputable def far(fi:List Int)(us:List cu)(j:Nat):Bool:=decide (0<=(us.getD j aT).to)&&!(us.getD j aT).dF&&(decide (dst fi us j < -128)||decide (127<dst fi us j))
def wid(u:cu):cu:=cu.mk u.gX u.eX u.iD u.lH u.lI u.eY zj u.fJ u.to
noncomputable def Oj(fi:List Int)(us:List cu):List cu:=(List.range us.length).map λj=>if far fi us j=zj then wid (us.getD j aT)else us.getD j aT
theorem nR:(Oj fi us).length=us.length:=by simp[Oj]
theorem zY{j:Nat}(h:j<us.length):(Oj fi us).getD j aT=if far fi us j=zj then wid (us.getD j aT)else us.getD j aT:=by rw[getD_at _ (by rw[nR];exact h)];simp[Oj]
theorem EW(h :∀j,j<us.length->far fi us j=zv):Oj fi us=us:=by refine Kl nR λj d b=>?_;have:=zY (fi:=fi) b;rw[getD_at _ d,h j b,getD_at _ b]at this;simpa using this
theorem aol{u:cu}(h:GU n u)(B:0<=u.to):GU n (wid u):=by
 obtain⟨z,c,j,t⟩:=h;have y:=j.1 B;have m :∀v:Int,nM u.gX v u.dF=zj->u.dF=zv->nM u.gX v zj=zj:=λv m w=>by rw[w]at m;unfold nM at m ⊢;rw[QP (by omega),QP (by omega),QP (by omega),QP (by omega),QR y]at m ⊢;simp at m ⊢;omega
 have q :∀v:Int,nM u.gX v u.dF=zj->nM u.gX v zj=zj:=λv h=>by
  cases w:u.dF
  .exact m v h w
  .rw [w]at h;exact h
 exact⟨⟨z.o,λ_=>y,z.a3,z.a4,z.d,z.a,z.b,z.s,z.n,q _ z.v⟩,⟨c.o,λ_=>y,c.a3,c.a4,c.d,c.a,c.b,c.s,c.n,q _ c.v⟩,j,t⟩
theorem SQ(h:GL n us):GL n (Oj fi us):=by
 refine⟨by rw[nR];exact h.1,λu hu=>?_⟩;obtain⟨j,d,e⟩:=WN hu;have b:j<us.length:=by rw[nR]at d;exact d
 have:=zY (fi:=fi) b;rw[getD_at _ d,e]at this;rw[this];split
 .rename_i m;unfold far at m;simp only[X1,Wa]at m;exact aol (h.at b) m.1.1
 .exact h.at b
def cnt(us:List cu):Nat:=((List.range us.length).map λj=>if(us.getD j aT).dF then 0 else 1).sum
theorem sum_lt{f g:Nat->Nat}:∀{n:Nat},(∀j,j<n->g j<=f j)->((List.range n).map g).sum<=((List.range n).map f).sum/\((∃j,j<n/\g j<f j)->((List.range n).map g).sum<((List.range n).map f).sum)
 |0,_=>⟨Z1 _,λ⟨j,h,_⟩=>absurd h (KK _)⟩
 |n+1,h=>by
  obtain⟨q,d⟩:=sum_lt (f:=f) (g:=g) (n:=n) λj m=>h j (by omega);have hn:=h n (by omega);simp only[JN,Ys,vb,Qf,V2,K4,List.sum_nil];refine⟨by omega,λ⟨j,m,b⟩=>?_⟩;by_cases e:j=n
  .subst e;omega
  .have:=d ⟨j,by omega,b⟩;omega
theorem aa7(h :∃j,j<us.length/\far fi us j=zj):cnt (Oj fi us)<cnt us:=by
 unfold cnt;rw[nR];refine(sum_lt λj b=>?_).2 ?_
 .rw [zY b];split
  .exact ve _
  .exact Z1 _
 .obtain ⟨j,b,d⟩:=h;refine⟨j,b,?_⟩;rw[zY b,QR d];unfold far at d;simp only[X1,V0]at d;rw[d.1.2];exact Nat.one_pos
inductive Rn(fi:List Int):List cu->List cu->Prop
 |done {us:List cu}:(∀j,j<us.length->far fi us j=zv)->Rn fi us us
 |step {us uf:List cu}:(∃j,j<us.length/\far fi us j=zj)->Rn fi (Oj fi us) uf->Rn fi us uf
theorem Rn.det{us a b:List cu}(w:Rn fi us a)(q:Rn fi us b):a=b:=by
 induction w with
 |done h=>
  cases q with
  |done _=>rfl
  |step d _=>obtain⟨j,m,e⟩:=d;rw[h j m]at e;cases e
 |step h _ y=>
  cases q with
  |done d=>obtain⟨j,m,e⟩:=h;rw[d j m]at e;cases e
  |step _ d=>exact y d
structure FI(n m:Nat)(fi:List Int):Prop where
 len:fi.length=n
 rng :∀x∈fi,0<=x/\x<=m
theorem FI.at{m:Nat}(h:FI n m fi){t:Int}(b:0<=t/\t<n):inB t fi.length=zj/\0<=fi.getD t.toNat 0/\fi.getD t.toNat 0<=m:=by refine⟨aC.2 (by rw[h.len];omega),?_⟩;have d:=h.len;rw[getD_at _ (by omega)];exact h.rng _ (Xs _)
end
noncomputable def yK(bl:List aO)(od:List Int):Nat->List Int
 |0=>List.replicate bl.length 0
 |i+1=>(yK bl od i).set (od.getD i 0).toNat (st bl od i)
noncomputable def codeOf(fi:List Int)(us:List cu)(j:Nat):dM:=dM.mk (us.getD j aT).gX (us.getD j aT).eX (us.getD j aT).iD (us.getD j aT).lH (us.getD j aT).lI (if 0<=(us.getD j aT).to then dst fi us j else(us.getD j aT).eY) (us.getD j aT).dF (us.getD j aT).fJ
noncomputable def nV(fi:List Int)(us:List cu):List dM:=(List.range us.length).map (codeOf fi us)
noncomputable def JO(bl:List aO)(od:List Int)(us:List cu):List Int:=(List.range bl.length).map λi=>(wI us (qK bl od i).length:Int)
theorem Rn.fin{fi:List Int}{us b:List cu}(h:Rn fi us b):∀j,j<b.length->far fi b j=zv:=by
 induction h with
 |done h=>exact h
 |step _ _ d=>exact d
theorem Rn.len{fi:List Int}{us b:List cu}(h:Rn fi us b):b.length=us.length:=by
 induction h with
 |done h=>rfl
 |step _ _ d=>rw[d,nR]
theorem Rn.gl{n:Nat}{fi:List Int}{us b:List cu}(h:Rn fi us b):GL n us->GL n b:=by
 induction h with
 |done h=>exact id
 |step _ _ d=>exact λhg=>d (SQ hg)
section
variable {bl:List aO} {od:List Int} {nm:List UInt8} {pa re:Int}
theorem Ns(h:FO bl)(b:Ord bl.length od):∀i,i<=bl.length->FI bl.length (qK bl od bl.length).length (yK bl od i)
 |0,_=>⟨by simp[yK],λx hx=>by have:=qD hx;subst this;omega⟩
 |i+1,m=>by
  obtain⟨d,j⟩:=Ns h b i (by omega);refine⟨by simp[yK,d],λx hx=>?_⟩;rcases qu hx with hx|hx
  .exact j x hx
  .subst hx;have:=zX bl od (bl.length-i) i;rw[show i+(bl.length-i)=bl.length by omega]at this;unfold st;omega
theorem EX(h:FO bl)(b:Ord bl.length od):GL bl.length (qK bl od bl.length):=⟨by have:=JM h b bl.length (Z1 _);have:=h.len;omega,aha h b bl.length (Z1 _)⟩
theorem SV{n:Nat}{us:List cu}{fi:List Int}(h:GL n us)(j:Nat):-603000000<=dst fi us j/\dst fi us j<=603000000:=by unfold dst;have:=Dc h (fi.getD (us.getD j aT).to.toNat 0).toNat;have:=Dc h (j+1);omega
theorem G7(h:FO bl)(w:Ord bl.length od):Ok (f32 nm pa re bl od) λy=>∃d,Rn (yK bl od bl.length) (qK bl od bl.length) d/\y=(0,nV (yK bl od bl.length) d,JO bl od d):=by
 have J:=h.len;have hol:=w.len;have T:=EX h w;unfold f32;refine bF _ (P_ (by omega) J.1 (by omega)) λy U=>b_ (by rw[U.2 w];rfl) (eP (ahb h w) (bK (qH.2 (by omega)) ?_));refine bF (λy=>y=yK bl od bl.length) ?_ λfi e=>?_
 .refine bD (λs:Int×List Int=>∃i:Nat,s=((i:Int),yK bl od i)/\i<=bl.length) (λs=>bl.length-s.1.toNat) ⟨0,by simp[yK],by omega⟩ λs ⟨i,e,hi⟩=>?_;subst e;refine dA (λb=>?_) λb=>?_
  rotate_left
  .have b:¬ i<od.length:=by simpa using b
   have:i=bl.length:=by omega
   subst this;exact aI rfl
  have b:i<od.length:=by simpa using b
  have ha:=w.at (i:=i) (by omega);have z:=(Ns h w i hi).at ha;refine bK (aC.2 (by simp only;omega)) (bK (aC.2 (by simp;omega)) (bK z.1 (aI ⟨⟨i+1,?_,by omega⟩,?_⟩)))
  .rw [aG (by omega)];simp only[Q4];rw[getD_at (l:=(List.range bl.length).map (st bl od)) _ (by simp;omega)];simp only[Kh,vd];rfl
  .simp only[aG (x:=(i:Int)+1) (by omega)];omega
 have X:=Ns h w bl.length (Z1 _);rw[<-e]at X ⊢;generalize Y:qK bl od bl.length=N at *;refine eP (WG T) (bF (λy=>∃d,Rn fi N d/\y=(d,YH d)) ?_ λy ⟨d,B,e⟩=>?_)
 .refine bD (λs:List cu×List Int=>∃us,s=(us,YH us)/\GL bl.length us/\us.length=N.length/\∀d,Rn fi us d->Rn fi N d) (λs=>cnt s.1) ⟨N,rfl,T,rfl,λ_ h=>h⟩ λs ⟨us,e,hg,J8,B⟩=>?_;subst e;have hu6:=hg.1;refine bF (λy=>y=((List.range us.length).any (far fi us),Oj fi us)) ?_ λy e=>?_
  .refine bD (λs:Bool×Int×List cu=>∃(j:Nat) (arr:List cu),s=((List.range j).any (far fi us),(j:Int),arr)/\j<=us.length/\arr.length=us.length/\(∀k,k<j->arr.getD k aT=(Oj fi us).getD k aT)/\∀k,j<=k->k<us.length->arr.getD k aT=us.getD k aT) (λs=>us.length-s.2.1.toNat)
    ⟨0,us,rfl,by omega,rfl,λk Z=>absurd Z (KK _),λ_ _ _=>rfl⟩ λs ⟨j,arr,e,h1,h2,h3,h4⟩=>?_
   subst e;refine dA (λb=>?_) λb=>?_
   rotate_left
   .have b:¬ j<us.length:=by simpa using b
    have:j=us.length:=by omega
    subst this;have:arr=Oj fi us:=by
     refine Kl (by rw[h2,nR]) λk k1 k2=>?_;have:=h3 k (by omega)
     rwa [getD_at _ k1,getD_at _ k2]at this
    subst this;exact aI rfl
   have b:j<us.length:=by simpa using b
   have hu:=h4 j (Z1 _) b;have m:=hg.at b;have K:far fi us j=(decide (0<=(us.getD j aT).to)&&!(us.getD j aT).dF&&(decide (dst fi us j < -128)||decide (127<dst fi us j))):=rfl;have hd:=SV (fi:=fi) hg j;have q:dst fi us j=(wI us (fi.getD (us.getD j aT).to.toNat 0).toNat:Int)-(wI us (j+1):Int):=rfl;refine bF (λy=>y=((List.range j).any (far fi us)||far fi us j,if far fi us j=zj then arr.set j (wid (us.getD j aT))else arr)) ?_ λy e=>?_
   .refine bK (aC.2 (by simp only;omega)) ?_;simp only[Q4,hu];generalize us.getD j aT=u at *;refine bF (λy=>y=(decide (u.to<0)||u.dF)) (dA (λb=>aI ?_) λb=>aI ?_) λy e=>?_
    .rw [b];rfl
    .rw [b];rfl
    subst e;refine dA (λhs=>?_) λhs=>?_
    .have z:far fi us j=zv:=by
      rw[K];simp only[Ka,Wa]at hs;rcases hs with hs|hs
      .rw [Qt (by omega)];rfl
      .rw [hs];simp
     rw[z];exact aI (by simp)
    simp only[J2,decide_eq_false_iff_not]at hs;obtain⟨hs1,hs2⟩:=hs;have L:0<=u.to:=by omega
    obtain⟨f1,f2,f3⟩:=X.at ⟨L,m.t⟩;have Qa:far fi us j=(decide (dst fi us j < -128)||decide (127<dst fi us j)):=by rw[K,YY L,hs2];rfl
    refine bK f1 (bK (aC.2 (by rw[oV];omega)) (bK (aC.2 (by rw[oV,aG (by omega)];omega)) ?_));have hd2:bT ((YH us).getD (fi.getD u.to.toNat 0).toNat 0-(YH us).getD (bT ((j:Int)+1)).toNat 0)=dst fi us j:=by rw[aG (x:=(j:Int)+1) (by omega),show ((j:Int)+1).toNat=j+1 by omega,uX (by omega),uX (by omega),<-q];exact aG (by omega)
    simp only[hd2];refine bF (λy=>y=far fi us j) (dA (λb=>aI ?_) λb=>aI ?_) λy e=>?_
    .rw [Qa,b];rfl
    .rw [Qa,b,K9];exact decide_eq_decide.2 (by omega)
    subst e;refine bF _ (dA (λz=>bK (aC.2 (by omega)) (aI ?_)) λz=>aI ?_) λy U=>aI U
    .rw [z,QR rfl,Bool.or_true];rfl
    .rw [z,QP (by simp),vR]
   .subst e;refine aI ⟨⟨j+1,if far fi us j=zj then arr.set j (wid (us.getD j aT))else arr,?_,b,?_,λk Z=>?_,λk Z hk2=>?_⟩,?_⟩
    .simp only;rw[aG (by omega),JN,List.any_append,List.any_cons,List.any_nil,vR];rfl
    .split
     .rw [J0,h2]
     .exact h2
    .by_cases e:k=j
     .subst e;rw[zY b];split
      .rw [iO (by omega),QR rfl]
      .exact hu
     .rw [<-h3 k (by omega)];split
      .rw [iO (by omega),QP e]
      .rfl
    .rw [<-h4 k (by omega) hk2];split
     .rw [iO (by omega),QP (by omega)]
     .rfl
    .simp only[aG (x:=(j:Int)+1) (by omega)];omega
  .subst e;refine dA (λb=>aI ?_) λb=>?_
   .have hn :∀j,j<us.length->far fi us j=zv:=λj hj=>by simp only[V0,List.any_eq_false,Up]at b;simpa using b j hj
    exact⟨us,B us (.done hn),by rw[EW hn]⟩
   .have hex :∃j,j<us.length/\far fi us j=zj:=by simp only[va,KS,Up]at b;exact b
    exact eP (WG (SQ hg)) (aI ⟨⟨Oj fi us,rfl,SQ hg,by rw[nR,J8],λd hr=>B d (.step hex hr)⟩,aa7 hex⟩)
 subst e;have hg:=B.gl T;have J8:=B.len;have hg6:=hg.1;refine bF (λy=>y=nV fi d) ?_ λy e=>?_
 .refine bD (λs:Int×List dM=>∃j:Nat,s=((j:Int),(List.range j).map (codeOf fi d))/\j<=d.length) (λs=>d.length-s.1.toNat) ⟨0,rfl,by omega⟩ λs ⟨j,e,hj⟩=>?_;subst e;refine dA (λb=>?_) λb=>?_
  rotate_left
  .have b:¬ j<d.length:=by simpa using b
   have:j=d.length:=by omega
   subst this;exact aI rfl
  have b:j<d.length:=by simpa using b
  have hd:=SV (fi:=fi) hg j;have m:=hg.at b;have q:dst fi d j=(wI d (fi.getD (d.getD j aT).to.toNat 0).toNat:Int)-(wI d (j+1):Int):=rfl;have M:codeOf fi d j=dM.mk (d.getD j aT).gX (d.getD j aT).eX (d.getD j aT).iD (d.getD j aT).lH (d.getD j aT).lI (if 0<=(d.getD j aT).to then dst fi d j else(d.getD j aT).eY) (d.getD j aT).dF (d.getD j aT).fJ:=rfl;refine bK (aC.2 (by simp only;omega)) ?_;simp only[Q4];obtain⟨u,hue⟩ :∃u,d.getD j aT=u:=⟨_,rfl⟩;simp only[hue]at m q M ⊢;refine bF (λy=>y=(u.gX,u.eX,u.iD,u.lH,u.lI,(if 0<=u.to then dst fi d j else u.eY),u.dF,u.fJ,u.to)) (dA (λH=>?_) λH=>aI ?_) λy e=>?_
  .have H:0<=u.to:=ZS H;obtain⟨f1,f2,f3⟩:=X.at ⟨H,m.t⟩;refine bK f1 (bK (aC.2 (by rw[oV];omega)) (bK (aC.2 (by rw[oV,aG (by omega)];omega)) (aI ?_)));rw[aG (x:=(j:Int)+1) (by omega),show ((j:Int)+1).toNat=j+1 by omega,uX (by omega),uX (by omega),<-q,aG (by omega),QR H]
  .rw [QP (ZZ H)]
  subst e;refine bK (by unfold aV;simp;omega) (aI ⟨⟨j+1,?_,b⟩,?_⟩)
  .rw [aG (by omega),JN,Ys,Qf,V2,M];rfl
  .simp only[aG (x:=(j:Int)+1) (by omega)];omega
 subst e;refine bF (λy=>y=JO bl od d) ?_ λy e=>by subst e;exact aI ⟨d,B,rfl⟩
 refine bD (λs:Int×List Int=>∃i:Nat,s=((i:Int),(List.range i).map λi=>(wI d (qK bl od i).length:Int))/\i<=bl.length) (λs=>bl.length-s.1.toNat) ⟨0,rfl,by omega⟩ λs ⟨i,e,hi⟩=>?_;subst e;refine dA (λb=>?_) λb=>?_
 rotate_left
 .have b:¬ i<bl.length:=by simpa using b
  have:i=bl.length:=by omega
  subst this;exact aI rfl
 have b:i<bl.length:=by simpa using b
 have hm:=zX bl od (bl.length-i) i;rw[show i+(bl.length-i)=bl.length by omega,Y]at hm;have hs:((List.range bl.length).map (st bl od)).getD i 0=((qK bl od i).length:Int):=by rw[getD_at _ (by simpa using b)];simp[st]
 refine bK (aC.2 (by simp;omega)) ?_;simp only[Q4,hs];refine bK (aC.2 (by rw[oV];omega)) (bK (by unfold aV;simp;omega) (aI ⟨⟨i+1,?_,b⟩,?_⟩))
 .rw [aG (by omega),JN,Ys,Qf,V2,uX (by omega)];rfl
 .simp only[aG (x:=(i:Int)+1) (by omega)];omega
end
def iV(v:Int)(u:cu):fZ:=fZ.mk u.gX u.eX u.iD u.lH u.lI v u.dF u.fJ u.to
def iU(u:cu):fZ:=iV u.eY u
theorem adr{k a t e n:Int}:f63 k a t e n=zw ((ET k a t e n).map iU):=by
 apply ok_eq;unfold f63 ET;refine dA (λh=>?_) λh=>?_
 .rw [QR (ZS h)];exact aI rfl
 rw[QP (ZZ h)];refine bF (λy=>y=decide (k=1\/t=e)) (dA (λh=>aI ?_) λh=>aI ?_) λy b=>?_
 .exact (YY (.inl (ZS h))).symm
 .exact decide_eq_decide.2 (by have:=ZZ h;simp[this])
 subst b;refine dA (λh=>?_) λh=>?_
 .rw [QR (ZS h)];refine dA (λh=>?_) λh=>?_
  .rw [QR (ZS h)];exact aI rfl
  .rw [QP (ZZ h)];exact aI rfl
 rw[QP (ZZ h)];refine dA (λh=>?_) λh=>?_
 .rw [QR (ZS h)];exact aI rfl
 rw[QP (ZZ h)];refine dA (λh=>?_) λh=>?_
 .rw [QR (ZS h)];exact aI rfl
 .rw [QP (ZZ h)];exact aI rfl
theorem G8:∀(n:Nat) (l:List Int),l.Nodup->(∀x∈l,0<=x/\x<n)->l.length<=n
 |0,l,_,h=>by
  cases l with
  |nil=>simp
  |cons a l=>have:=h a Kb;omega
 |n+1,l,hn,h=>by
  by_cases d:(n:Int)∈l
  .have j:=List.perm_cons_erase d;have q:=G8 n (l.erase n) (hn.erase _) λx b=>by
    have m:=h x (List.mem_of_mem_erase b);have:x≠n:=λe=>by subst e;exact hn.not_mem_erase b
    omega
   have:=j.length_eq;rw[Wm]at this;omega
  .have:=G8 n l hn λx b=>by have m:=h x b;have:x≠n:=λe=>d (e▸b);omega
   omega
theorem WH:∀(n:Nat) (l:List Int),l.Nodup->(∀x∈l,0<=x/\x<n)->l.length=n->l.Perm (nat n)
 |0,l,_,_,h=>by rw[WF]at h;subst h;exact vA _
 |n+1,l,hn,h,y=>by
  by_cases j:(n:Int)∈l
  .have m:=List.perm_cons_erase j;have b:=m.length_eq;rw[Wm]at b;have q:=WH n (l.erase n) (hn.erase _) (λx d=>by
    have w:=h x (List.mem_of_mem_erase d);have:x≠n:=λe=>by subst e;exact hn.not_mem_erase d
    omega) (by omega)
   rw[EU];exact m.trans ((q.cons _).trans (List.perm_append_singleton _ _).symm)
  .have:=G8 n l hn λx d=>by have w:=h x d;have:x≠n:=λe=>j (e▸d);omega
   omega
section
variable {bl:List aO} {od:List Int} {nm:List UInt8} {pa re:Int}
theorem ads(X:0<bl.length)(hl:od.length<=1000000):Ok (f61 nm pa re bl od) λy=>y=zj↔Ord bl.length od:=by
 unfold f61;refine bF (λy=>y=zj↔od.length≠bl.length\/od.length=0\/od.getD 0 0≠0) (dA (λd=>aI ?_) λd=>dA (λw=>aI ?_) λw=>?_) λy H=>dA (λd=>aI ?_) λd=>?_
 .have:¬ od.length=bl.length:=by simp at d;omega
  exact⟨λ_=>.inl this,λ_=>rfl⟩
 .have:od.length=0:=by simpa using w
  exact⟨λ_=>.inr (.inl this),λ_=>rfl⟩
 .have Y:od.length=bl.length:=by simp at d;omega
  have w:¬ od.length=0:=by simpa using w
  refine bK (aC.2 (by omega)) (aI ?_);simp only[vz,V0,decide_eq_false_iff_not];exact⟨λh=>.inr (.inr h),λh=>(h.resolve_left (λe=>e Y)).resolve_left w⟩
 .refine ⟨(λh=>by cases h),λj=>?_⟩;rcases H.1 d with e|e|e
  .exact absurd j.len e
  .have:=j.len;omega
  .exact absurd j.zero e
 have hn:¬ (od.length≠bl.length\/od.length=0\/od.getD 0 0≠0):=λh=>by rw[H.2 h]at d;cases d
 have Z:od.length=bl.length:=qv λh=>hn (.inl h);have e2:od.getD 0 0=0:=qv λh=>hn (.inr (.inr h));refine bK (qH.2 (by omega)) (iI (λ_=>Ord bl.length od) ?_ λ_ j=>aI ⟨λ_=>j,λ_=>rfl⟩);refine bD (λs:Int×List Bool=>∃i:Nat,s.1=i/\i<=od.length/\s.2.length=bl.length/\(∀x∈od.take i,0<=x/\x<bl.length)/\(od.take i).Nodup/\∀x,x<bl.length->(s.2.getD x zv=zj↔(x:Int)∈od.take i)) (λs=>od.length-s.1.toNat)
  ⟨0,rfl,by omega,by simp;omega,(λx J=>by simp at J),by simp,λx J=>by rw[getD_at _ (by rw[Kf];omega)];simp⟩ λ⟨i',sn⟩ ⟨i,q1,q2,q3,q4,q5,q6⟩=>?_
 simp only at q1 q3 q4 q5 q6;subst q1;refine dA (λd=>?_) λd=>aI ?_
 rotate_left
 .have d:¬ i<od.length:=by simpa using d
  rw[WD (by omega)]at q4 q5;exact⟨WH _ _ q5 q4 Z,e2,X⟩
 have d:i<od.length:=by simpa using d
 have B:=aC.2 (show 0<=(i:Int)/\(i:Int)<od.length by omega);have m:od.take (i+1)=od.take i++[od.getD i 0]:=by rw[take_snoc d,getD_at _ d]
 have q:od.getD i 0∈od:=by rw[getD_at _ d];exact Xs _
 obtain⟨x,J⟩ :∃x,od.getD i 0=x:=⟨_,rfl⟩;rw[J]at m q;refine bF (λy=>(y=zj->¬ Ord bl.length od)/\(y=zv->(0<=x/\x<bl.length)/\sn.getD x.toNat zv=zv)) ?_ λy ⟨y1,y2⟩=>dA (λH=>aI ⟨(λh=>by cases h),λj=>absurd j (y1 H)⟩) λH=>?_
 .refine bK B ?_;simp only[Q4,J];refine dA (λh=>aI ⟨λ_ j=>?_,λh=>by cases h⟩) λh=>bK B (dA (λw=>aI ⟨λ_ j=>?_,λh=>by cases h⟩) λw=>bK B ?_)
  .have:=j.mem.1 q;have:=ZS h;omega
  .have:=j.mem.1 q;have:=ZS w;omega
  .have h:=ZZ h;have w:=ZZ w;refine bK (aC.2 (by omega)) (aI ⟨λK j=>?_,λK=>⟨by omega,K⟩⟩);have T:=(q6 x.toNat (by omega)).1 K;rw[JP (by omega)]at T;have M:od.Nodup:=j.perm.nodup_iff.2 (by unfold nat;exact vE.2 (List.pairwise_lt_range.imp λh=>by simp;omega));have:(od.take (i+1)).Nodup:=M.sublist (List.take_sublist _ _);rw[m,List.nodup_append]at this;exact this.2.2 x T x (by simp) rfl
 .obtain ⟨⟨x0,x1⟩,K⟩:=y2 H;refine bK B ?_;simp only[Q4,J];have N:x∉od.take i:=λh=>by have:=(q6 x.toNat (by omega)).2 (by rw[JP x0];exact h);rw[K]at this;cases this
  refine bK (aC.2 (by omega)) (aI ⟨⟨i+1,?_,d,by simpa using q3,λz L=>?_,?_,λz L=>?_⟩,?_⟩)
  .rw [aG (by omega)];rfl
  .rw [m]at L;rcases Z0.1 L with h|h
   .exact q4 z h
   .rw [X2]at h;omega
  .rw [m,List.nodup_append];exact⟨q5,by simp,λa ha b U=>by rw[X2]at U;subst U;exact λe=>N (e▸ha)⟩
  .rw [iO (by omega),m,Z0,X2];split
   .rename_i e;exact⟨λ_=>.inr (by omega),λ_=>rfl⟩
   .rename_i e;rw[q6 z L];exact⟨.inl,λh=>h.resolve_right λh=>e (by omega)⟩
  .simp only[aG (x:=(i:Int)+1) (by omega)];omega
end
theorem w1{i n:Nat}(h:i<n)(hn:n<=4000000000):bT ((i:Int)+1)=((i+1:Nat):Int):=by rw[aG (by omega)];rfl
theorem aa8{n j:Nat}{us:List cu}{fi:List Int}(hg:GL n us)(y:j<us.length)(h:far fi us j=zv):VC (codeOf fi us j).op (codeOf fi us j).arith (codeOf fi us j).dst (codeOf fi us j).a (codeOf fi us j).b (codeOf fi us j).value (codeOf fi us j).wide (codeOf fi us j).args:=by
 have hu:=hg.at y;have hd:=SV (fi:=fi) hg j;unfold far at h;unfold codeOf;obtain⟨u,e⟩ :∃u,us.getD j aT=u:=⟨_,rfl⟩;simp only[e]at hu h ⊢;obtain⟨o,w,a3,a4,d,a,b,s,n,v⟩:=hu.c;refine⟨o,w,a3,a4,d,a,b,s,n,?_⟩;split
 .rename_i q;have m:=hu.j.1 q;rw[YY q]at h;unfold nM;rw[QP (by omega),QP (by omega),QP (by omega),QP (by omega),QR m];cases z:u.dF with
  |true=>simp;omega
  |false=>rw[z]at h;simp at h ⊢;omega
 .exact v
section
variable {bl:List aO} {od:List Int} {nm:List UInt8} {pa re:Int}
theorem ahe(h:Ord bl.length od){k:Nat}:∀{i:Nat},i<=bl.length->k<i->(yK bl od i).getD (od.getD k 0).toNat 0=st bl od k
 |0,_,m=>absurd m (KK _)
 |i+1,w,m=>by
  have y:=h.len;have b:od.Nodup:=h.perm.nodup_iff.2 (by unfold nat;exact vE.2 (List.pairwise_lt_range.imp λh=>by simp;omega));have z:=h.at (i:=i) (by omega);have B:=h.at (i:=k) (by omega);have d :∀i,(yK bl od i).length=bl.length:=λi=>by
   induction i with
   |zero=>simp[yK]
   |succ i q=>simp[yK,q]
  show ((yK bl od i).set _ _).getD _ 0=_;rw[iO (by rw[d];omega)];by_cases e:k=i
  .subst e;rw[QR rfl]
  .rw [QP λj=>e ?_]
   .exact ahe h (by omega) (by omega)
   .have j:od.getD k 0=od.getD i 0:=by omega
    rw[getD_at _ (by omega),getD_at _ (by omega)]at j;exact(List.getElem_inj b).1 j
theorem aom(h:FO bl)(z:Ord bl.length od):Ok (f31 nm pa re bl od) λy=>∀b,Rn (yK bl od bl.length) (qK bl od bl.length) b->y=(wI b b.length:Int):=by
 unfold f31;refine bF _ (G7 h z) λy ⟨b,q,e⟩=>?_;subst e;have hg:=q.gl (EX h z);have B:=hg.1;generalize yK bl od bl.length=fi at *;have m:(nV fi b).length=b.length:=by simp[nV]
 refine bF (λy=>y=(wI b b.length:Int)) ?_ λy e=>aI λu2 H=>by rw[Rn.det H q];exact e
 refine bD (λs:Int×Int=>∃j:Nat,s=((wI b j:Int),(j:Int))/\j<=b.length) (λs=>b.length-s.2.toNat) ⟨0,rfl,by omega⟩ λs ⟨j,e,N⟩=>?_;subst e;simp only[m];refine dA (λd=>?_) λd=>aI ?_
 rotate_left
 .have d:¬ j<b.length:=by simpa using d
  have:j=b.length:=by omega
  subst this;rfl
 have d:j<b.length:=by simpa using d
 have w:(nV fi b).getD j x9=codeOf fi b j:=by rw[getD_at _ (by rw[m];exact d)];simp[nV]
 have J:=Dc hg (j+1);have K:=sJ d;have L:=aa8 hg d (q.fin j d);refine bK (aC.2 (by omega)) ?_;simp only[Q4,w];refine bF (λy=>y=(szU (b.getD j aT):Int)) ?_ λy e=>?_
 .unfold f55;exact bF _ (ag6 L) λy M=>aI (by rw[M.2];rfl)
 subst e;refine aI ⟨⟨j+1,?_,d⟩,?_⟩
 .rw [aG (by omega),aG (by omega),K];rfl
 .simp only[aG (x:=(j:Int)+1) (by omega)];omega
end
def tab{α:Type}(n:Nat)(f:Nat->α):List α:=(List.range n).map f
theorem Au{α:Type}{n:Nat}{f:Nat->α}:(tab n f).length=n:=by simp[tab]
theorem G9{α:Type}{n j:Nat}{f:Nat->α}{d:α}(h:j<n):(tab n f).getD j d=f j:=by rw[getD_at _ (by rw[Au];exact h)];simp[tab]
theorem EY{α:Type}{n:Nat}{f g:Nat->α}(h :∀j,j<n->f j=g j):tab n f=tab n g:=W8 λj b=>h j (Up.1 b)
theorem SX{α:Type}{n j:Nat}{f g:Nat->α}{x:α}(h :∀k,k<n->g k=if k=j then x else f k):(tab n f).set j x=tab n g:=by
 refine Kl (by simp[tab]) λk m b=>?_;have d:k<n:=by simpa[tab]using b
 rw[List.getElem_set];simp only[tab,Kh,vd,h k d];by_cases e:j=k
 .rw [QR e,QR e.symm]
 .rw [QP e,QP λh=>e h.symm]
theorem aon{α:Type}{n:Nat}{l:List α}(d:α)(h:l.length=n):l=tab n λk=>l.getD k d:=by subst h;refine Kl (by simp[tab]) λk b j=>?_;simp only[tab,Kh,vd,getD_at d b]
def IZ(v:Nat->Int)(u:cu)(j:Nat):fZ:=iV (if 0<=u.to then v j else u.eY) u
noncomputable def Je(v:Nat->Int)(us:List cu):List fZ:=tab us.length λj=>IZ v (us.getD j aT) j
section
variable {bl:List aO} {od:List Int} {nm:List UInt8} {pa re:Int}
theorem ahf{u:cu}{n:Nat}{v:Int}(h:GU n u):f35 u.gX u.eX u.iD u.lH u.lI v u.dF u.fJ=zw (szU u:Int):=by apply ok_eq;unfold f35 f64;exact eP (y:=(szU u:Int)) (ok_eq (bF _ (ar2 h.z) λy b=>aI (by rw[b.2];rfl))) (aI rfl)
theorem ahg(h:FO bl)(T:Ord bl.length od):Ok (f34 nm pa re bl od) λy=>∃w,Rn (yK bl od bl.length) (qK bl od bl.length) w/\y=(0,nV (yK bl od bl.length) w,JO bl od w):=by
 have hlen:=h.len;have hol:=T.len;have hG:=EX h T;unfold f34;refine bF _ (ads hlen.1 (by omega)) λy hy=>b_ (by rw[hy.2 T];rfl) (bK (qH.2 (by omega)) ?_);refine bF (λy=>y=((qK bl od bl.length).map iU,yK bl od bl.length)) ?_ λy e=>?_
 .refine bD (λs:Int×List fZ×List Int=>∃i:Nat,s=((i:Int),(qK bl od i).map iU,yK bl od i)/\i<=bl.length) (λs=>bl.length-s.1.toNat) ⟨0,by rw[hol];rfl,by omega⟩ λs ⟨i,e,hi⟩=>?_;subst e;refine dA (λm=>?_) λm=>?_
  rotate_left
  .have m:¬ i<od.length:=by simpa using m
   have:i=bl.length:=by omega
   subst this;exact aI rfl
  have m:i<od.length:=by simpa using m
  have ha:=T.at (i:=i) (by omega);have hb:(od.getD i 0).toNat<bl.length:=by omega
  have J8:=JM h T i hi;have hx:=(h.blk hb).1;have q:=aC.2 (show 0<=(i:Int)/\(i:Int)<od.length by omega);have L:=(Ns h T i hi).at ha;obtain⟨b,U⟩ :∃b,bl.getD (od.getD i 0).toNat aA=b:=⟨_,rfl⟩;have hins:=h.ins b (U▸(h.blk hb).2);rw[U]at hx;refine bK q (bK (aC.2 (by simp only[Q4];omega)) (bK q (bK L.1 ?_)));simp only[Q4,U];refine bF (λy=>y=(qK bl od i++b.instrs.map λi=>uT (jq i)).map iU) ?_ λs16 e=>?_
  .refine bD (λs:Int×List fZ=>∃k:Nat,s=((k:Int),(qK bl od i++(b.instrs.take k).map λi=>uT (jq i)).map iU)/\k<=b.instrs.length) (λs=>b.instrs.length-s.1.toNat) ⟨0,by simp,by omega⟩ λs ⟨k,e,J⟩=>?_;subst e;refine dA (λm=>?_) λm=>?_
   .have m:k<b.instrs.length:=by simpa using m
    refine bK (aC.2 (by simp only;omega)) ?_;simp only[Q4,getD_at _ m];refine eP (hins _ (Xs m)).1 (bK (by unfold aV;simp;omega) (aI ⟨⟨k+1,?_,by omega⟩,?_⟩))
    .have e:(qK bl od i++(b.instrs.take (k+1)).map λi=>uT (jq i)).map iU=(qK bl od i++(b.instrs.take k).map λi=>uT (jq i)).map iU++[iU (uT (jq b.instrs[k]))]:=by rw[take_snoc m,Ys (f:=λi=>uT (jq i)),<-W4,Ys (f:=iU)];rfl
     rw[aG (by omega),e];rfl
    .simp only[aG (x:=(k:Int)+1) (by omega)];omega
   .have m:¬ k<b.instrs.length:=by simpa using m
    refine aI (show (qK bl od i++(b.instrs.take k).map (λi=>uT (jq i))).map iU=_ from ?_);rw[WD (by omega)]
  subst e;have H:=w1 m (by omega);refine bF (λy=>y=nxt od i) ?_ λy e=>?_
  .simp only[H];unfold nxt;refine dA (λm=>?_) λm=>?_
   .have m:i+1<od.length:=by have:=ZS m;omega
    rw[QR m];exact bK (aC.2 (by omega)) (aI rfl)
   .rw [QP (by have:=ZZ m;omega)];exact aI rfl
  subst e;have hel:=SL b.bV b.lJ b.f_ b.dI (nxt od i);refine eP adr (bK (by unfold aV;simp;omega) (aI ⟨⟨i+1,?_,by omega⟩,?_⟩))
  .rw [H];show _=(_,(qK bl od i++SN (bl.getD (od.getD i 0).toNat aA) (nxt od i)).map iU,(yK bl od i).set (od.getD i 0).toNat (st bl od i));rw[U];unfold SN st;simp only[Ys,W4,We]
  .simp only[H,Q4];omega
 subst e;have hF:=Ns h T bl.length (Z1 _);have hFa :∀k,k<bl.length->(yK bl od bl.length).getD (od.getD k 0).toNat 0=st bl od k:=λk J=>ahe T (Z1 _) J;generalize yK bl od bl.length=fi at *;have hst :∀i,i<=bl.length->(qK bl od i).length<=(qK bl od bl.length).length:=λi hi=>by
  have:=zX bl od (bl.length-i) i
  rwa [show i+(bl.length-i)=bl.length by omega]at this
 generalize huT:qK bl od bl.length=M at *;have hu6:=hG.1;have hw0:bT ((M.length:Int)+1)=((M.length+1:Nat):Int):=by rw[aG (by omega)];rfl
 simp only[We,hw0];refine bK (qH.2 (by omega)) (bF (λy=>∃w,Rn fi M w/\y=(Je (dst fi w) w,YH w)) ?_ λy ⟨w,hR,e⟩=>?_)
 .refine bD (λs:Bool×List fZ×List Int=>∃us v,s.2.1=Je v us/\GL bl.length us/\us.length=M.length/\(∀w,Rn fi us w->Rn fi M w)/\(s.2.2.length=us.length+1/\s.2.2.getD 0 0=0)/\(s.1=zv->(∀j,j<us.length->far fi us j=zv)/\v=dst fi us/\s.2.2=YH us)) (λs=>(List.map (λx:fZ=>if x.dF then 0 else 1) s.2.1).sum*2+if s.1 then 1 else 0)
   ⟨M,λj=>(M.getD j aT).eY,?_,hG,rfl,λ_ h=>h,⟨by simp,by simp⟩,λh=>by cases h⟩ λ⟨more,its,at'⟩ ⟨us,v,e,hg,J8,hR,⟨ha1,ha2⟩,Z⟩=>?_
  .show M.map iU=_;rw[aon aT (rfl:M.length=_)];unfold Je tab;rw[We,qr,UI];refine W8 λj N=>?_;have:=G9 (f:=λk=>M.getD k aT) (d:=aT) (Up.1 N);unfold tab at this;simp only[Function.comp,this,IZ,iU,ite_self]
  simp only at e ha1 ha2 Z;subst e;refine dA (λhm=>?_) λhm=>?_
  rotate_left
  .obtain ⟨f1,f2,f3⟩:=Z hm;subst f2;exact aI ⟨us,hR us (.done f1),by rw[f3]⟩
  have X:(Je v us).length=us.length:=Au;have hg6:=hg.1;refine bF (λy=>y=YH us) ?_ λy e=>?_
  .refine bD (λs:Int×List Int=>∃k:Nat,s.1=k/\k<=us.length/\s.2.length=us.length+1/\∀i,i<=k->s.2.getD i 0=(wI us i:Int)) (λs=>us.length-s.1.toNat) ⟨0,rfl,by omega,ha1,λi hi=>by
    have:i=0:=by omega
    subst this;rw[ha2];simp[wI]⟩ λ⟨k',arr⟩ ⟨k,e,g1,g2,g3⟩=>?_
   simp only at e g2 g3;subst e;rw[X];refine dA (λm=>?_) λm=>?_
   rotate_left
   .have m:¬ k<us.length:=by simpa using m
    refine aI (show arr=_ from Kl (by rw[g2,oV]) λi h1 h2=>?_);have:=g3 i (by omega)
    rwa [<-uX (by omega),getD_at _ h1,getD_at _ h2]at this
   have m:k<us.length:=by simpa using m
   have H:=w1 m (by omega);have hu:=hg.at m;refine bK (aC.2 (by simp only;omega)) (bK (aC.2 (by simp only;omega)) ?_);have K:(Je v us).getD k fB=IZ v (us.getD k aT) k:=G9 m;simp only[Q4,K,H];have hal:=Dc hg (k+1);refine eP (ahf hu) (bK (aC.2 (by omega)) (aI ⟨⟨k+1,rfl,m,by simpa using g2,λi hi=>?_⟩,?_⟩))
   .simp only[Q4];rw[iO (by omega),g3 k (by omega)];split
    .rename_i e;subst e;rw[sJ m,aG (by rw[sJ m]at hal;omega)];rfl
    .exact g3 i (by omega)
   .simp only;omega
  subst e;simp only[X];refine bK (qH.2 (by omega)) ?_;rw[Q4];refine bF (λy=>y=((List.range us.length).any (far fi us),Je (dst fi us) us,tab us.length (far fi us))) ?_ λy e=>?_
  .refine bD (λs:Bool×Int×List fZ×List Bool=>∃j:Nat,s=((List.range j).any (far fi us),(j:Int),Je (λk=>if k<j then dst fi us k else v k) us,tab us.length λk=>decide (k<j)&&far fi us k)/\j<=us.length) (λs=>us.length-s.2.1.toNat)
    ⟨0,?_,by omega⟩ λs ⟨j,e,N⟩=>?_
   .have:List.replicate us.length zv=tab us.length λk=>decide (k<0)&&far fi us k:=by unfold tab;rw[List.map_eq_replicate_iff.2 λx _=>(by simp:(decide (x<0)&&far fi us x)=zv),qr]
    rw[this];simp
   subst e;have ar8 :∀v,(Je v us).length=us.length:=λv=>Au;have Y :∀f:Nat->Bool,(tab us.length f).length=us.length:=λf=>Au;simp only[ar8];refine dA (λm=>?_) λm=>?_
   rotate_left
   .have m:¬ j<us.length:=by simpa using m
    have:j=us.length:=by omega
    subst this;refine aI (show _=_ from ?_);have e1:Je (λk=>if k<us.length then dst fi us k else v k) us=Je (dst fi us) us:=EY λk J=>by simp only[IZ,QR J]
    have e2:(tab us.length λk=>decide (k<us.length)&&far fi us k)=tab us.length (far fi us):=EY λk J=>by rw[YY J];rfl
    rw[e1,e2]
   have m:j<us.length:=by simpa using m
   have q:=aC.2 (show 0<=(j:Int)/\(j:Int)<us.length by omega);have hgu:=hg.at m;have H:=w1 m (by omega);have ahd:far fi us j=(decide (0<=(us.getD j aT).to)&&!(us.getD j aT).dF&&(decide (dst fi us j < -128)||decide (127<dst fi us j))):=rfl;have hd:=SV (fi:=fi) hg j;have hde:dst fi us j=(wI us (fi.getD (us.getD j aT).to.toNat 0).toNat:Int)-(wI us (j+1):Int):=rfl;have K :∀v,(Je v us).getD j fB=IZ v (us.getD j aT) j:=λv=>G9 m;have z:(List.range (j+1)).any (far fi us)=((List.range j).any (far fi us)||far fi us j):=by rw[JN,List.any_append,List.any_cons,List.any_nil,vR]
   refine bF (λy=>y=((List.range (j+1)).any (far fi us),Je (λk=>if k<j+1 then dst fi us k else v k) us,tab us.length λk=>decide (k<j+1)&&far fi us k)) (bK q ?_) λy e=>?_
   .simp only[Q4,K];refine dA (λht=>aI ?_) λht=>bK q ?_
    .have ht:(us.getD j aT).to<0:=ZS ht;have L:far fi us j=zv:=by rw[ahd,Qt (by omega)];rfl
     rw[z,L,vR];have e1:Je (λk=>if k<j then dst fi us k else v k) us=Je (λk=>if k<j+1 then dst fi us k else v k) us:=EY λk J=>by
      by_cases e:k=j
      .subst e;simp only[IZ];rw[QP (by omega),QP (by omega)]
      .unfold IZ;simp only[show (k<j+1)=(k<j) from propext (by omega)]
     have e2:(tab us.length λk=>decide (k<j)&&far fi us k)=tab us.length λk=>decide (k<j+1)&&far fi us k:=EY λk J=>by
      by_cases e:k=j
      .subst e;simp[L]
      .simp only[show (k<j+1)=(k<j) from propext (by omega)]
     rw[e1,e2]
    have ht:0<=(us.getD j aT).to:=by have:=ZZ ht;simp only[IZ,iV]at this;omega
    obtain⟨f1,f2,f3⟩:=hF.at ⟨ht,hgu.t⟩;have Qa:far fi us j=(!(us.getD j aT).dF&&(decide (dst fi us j < -128)||decide (127<dst fi us j))):=by rw[ahd,YY ht];rfl
    have hto :∀v,(IZ v (us.getD j aT) j).to=(us.getD j aT).to:=λ_=>rfl;have e1:(Je (λk=>if k<j then dst fi us k else v k) us).set j (iV (dst fi us j) (us.getD j aT))=Je (λk=>if k<j+1 then dst fi us k else v k) us:=SX λk J=>by
     by_cases e:k=j
     .subst e;rw[QR rfl];simp only[IZ,QR ht,QR (Nat.lt_succ_self k)]
     .rw [QP e];unfold IZ;simp only[show (k<j+1)=(k<j) from propext (by omega)]
    have e2 :∀x,x=far fi us j->(tab us.length λk=>decide (k<j)&&far fi us k).set j x=tab us.length λk=>decide (k<j+1)&&far fi us k:=λx hx=>SX λk J=>by
     by_cases e:k=j
     .subst e;rw[QR rfl,YY (by omega),hx];rfl
     .rw [QP e];simp only[show (k<j+1)=(k<j) from propext (by omega)]
    simp only[hto,H];refine bK f1 (bK (aC.2 (by rw[oV];omega)) (bK (aC.2 (by rw[oV];omega)) (bK q ?_)));have hd2:bT ((YH us).getD (fi.getD (us.getD j aT).to.toNat 0).toNat 0-(YH us).getD (((j+1:Nat):Int)).toNat 0)=dst fi us j:=by rw[Q4,uX (by omega),uX (by omega),<-hde];exact aG (by omega)
    have hmk:fZ.mk (IZ (λk=>if k<j then dst fi us k else v k) (us.getD j aT) j).gX (IZ (λk=>if k<j then dst fi us k else v k) (us.getD j aT) j).eX (IZ (λk=>if k<j then dst fi us k else v k) (us.getD j aT) j).iD (IZ (λk=>if k<j then dst fi us k else v k) (us.getD j aT) j).lH (IZ (λk=>if k<j then dst fi us k else v k) (us.getD j aT) j).lI (dst fi us j) (IZ (λk=>if k<j then dst fi us k else v k) (us.getD j aT) j).dF (IZ (λk=>if k<j then dst fi us k else v k) (us.getD j aT) j).fJ (us.getD j aT).to=iV (dst fi us j) (us.getD j aT):=rfl;simp only[hd2,hmk,e1];refine bF (λy=>y=tab us.length λk=>decide (k<j+1)&&far fi us k) (bK (by rw[ar8];exact q) ?_) λy e=>?_
    .have B:((Je (λk=>if k<j+1 then dst fi us k else v k) us).getD j fB).dF=(us.getD j aT).dF:=by rw[K];rfl
     rw[B];refine dA (λhn=>dA (λhl=>?_) λhl=>?_) λhn=>?_
     .exact bK (by rw[Y];exact q) (aI (e2 _ (by rw[Qa,hn,hl];rfl)))
     .exact bK (by rw[Y];exact q) (aI (e2 _ (by rw[Qa,hn,hl];rfl)))
     .exact bK (by rw[Y];exact q) (aI (e2 _ (by rw[Qa,hn];rfl)))
    subst e;refine bF (λy=>y=(List.range (j+1)).any (far fi us)) (dA (λhg=>aI ?_) λhg=>bK (by rw[Y];exact q) (aI ?_)) λy e=>by subst e;exact aI rfl
    .rw [z,hg];rfl
    .rw [z,hg,G9 m,YY (by omega)];rfl
   .subst e;refine aI ⟨⟨j+1,by rw[H],m⟩,?_⟩;simp only[H,Q4];omega
  subst e;refine bF (λy=>y=Je (dst fi us) (Oj fi us)) ?_ λy e=>?_
  .have hrl:(Oj fi us).length=us.length:=nR;refine bD (λs:Int×List fZ=>∃j:Nat,s=((j:Int),tab us.length λk=>IZ (dst fi us) (if k<j then(Oj fi us).getD k aT else us.getD k aT) k)/\j<=us.length) (λs=>us.length-s.1.toNat) ⟨0,by simp[Je],by omega⟩ λs ⟨j,e,N⟩=>?_;subst e;simp only[Au];refine dA (λm=>?_) λm=>?_
   rotate_left
   .have m:¬ j<us.length:=by simpa using m
    have:j=us.length:=by omega
    subst this;refine aI (show _=Je _ _ from ?_);unfold Je;rw[hrl];exact EY λk J=>by rw[QR J]
   have m:j<us.length:=by simpa using m
   have q:=aC.2 (show 0<=(j:Int)/\(j:Int)<us.length by omega);have H:=w1 m (by omega);have hgu:=hg.at m;simp only[Q4,G9 m,H];rw[QP (qi j)];have key :∀x,x=IZ (dst fi us) ((Oj fi us).getD j aT) j->(tab us.length λk=>IZ (dst fi us) (if k<j then(Oj fi us).getD k aT else us.getD k aT) k).set j x=tab us.length λk=>IZ (dst fi us) (if k<j+1 then(Oj fi us).getD k aT else us.getD k aT) k:=λx hx=>SX λk J=>by
    by_cases e:k=j
    .subst e;rw[QR rfl,QR (by omega),hx]
    .rw [QP e];simp only[show (k<j+1)=(k<j) from propext (by omega)]
   refine bF (λy=>y=tab us.length λk=>IZ (dst fi us) (if k<j+1 then(Oj fi us).getD k aT else us.getD k aT) k) (bK q (dA (λB=>bK q (aI (key _ ?_))) λB=>bK q (bK q (aI (key _ ?_))))) λy e=>?_
   .have B:(us.getD j aT).dF=zj:=B;have L:far fi us j=zv:=by unfold far;rw[B];simp
    rw[zY m,L,QP (by simp)];unfold IZ iV;rw[B]
   .have B:(us.getD j aT).dF=zv:=B;rw[zY m];cases L:far fi us j with
    |true=>rw[QR rfl];rfl
    |false=>rw[QP (by simp)];unfold IZ iV;rw[B]
   .subst e;refine aI ⟨⟨j+1,rfl,m⟩,?_⟩;simp only[Q4];omega
  subst e;have hm:more=zj:=hm;subst hm;have hcnt :∀v us,(List.map (λx:fZ=>if x.dF then 0 else 1) (Je v us)).sum=cnt us:=λv us=>by unfold Je tab cnt;rw[UI];rfl
  refine aI ⟨⟨Oj fi us,dst fi us,rfl,SQ hg,by rw[nR,J8],λw hr=>?_,⟨by simp only[nR,oV],by simp only;rw[uX (ve _)];simp[wI]⟩,λhn=>?_⟩,?_⟩
  .by_cases hex :∃j,j<us.length/\far fi us j=zj
   .exact hR w (.step hex hr)
   .have:Oj fi us=us:=EW λj N=>by
     cases L:far fi us j with
     |false=>rfl
     |true=>exact absurd ⟨j,N,L⟩ hex
    rw[this]at hr;exact hR w hr
  .have hn :∀j,j<us.length->far fi us j=zv:=λj N=>by simp only[List.any_eq_false,Up]at hn;simpa using hn j N
   rw[EW hn];exact⟨hn,rfl,rfl⟩
  .simp only[hcnt];cases z:(List.range us.length).any (far fi us)with
   |true=>simp only[KS,Up]at z;have:=aa7 z;simp;omega
   |false=>simp only[List.any_eq_false,Up]at z;rw[EW λj N=>by simpa using z j N];simp
 subst e;have hg:=hR.gl hG;have J8:=hR.len;have hg6:=hg.1;have X:(Je (dst fi w) w).length=w.length:=Au;simp only[X];refine bF (λy=>y=nV fi w) ?_ λy e=>?_
 .refine bD (λs:Int×List dM=>∃j:Nat,s=((j:Int),(List.range j).map (codeOf fi w))/\j<=w.length) (λs=>w.length-s.1.toNat) ⟨0,rfl,by omega⟩ λs ⟨j,e,N⟩=>?_;subst e;refine dA (λm=>?_) λm=>?_
  rotate_left
  .have m:¬ j<w.length:=by simpa using m
   have:j=w.length:=by omega
   subst this;exact aI rfl
  have m:j<w.length:=by simpa using m
  have H:=w1 m (by omega);have K:(Je (dst fi w) w).getD j fB=IZ (dst fi w) (w.getD j aT) j:=G9 m;refine bK (aC.2 (by simp only;omega)) ?_;simp only[Q4,K,H];refine bK (by unfold aV;simp;omega) (aI ⟨⟨j+1,?_,m⟩,?_⟩)
  .rw [JN,Ys,Qf,V2];rfl
  .simp only[Q4];omega
 subst e;refine bF (λy=>y=JO bl od w) ?_ λy e=>by subst e;exact aI ⟨w,hR,rfl⟩
 refine bD (λs:Int×List Int=>∃i:Nat,s=((i:Int),(List.range i).map λi=>(wI w (qK bl od i).length:Int))/\i<=bl.length) (λs=>bl.length-s.1.toNat) ⟨0,rfl,by omega⟩ λs ⟨i,e,hi⟩=>?_;subst e;refine dA (λm=>?_) λm=>?_
 rotate_left
 .have m:¬ i<od.length:=by simpa using m
  have:i=bl.length:=by omega
  subst this;exact aI rfl
 have m:i<od.length:=by simpa using m
 have H:=w1 m (by omega);have ha:=T.at (i:=i) (by omega);have L:=hF.at ha;have hm:=hst i (by omega);refine bK (aC.2 (by simp only;omega)) ?_;simp only[Q4,hFa i (by omega),H];refine bK L.1 (bK (aC.2 (by rw[oV];unfold st;omega)) (bK (by unfold aV;simp;omega) (aI ⟨⟨i+1,?_,by omega⟩,?_⟩)))
 .unfold st;rw[Q4,JN,Ys,Qf,V2,uX (by omega)]
 .simp only[Q4];omega
end
def CQ(fs:List aQ)(u:cu):Prop:=u.fJ.length<=10/\(u.gX=11->u.to<0/\(0<=u.eY/\u.eY<fs.length)/\(fs.getD u.eY.toNat ah).params=u.fJ.length)
def TQ(sg:List (List UInt8×Nat))(t:C8):Prop:=t.2.2.2.2.2.2.2.length<=10/\(t.1=11->(0<=t.2.2.2.2.2.1/\t.2.2.2.2.2.1<sg.length)/\(sg.getD t.2.2.2.2.2.1.toNat ([],0)).2=t.2.2.2.2.2.2.2.length)
theorem ar9{g:List aF}{sg:List (List UInt8×Nat)}{cl re:Int}{i:dK}(h:IV g sg cl re i):TQ sg (jq i):=by
 have key :∀t:C8,f62 i.kind i.op i.dst i.a i.b i.value i.args=zw t->TQ sg t->TQ sg (jq i):=λt q z=>by
  have:jq i=t:=by unfold jq;rw[q];rfl
  rw[this];exact z
 have n :∀{t:C8},t.2.2.2.2.2.2.2=eInt->t.1≠11->TQ sg t:=λq z=>⟨by rw[q];simp,λh=>absurd h z⟩;cases h with
 |@const o d a b v j hd m=>exact key (1,0,d,0,0,v,zv,eInt) rfl (n rfl (by simp))
 |@move o d a b v j hd q m=>exact key (2,0,d,a,0,0,zv,eInt) rfl (n rfl (by simp))
 |@un o d a b v j hd q J m=>exact key (3,o,d,a,0,0,zv,eInt) rfl (n rfl (by simp))
 |@bin o d a b v j hd q z J m=>exact key (4,o,d,a,b,0,zv,eInt) rfl (n rfl (by simp))
 |@load o d a b v j hd y m=>exact key (5,0,d,0,0,v,zv,eInt) rfl (n rfl (by simp))
 |@store o d a b v j q y m=>exact key (6,0,0,a,0,v,zv,eInt) rfl (n rfl (by simp))
 |@elem o d a b v j hd q y m=>exact key (7,0,d,a,0,v,zv,eInt) rfl (n rfl (by simp))
 |@set o d a b v j q z y m=>exact key (8,0,0,a,b,v,zv,eInt) rfl (n rfl (by simp))
 |@read o d a b v j hd m=>exact key (9,0,d,0,0,0,zv,eInt) rfl (n rfl (by simp))
 |@print o d a b v j q m=>exact key (10,0,0,a,0,0,zv,eInt) rfl (n rfl (by simp))
 |@call o d a b v j hd y B H m=>
  have w:aV (List.length eInt) j.length 8=zj:=by unfold aV;simp;omega
  refine key (11,0,d,0,0,v,zv,j) ?_ ⟨m,λ_=>⟨y,B⟩⟩;show f62 11 o d a b v j=_;unfold f62;rw[w];rfl
 |@IW o d a b v j hd q H m=>
  have w:aV (List.length eInt) j.length 8=zj:=by unfold aV;simp;omega
  refine key (12,0,d,a,0,0,zv,j) ?_ ⟨m,λh=>by simp at h⟩;show f62 12 o d a b v j=_;unfold f62;rw[w];rfl
 |@func o d a b v j hd y m=>exact key (18,0,d,0,0,v,zv,eInt) rfl (n rfl (by simp))
theorem aoo{fs:List aQ}{k a t e n:Int}:∀u∈ET k a t e n,CQ fs u:=by
 have d :∀op a to:Int,op≠11->CQ fs (jU op a to):=λop a to h=>⟨by simp[jU],λj=>absurd j h⟩;have b :∀(op a to:Int),op≠11->∀u∈[jU op a to],CQ fs u:=λop a to h u hu=>by rw[X2]at hu;subst hu;exact d _ _ _ h
 unfold ET;split
 .exact b _ _ _ (by simp)
 split
 .split
  .intro u hu;cases hu
  .exact b _ _ _ (by simp)
 split
 .exact b _ _ _ (by simp)
 split
 .exact b _ _ _ (by simp)
 .intro u hu;rcases XN.1 hu with m|hu
  .subst m;exact d _ _ _ (by simp)
  .exact b _ _ _ (by simp) u hu
theorem Rn.all{P:cu->Prop}(w :∀u,P u->P (wid u)){fi:List Int}{us d:List cu}(h:Rn fi us d):(∀u∈us,P u)->∀u∈d,P u:=by
 induction h with
 |done h=>exact id
 |@step us d _ _ y=>
  intro z;refine y λu hu=>?_;obtain⟨j,m,e⟩:=WN hu;have b:j<us.length:=by rw[nR]at m;exact m
  have:=zY (fi:=fi) b;rw[getD_at _ m,e]at this;have q:P (us.getD j aT):=z _ (by rw[getD_at _ b];exact Xs _);rw[this];split
  .exact w _ q
  .exact q
section
variable {bl:List aO} {od:List Int} {nm:List UInt8} {pa re:Int}
open Classical in
noncomputable def wM(bl:List aO)(od:List Int):List cu:=if h :∃b,Rn (yK bl od bl.length) (qK bl od bl.length) b then h.choose else[]
theorem yu(h:FO bl)(j:Ord bl.length od):Rn (yK bl od bl.length) (qK bl od bl.length) (wM bl od):=by obtain⟨y,_,b,m,_⟩:=G7 (nm:=[]) (pa:=0) (re:=0) h j;have d :∃b,Rn (yK bl od bl.length) (qK bl od bl.length) b:=⟨b,m⟩;unfold wM;rw[dif_pos d];exact d.choose_spec
noncomputable def Tn(bl:List aO)(od:List Int):List dM:=nV (yK bl od bl.length) (wM bl od)
noncomputable def Af(bl:List aO)(od:List Int)(b:Nat):Nat:=wI (wM bl od) (qK bl od b).length
noncomputable def Qb(bl:List aO)(od:List Int):Nat:=Af bl od bl.length
theorem aop(h:FO bl)(b:Ord bl.length od):f32 nm pa re bl od=zw (0,Tn bl od,(List.range bl.length).map λi=>(Af bl od i:Int)):=by refine ok_eq (kJ (G7 h b) λy ⟨j,d,e⟩=>?_);rw[e,Rn.det d (yu h b)];rfl
theorem YI(h:FO bl)(b:Ord bl.length od):(wM bl od).length=(qK bl od bl.length).length:=(yu h b).len
theorem aoq(h:FO bl)(b:Ord bl.length od):f31 nm pa re bl od=zw (Qb bl od:Int):=by refine ok_eq (kJ (aom h b) λy d=>?_);rw[d _ (yu h b)];unfold Qb Af;rw[YI h b]
theorem akj:Af bl od 0=0:=by simp[Af,wI,qK]
theorem aa9{i j:Nat}(h:i<=j):Af bl od i<=Af bl od j:=by have:=zX bl od (j-i) i;rw[show i+(j-i)=j by omega]at this;exact WE _ this
theorem ahh(h:FO bl)(b:Ord bl.length od):GL bl.length (wM bl od):=(yu h b).gl (EX h b)
theorem uY:(Tn bl od).length=(wM bl od).length:=by simp[Tn,nV]
theorem ahi{j:Nat}(b:j<(wM bl od).length):(Tn bl od).getD j x9=codeOf (yK bl od bl.length) (wM bl od) j:=by rw[getD_at _ (by rw[uY];exact b)];simp[Tn,nV]
theorem ar_(h:FO bl)(d:Ord bl.length od){j:Nat}(m:j<(wM bl od).length):VC (codeOf (yK bl od bl.length) (wM bl od) j).op (codeOf (yK bl od bl.length) (wM bl od) j).arith (codeOf (yK bl od bl.length) (wM bl od) j).dst (codeOf (yK bl od bl.length) (wM bl od) j).a (codeOf (yK bl od bl.length) (wM bl od) j).b (codeOf (yK bl od bl.length) (wM bl od) j).value (codeOf (yK bl od bl.length) (wM bl od) j).wide (codeOf (yK bl od bl.length) (wM bl od) j).args:=aa8 (ahh h d) m ((yu h d).fin j m)
theorem ahj{fs:List aQ}{sg:List (List UInt8×Nat)}{g:List aF}{cl r:Int}(hi :∀b∈bl,∀i∈b.instrs,IV g sg cl r i)(h:sg.length=fs.length)(j :∀i,i<fs.length->(fs.getD i ah).params=((sg.getD i ([],0)).2:Int))(m:Ord bl.length od):∀i,i<=bl.length->∀u∈qK bl od i,CQ fs u
 |0,_=>λu hu=>by cases hu
 |i+1,y=>λu hu=>by
  have q:=m.at (i:=i) (by omega);rcases Z0.1 hu with hu|hu
  .exact ahj hi h j m i (by omega) u hu
  .rcases Z0.1 hu with hu|hu
   .obtain ⟨x,w,e⟩:=XS.1 hu;obtain⟨q1,q2⟩:=ar9 (hi _ (Yx _ q.1 q.2) x w);subst e;refine⟨q1,λd=>⟨by show (-1:Int)<0;omega,?_⟩⟩;obtain⟨q3,q4⟩:=q2 d;rw[h]at q3;refine⟨q3,?_⟩;show (fs.getD (jq x).2.2.2.2.2.1.toNat ah).params=_;rw[j _ (by omega),q4];rfl
   .exact aoo u hu
theorem alO{fs:List aQ}{sg:List (List UInt8×Nat)}{g:List aF}{cl r:Int}(h:FO bl)(hi :∀b∈bl,∀i∈b.instrs,IV g sg cl r i)(j:sg.length=fs.length)(m :∀i,i<fs.length->(fs.getD i ah).params=((sg.getD i ([],0)).2:Int))(d:Ord bl.length od):∀u∈wM bl od,CQ fs u:=(yu h d).all (λu h=>h) (ahj hi j m d bl.length (Z1 _))
theorem akk{op:Int}{wd:Bool}{n:Nat}(hn:n<=10):szc op wd n<=45:=by
 unfold szc;have b :∀x,szm wd n x<=11:=λx=>by
  unfold szm
  repeat' split
  all_goals omega
 have :∀l:List UInt8,(l.map (szm wd n)).sum<=11*l.length:=λl=>by
  induction l with
  |nil=>simp
  |cons x l d=>have:=b x;simp only[Qf,K4,Wm];omega
 have:=this (rowOf op);have:=(C9 op).1;omega
def wB(bl:List aO)(x:Int):Nat:=(bl.getD x.toNat aA).instrs.length+2
theorem alP(d:Ord bl.length od):∀i,i<=bl.length->(qK bl od i).length<=((od.take i).map (wB bl)).sum
 |0,_=>by simp[qK]
 |i+1,h=>by
  have:=alP d i (by omega);have j:=d.len;have:=aa6 (b:=bl.getD (od.getD i 0).toNat aA) (n:=nxt od i);have e:(od.getD i 0)=od[i]'(by omega):=getD_at _ _;rw[take_snoc (by omega),Ys,vb];simp only[qK,XX,Qf,V2,K4,List.sum_nil];have:wB bl (od[i]'(by omega))=(bl.getD (od.getD i 0).toNat aA).instrs.length+2:=by rw[e];rfl
  omega
theorem asa(bl:List aO){β:Type}(w:aO->β):(nat bl.length).map (λx=>w (bl.getD x.toNat aA))=bl.map w:=by
 refine Kl (by simp[nat]) λi h d=>?_;have b:i<bl.length:=by simpa using d
 simp only[Kh];congr 1;have:(nat bl.length)[i]'(by rw[qX];exact b)=(i:Int):=by simp[nat]
 rw[this,Q4,getD_at _ b]
theorem alQ(h:FO bl)(d:Ord bl.length od):(wM bl od).length<=4096:=by
 rw[YI h d];have j:=alP d bl.length (Z1 _);rw[WD (by rw[d.len];exact Z1 _),(d.perm.map (wB bl)).sum_nat]at j;have m:=asa bl λb=>b.instrs.length+2;have q:(nat bl.length).map (wB bl)=bl.map λb=>b.instrs.length+2:=m;rw[q]at j;have w :∀l:List aO,(l.map λb=>b.instrs.length+2).sum<=2*Bo l:=λl=>by
  induction l with
  |nil=>simp
  |cons b l y=>unfold Bo at y ⊢;simp only[Qf,K4];omega
 have:=w bl;have:=h.wt;omega
theorem aor{fs:List aQ}(h:FO bl)(d:Ord bl.length od)(j :∀u∈wM bl od,CQ fs u):Qb bl od<=184320:=by
 have key :∀l:List cu,(∀u∈l,CQ fs u)->(l.map szU).sum<=45*l.length:=λl=>by
  induction l with
  |nil=>intro _;simp
  |cons u l m=>intro b;have:=m λu hu=>b u (V1 _ hu);have:szU u<=45:=akk (b u Kb).1;simp only[Qf,K4,Wm];omega
 unfold Qb Af wI;have q:=key _ λu hu=>j u (Wl (i:=(qK bl od bl.length).length) hu);have w:=alQ h d;have y:((wM bl od).take (qK bl od bl.length).length).length<=4096:=by rw[VM];omega
 omega
end
structure LO(fs:List aQ)(fo:List Int)(bo:List (List Int)):Prop where
 perm:fo.Perm (nat fs.length)
 len:bo.length=fs.length
 od :∀i,i<fs.length->Ord (fs.getD i ah).blocks.length (bo.getD i eInt)
theorem LO.adt{fs:List aQ}{fo:List Int}{bo:List (List Int)}(h:LO fs fo bo):fo.length=fs.length:=by rw[h.perm.length_eq,qX]
theorem LO.at{fs:List aQ}{fo:List Int}{bo:List (List Int)}(h:LO fs fo bo){k:Nat}(b:k<fs.length):0<=fo.getD k 0/\fo.getD k 0<fs.length:=by have:=h.adt;rw[getD_at _ (by omega)];exact SK.1 (h.perm.mem_iff.1 (Xs _))
theorem LO.inj{fs:List aQ}{fo:List Int}{bo:List (List Int)}(h:LO fs fo bo){i j:Nat}(hi:i<fs.length)(m:j<fs.length)(e:(fo.getD i 0).toNat=(fo.getD j 0).toNat):i=j:=by
 have q:=h.adt;have w:=h.at hi;have y:=h.at m;have b:fo.Nodup:=h.perm.nodup_iff.2 (by unfold nat;exact vE.2 (List.pairwise_lt_range.imp λh=>by simp;omega));have d:fo.getD i 0=fo.getD j 0:=by omega
 rw[getD_at _ (by omega),getD_at _ (by omega)]at d;exact(List.getElem_inj b).1 d
structure LP(g:List aF)(fs:List aQ):Prop where
 gl:g.length<=32
 n:0<fs.length/\fs.length<=5
 fo :∀i,i<fs.length->FO (fs.getD i ah).blocks
 pr :∀i,i<fs.length->0<=(fs.getD i ah).params
 cq :∀i,i<fs.length->∀od,Ord (fs.getD i ah).blocks.length od->∀u∈wM (fs.getD i ah).blocks od,CQ fs u
theorem RtP.lp{g:List aF}{sg:List (List UInt8×Nat)}{cl:Int}{fs:List aQ}(h:RtP g sg cl fs):LP g fs:=by have m:=h.f1;have q:=h.sgl;have y:=h.cll;have d :∀i,i<fs.length->Rt g sg cl (fs.getD i ah):=λi b=>h.rt _ (by rw[getD_at _ b];exact Xs _);have j :∀i,i<fs.length->FO (fs.getD i ah).blocks:=λi b=>(d i b).fo h.gl (by omega) (by omega);exact⟨h.gl,⟨h.f0,m⟩,j,λi b=>(d i b).par.1,λi b od w=>alO (j i b) (d i b).ins q h.par w⟩
section
variable {g:List aF} {fs:List aQ} {ca co:Int}
theorem akl(h :∀i,i<fs.length->(fs.getD i ah).blocks.length<=256)(hn:fs.length<=5):Ok (f27 g fs ca co) λy=>y.1=nat fs.length/\y.2.length=fs.length:=by
 unfold f27;refine bF (λy=>y.1=nat fs.length/\y.2.length=fs.length) ?_ λy q=>aI q;refine bD (λs:Int×List Int×List (List Int)=>∃i:Nat,s.1=i/\i<=fs.length/\s.2.1=nat i/\s.2.2.length=i) (λs=>fs.length-s.1.toNat) ⟨0,rfl,by omega,rfl,rfl⟩ λ⟨w,l,b⟩ ⟨i,e,z,m,j⟩=>?_;simp only at e m j;subst e;subst m;refine dA (λd=>?_) λd=>?_
 .have d:i<fs.length:=by simpa using d
  refine bK (by unfold aV;simp[qX];omega) (bK (aC.2 (by simp only;omega)) ?_);simp only[Q4];refine eP (G6 (by have:=h i d;omega)) (bK (by unfold aV;simp;omega) (aI ⟨⟨i+1,?_,by omega,?_,?_⟩,?_⟩))
  .simp only[aG (x:=(i:Int)+1) (by omega)];rfl
  .rw [EU]
  .simp [j]
  .simp only[aG (x:=(i:Int)+1) (by omega)];omega
 .have d:¬ i<fs.length:=by simpa using d
  have:i=fs.length:=by omega
  subst this;exact aI ⟨rfl,j⟩
theorem aa_(h :∀i,i<fs.length->(fs.getD i ah).blocks.length<=256)(hn:fs.length<=5):Ok (f23 g fs ca co) λy=>y.1=nat fs.length/\y.2=(List.range fs.length).map λj=>nat (fs.getD j ah).blocks.length:=by
 unfold f23;refine bF (λy=>y.1=nat fs.length/\y.2=(List.range fs.length).map λj=>nat (fs.getD j ah).blocks.length) ?_ λy w=>aI w;refine bD (λs:Int×List Int×List (List Int)=>∃i:Nat,s.1=i/\i<=fs.length/\s.2.1=nat i/\s.2.2=(List.range i).map λj=>nat (fs.getD j ah).blocks.length) (λs=>fs.length-s.1.toNat) ⟨0,rfl,by omega,rfl,rfl⟩ λ⟨z,l,b⟩ ⟨i,e,B,m,q⟩=>?_;simp only at e m q;subst e;subst m;subst q;refine dA (λd=>?_) λd=>?_
 .have d:i<fs.length:=by simpa using d
  refine bK (aC.2 (by simp only;omega)) (bK (by unfold aV;simp[qX];omega) ?_);simp only[Q4];refine eP (P9 (by have:=h i d;omega)) (bK (by unfold aV;simp;omega) (aI ⟨⟨i+1,?_,by omega,?_,?_⟩,?_⟩))
  .simp only[aG (x:=(i:Int)+1) (by omega)];rfl
  .rw [EU]
  .rw [JN,Ys];rfl
  .simp only[aG (x:=(i:Int)+1) (by omega)];omega
 .have d:¬ i<fs.length:=by simpa using d
  have:i=fs.length:=by omega
  subst this;exact aI ⟨rfl,rfl⟩
theorem adu{l:List Int}{j:Int}(N:Bytes l)(hj:0<=j)(h:LP g fs):Ok (f9 g fs ca co l j) λy=>y.1=l/\0<=y.2.1/\LO fs y.2.2.1 y.2.2.2:=by
 have hn:=h.n;have w :∀i,i<fs.length->(fs.getD i ah).blocks.length<=256:=λi J=>(h.fo i J).len.2;unfold f9;refine bF _ (akl w hn.2) λ⟨c1,c2⟩ ⟨z,d⟩=>?_;simp only at z d;subst z;refine bF (λy=>y.1=l/\0<=y.2.1/\y.2.2.Perm (nat fs.length)) ?_ λ⟨T,s2,s3⟩ ⟨z,q1,q2⟩=>?_
 .refine bD (λs:Int×List Int×Int×List Int=>∃i:Nat,s.1=i/\1<=i/\i<=fs.length/\s.2.1=l/\0<=s.2.2.1/\s.2.2.2.Perm (nat fs.length)) (λs=>fs.length-s.1.toNat) ⟨1,rfl,by omega,by omega,rfl,hj,vA _⟩ λ⟨i',l',j,od⟩ ⟨i,e,h1,h2,d,m,K⟩=>?_;simp only at e d m K;subst e;subst d;have hl:od.length=fs.length:=by rw[K.length_eq,qX]
  refine dA (λb=>?_) λb=>aI ⟨rfl,m,K⟩;have b:i<od.length:=by simpa using b
  have hw:bT ((i:Int)+1)=(i+1:Nat):=(aG (by omega)).trans rfl;simp only[hw];refine goN N m (by omega) λx k B ax U=>?_;have U:=U (by omega);obtain⟨q,hq⟩ :∃q:Nat,x=q:=⟨x.toNat,by omega⟩;subst hq;simp only[Q4];have H:=aC.2 (show 0<=(i:Int)/\(i:Int)<od.length by omega);refine bK (aC.2 (by omega)) (bK H (bK H (bK (aC.2 (by rw[J0];omega)) (aI ⟨⟨i+1,rfl,by omega,by omega,rfl,B,?_⟩,?_⟩))))
  .simp only;rw[getD_at _ (show q<od.length by omega),getD_at _ b];exact(List.set_set_perm b (by omega)).trans K
  .simp only;omega
 simp only at z q1 q2;subst z;refine bF (λy=>y.1=T/\0<=y.2.1/\y.2.2.length=fs.length/\∀i,i<fs.length->Ord (fs.getD i ah).blocks.length (y.2.2.getD i eInt)) ?_ λy ⟨k1,k2,k3,k4⟩=>aI ⟨k1,k2,q2,k3,k4⟩;refine bD (λs:Int×List Int×Int×List (List Int)=>∃i:Nat,s.1=i/\i<=fs.length/\s.2.1=T/\0<=s.2.2.1/\s.2.2.2.length=fs.length/\∀k,k<i->Ord (fs.getD k ah).blocks.length (s.2.2.2.getD k eInt)) (λs=>fs.length-s.1.toNat) ⟨0,rfl,by omega,rfl,q1,d,λk B=>absurd B (KK _)⟩ λ⟨i',l',j,od⟩ ⟨i,e,h2,d,m,L,M⟩=>?_;simp only at e d m L M;subst e;subst d;refine dA (λb=>?_) λb=>?_
 rotate_left
 .have b:¬ i<od.length:=by simpa using b
  exact aI ⟨rfl,m,L,λk B=>M k (by omega)⟩
 have b:i<od.length:=by simpa using b
 have J:i<fs.length:=by omega
 refine bK (aC.2 (by simp only;omega)) ?_;simp only[Q4];refine bF _ (YG N m (by have:=w i J;omega) (h.fo i J).len.1) λ⟨z1,z2,z3⟩ ⟨X,Y,Z⟩=>?_;simp only at X Y Z;subst X;refine bK (aC.2 (by omega)) (aI ⟨⟨i+1,?_,by omega,rfl,Y,by simp only;rw[J0];exact L,λk B=>?_⟩,?_⟩)
 .simp only[aG (x:=(i:Int)+1) (by omega)];rfl
 .simp only;rw[iO (show i<od.length by omega)];split
  .rename_i e;subst e;exact Z
  .exact M k (by omega)
 .simp only[aG (x:=(i:Int)+1) (by omega)];omega
theorem ahk{fo:List Int}{bo:List (List Int)}(h:LP g fs)(j:LO fs fo bo):f29 g fs ca co fo bo=zw 0:=by
 apply ok_eq;have hn:=h.n;have w:=j.adt;have m:=j.len;have b :∀i,i<fs.length->(fs.getD i ah).blocks.length<=256:=λi d=>(h.fo i d).len.2;unfold f29;refine eP (ES (by omega)) (eP (ag9 (by omega)) (bF (λy=>y=zv) (bF _ (aa_ b hn.2) λy ⟨z,H⟩=>?_) λy e=>?_))
 .rw [z,WA.2 j.perm];refine eP (WB (by rw[qX];omega)) (b_ (by simp) (aI (by simp[m])))
 subst e;refine b_ rfl (iI (λ_=>True) (jA fs.length (λ_=>True) (by omega) (λi d _=>?_) λ_=>b_ (Qt (by omega)) (aI trivial)) λ_ _=>aI rfl);refine goT (YY (by omega)) (bK (aC.2 (by omega)) (bK (aC.2 (by omega)) ?_));simp only[Q4];have q:=j.od i d;refine bF _ (P_ (by have:=b i d;omega) (h.fo i d).len.1 (by rw[q.len];have:=b i d;omega)) λy B=>b_ (by rw[B.2 q];rfl) (aI ⟨rfl,trivial⟩)
end
section
variable (fs:List aQ) (fo:List Int) (bo:List (List Int))
noncomputable def o7(k:Nat):List aO:=(fs.getD (fo.getD k 0).toNat ah).blocks
noncomputable def sS(k:Nat):List Int:=bo.getD (fo.getD k 0).toNat eInt
noncomputable def E:Nat->Nat
 |0=>0
 |k+1=>E k+Qb (o7 fs fo k) (sS fo bo k)
structure EN(en:List Int):Prop where
 len:en.length=fs.length
 ats :∀j,j<fs.length->en.getD (fo.getD j 0).toNat 0=(E fs fo bo j:Int)
def Ol(en:List Int)(c:dM):dM:=dM.mk c.op c.arith c.dst c.a c.b (if c.op=11 then en.getD c.value.toNat 0 else c.value) c.wide c.args
noncomputable def Om(c:dM):List Int:=((f33 c.op c.arith c.dst c.a c.b c.value c.wide c.args).getD (0,[])).2
noncomputable def cdT(en:List Int):Nat->List dM
 |0=>[]
 |k+1=>cdT en k++(Tn (o7 fs fo k) (sS fo bo k)).map (Ol en)
noncomputable def plF(i:Nat)(bl:List aO)(od:List Int)(e:Nat)(b:Nat):List ji:=(List.range b).map λ(b:Nat)=>ji.mk (i:Int) (od.getD b 0) ((e+Af bl od b:Nat):Int) ((Af bl od (b+1)-Af bl od b:Nat):Int)
noncomputable def plT:Nat->List ji
 |0=>[]
 |k+1=>plT k++plF (fo.getD k 0).toNat (o7 fs fo k) (sS fo bo k) (E fs fo bo k) (o7 fs fo k).length
end
theorem ahm{c:dM}(h:VCc c):f33 c.op c.arith c.dst c.a c.b c.value c.wide c.args=zw (0,Om c)/\(Om c).length=Dh c:=by
 obtain⟨y,d,j,m⟩:=ag6 h;have:y=(0,Om c):=by unfold Om;rw[d];obtain⟨q,w⟩:=y;simp only at j;subst j;rfl
 rw[d,this];refine⟨rfl,?_⟩;rw[this]at m;exact m
theorem akn{m:List Int}{c:dM}(h:VCc c)(q:c.op=11->0<=m.getD c.value.toNat 0/\m.getD c.value.toNat 0<=1048576):VCc (Ol m c):=by
 obtain⟨o,w,a3,a4,d,a,b,s,n,v⟩:=h;refine⟨o,w,a3,a4,d,a,b,s,n,?_⟩;show nM c.op (if c.op=11 then _ else c.value) c.wide=zj;split
 .rename_i j;have:=q j;obtain⟨x,y⟩ :∃x,m.getD c.value.toNat 0=x:=⟨_,rfl⟩;rw[y]at this ⊢;unfold nM;rw[QP (by omega),QR j];simp;omega
 .exact v
section
variable {g:List aF} {fs:List aQ} {ca co:Int} {fo:List Int} {bo:List (List Int)}
theorem LO.blk(b:LO fs fo bo){k:Nat}(d:k<fs.length):Ord (o7 fs fo k).length (sS fo bo k):=b.od _ (by have:=b.at d;omega)
theorem LP.fok(h:LP g fs)(b:LO fs fo bo){k:Nat}(d:k<fs.length):FO (o7 fs fo k):=h.fo _ (by have:=b.at d;omega)
theorem LP.cqk(h:LP g fs)(b:LO fs fo bo){k:Nat}(d:k<fs.length):∀u∈wM (o7 fs fo k) (sS fo bo k),CQ fs u:=h.cq _ (by have:=b.at d;omega) _ (b.blk d)
theorem ako(h:LP g fs)(b:LO fs fo bo):∀k,k<=fs.length->E fs fo bo k<=184320*k
 |0,_=>by simp[E]
 |k+1,d=>by have:=ako h b k (by omega);have:=aor (h.fok b (k:=k) (by omega)) (b.blk (by omega)) (h.cqk b (by omega));show E fs fo bo k+_<=_;omega
theorem LO.find(b:LO fs fo bo){v:Int}(h:0<=v/\v<fs.length):∃k,k<fs.length/\fo.getD k 0=v:=by obtain⟨k,d,e⟩:=WN (b.perm.mem_iff.2 (SK.2 h));exact⟨k,by rw[<-b.adt];exact d,by rw[getD_at _ d];exact e⟩
theorem EN.rng{b:List Int}(j:EN fs fo bo b)(h:LP g fs)(d:LO fs fo bo){v:Int}(m:0<=v/\v<fs.length):0<=b.getD v.toNat 0/\b.getD v.toNat 0<=921600:=by obtain⟨k,q,e⟩:=d.find m;have:=j.ats k q;have:=ako h d k (by omega);have:=h.n;rw[e]at *;omega
theorem ahn{w:List Int}(J:EN fs fo bo w)(h:LP g fs)(q:LO fs fo bo){k:Nat}(y:k<fs.length){c:dM}(K:c∈Tn (o7 fs fo k) (sS fo bo k)):
  VCc (Ol w c)/\Dh (Ol w c)=Dh c/\(c.op=11->(0<=c.value/\c.value<fs.length)/\(fs.getD c.value.toNat ah).params=c.args.length):=by
 obtain⟨j,z,e⟩:=WN K;have b:j<(wM (o7 fs fo k) (sS fo bo k)).length:=by rw[uY]at z;exact z
 have H:=ar_ (h.fok q y) (q.blk y) b;have L:=h.cqk q y _ (Xs b);have B:=ahi b;rw[getD_at _ z,e]at B;rw[<-B]at H;have d:c.op=11->(0<=c.value/\c.value<fs.length)/\(fs.getD c.value.toNat ah).params=c.args.length:=by rw[B];unfold codeOf;rw[getD_at _ b];intro m;simp only at m ⊢;obtain⟨q1,q2,q3⟩:=L.2 m;rw[QP (by omega)];exact⟨q2,q3⟩
 exact⟨akn H λM=>by have:=J.rng h q (d M).1;omega,rfl,d⟩
theorem aos{bl:List aO}{od:List Int}{j:Nat}(b:j<(wM bl od).length):Dh ((Tn bl od)[j]'(by rw[uY];exact b))=szU ((wM bl od).getD j aT):=by have:=ahi b;rw[getD_at _ (by rw[uY];exact b)]at this;rw[this];rfl
noncomputable def byT(en:List Int)(fs:List aQ)(fo:List Int)(bo:List (List Int))(k:Nat):List Int:=(cdT fs fo bo en k).flatMap Om
theorem JQ{b:List Int}(d:EN fs fo bo b)(h:LP g fs)(m:LO fs fo bo){k:Nat}(q:k<fs.length):∀j,j<=(wM (o7 fs fo k) (sS fo bo k)).length->((((Tn (o7 fs fo k) (sS fo bo k)).take j).map (Ol b)).flatMap Om).length=wI (wM (o7 fs fo k) (sS fo bo k)) j
 |0,_=>by simp[wI]
 |j+1,z=>by
  have y:=JQ d h m q j (by omega);have w:j<(Tn (o7 fs fo k) (sS fo bo k)).length:=by rw[uY];omega
  obtain⟨q1,q2,_⟩:=ahn d h m q (Xs w);rw[take_snoc w,Ys,K0,XX,y,sJ (by omega),<-aos (by omega)];simp only[Qf,V2,ZD,List.flatMap_nil,K6];rw[(ahm q1).2,q2]
theorem Nu{bl:List aO}{od:List Int}(h:FO bl)(b:Ord bl.length od):wI (wM bl od) (wM bl od).length=Qb bl od:=by unfold Qb Af;rw[YI h b]
theorem Nv{d:List Int}(j:EN fs fo bo d)(h:LP g fs)(b:LO fs fo bo):∀k,k<=fs.length->(byT d fs fo bo k).length=E fs fo bo k
 |0,_=>by simp[byT,cdT,E]
 |k+1,q=>by have m:=Nv j h b k (by omega);have:=JQ j h b (k:=k) (by omega) _ (Z1 _);rw[WD (by rw[uY];exact Z1 _),Nu (h.fok b (by omega)) (b.blk (by omega))]at this;unfold byT at m ⊢;show ((_++_:List dM).flatMap Om).length=E fs fo bo k+_;rw[K0,XX,m,this]
theorem abd{i:Nat}{bl:List aO}{od:List Int}{e b:Nat}:(plF i bl od e b).length=b:=by simp[plF]
theorem abe(h:LP g fs)(b:LO fs fo bo):∀k,k<=fs.length->(plT fs fo bo k).length<=256*k
 |0,_=>by simp[plT]
 |k+1,d=>by have:=abe h b k (by omega);have:=(h.fok b (k:=k) (by omega)).len;show (_++_:List ji).length<=_;rw[XX,abd];omega
theorem akp{l:List aF}(h:l.length<=1000000):Ok (f30 l) λ_=>True:=by
 unfold f30;have b:aV (List.length fC) l.length 24=zj:=by unfold aV;simp;omega
 cases l with
 |nil=>exact goT rfl ⟨fC,by simp[both,ck,aV],trivial⟩
 |cons a l=>exact b_ rfl (bK b (aI trivial))
theorem aho(h:LP g fs)(m:LO fs fo bo):Ok (f10 g fs ca co fo bo) λy=>y.2.2.1=0/\∃w,EN fs fo bo w/\y.2.2.2.1=byT w fs fo bo fs.length/\y.2.2.2.2.1=w/\y.2.2.2.2.2.1=fs.map aQ.params/\y.2.2.2.2.2.2.2.2=plT fs fo bo fs.length:=by
 have hn:=h.n;have hfl:=m.adt;have hbl:=m.len;have hE:=λk hk=>ako h m k hk;unfold f10;refine eP (ahk h m) (b_ rfl (bF _ (akp (by have:=h.gl;omega)) λc2 _=>bK (qH.2 (by omega)) ?_));refine bF (λy=>y.2.2.1=fs.map aQ.params) ?_ λ⟨p1,p2,p3,p4⟩ e=>?_
 .refine bD (λs:Int×Int×Int×List Int×List Int=>∃i:Nat,s.1=i/\i<=fs.length/\s.2.2.2.1=(fs.take i).map aQ.params/\s.2.2.2.2.length=i) (λs=>fs.length-s.1.toNat) ⟨0,rfl,by omega,rfl,rfl⟩ λ⟨i',a,b,l,r⟩ ⟨i,e,hi,J,L⟩=>?_;simp only at e J L;subst e;subst J;refine dA (λd=>?_) λd=>?_
  .have d:i<fs.length:=by simpa using d
   refine bK (aC.2 (by simp only;omega)) (bK (by unfold aV;simp;omega) (bK (by unfold aV;simp;omega) (aI ⟨⟨i+1,?_,by omega,?_,?_⟩,?_⟩)))
   .simp only[aG (x:=(i:Int)+1) (by omega)];rfl
   .simp only[Q4];rw[take_snoc d,Ys,getD_at _ d];rfl
   .simp [L]
   .simp only[aG (x:=(i:Int)+1) (by omega)];omega
  .have d:¬ i<fs.length:=by simpa using d
   exact aI (show (fs.take i).map aQ.params=fs.map aQ.params by rw[WD (by omega)])
 simp only at e;subst e;refine bF (λy=>y.1=E fs fo bo fs.length/\EN fs fo bo y.2) ?_ λ⟨sz,w⟩ ⟨e,M⟩=>?_
 .refine bD (λs:Int×Int×List Int=>∃k:Nat,s.1=E fs fo bo k/\s.2.1=k/\k<=fs.length/\s.2.2.length=fs.length/\∀j,j<k->s.2.2.getD (fo.getD j 0).toNat 0=(E fs fo bo j:Int)) (λs=>fs.length-s.2.1.toNat) ⟨0,rfl,rfl,by omega,by simp,λj hj=>absurd hj (KK _)⟩ λ⟨z,k',w⟩ ⟨k,J,L,hk,e3,e4⟩=>?_;simp only at J L e3 e4;subst J;subst L;refine dA (λd=>?_) λd=>?_
  rotate_left
  .have d:¬ k<fo.length:=by simpa using d
   have:k=fs.length:=by omega
   subst this;exact aI ⟨rfl,e3,e4⟩
  have d:k<fo.length:=by simpa using d
  have d:k<fs.length:=by omega
  have ha:=m.at d;have hs:=aoq (nm:=(fs.getD (fo.getD k 0).toNat ah).name) (pa:=(fs.getD (fo.getD k 0).toNat ah).params) (re:=(fs.getD (fo.getD k 0).toNat ah).regs) (h.fok m d) (m.blk d);have hk1:=hE (k+1) d;have Y:E fs fo bo (k+1)=E fs fo bo k+Qb (o7 fs fo k) (sS fo bo k):=rfl;refine bK (aC.2 (by simp only;omega)) ?_;simp only[Q4];refine bK (aC.2 (by omega)) (bK (aC.2 (by omega)) (bK (aC.2 (by omega)) (eP hs (aI ⟨⟨k+1,?_,?_,d,?_,λj hj=>?_⟩,?_⟩))))
  .simp only;rw[aG (by omega),Y];rfl
  .simp only[aG (x:=(k:Int)+1) (by omega)];rfl
  .simp only;rw[J0];exact e3
  .simp only;rw[iO (by omega)];split
   .rename_i e;have:=m.inj (i:=j) (j:=k) (by omega) d e;subst this;rfl
   .rename_i e;refine e4 j (Nat.lt_of_le_of_ne (by omega) λL=>e ?_);rw[L]
  .simp only[aG (x:=(k:Int)+1) (by omega)];omega
 simp only at e M;subst e;have hEn:=hE fs.length (Z1 _);refine b_ (Qt (by simp only;omega)) ?_;refine bF (λy=>y.2.2.1=byT w fs fo bo fs.length/\y.2.2.2=plT fs fo bo fs.length) ?_ λy ⟨y1,y2⟩=>aI ⟨rfl,w,M,y1,rfl,rfl,y2⟩;refine bD (λs:Int×Int×Int×List Int×List ji=>∃k:Nat,s.1=k/\k<=fs.length/\s.2.2.2.1=byT w fs fo bo k/\s.2.2.2.2=plT fs fo bo k) (λs=>fs.length-s.1.toNat) ⟨0,rfl,by omega,rfl,rfl⟩ λ⟨k',a,b,code,pls⟩ ⟨k,e,hk,J,L⟩=>?_;simp only at e J L;subst e;subst J;subst L;refine dA (λd=>?_) λd=>?_
 rotate_left
 .have d:¬ k<fo.length:=by simpa using d
  have:k=fs.length:=by omega
  subst this;exact aI ⟨rfl,rfl⟩
 have d:k<fo.length:=by simpa using d
 have d:k<fs.length:=by omega
 have ha:=m.at d;have hF:=h.fok m d;have hO:=m.blk d;have hs:=aop (nm:=(fs.getD (fo.getD k 0).toNat ah).name) (pa:=(fs.getD (fo.getD k 0).toNat ah).params) (re:=(fs.getD (fo.getD k 0).toNat ah).regs) hF hO;have Z:=Nv M h m k (by omega);have hE1:E fs fo bo k+Qb (o7 fs fo k) (sS fo bo k)<=921600:=by have:=hE (k+1) d;have:E fs fo bo (k+1)=E fs fo bo k+Qb (o7 fs fo k) (sS fo bo k):=rfl;omega
 have hol:=hO.len;have hFl:=hF.len;refine bK (aC.2 (by simp only;omega)) ?_;simp only[Q4];refine bK (aC.2 (by omega)) (bK (aC.2 (by omega)) (eP hs ?_));simp only;refine bF (λy=>y.2.2=byT w fs fo bo (k+1)) ?_ λ⟨z1,z2,z3⟩ e=>?_
 .refine bD (λs:Int×Int×Int×List Int=>∃j:Nat,s.1=j/\j<=(wM (o7 fs fo k) (sS fo bo k)).length/\s.2.2.2=byT w fs fo bo k++(((Tn (o7 fs fo k) (sS fo bo k)).take j).map (Ol w)).flatMap Om) (λs=>(wM (o7 fs fo k) (sS fo bo k)).length-s.1.toNat) ⟨0,rfl,by omega,by simp⟩ λ⟨j',a,b,code⟩ ⟨j,e,hj,J⟩=>?_;simp only at e J;subst e;subst J;simp only[uY];refine dA (λH=>?_) λH=>?_
  rotate_left
  .have H:¬ j<(wM (o7 fs fo k) (sS fo bo k)).length:=by simpa using H
   refine aI (show byT w fs fo bo k++(((Tn (o7 fs fo k) (sS fo bo k)).take j).map (Ol w)).flatMap Om=byT w fs fo bo (k+1) from ?_);rw[WD (by rw[uY];omega)];unfold byT;show _=(_++_:List dM).flatMap Om;rw[K0]
  have H:j<(wM (o7 fs fo k) (sS fo bo k)).length:=by simpa using H
  have N:j<(Tn (o7 fs fo k) (sS fo bo k)).length:=by rw[uY];exact H
  have hbt:=JQ M h m d j (by omega);have hu4:=alQ hF hO;have asc:=JQ M h m d (j+1) H;have hat:wI (wM (o7 fs fo k) (sS fo bo k)) (j+1)<=Qb (o7 fs fo k) (sS fo bo k):=by rw[<-Nu hF hO];exact WE _ (by omega)
  obtain⟨c,T⟩ :∃c,(Tn (o7 fs fo k) (sS fo bo k)).getD j x9=c:=⟨_,rfl⟩;have hcm:c∈Tn (o7 fs fo k) (sS fo bo k):=by rw[<-T,getD_at _ N];exact Xs _
  have hct:(Tn (o7 fs fo k) (sS fo bo k)).take (j+1)=(Tn (o7 fs fo k) (sS fo bo k)).take j++[c]:=by rw[take_snoc N,<-T,getD_at _ N]
  obtain⟨q1,q2,q3⟩:=ahn M h m d hcm;obtain⟨w1,w2⟩:=ahm q1;rw[hct,Ys,K0,XX]at asc;simp only[Qf,V2,ZD,List.flatMap_nil,K6]at asc;refine bK (aC.2 (by omega)) ?_;simp only[Q4,T];refine bF (λy=>y=(c.op,c.arith,c.dst,c.a,c.b,(if c.op=11 then w.getD c.value.toNat 0 else c.value),c.wide,c.args)) (dA (λB=>?_) λB=>aI ?_) λy e=>?_
  .have B:c.op=11:=by simpa using B
   have:=(q3 B).1;have:=M.len;rw[QR B];exact bK (aC.2 (by omega)) (aI rfl)
  .have B:¬ c.op=11:=by simpa using B
   rw[QP B]
  subst e;refine eP w1 (bK (by unfold aV;simp only[XX,hbt,Z];simp;omega) (aI ⟨⟨j+1,?_,by omega,?_⟩,?_⟩))
  .simp only[aG (x:=(j:Int)+1) (by omega)];rfl
  .simp only;rw[hct,Ys,K0,W4];simp
  .simp only[aG (x:=(j:Int)+1) (by omega)];omega
 simp only at e;subst e;have ayF:=Nv M h m (k+1) d;have Y:E fs fo bo (k+1)=E fs fo bo k+Qb (o7 fs fo k) (sS fo bo k):=rfl;have U:bT (((byT w fs fo bo (k+1)).length:Int)-(byT w fs fo bo k).length)=(Qb (o7 fs fo k) (sS fo bo k):Int):=by rw[aG (by omega)];omega
 simp only[U];have hst:((List.range (o7 fs fo k).length).map λi=>(Af (o7 fs fo k) (sS fo bo k) i:Int))++[(Qb (o7 fs fo k) (sS fo bo k):Int)]=(List.range ((o7 fs fo k).length+1)).map λi=>(Af (o7 fs fo k) (sS fo bo k) i:Int):=by rw[JN,Ys];rfl
 refine bK (by unfold aV;simp;omega) ?_;simp only[hst];obtain⟨st,X⟩ :∃st:List Int,((List.range ((o7 fs fo k).length+1)).map λi=>(Af (o7 fs fo k) (sS fo bo k) i:Int))=st:=⟨_,rfl⟩;have ayG:st.length=(o7 fs fo k).length+1:=by rw[<-X];simp
 have ase :∀b,b<=(o7 fs fo k).length->st.getD b 0=(Af (o7 fs fo k) (sS fo bo k) b:Int):=λb hb=>by rw[getD_at _ (by omega)];simp[<-X]
 simp only[X];have hpl:=abe h m k (by omega);refine bK (aC.2 (by omega)) ?_;obtain⟨q,hq⟩ :∃q:Nat,fo.getD k 0=q:=⟨(fo.getD k 0).toNat,by omega⟩;have hod:bo.getD q eInt=sS fo bo k:=by unfold sS;rw[hq];rfl
 have awG:plT fs fo bo (k+1)=plT fs fo bo k++plF q (o7 fs fo k) (sS fo bo k) (E fs fo bo k) (o7 fs fo k).length:=by show _++plF (fo.getD k 0).toNat _ _ _ _=_;rw[hq];rfl
 simp only[hq,Q4,hod];refine bF (λy=>y.2.2=plT fs fo bo (k+1)) ?_ λ⟨y1,y2,y3⟩ e=>?_
 .refine bD (λs:Int×Int×Int×List ji=>∃b:Nat,s.1=b/\b<=(o7 fs fo k).length/\s.2.2.2=plT fs fo bo k++plF q (o7 fs fo k) (sS fo bo k) (E fs fo bo k) b) (λs=>(o7 fs fo k).length-s.1.toNat) ⟨0,rfl,by omega,by simp[plF]⟩ λ⟨b',a1,a2,ps⟩ ⟨b,e,hb,J⟩=>?_;simp only at e J;subst e;subst J;simp only[hol];refine dA (λK=>?_) λK=>?_
  rotate_left
  .have K:¬ b<(o7 fs fo k).length:=by simpa using K
   have:b=(o7 fs fo k).length:=by omega
   subst this;exact aI awG.symm
  have K:b<(o7 fs fo k).length:=by simpa using K
  have hA1:Af (o7 fs fo k) (sS fo bo k) (b+1)<=Qb (o7 fs fo k) (sS fo bo k):=aa9 (by omega);have hA0:Af (o7 fs fo k) (sS fo bo k) b<=Af (o7 fs fo k) (sS fo bo k) (b+1):=aa9 (by omega);have hw:bT ((b:Int)+1)=(b+1:Nat):=(aG (by omega)).trans rfl;simp only[hw];refine bK (aC.2 (by omega)) (bK (aC.2 (by omega)) (bK (aC.2 (by omega)) (bK (aC.2 (by omega)) (bK ?_ (aI ⟨⟨b+1,rfl,by omega,?_⟩,?_⟩)))))
  .unfold aV;simp[abd];omega
  .simp only[Q4];rw[ase b (by omega),ase (b+1) (by omega),Z,aG (by omega),aG (by omega),W4];congr 1;unfold plF;rw[JN,Ys];simp only[Qf,V2];rw[Int.natCast_sub hA0];rfl
  .simp only;omega
 simp only at e;subst e;refine aI ⟨⟨k+1,?_,d,rfl,rfl⟩,?_⟩
 .simp only[aG (x:=(k:Int)+1) (by omega)];rfl
 .simp only[aG (x:=(k:Int)+1) (by omega)];omega
end
def AA:aO:=aO.mk ([]:List dK) 3 0 0 0 0 0 0
def sK:List aQ:=[aQ.mk bJ 0 1 [AA]]
theorem YJ:FO [AA]:=by
 refine⟨by simp,by simp[Bo,AA],λb d i h=>?_,⟨λb d=>?_,λb d=>?_⟩,λb d _=>?_⟩
 .rw [X2]at d;subst d;cases h
 all_goals
  have:b=0:=by simp at d;omega
  subst this;simp[AA]
theorem JR:Ord [AA].length (nat 1):=⟨vA _,rfl,by simp⟩
theorem alS(od:List Int)(h:Ord 1 od):qK [AA] od 1=[jU 16 0 (-1)]:=by have b:=h.zero;show []++SN ([AA].getD (od.getD 0 0).toNat aA) _=_;rw[b];simp[SN,ET,AA]
theorem ahp:LP fC sK:=by
 refine⟨by simp,by simp[sK],λi d=>?_,λi d=>?_,λi d od j=>?_⟩
 all_goals
  have:i=0:=by simp[sK]at d;omega
  subst this
 .exact YJ
 .show (0:Int)<=0;omega
 .refine alO (fs:=sK) (sg:=[([],0)]) (g:=[]) (cl:=0) (r:=1) YJ (λb h i d=>?_) rfl (λi d=>?_) j
  .have h:b∈[AA]:=h;rw[X2]at h;subst h;cases d
  .have:i=0:=by simp[sK]at d;omega
   subst this;rfl
theorem ahq:LO sK (nat sK.length) ((List.range sK.length).map λj=>nat (sK.getD j ah).blocks.length):=by
 refine⟨vA _,by simp,λi b=>?_⟩;have:i=0:=by simp[sK]at b;omega
 subst this;exact JR
theorem ahr:Qb [AA] (nat 1)=2:=by
 have hu:wM [AA] (nat 1)=[jU 16 0 (-1)]:=by
  refine Rn.det (yu YJ JR) ?_;show Rn _ (qK _ _ 1) _;rw[alS _ JR];refine .done λj b=>?_;have:j=0:=by simp at b;omega
  subst this;rfl
 unfold Qb Af;rw[hu];show wI _ (qK [AA] (nat 1) 1).length=2;rw[alS _ JR];rfl
theorem ahs:f6=zw zj:=by
 apply ok_eq;unfold f6;refine bF _ (aa_ (g:=fC) (fs:=sK) (ca:=0) (co:=0) (λi q=>?_) (by simp[sK])) λy ⟨h,m⟩=>?_
 .have:i=0:=by simp[sK]at q;omega
  subst this;simp[sK]
 obtain⟨N,T⟩:=y;simp only at h m;subst h;subst m;refine bF _ (aho ahp ahq) λz ⟨w,U,B,z2,z3,z4,z5⟩=>?_;have b:=Nv B ahp ahq 1 (by simp[sK]);have H:E sK (nat sK.length) ((List.range sK.length).map λj=>nat (sK.getD j ah).blocks.length) 1=2:=by show 0+Qb [AA] (nat 1)=2;rw[ahr]
 have J:plT sK (nat sK.length) ((List.range sK.length).map λj=>nat (sK.getD j ah).blocks.length) 1=[ji.mk 0 0 0 2]:=by show []++plF 0 [AA] (nat 1) 0 1=_;have K:Af [AA] (nat 1) 0=0:=akj;have L:Af [AA] (nat 1) 1=2:=ahr;unfold plF;rw[show List.range 1=[0] from rfl];simp only[qf,Qf,V2];rw[K,L];rfl
 have M:z.2.2.2.1.length=2:=by rw[z2];exact b.trans H
 have d:z.2.2.2.2.2.2.2.2=[ji.mk 0 0 0 2]:=by rw[z5];exact J
 rw[d];refine bF (λy=>y=zj) (goT (YY w) (goT (YY (by omega)) (goT rfl (bK rfl (aI rfl))))) λy e=>aI e
section
variable {g:List aF} {fs:List aQ} {ca co:Int} {fo:List Int} {bo:List (List Int)}
end
def aht(t:C8):Prop :=∀v wd,(wd=zj->13<=t.1/\t.1<=15)->(v=t.2.2.2.2.2.1\/t.1=11\/13<=t.1/\t.1<=15)->Can (dM.mk t.1 t.2.1 t.2.2.1 t.2.2.2.1 t.2.2.2.2.1 v wd t.2.2.2.2.2.2.2)
def SY(u:cu):Prop:=aht (u.gX,u.eX,u.iD,u.lH,u.lI,u.eY,zv,u.fJ)
theorem wJ{op ar d a b v:Int}{w:Bool}{args:List Int}(h:Can (dM.mk op ar d a b v zv args))(m:op≠11)(j:¬ (13<=op/\op<=15)):aht (op,ar,d,a,b,v,w,args):=by
 intro z wd q y;have:wd=zv:=by
  cases wd with
  |false=>rfl
  |true=>exact absurd (q rfl) j
 subst this;rcases y with rfl|h|h
 .exact h
 .exact absurd h m
 .exact absurd h j
theorem akq{g:List aF}{sg:List (List UInt8×Nat)}{cl re:Int}{i:dK}(h:IV g sg cl re i):aht (jq i):=by
 have key :∀t:C8,f62 i.kind i.op i.dst i.a i.b i.value i.args=zw t->aht t->aht (jq i):=λt w z=>by
  have:jq i=t:=by unfold jq;rw[w];rfl
  rw[this];exact z
 cases h with
 |@const o d a b v j hd m=>exact key (1,0,d,0,0,v,zv,eInt) rfl (wJ rfl (by simp) (by simp))
 |@move o d a b v j hd w m=>exact key (2,0,d,a,0,0,zv,eInt) rfl (wJ rfl (by simp) (by simp))
 |@un o d a b v j hd w J m=>exact key (3,o,d,a,0,0,zv,eInt) rfl (wJ rfl (by simp) (by simp))
 |@bin o d a b v j hd w z J m=>exact key (4,o,d,a,b,0,zv,eInt) rfl (wJ rfl (by simp) (by simp))
 |@load o d a b v j hd y m=>exact key (5,0,d,0,0,v,zv,eInt) rfl (wJ rfl (by simp) (by simp))
 |@store o d a b v j w y m=>exact key (6,0,0,a,0,v,zv,eInt) rfl (wJ rfl (by simp) (by simp))
 |@elem o d a b v j hd w y m=>exact key (7,0,d,a,0,v,zv,eInt) rfl (wJ rfl (by simp) (by simp))
 |@set o d a b v j w z y m=>exact key (8,0,0,a,b,v,zv,eInt) rfl (wJ rfl (by simp) (by simp))
 |@read o d a b v j hd m=>exact key (9,0,d,0,0,0,zv,eInt) rfl (wJ rfl (by simp) (by simp))
 |@print o d a b v j w m=>exact key (10,0,0,a,0,0,zv,eInt) rfl (wJ rfl (by simp) (by simp))
 |@call o d a b v j hd y H B m=>
  have q:aV (List.length eInt) j.length 8=zj:=by unfold aV;simp;omega
  refine key (11,0,d,0,0,v,zv,j) ?_ λL wd K y=>?_
  .show f62 11 o d a b v j=_;unfold f62;rw[q];rfl
  .cases wd with
   |false=>rfl
   |true=>have:=K rfl;simp at this
 |@IW o d a b v j hd w B m=>
  have q:aV (List.length eInt) j.length 8=zj:=by unfold aV;simp;omega
  refine key (12,0,d,a,0,0,zv,j) ?_ (wJ rfl (by simp) (by simp));show f62 12 o d a b v j=_;unfold f62;rw[q];rfl
 |@func o d a b v j hd y m=>exact key (18,0,d,0,0,v,zv,eInt) rfl (wJ rfl (by simp) (by simp))
theorem akr{k a t e n:Int}:∀u∈ET k a t e n,SY u:=by
 have b :∀to:Int,SY (jU 13 0 to):=λto v wd _ _=>by cases wd<;>rfl
 have d :∀a to:Int,SY (jU 14 a to):=λa to v wd _ _=>by cases wd<;>rfl
 have m :∀a to:Int,SY (jU 15 a to):=λa to v wd _ _=>by cases wd<;>rfl
 have q :∀a to:Int,SY (jU 16 a to):=λa to=>wJ rfl (by simp[jU]) (by simp[jU]);have j :∀x:cu,SY x->∀u∈[x],SY u:=λx h u hu=>by rw[X2]at hu;subst hu;exact h
 unfold ET;split
 .exact j _ (q _ _)
 split
 .split
  .intro u hu;cases hu
  .exact j _ (b _)
 split
 .exact j _ (d _ _)
 split
 .exact j _ (m _ _)
 .intro u hu;rcases XN.1 hu with w|hu
  .subst w;exact d _ _
  .exact j _ (b _) u hu
section
variable {bl:List aO} {od:List Int} {nm:List UInt8} {pa re:Int}
theorem abf{g:List aF}{sg:List (List UInt8×Nat)}{cl r:Int}(hi :∀b∈bl,∀i∈b.instrs,IV g sg cl r i)(d:Ord bl.length od):∀i,i<=bl.length->∀u∈qK bl od i,SY u
 |0,_=>λu hu=>by cases hu
 |i+1,m=>λu hu=>by
  have h:=d.at (i:=i) (by omega);rcases Z0.1 hu with hu|hu
  .exact abf hi d i (by omega) u hu
  .rcases Z0.1 hu with hu|hu
   .obtain ⟨x,j,e⟩:=XS.1 hu;subst e;exact akq (hi _ (Yx _ h.1 h.2) x j)
   .exact akr u hu
theorem aou(h:FO bl)(q:Ord bl.length od):f12 nm pa re bl od=zw (Qb bl od:Int):=by
 apply ok_eq;unfold f12;refine bF _ (ahg h q) λy ⟨b,B,e⟩=>?_;subst e;have:=Rn.det B (yu h q);subst this;have hg:=ahh h q;have H:=hg.1;have w:=Nu h q;generalize yK bl od bl.length=fi at *;generalize wM bl od=b at *;have m:(nV fi b).length=b.length:=by simp[nV]
 refine bF (λy=>y=(wI b b.length:Int)) ?_ λy e=>aI (by rw[e,w]);refine bD (λs:Int×Int=>∃j:Nat,s=((wI b j:Int),(j:Int))/\j<=b.length) (λs=>b.length-s.2.toNat) ⟨0,rfl,by omega⟩ λs ⟨j,e,L⟩=>?_;subst e;simp only[m];refine dA (λd=>?_) λd=>aI ?_
 rotate_left
 .have d:¬ j<b.length:=by simpa using d
  have:j=b.length:=by omega
  subst this;rfl
 have d:j<b.length:=by simpa using d
 have z:(nV fi b).getD j x9=codeOf fi b j:=by rw[getD_at _ (by rw[m];exact d)];simp[nV]
 have J:=Dc hg (j+1);have K:=sJ d;refine bK (aC.2 (by omega)) ?_;simp only[Q4,z,w1 d (show b.length<=4000000000 by omega)];refine eP (ahf (v:=(codeOf fi b j).value) (hg.at d)) (aI ⟨⟨j+1,?_,d⟩,?_⟩)
 .rw [aG (by omega),K];rfl
 .simp only[Q4];omega
end
def off(cs:List dM)(k:Nat):Nat:=((cs.take k).map Dh).sum
def strm(cs:List dM):List Int:=cs.flatMap gW
def SG(cs:List dM):Prop :=∀c∈cs,VCc c/\Can c
theorem WI{cs:List dM}{k:Nat}(h:k<cs.length):off cs (k+1)=off cs k+Dh cs[k]:=by unfold off;rw[take_snoc h,Ys,vb];simp
theorem WJ(cs:List dM):(strm cs).length=(cs.map Dh).sum:=by
 induction cs with
 |nil=>rfl
 |cons c cs b=>unfold strm at *;rw[ZD,XX,b,qJ,Qf,K4]
theorem WL(cs:List dM):off cs cs.length=(strm cs).length:=by rw[WJ];unfold off;rw[K7]
theorem S9{cs:List dM}{k:Nat}(h:k<cs.length):At (strm cs) (off cs k) (gW cs[k]):=by
 have e:cs=cs.take k++(cs[k]::cs.drop (k+1)):=by rw[<-Ks h,K2]
 have b:strm cs=strm (cs.take k)++gW cs[k]++strm (cs.drop (k+1)):=by
  conv=>lhs;rw[e]
  unfold strm;rw[K0,ZD,W4]
 have d:off cs k=(strm (cs.take k)).length:=by rw[WJ];rfl
 rw[b,d];exact aod _ _ _
theorem JU(c:dM):1<=Dh c:=by unfold Dh szc;omega
theorem ahu{cs:List dM}{k:Nat}(h:k<cs.length):off cs k+Dh cs[k]<=(strm cs).length:=by
 have:=at_len (S9 h) (by rw[qJ];exact JU _)
 rwa [qJ]at this
theorem ahv{cs:List dM}{k:Nat}(h:k<=cs.length):k<=off cs k:=by
 induction k with
 |zero=>omega
 |succ k b=>have:=b (by omega);rw[WI (by omega)];have:=JU cs[k];omega
section
variable {cs:List dM} {p1 p2 p3:List Int} {p4 p5:Int} {p6:List aF} {p7:List ji}
theorem ahw(h:SG cs)(J:(strm cs).length<=1048576):f13 (strm cs) p1 p2 p3 p4 p5 p6 p7=zw ((List.range cs.length).map λk=>(off cs k:Int)):=by
 apply ok_eq;unfold f13;refine bF (λy=>y=(List.range cs.length).map λk=>(off cs k:Int)) ?_ λy e=>aI e;refine bD (λs:Int×List Int=>∃k:Nat,s=((off cs k:Int),(List.range k).map λk=>(off cs k:Int))/\k<=cs.length) (λs=>(strm cs).length-s.1.toNat) ⟨0,rfl,by omega⟩ λs ⟨k,e,m⟩=>?_;subst e;have q:=ahv m;refine dA (λd=>?_) λd=>aI ?_
 .have d:off cs k<(strm cs).length:=by simpa using d
  have b:k<cs.length:=Nat.lt_of_le_of_ne m λe=>by rw[e,WL]at d;omega
  have j:=ahu b;have w:=JU cs[k];obtain⟨z,B⟩:=h _ (Xs b);refine eP (ar4 z B (by omega) (S9 b)) (b_ rfl (bK (by unfold aV;simp;omega) (aI ⟨⟨k+1,?_,b⟩,?_⟩)))
  .simp only;rw[aG (by omega),WI b,JN,Ys];rfl
  .simp only;rw[aG (by omega)];omega
 .have d:¬ off cs k<(strm cs).length:=by simpa using d
  have:k=cs.length:=qv λH=>by have j:=ahu (cs:=cs) (k:=k) (by omega);have w:=JU (cs[k]'(by omega));omega
  subst this;rfl
end
section
variable {g:List aF} {fs:List aQ} {ca co:Int} {fo:List Int} {bo:List (List Int)}
theorem abg{d:List Int}{c:dM}:∀{k:Nat},c∈cdT fs fo bo d k->∃j,j<k/\∃b∈Tn (o7 fs fo j) (sS fo bo j),c=Ol d b
 |0,h=>by cases h
 |k+1,h=>by
  rcases Z0.1 h with h|h
  .obtain ⟨j,q,r⟩:=abg h;exact⟨j,by omega,r⟩
  .obtain ⟨b,m,e⟩:=XS.1 h;exact⟨k,by omega,b,m,e.symm⟩
def CN(fs:List aQ):Prop :=∀i,i<fs.length->∀od,Ord (fs.getD i ah).blocks.length od->∀u∈wM (fs.getD i ah).blocks od,SY u
theorem RtP.cn{sg:List (List UInt8×Nat)}{cl:Int}(h:RtP g sg cl fs):CN fs:=λi b od d=>by have j:Rt g sg cl (fs.getD i ah):=h.rt _ (by rw[getD_at _ b];exact Xs _);exact(yu (h.lp.fo i b) d).all (λu h=>h) (abf j.ins d _ (Z1 _))
theorem WM{z:List Int}(M:EN fs fo bo z)(h:LP g fs)(H:CN fs)(q:LO fs fo bo){c:dM}(N:c∈cdT fs fo bo z fs.length):
  VCc c/\Can c/\(c.op=11->∃v:Int,(0<=v/\v<fs.length)/\c.value=z.getD v.toNat 0/\(fs.getD v.toNat ah).params=c.args.length):=by
 obtain⟨k,y,J,B,e⟩:=abg N;obtain⟨q1,_,q3⟩:=ahn M h q y B;subst e;refine⟨q1,?_,λd=>⟨J.value,(q3 d).1,QR d,(q3 d).2⟩⟩;obtain⟨j,K,e⟩:=WN B;have m:j<(wM (o7 fs fo k) (sS fo bo k)).length:=by rw[uY]at K;exact K
 have T:=q.at y;have hu:=H (fo.getD k 0).toNat (by omega) _ (q.blk y) _ (Xs m);have hg:=(ahh (h.fok q y) (q.blk y)).at m;have L:=ahi m;rw[getD_at _ K,e]at L;rw[getD_at _ m]at hg;have b:=hu (Ol z J).value J.wide;rw[L]at b ⊢;unfold codeOf Ol at b ⊢;simp only[getD_at aT m]at b ⊢;refine b hg.c.w ?_;split
 .rename_i d;exact .inr (.inl d)
 .split
  .rename_i B;exact .inr (.inr (hg.j.1 B))
  .exact .inl rfl
theorem abh{α β:Type}{f g:α->List β}:∀{l:List α},(∀x∈l,f x=g x)->l.flatMap f=l.flatMap g
 | [],_=>rfl
 |x::l,h=>by rw[ZD,ZD,h x Kb,abh λy b=>h y (V1 _ b)]
theorem aks{b:List Int}(q:EN fs fo bo b)(h:LP g fs)(d:CN fs)(w:LO fs fo bo):byT b fs fo bo fs.length=strm (cdT fs fo bo b fs.length):=by refine abh λc y=>?_;have j:=(WM q h d w y).1;have m:=(ahm j).1;rw[alK j]at m;exact(Prod.mk.inj (Wz m)).2.symm
theorem adv{l:List Int}(j:Bytes l):f4 l=zw zj:=by
 apply ok_eq;unfold f4;refine eP ahs (b_ rfl (bF _ (anZ j (by omega)) λ⟨c,i⟩ ⟨e,N⟩=>?_));simp only at e;subst e;refine bF _ (akc N (Uq _)) λ⟨fs,ca,co,l',i',g⟩ ⟨⟨sg,hR⟩,_,h2,h3⟩=>?_;simp only at hR h2 h3;subst h2;have h:=hR.lp;have T:=hR.cn;refine bF _ (adu N h3 h) λ⟨w1,w2,fo,bo⟩ ⟨_,_,m⟩=>?_;simp only at m ⊢;refine bF _ (aho h m) λ⟨z1,z2,z3,code,H,z6,z7,z8,pls⟩ ⟨e0,en',U,e1,e2,e4,e3⟩=>?_;simp only at e0 e1 e2 e3 e4;subst e2;subst e0;subst e1;subst e3;subst e4;have hn:=h.n;have X:=Nv U h m _ (Z1 _);have hE:=λk M=>ako h m k M;have hEn:=hE _ (Z1 _);have hfl:=m.adt;have hbl:=m.len;have hel:=U.len;refine b_ rfl (iI (λy=>y=E fs fo bo fs.length) ?_ λy1 e=>?_)
 .refine bD (λs:Int×Int=>∃k:Nat,s=((E fs fo bo k:Int),(k:Int))/\k<=fs.length) (λs=>fs.length-s.2.toNat) ⟨0,rfl,by omega⟩ λs ⟨k,e,M⟩=>?_;subst e;refine dA (λd=>?_) λd=>?_
  rotate_left
  .have d:¬ k<fo.length:=by simpa using d
   have:k=fs.length:=by omega
   subst this;exact aI rfl
  have d:k<fo.length:=by simpa using d
  have d:k<fs.length:=by omega
  have ha:=m.at d;have hs:=aou (nm:=(fs.getD (fo.getD k 0).toNat ah).name) (pa:=(fs.getD (fo.getD k 0).toNat ah).params) (re:=(fs.getD (fo.getD k 0).toNat ah).regs) (h.fok m d) (m.blk d);have hk1:=hE (k+1) d;have hEs:E fs fo bo (k+1)=E fs fo bo k+Qb (o7 fs fo k) (sS fo bo k):=rfl;have hen:=U.ats k d;refine bK (aC.2 (by simp only;omega)) ?_;simp only[Q4];refine bK (aC.2 (by omega)) (b_ (W3 (λb=>!b) (YY hen)) (bK (aC.2 (by omega)) (bK (aC.2 (by omega)) (eP hs (aI ⟨⟨k+1,?_,d⟩,?_⟩)))))
  .rw [aG (by omega),aG (by omega),hEs];rfl
  .simp only[aG (x:=(k:Int)+1) (by omega)];omega
 subst e;have hst:=aks U h T m;have J :∀c∈cdT fs fo bo H fs.length,_:=λc d=>WM U h T m d;have hSG:SG (cdT fs fo bo H fs.length):=λc d=>⟨(J c d).1,(J c d).2.1⟩;rw[hst]at X ⊢;generalize cdT fs fo bo H fs.length=cs at *;have hge:=ahv (cs:=cs) (Z1 _);rw[WL]at hge;refine eP (ahw hSG (by omega)) (iI (λ_=>True) ?_ λ_ _=>aI (YY (by rw[X])));have z:((List.range cs.length).map λk=>(off cs k:Int)).length=cs.length:=by simp
 refine jA cs.length (λ_=>True) (by omega) (λk M _=>?_) λ_=>b_ (Qt (by rw[z];omega)) (aI trivial);have hat:((List.range cs.length).map λk=>(off cs k:Int)).getD k 0=(off cs k:Int):=by rw[getD_at _ (by rw[z];exact M)];simp
 obtain⟨hv,hC,Y⟩:=J _ (Xs M);refine goT (YY (by rw[z];omega)) (bK (aC.2 (by rw[z];omega)) ?_);rw[Q4,hat];refine eP (ar5 (data:=strm cs) hv hC (by omega) (S9 M)) (b_ rfl (bF (λy=>y=zj) ?_ λy e=>by subst e;exact b_ rfl (aI ⟨rfl,trivial⟩)));obtain⟨c,hce⟩ :∃c,cs[k]=c:=⟨_,rfl⟩;rw[hce]at Y ⊢;refine bD (λs:Bool×Int=>∃q:Nat,s.2=q/\q<=fs.length/\(s.1=zj\/∃v:Int,((q:Int)<=v/\v<fs.length)/\c.op=11/\c.value=H.getD v.toNat 0/\(fs.getD v.toNat ah).params=c.args.length)) (λs=>fs.length-s.2.toNat) ⟨0,rfl,by omega,?_⟩ λ⟨b,q'⟩ ⟨q,e,hq,B⟩=>?_
 .by_cases h0:c.op=11
  .obtain ⟨v,v1,v2,v3⟩:=Y h0;exact .inr ⟨v,by simpa using v1,h0,v2,v3⟩
  .exact .inl (by simp[h0])
 simp only at e B;subst e;refine dA (λd=>?_) λd=>?_
 rotate_left
 .have d:¬ q<H.length:=by simpa using d
  rcases B with j|⟨v,hv,_⟩
  .exact aI j
  .omega
 have d:q<H.length:=by simpa using d
 have K:q<fs.length:=by omega
 have Z:(fs.map aQ.params).getD q 0=(fs.getD q ah).params:=by rw[getD_at _ (by simpa using K),getD_at _ K,Kh]
 refine bF (λy=>y=zj\/(b=zv/\¬ (H.getD q 0=c.value/\(fs.getD q ah).params=c.args.length))) (dA (λj=>aI (.inl rfl)) λj=>bK (aC.2 (by simp only;omega)) ?_) λy hy=>aI ⟨⟨q+1,?_,K,?_⟩,?_⟩
 .simp only[Q4];have L:c.op=11->vD c=c.value:=λh0=>QP (by omega);rcases B with w|⟨v,v1,v2,v3,v4⟩
  .have j:b=zv:=j;rw[j]at w;cases w
  have L:=L v2;refine dA (λw=>bK (aC.2 (by simp;omega)) (aI ?_)) λw=>aI (.inr ⟨j,λh2=>?_⟩)
  .by_cases h4:(fs.getD q ah).params=c.args.length
   .exact .inl (YY (Z.trans h4))
   .exact .inr ⟨j,λh=>h4 h.2⟩
  .have w:¬ H.getD q 0=vD c:=ZZ w;rw[L]at w;exact w h2.1
 .simp only[aG (x:=(q:Int)+1) (by omega)];rfl
 .rcases hy with hy|⟨j,hno⟩
  .exact .inl hy
  .rcases B with w|⟨v,v1,v2,v3,v4⟩
   .rw [j]at w;cases w
   .refine .inr ⟨v,⟨?_,v1.2⟩,v2,v3,v4⟩;by_cases hqv:(q:Int)=v
    .subst hqv;exact absurd ⟨v3.symm,v4⟩ hno
    .omega
 .simp only[aG (x:=(q:Int)+1) (by omega)];omega
end
end Go.Fg.YtoipcimfapppmaaGreatDoor

