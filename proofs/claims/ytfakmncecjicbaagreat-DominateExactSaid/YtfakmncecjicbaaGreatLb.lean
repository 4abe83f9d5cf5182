/-
  The plain proofs: what the functions compute answers as the law says.
-/
import Derived.Test.YtfakmncecjicbaaGreatLa
set_option linter.unusedSimpArgs false
set_option linter.unusedVariables false
set_option linter.unusedSectionVars false
namespace Go.Fg.YtfakmncecjicbaaGreat
open Go.Fw
theorem agO{n:Nat}{F:Nat->Nat->Prop}{left:List Int}{P W T T' N:List Nat}{b c:Nat}(hJ:Kj n F left P W b T N)(hc:c<n)(hcT:c∉T)(hT' :∀v,v∈T'↔v∈T\/v=c):
  left.getD c 0=(cn F P c n:Nat)/\((cn F P c n=1->Kj n F (left.set c ((cn F P c n:Nat)-1:Int)) P W b T' (N++[c]))/\(¬ cn F P c n=1->Kj n F (left.set c ((cn F P c n:Nat)-1:Int)) P W b T' N)):=by
 have hll:=hJ.ll;have hlc:left.getD c 0=(cn F P c n:Nat):=by have:=hJ.cnt c hc;rw[QR hcT]at this;omega
 have hset :∀v,(left.set c (((cn F P c n:Nat):Int)-1)).getD v 0=if v=c then((cn F P c n:Nat):Int)-1 else left.getD v 0:=λv=>lQ (by omega)
 have TF :∀v,v<n->(left.set c (((cn F P c n:Nat):Int)-1)).getD v 0=(cn F P v n:Nat)-if v∈T' then(1:Int)else 0:=λv hv=>by
  rw[hset];by_cases ev:v=c
  .subst ev;rw[Qt rfl,Qt ((hT' v).2 (.inr rfl))]
  .rw [QR ev,hJ.cnt v hv];have:v∈T'↔v∈T:=(hT' v).trans ⟨λh=>h.resolve_right ev,.inl⟩;simp only[this]
 refine⟨hlc,λhz=>⟨by simp[hll],TF,?_,λv=>?_⟩,λhz=>⟨by simp[hll],TF,hJ.nnd,λv=>?_⟩⟩
 .rw [UT];exact⟨hJ.nnd,by simp,λa ha d hd e=>by rw[Q6]at hd;subst hd;subst e;exact hcT ((hJ.new a).1 ha).1⟩
 .rw [QQ,Q6,hJ.new v,hT' v];constructor
  .rintro (⟨h1,h2⟩|h)
   .exact ⟨.inl h1,h2⟩
   .subst h;exact⟨.inr rfl,hz⟩
  .rintro ⟨h1|h1,h2⟩
   .exact .inl ⟨h1,h2⟩
   .exact .inr h1
 .rw [hJ.new v,hT' v];constructor
  .rintro ⟨h1,h2⟩;exact⟨.inl h1,h2⟩
  .rintro ⟨h1|h1,h2⟩
   .exact ⟨h1,h2⟩
   .subst h1;exact absurd h2 hz
open Classical in
noncomputable def Ku(bs:List aH)(b:Nat)(l:List Int):List Nat:=(l.filter λc=>!decide (Dom (Ed bs) c.toNat b)).map Int.toNat
theorem CY{bs:List aH}{b c:Nat}{l:List Int}:(¬ Dom (Ed bs) c b->Ku bs b (l++[(c:Int)])=Ku bs b l++[c])/\(Dom (Ed bs) c b->Ku bs b (l++[(c:Int)])=Ku bs b l):=by
 unfold Ku;constructor<;>intro h<;>rw[va,Z6]
 .rw [qS (by simp[h])];simp
 .rw [qT (by simp[h])];simp
theorem Ho{bs:List aH}{b v:Nat}{l:List Int}(hl :∀x∈l,0<=x):v∈Ku bs b l↔(v:Int)∈l/\¬ Dom (Ed bs) v b:=by
 unfold Ku;rw[XN];constructor
 .rintro ⟨x,hx,e⟩;rw[Jn]at hx;have:=hl x hx.1;have e':x=v:=by omega
  rw[e']at hx;exact⟨hx.1,by simpa using hx.2⟩
 .rintro ⟨h1,h2⟩;exact⟨v,Jn.2 ⟨h1,by simpa using h2⟩,by simp⟩
open Classical in
def Lf(bs:List aH)(i:Nat)(T:List Nat)(left:List Int):Prop:=left.length=bs.length/\∀v,v<bs.length->left.getD v 0=((cn (Fe bs) [] v i+if v∈T then 1 else 0:Nat):Int)
theorem agP{bs:List aH}{i:Nat}{T:List Nat}{left:List Int}(h:Lf bs i T left)(hT :∀v,v∈T↔Fe bs i v):Lf bs (i+1) [] left:=⟨h.1,λv hv=>by
 rw[h.2 v hv];simp only[cn,K0,if_false,Uq];by_cases hf:Fe bs i v
 .rw [Qt ((hT v).2 hf),Qt ⟨hf,by simp⟩]
 .rw [QR λg=>hf ((hT v).1 g),QR λg=>hf g.1]⟩
theorem KX{f:aK}(hg:Good f){O:List Nat}(hO:Od f.blocks.length (Ed f.blocks) O):Ok (f18 f.name f.params f.regs f.blocks) λy=>y=true↔¬∃b x,Fe f.blocks b x/\O.idxOf x<=O.idxOf b:=by
 obtain⟨hl,h0,hE,hC⟩:=hg;unfold f18;generalize f.blocks=bs at *;refine aX _ (Kq hE hl h0) λD ⟨d1,d2⟩=>aY (gy.2 (by omega)) ?_;simp only[Q1];have hD :∀x,x<bs.length->inB (x:Int) D.length=true:=λx hx=>ak.2 ⟨by omega,by omega⟩;have hDb :∀x c,x<bs.length->c<bs.length->inB (c:Int) (D.getD x rF).length=true:=λx c hx hc=>ak.2 ⟨by omega,by have:=(d2 x hx).1;show (c:Int)<((D.getD x []).length:Int);omega⟩;have hDd :∀x b,x<bs.length->b<bs.length->((D.getD x rF).getD b false=true↔Dom (Ed bs) x b):=λx b hx hb=>(d2 x hx).2 b hb;have hnd:=λb=>Nk bs b;refine aX (λleft=>Lf bs bs.length [] left) ?_ λleft ⟨g1,g2⟩=>?_
 .refine wu rfl (by omega) (λi left=>Lf bs i [] left) ⟨by simp,λv hv=>by rw[getD_at _ (by simpa using hv)];simp[cn]⟩ (λi left hi hL=>?_) λy h=>h;refine aY (ak.2 ⟨by simp only;omega,by simp only;omega⟩) ?_;simp only[Q1];refine lU (oU _ _ _ _) ?_;have hsd:succs (bs.getD i aj).aV (bs.getD i aj).dI (bs.getD i aj).bg=dw bs i:=rfl;rw[hsd];have hin:=n_ hE hi;have hl2:=yO bs i;have hnd:=hnd i;have hfe :∀v,v∈Ku bs i (dw bs i)↔Fe bs i v:=λv=>(Ho λx hx=>(hin x hx).1).trans ⟨λh=>⟨⟨hi,h.1⟩,h.2⟩,λh=>⟨h.1.2,h.2⟩⟩;refine aX (λleft=>Lf bs i (Ku bs i (dw bs i)) left) ?_ λleft h=>ay ⟨rfl,agP h hfe⟩;generalize dw bs i=l at hin hl2 hnd;refine wu rfl (by omega) (λj left=>Lf bs i (Ku bs i (l.take j)) left) (by simpa[Ku]using hL) (λj left hj hL=>?_) λy h=>by rw[W8]at h;exact h
  have hjl:inB (j:Int) l.length=true:=ak.2 ⟨by omega,by omega⟩;have e:l.getD j 0=l[j]:=getD_at _ hj;have hr:=hin _ (Z2 hj);obtain⟨c,hc⟩ :∃c:Nat,l[j]=c:=⟨(l[j]).toNat,by omega⟩;rw[hc]at hr e;have hcn:c<bs.length:=by omega
  refine aY hjl ?_;simp only[Q1,e];refine aY (hD c hcn) (aY (hDb c i hcn hi) ?_);refine aX (λleft=>Lf bs i (Ku bs i (l.take (j+1))) left) ?_ λleft h=>ay ⟨rfl,h⟩;rw[take_snoc hj,hc];have hcl:inB (c:Int) left.length=true:=ak.2 ⟨by omega,by have:=hL.1;omega⟩;refine bF (λh=>aY hjl (aY hcl (aY hcl (ay ?_)))) λh=>ay ?_
  .have h:¬ Dom (Ed bs) c i:=λg=>by rw[(hDd c i hcn hi).2 g]at h;cases h
   rw[CY.1 h];have hcT:c∉Ku bs i (l.take j):=λg=>by obtain⟨k,hk,e⟩:=JN ((Ho λx hx=>(hin x (W6 hx)).1).1 g).1;rw[qi]at e;rw[WF]at hk;have:=(vo hnd).1 (e.trans hc.symm);omega
   have h2:=hL.2 c hcn;rw[QR hcT,Uq]at h2;have hle:=Yf (F:=Fe bs) (P:=[]) (v:=c) i;refine⟨by simpa using hL.1,λv hv=>?_⟩;rw[lQ (by rw[hL.1];exact hcn),h2,aI (by omega)];by_cases ev:v=c
   .subst ev;rw[Qt rfl,Qt (by simp)];omega
   .rw [QR ev,hL.2 v hv];simp only[QQ,Q6,ev,or_false]
  .have h:Dom (Ed bs) c i:=(hDd c i hcn hi).1 (by simpa using h);rw[CY.2 h];exact hL
 have hcnt :∀v,v<bs.length->left.getD v 0=(cn (Fe bs) [] v bs.length:Nat):=λv hv=>by have:=g2 v hv;simpa using this
 have hK0:=TD hE hO g1 hcnt;refine aX (λw=>w=[(0:Int)]) ?_ λw hw=>?_
 .refine wu rfl (by omega) (λi w=>w=if 0<i then[(0:Int)]else[]) rfl (λi w hi hw=>?_) λw hw=>by rw[hw,Qt h0]
  refine aY (ak.2 ⟨by simp only;omega,by simp only;omega⟩) ?_;simp only[Q1];refine aX (λw=>w=[(0:Int)]) (bF (λh=>aY ?_ (ay ?_)) λh=>ay ?_) λw h=>ay ⟨rfl,by simpa using h⟩
  .rw [hw];unfold bP;split<;>simp
  .have h:=Wz h;rw[hcnt i hi]at h;have:i=0:=by have:=hK0.full i hi (by omega);simpa using this
   subst this;rw[hw];rfl
  .have h:=K8 h;by_cases e:i=0
   .subst e;exact absurd (by rw[hcnt 0 hi,hK0.zr 0 (by simp)];rfl) h
   .rw [hw,Qt (by omega)]
 subst hw;refine aX (λy:Int=>∃left P,y=(P.length:Nat)/\Kh bs.length (Fe bs) left P []) ?_ λy ⟨left,P,e,hK⟩=>ay ?_
 rotate_left
 .subst e;refine Iff.trans ?_ (adF (F:=Fe bs) hO (λu v=>Iff.rfl) hK);rw[XX];omega
 refine bf (λs:Int×List Int×List Int=>∃(left:List Int) (P W:List Nat),s=((P.length:Int),left,W.map Int.ofNat)/\Kh bs.length (Fe bs) left P W) (λs=>bs.length-s.1.toNat) ⟨left,[],[0],rfl,hK0⟩ λs ⟨left,P,W,e,hK⟩=>?_;subst e;have hPW:(P++W).length<=bs.length:=by have:=Ks hK.nd (l₂:=List.range bs.length) λa ha=>V0.2 (hK.inn a ha);simpa using this
 rw[Z0]at hPW;refine bF (λhne=>?_) (λhe=>ay ?_)
 rotate_left
 .have:W=[]:=by
   have:W.length=0:=by simp at he;simp[he]
   exact v8.1 this
  subst this;exact⟨left,P,rfl,hK⟩
 obtain⟨st',z,e,w1,w2,w3⟩:=VR (st:=W.map Int.ofNat) (λe=>by rw[e]at hne;simp at hne) (by simp;omega);rcases ze W with e'|⟨W',b,e'⟩
 .subst e';simp at hne
 have e':W=W'++[b]:=by simpa using e'
 subst e';rw[Z6]at e;obtain⟨e1,e2⟩:=List.append_inj' e rfl;have e2:(b:Int)=z:=by simpa using e2
 subst e1;subst e2;have hbn:b<bs.length:=hK.inn b (by simp);have hbP:b∉P:=λh=>by have:=hK.nd;rw[UT]at this;exact this.2.2 b h b (by simp) rfl
 simp only[Z0,W3]at hPW;have hWl:((W'++[b]).map Int.ofNat).length=W'.length+1:=by simp
 simp only[w1,Q1,w2,w3];refine aY (ak.2 ⟨by omega,by rw[hWl];simp;omega⟩) (aY (by rw[hWl];simp;omega) (aY (ak.2 ⟨by omega,by omega⟩) ?_))
 (try simp only[Q1])
 refine lU (oU _ _ _ _) ?_;have hsd:succs (bs.getD b aj).aV (bs.getD b aj).dI (bs.getD b aj).bg=dw bs b:=rfl;rw[hsd];have hin:=n_ hE hbn;have hl2:=yO bs b;have hnd:=hnd b;have hfe :∀v,v∈Ku bs b (dw bs b)↔Fe bs b v:=λv=>(Ho λx hx=>(hin x hx).1).trans ⟨λh=>⟨⟨hbn,h.1⟩,h.2⟩,λh=>⟨h.1.2,h.2⟩⟩;have hed :∀c:Nat,(c:Int)∈dw bs b->Ed bs b c:=λc h=>⟨hbn,h⟩;have hwd:cu ((P.length:Int)+1)=((P++[b]).length:Nat):=by rw[aI (by omega)];simp
 refine aX (λy=>∃left' N,y=(left',(W'++N).map Int.ofNat)/\Kj bs.length (Fe bs) left' P W' b (Ku bs b (dw bs b)) N) ?_ λy ⟨left',N,e,hJ⟩=>by subst e;rw[hwd];exact ay ⟨⟨left',P++[b],W'++N,rfl,adE hK hfe (adH hE) hJ⟩,by simp only[Q1,Z0,W3];omega⟩
 generalize dw bs b=l at hin hl2 hnd hed;refine wu rfl (by omega) (λj s=>∃left' N,s=(left',(W'++N).map Int.ofNat)/\Kj bs.length (Fe bs) left' P W' b (Ku bs b (l.take j)) N/\N.length<=j) ⟨left,[],by simp,⟨hK.ll,λv hv=>by rw[hK.cnt v hv];simp[Ku],by simp,λv=>by simp[Ku]⟩,by simp⟩ (λj s hj ⟨left',N,e,hJ,hNl⟩=>?_) λs ⟨left',N,e,hJ,_⟩=>⟨left',N,e,by rw[W8]at hJ;exact hJ⟩;subst e;have hjl:inB (j:Int) l.length=true:=ak.2 ⟨by omega,by omega⟩;have e:l.getD j 0=l[j]:=getD_at _ hj;have hr:=hin _ (Z2 hj);obtain⟨c,hc⟩ :∃c:Nat,l[j]=c:=⟨(l[j]).toNat,by omega⟩;have aro:=hed c (hc▸Z2 hj);rw[hc]at hr e;have hcn:c<bs.length:=by omega
 refine aY hjl ?_;simp only[Q1,e];refine aY (hD c hcn) (aY (hDb c b hcn hbn) ?_);refine aX (λs=>∃left' N,s=(left',(W'++N).map Int.ofNat)/\Kj bs.length (Fe bs) left' P W' b (Ku bs b (l.take (j+1))) N/\N.length<=j+1) ?_ λs h=>ay ⟨rfl,h⟩;rw[take_snoc hj,hc];refine bF (λh=>?_) λh=>ay ⟨left',N,rfl,?_,by omega⟩
 rotate_left
 .have h:Dom (Ed bs) c b:=(hDd c b hcn hbn).1 (by simpa using h);rw[CY.2 h];exact hJ
 have h:¬ Dom (Ed bs) c b:=λg=>by rw[(hDd c b hcn hbn).2 g]at h;cases h
 rw[CY.1 h];have hcT:c∉Ku bs b (l.take j):=λg=>by obtain⟨k,hk,e⟩:=JN ((Ho λx hx=>(hin x (W6 hx)).1).1 g).1;rw[qi]at e;rw[WF]at hk;have:=(vo hnd).1 (e.trans hc.symm);omega
 obtain⟨k1,k2,k3⟩:=agO (T':=Ku bs b (l.take j)++[c]) hJ hcn hcT λv=>by rw[QQ,Q6]
 have hpos:0<cn (Fe bs) P c bs.length:=Nat.pos_of_ne_zero λh'=>hbP ((wz _).1 h' b hbn ⟨aro,h⟩);have hle:=Yf (F:=Fe bs) (P:=P) (v:=c) bs.length;have hll:=hJ.ll;have hcl:inB (c:Int) left'.length=true:=ak.2 ⟨by omega,by omega⟩;refine aY hjl (aY hcl (aY hcl (aY hjl (aY ?_ ?_))))
 .exact ak.2 ⟨by omega,by simp only[UX];omega⟩
 simp only[Q1,k1];rw[aI (by omega)];have hsc:(left'.set c ((cn (Fe bs) P c bs.length:Nat)-1:Int)).getD c 0=((cn (Fe bs) P c bs.length:Nat):Int)-1:=by rw[lQ (by omega),Qt rfl]
 rw[hsc];refine aX (λy=>∃N',y=(W'++N').map Int.ofNat/\Kj bs.length (Fe bs) (left'.set c ((cn (Fe bs) P c bs.length:Nat)-1:Int)) P W' b (Ku bs b (l.take j)++[c]) N'/\N'.length<=j+1) (bF (λhz=>aY hjl (aY ?_ (ay ⟨N++[c],by simp,k2 (by simp only[XX]at hz;omega),by simp;omega⟩))) λhz=>ay ⟨N,rfl,k3 (by simp only[decide_eq_false_iff_not]at hz;omega),by omega⟩) λy ⟨N',e,q1,q2⟩=>ay ⟨_,N',by rw[e],q1,q2⟩;unfold bP;simp only[W5,Z0,W3,Kd,XX];omega
theorem adP{A R A' R':Type}{body:A->Option (A ⊕ R)}{body':A'->Option (A' ⊕ R')}(φ:A->A')(ψ:R->R')(h :∀a y,body a=some y->body' (φ a)=some (Sum.map φ ψ y)){a:A}{r:R}(hr:aT body a=some r):aT body' (φ a)=some (ψ r):=by
 obtain⟨n,hn⟩:=JH hr;refine ug (n:=n) ?_;clear hr
 induction n generalizing a with
 |zero=>cases hn
 |succ n ih=>
  simp only[iD]at hn ⊢;obtain⟨y,h1,h2⟩:=JS.1 hn;rw[h a y h1];cases y with
  |inl a'=>exact ih h2
  |inr r'=>cases h2;rfl
def cnv:List Bool×List UInt8×Int×Int×List aH×List Int->List UInt8×Int×Int×List aH×List Bool×List Int:=λy=>(y.2.1,y.2.2.1,y.2.2.2.1,y.2.2.2.2.1,y.1,y.2.2.2.2.2)
theorem ZX:∀(k:Nat) (b:Int) (nm:List UInt8) (pa re:Int) (bs:List aH) (seen:List Bool) (out:List Int) y,Vy k b nm pa re bs seen out=some y->ajj k b nm pa re bs seen out=some (cnv y):=by
 intro k
 induction k with
 |zero=>intro b nm pa re bs seen out y h;cases h
 |succ k ih=>
  intro b nm pa re bs seen out y h;change acL (Vy k) b nm pa re bs seen out=some y at h;change aji (ajj k) b nm pa re bs seen out=_;unfold acL at h;unfold aji;obtain⟨y1,h1,h2⟩:=JS.1 h;obtain⟨c1,h1⟩:=vN h1;obtain⟨c2,h1⟩:=vN h1;simp only[uy,oU,Option.bind_some]at h1 ⊢;obtain⟨y2,h4,h3⟩:=JS.1 h1;clear h h1;obtain⟨c3,h3⟩:=vN h3;obtain⟨c4,h2⟩:=vN h2;cases h3;cases h2;generalize succs (bs.getD b.toNat aj).aV (bs.getD b.toNat aj).dI (bs.getD b.toNat aj).bg=l at h4 ⊢;refine ok_eq (aX (λy=>y=cnv (y2.1,y2.2.1,y2.2.2.1,y2.2.2.2.1,y2.2.2.2.2.1,y2.2.2.2.2.2++[b])) (aY c1 (aY c2 (aX (λy=>y=cnv y2) ⟨cnv y2,adP (a:=((0:Int),seen.set b.toNat true,nm,pa,re,bs,out)) (λa:Int×List Bool×List UInt8×Int×Int×List aH×List Int=>(a.1,cnv a.2)) cnv (λa z hz=>?_) h4,rfl⟩ λy e=>?_))) λy e=>?_)
  rotate_left
  .subst e;exact aY c3 (ay rfl)
  .subst e;exact aY c4 (ay rfl)
  cases hd:decide (a.1<(l.length:Int))with
  |false=>rw[hd]at hz;cases hz;rfl
  |true=>
   rw[hd]at hz;obtain⟨k1,hz1⟩:=vN hz;obtain⟨k2,hz2⟩:=vN hz1;obtain⟨z',hz3,e⟩:=JS.1 hz2;clear hz hz1 hz2;cases e;refine ok_eq (goT rfl (aY k1 (aY k2 (aX (λy=>y=cnv z') ?_ λy e=>ay (by rw[e];rfl)))));cases hs:(!a.2.1.getD (l.getD a.1.toNat 0).toNat false)with
   |false=>rw[hs]at hz3;cases hz3;exact yR hs (ay rfl)
   |true=>rw[hs]at hz3;obtain⟨z'',hz4,e⟩:=JS.1 (show Option.bind (Vy k _ _ _ _ _ _ _) _=some z' from hz3);cases e;exact goT hs (aY k1 (lU (ih _ _ _ _ _ _ _ _ hz4) (ay rfl)))
theorem ZY{f:aK}(hg:Good f):∃l,f8 f.name f.params f.regs f.blocks=some l/\f9 f.name f.params f.regs f.blocks=some l/\l.length<=1000:=by
 obtain⟨hl,h0,hE,hC⟩:=hg;have hcn:cntF (List.replicate f.blocks.length false)=f.blocks.length:=by simp[cntF,qt]
 obtain⟨y,h1,s',L,e,hv,hsz⟩:=Tt (nm:=f.name) (pa:=f.params) (re:=f.regs) hE hl 1048576 0 (List.replicate f.blocks.length false) eInt h0 (by simp) pW (by omega) (by simp;omega);subst e;generalize f.blocks=bs at *;have hll:L.length<=1000:=by omega
 refine⟨(L.map Int.ofNat).reverse,ok_eq ?_,ok_eq ?_,by simp;omega⟩
 .unfold f8;refine aY (gy.2 (by omega)) (lU rfl ?_);exact lU h1 (lU (J6 (by simp;omega)) (ay (by simp)))
 unfold f9;refine aX (λy=>y=(f.name,f.params,f.regs,bs,List.replicate bs.length false,eInt)) (aY (gy.2 (by omega)) (ay (by simp))) λz e=>?_;subst e;refine lU (ZX _ _ _ _ _ _ _ _ _ h1) ?_;simp only[cnv,qa,show eInt++L.map Int.ofNat=L.map Int.ofNat from rfl];have hpl:(L.map Int.ofNat).length<=1000:=by simpa using hll
 generalize L.map Int.ofNat=p at hpl;refine aX (λy=>y=p.reverse) ?_ λy e=>ay e;refine bf (λs:Int×List Int=>∃i:Nat,s.1=(i:Int)-1/\i<=p.length/\s.2=(p.drop i).reverse) (λs=>(s.1+1).toNat) ⟨p.length,by simp only;rw[aI (by omega)],by omega,by simp⟩ λ⟨i',acc⟩ ⟨i,q1,q2,q3⟩=>?_;simp only at q1 q3;subst q1;subst q3;refine bF (λhc=>?_) λhc=>ay ?_
 rotate_left
 .have:i=0:=by have:=K8 hc;omega
  subst this;show (p.drop 0).reverse=_;simp
 have hi:0<i:=by have:=Wz hc;omega
 have e:((i:Int)-1).toNat=i-1:=by omega
 refine aY (ak.2 ⟨by omega,by omega⟩) (aY (by unfold bP;simp;omega) ?_);rw[aI (by omega)];refine ay ⟨⟨i-1,by omega,by omega,?_⟩,by omega⟩;simp only[e];have hd:p.drop (i-1)=p[i-1]::p.drop i:=by rw[List.drop_eq_getElem_cons (by omega),show i-1+1=i by omega]
 rw[hd,List.reverse_cons,getD_at _ (by omega)]
theorem Hq{l:List Int}(hl:l.length<=1000000):f7 l l=some true:=by apply ok_eq;unfold f7;refine yR (by simp) (qF (λ_=>True) ?_ λ_ _=>ay rfl);refine bf (λs:Int=>∃i:Nat,s=i/\i<=l.length) (λs=>l.length-s.toNat) ⟨0,rfl,by omega⟩ λs ⟨i,e1,e2⟩=>?_;subst e1;refine bF (λhi=>?_) (λhi=>ay trivial);have hi:=Wz hi;refine aY (ak.2 ⟨by omega,by omega⟩) (aY (ak.2 ⟨by omega,by omega⟩) (yR (by simp) (ay ⟨⟨i+1,by rw[aI (by omega)];omega,by omega⟩,by rw[aI (by omega)];omega⟩)))
theorem adQ{l:List dZ}(hl:l.length<=1000000):f12 l l=some true:=by apply ok_eq;unfold f12;refine yR (by simp) (qF (λ_=>True) ?_ λ_ _=>ay rfl);refine bf (λs:Int=>∃i:Nat,s=i/\i<=l.length) (λs=>l.length-s.toNat) ⟨0,rfl,by omega⟩ λs ⟨i,e1,e2⟩=>?_;subst e1;refine bF (λhi=>?_) (λhi=>ay trivial);have hi:=Wz hi;refine aY (ak.2 ⟨by omega,by omega⟩) (aY (ak.2 ⟨by omega,by omega⟩) (yR (by simp) (ay ⟨⟨i+1,by rw[aI (by omega)];omega,by omega⟩,by rw[aI (by omega)];omega⟩)))
theorem adR{p0:List Int}{p1 p2:Int}(hb:Bytes p0):f3 p0 p1 p2=some true:=by
 apply ok_eq;unfold f3;refine lU adD (yR rfl ?_);obtain⟨c2,h6,e2,hb2⟩:=ajD hb (n:=400) (by omega);refine lU h6 (aX _ (agD hb2 (by omega)) λc3 ⟨hm,hG⟩=>?_);generalize c3.1=fs at hm hG ⊢;refine qF (λ_=>True) ?_ λ_ _=>ay rfl;refine bf (λs:Int=>∃i:Nat,s=i/\i<=fs.length) (λs=>fs.length-s.toNat) ⟨0,rfl,by omega⟩ λs ⟨i,e1,e2⟩=>?_;subst e1;refine bF (λhi=>?_) (λhi=>ay trivial);have hi:i<fs.length:=by simpa using hi
 have hg:=hG _ (Z2 hi);refine aY (ak.2 ⟨by omega,by omega⟩) ?_;have e:fs.getD i aG=fs[i]:=getD_at _ hi;simp only[Q1,e];generalize fs[i]=f at hg;have hwi:cu ((i:Int)+1)=((i+1:Nat):Int):=by rw[aI (by omega)];omega
 obtain⟨O,out,o1,o2,o3,o4⟩:=Es hg;obtain⟨l,k1,k2,k3⟩:=ZY hg;obtain⟨out',i1,rfl⟩:=adK hg o2.gr o4;obtain⟨B,b1,rfl⟩:=Nh hg;obtain⟨d1,p1',p2'⟩:=adO hg;obtain⟨d2,p3',p4'⟩:=ZW hg;obtain rfl:=ajR p2' p4';obtain⟨r1,r2,r3⟩:=Pq hg o2;obtain⟨r1',r4,r5⟩:=KX hg o2;have hr:r1=r1':=by have:=r3.trans r5.symm;cases r1<;>cases r1'<;>simp at this ⊢
 subst hr;have hl:=hg.1;have hil:out'.length<=1000:=by rw[o4.T.len];exact hl
 have hbl:=yP f.blocks f.blocks.length;have hdl:d1.length<=1000:=by rw[p2'.1];exact hl
 refine aX (λs=>s=false) ?_ λs e=>?_
 .refine lU k1 (lU k2 (lU (Hq (by omega)) (yR rfl (lU o3 (lU i1 (lU (Hq (by omega)) (yR rfl ?_)))))));refine lU b1 (lU (Np hg) (lU (adQ (by omega)) (yR rfl ?_)));refine lU p1' (lU p3' (lU (Hq (by omega)) (yR rfl (lU r2 (lU r4 (yR (by cases r1<;>rfl) ?_))))));obtain⟨d,g1,g2⟩:=zB hg p1 p2;exact lU g1 (lU g2 (ay (by cases d<;>rfl)))
 subst e;refine yR rfl (qF (λ_=>True) ?_ λ_ _=>ay ⟨⟨i+1,hwi,by omega⟩,by rw[hwi];omega⟩);refine bf (λs:Int=>∃i:Nat,s=i/\i<=f.blocks.length) (λs=>f.blocks.length-s.toNat) ⟨0,rfl,by omega⟩ λs ⟨h,e1,e2⟩=>?_;subst e1;refine bF (λhh=>?_) (λhh=>ay trivial);have hh:h<f.blocks.length:=by simpa using hh
 obtain⟨l1,q1,L1,q2,q3,q4,q5⟩:=Yd hg hh;obtain⟨l2,q6,L2,q7,q8,q9,q10⟩:=TG hg hh;have hLL:L1=L2:=J_ q3 q8 λx=>(q5 x).trans (q10 x).symm;subst hLL;subst q7;subst q2;refine lU q1 (lU q6 (lU (Hq (by simp;omega)) (yR rfl (qF (λ_=>True) ?_ λ_ _=>ay ⟨⟨h+1,by rw[aI (by omega)];omega,by omega⟩,by rw[aI (by omega)];omega⟩))));refine bf (λs:Int=>∃i:Nat,s=i/\i<=f.blocks.length) (λs=>f.blocks.length-s.toNat) ⟨0,rfl,by omega⟩ λs ⟨j,e1,e2⟩=>?_;subst e1;refine bF (λhj=>?_) (λhj=>ay trivial);have hj:j<f.blocks.length:=by simpa using hj
 obtain⟨d,g1,g2⟩:=zB hg (h:Int) j;exact lU g1 (lU g2 (yR (by cases d<;>rfl) (ay ⟨⟨j+1,by rw[aI (by omega)];omega,by omega⟩,by rw[aI (by omega)];omega⟩)))
end Go.Fg.YtfakmncecjicbaaGreat

