/-
 What the functions of the seat compute, printed by a program (wip/gen).
-/
import Derived.Test.YtoipcimfapppmaaGreatDoorFgA
import Derived.Test.YtoipcimfapppmaaGreatDoorFgL
namespace Go.Fg.YtoipcimfapppmaaGreatDoor
open Go.Fw Go.Proofs Go.Fw.YtoipcimfapppmaaGreatDoor
noncomputable section
set_option linter.unusedVariables false
set_option maxRecDepth 100000
abbrev bG:Type:=List (List UInt8)
abbrev MK:Type:=List (List Int)
abbrev KU:Type:=List aO
abbrev eP:Type:=List aA
abbrev ng:Type:=List aK
abbrev LPl:Type:=List fQ
abbrev jm:Type:=List UInt8
abbrev rF:Type:=List bZ
abbrev nI:Type:=List aQ
abbrev LUn:Type:=List cu
abbrev eH:Type:=List Int
def f52:List Int->Option eH:=abl
def ali:aY:=YZ
theorem Y3:aC Tryz.prog 52 ali:=aep
abbrev OB{A B:Type}:Option A->(A->Option B)->Option B:=Option.bind
theorem ts(l:List (Nat×aY))(e:TypeId->Option Ty){f:FuncId}{fn:Func}{c:Code}{sp:aY}(r:List ResultVar)(a:gI)(hf:Tryz.prog.funcs[f]?=some fn)(hb:fn.body=some c)(hT:abj Tryz.prog l)(h1:(fn.name == "runtime.NumGoroutine")=false:=by rfl)(h2:fn.results=r.toArray:=by rfl)(h3:sp.sig.er.ok=true:=by kernel_rfl)(h4:(sp.sig.bg.all λg=>sp.sig.pin.er.nms.contains g)=true:=by rfl)(h5:sp.sig.bn<=fn.ntmps:=by exact of_decide_eq_true (by kernel_rfl))(h6:r.length=sp.sig.dD:=by rfl)
 (h :∀x,(adN (kW.of l) tt e fn.ntmps sp.sig r c a x).run=sp.f x:=by intro x;kernel_rfl):aC Tryz.prog f sp:=abk (T:=kW.of l) (ety:=e) r a hf hb h1 h2 h3 h4 h5 h6 (abj.sound hT) aq7 mixed h
section
variable {A0 A1 A2 A3 A4 A5 A6 A7 A8 A9 A10 A11 A12 A13 A14 R:Type}
def u2(f:A0->A1->R)(x:A0×A1):R:=f x.1 x.2
def u3(f:A0->A1->A2->R)(x:A0×A1×A2):R:=u2 (f x.1) x.2
def u4(f:A0->A1->A2->A3->R)(x:A0×A1×A2×A3):R:=u3 (f x.1) x.2
def u5(f:A0->A1->A2->A3->A4->R)(x:A0×A1×A2×A3×A4):R:=u4 (f x.1) x.2
def u6(f:A0->A1->A2->A3->A4->A5->R)(x:A0×A1×A2×A3×A4×A5):R:=u5 (f x.1) x.2
def u7(f:A0->A1->A2->A3->A4->A5->A6->R)(x:A0×A1×A2×A3×A4×A5×A6):R:=u6 (f x.1) x.2
def u8(f:A0->A1->A2->A3->A4->A5->A6->A7->R)(x:A0×A1×A2×A3×A4×A5×A6×A7):R:=u7 (f x.1) x.2
def u9(f:A0->A1->A2->A3->A4->A5->A6->A7->A8->R)(x:A0×A1×A2×A3×A4×A5×A6×A7×A8):R:=u8 (f x.1) x.2
def u10(f:A0->A1->A2->A3->A4->A5->A6->A7->A8->A9->R)(x:A0×A1×A2×A3×A4×A5×A6×A7×A8×A9):R:=u9 (f x.1) x.2
def u11(f:A0->A1->A2->A3->A4->A5->A6->A7->A8->A9->A10->R)(x:A0×A1×A2×A3×A4×A5×A6×A7×A8×A9×A10):R:=u10 (f x.1) x.2
def u12(f:A0->A1->A2->A3->A4->A5->A6->A7->A8->A9->A10->A11->R)(x:A0×A1×A2×A3×A4×A5×A6×A7×A8×A9×A10×A11):R:=u11 (f x.1) x.2
def u13(f:A0->A1->A2->A3->A4->A5->A6->A7->A8->A9->A10->A11->A12->R)(x:A0×A1×A2×A3×A4×A5×A6×A7×A8×A9×A10×A11×A12):R:=u12 (f x.1) x.2
def u14(f:A0->A1->A2->A3->A4->A5->A6->A7->A8->A9->A10->A11->A12->A13->R)(x:A0×A1×A2×A3×A4×A5×A6×A7×A8×A9×A10×A11×A12×A13):R:=u13 (f x.1) x.2
def u15(f:A0->A1->A2->A3->A4->A5->A6->A7->A8->A9->A10->A11->A12->A13->A14->R)(x:A0×A1×A2×A3×A4×A5×A6×A7×A8×A9×A10×A11×A12×A13×A14):R:=u14 (f x.1) x.2
end
abbrev T24:=Int->eH->Int->Option (Int×eH×Int)
abbrev T47:=Int->Option jm
abbrev T94:=rF->bG->Option bG
abbrev T99:=rF->Option Int
abbrev ahw:=Int->Int->Int->Int->jm->nI->Option Int
abbrev Hq:=Int->Int->Int->Int->jm->nI->Int->eP->(List aB)->bG->Int->Int->Int->ng->Option (eP×(List aB)×bG×Int×Int×Int×ng)
abbrev abq:=Int->Int->Int->Int->jm->nI->Int->eP->(List aB)->bG->Int->Int->Int->ng->Option (eP×(List aB)×bG×Int×Int×Int×ng)
abbrev Uz:=nI->Int->eP->(List aB)->bG->Int->Int->Int->ng->Option (eP×(List aB)×bG×Int×Int×Int×eH×ng)
abbrev Xd:=Int->Int->Int->Int->jm->nI->eP->(List aB)->Int->Int->bG->Option (Int×Int×Int×Int×jm×eP×(List aB)×Int×Int×bG×nI)
abbrev abr:=nI->eP->(List aB)->Int->Int->bG->Option (eP×(List aB)×Int×Int×bG×nI)
abbrev T76:=rF->eP->(List aB)->bG->Int->Int->Int->ng->Option (Bool×eP×(List aB)×bG×Int×Int×Int×ng)
abbrev T95:=Int->Int->jm->nI->rF->rF->eP->(List aB)->bG->Int->Int->Int->ng->Option (Bool×eP×(List aB)×bG×Int×Int×Int×ng)
abbrev ML:=Int->Int->jm->nI->rF->rF->Int->eP->(List aB)->bG->Int->Int->Int->ng->Option (eP×(List aB)×bG×Int×Int×Int×ng)
abbrev MN:=Int->Int->jm->nI->rF->rF->Int->eP->(List aB)->bG->Int->Int->Int->ng->Option (Bool×eP×(List aB)×bG×Int×Int×Int×ng)
abbrev ahx:=rF->eP->(List aB)->Int->Int->bG->Option (eP×(List aB)×Int×Int×rF×bG)
abbrev Qw:=Int->Int->eH->Int->eP->(List aB)->bG->Option (Int×Int×Int×Int×jm×nI×Int×eH×Int×eP×(List aB)×bG)
abbrev Qx:=Int->Int->eH->Int->eP->(List aB)->bG->Option (Int×Int×Int×Int×jm×Int×eH×Int×eP×(List aB)×bG×nI)
abbrev MO:=Int->Int->Int->eH->Int->eP->(List aB)->bG->Option (Int×eH×Int×eP×(List aB)×rF×bG)
abbrev UA:=Int->Int->eH->Int->eP->(List aB)->bG->Option (Int×Int×jm×Int×eH×Int×eP×(List aB)×nI×rF×rF×bG)
abbrev UC:=Int->Int->eH->Int->eP->(List aB)->bG->Option (Int×Int×jm×Int×eH×Int×eP×(List aB)×nI×rF×bG)
abbrev eG:eP:=[]
abbrev bI:jm:=[]
abbrev eInt:eH:=[]
abbrev qh:nI:=[]
abbrev jX:bG:=[]
abbrev jy:rF:=[]
abbrev wR:(List aB):=[]
abbrev aer:(List gq):=[]
abbrev Qy:LPl:=[]
def aX(a b k:Nat):Bool:=true&&decide ((a+b)*k<=140737488355328)
def pV:fQ:=fQ.mk (0:Int) (0:Int) (0:Int) 0
def ah:aO:=aO.mk ([]:jm) (0:Int) (0:Int) ([]:ng)
def bC:aB:=aB.mk ([]:jm) (0:Int) ([]:bG) ([]:rF)
def UD:dB:=dB.mk (0:Int) (0:Int) (0:Int) (0:Int) (0:Int) (0:Int) ([]:eH)
def eF:aQ:=aQ.mk (0:Int) (0:Int) (0:Int) (0:Int) ([]:jm) ([]:nI)
def DK:gq:=gq.mk (0:Int) (0:Int) (0:Int) (0:Int) (0:Int) (0:Int) false ([]:eH)
def au:aK:=aK.mk ([]:(List dB)) (0:Int) (0:Int) (0:Int) (0:Int) (0:Int) (0:Int) 0
def bK:cu:=cu.mk (0:Int) (0:Int) (0:Int) (0:Int) (0:Int) (0:Int) false ([]:eH) 0
def oW:bZ:=bZ.mk (0:Int) (0:Int) ([]:jm) ([]:nI) ([]:rF) ([]:rF)
def f7(p0:eH)(p1:Int):Option (eH×Int):= OB (bif (decide (p1<(p0.length:Int))) then ck (Hf (0:Int) p1 p0.length) <|some (List.drop (Int.toNat (0:Int)) (List.take p1.toNat p0)) else some p0) λs3=>some (s3,(0:Int))
def sp7:aY:=⟨sg7,u2 f7⟩
theorem alj:aC Tryz.prog 7 sp7:=
 ts [] ety [.tmp 4] an7 Tryz.func7 rfl trivial
def f11(p0 p1 p2 p3:eH)(p4 p5:Int)(p6:eP)(p7:LPl)(p8 p9:Int):Option (Int×Int×Int×Int×Bool):= d_ (bF (λ(s1:Int)=>bif (decide (s1<(p7.length:Int))) then ck (inB s1 p7.length) <|let n3:=(List.getD p7 s1.toNat pV);OB (bif (decide (n3.func=p8)) then some (decide (n3.block=p9)) else some false) λs7=>bif s7 then some (.inr (.inr (n3.func,n3.block,n3.address,n3.size,true))) else some (.inl (dL (s1+1))) else some (.inr (.inl ()))) (0:Int)) λs9=>some ((0:Int),(0:Int),(0:Int),(0:Int),false)
def aoQ:aY:=⟨arh,u10 f11⟩
theorem ahy:aC Tryz.prog 11 aoQ:=
 ts [] ety [.cell 6 43,.tmp 7] ari Tryz.func11 rfl trivial
def ahz(rec24:T24)(p0:Int)(p1:eH)(p2:Int):Option (Int×eH×Int):= OB (bif (decide ((p1.length:Int)<=p2)) then some true else some (decide (p0<1))) λs4=>bif s4 then some ((0:Int),p1,p2) else ck (inB p2 p1.length) <|let n6:=(dL (List.getD p1 p2.toNat 0));let n7:=(dL (p2+1));bif (decide (256<p0)) then OB (rec24 256 p1 n7) λc10=>ck (!(decide (p0=0))) <|some ((Int.tmod (dL ((dL (256*n6))+c10.1)) p0),c10.2) else ck (!(decide (p0=0))) <|some ((Int.tmod n6 p0),p1,n7)
def Xe:Nat->T24
 |0=>(λ_ _ _=>none)
 |n+1=>(ahz (Xe n))
def ahA(n:Nat):T24:=(Xe n)
def UE(n:Nat):aY:=⟨anD,u3 (Xe n)⟩
theorem aes(n:Nat)(h24:aC Tryz.prog 24 (UE n)):aC Tryz.prog 24 (UE (n+1)):=
 ts [(24,UE n)] ety [.tmp 4] arj Tryz.func24 rfl ⟨h24,trivial⟩
theorem GX :∀n,aC Tryz.prog 24 (UE n)
 |0=>dW Tryz.func24 rfl rfl (show anD.er.ok=true by decide +kernel) λx=>rfl
 |n+1=>by
  have ih:=GX n
  exact aes n (ih)
def f24:T24:=ahA 1048576
def E8:aY:=UE 1048576
theorem mW:aC Tryz.prog 24 E8:=(GX 1048576)
def f30(p0:eP):Option eP:= bif (List.isEmpty p0) then both (some eG) (ck (aX (List.length eG) p0.length 24) <|some (eG++p0)) else ck (aX (List.length eG) p0.length 24) <|some (eG++p0)
def aoR:aY:=⟨ark,f30⟩
theorem ahB:aC Tryz.prog 30 aoR:=
 ts [] ety [.tmp 2] arl Tryz.func30 rfl trivial
def f44(p0:jm)(p1 p2:Int)(p3:ng):Option eH:= OB (bF (λ(s1:(Int×eH))=>bif (decide (s1.1<(p3.length:Int))) then let n3:=[s1.1];ck (aX s1.2.length n3.length 8) <|some (.inl ((dL (s1.1+1)),(s1.2++n3))) else some (.inr s1.2)) ((0:Int),eInt)) λs6=>some s6
def alk:aY:=⟨arn,u4 f44⟩
theorem Y4:aC Tryz.prog 44 alk:=
 ts [] ety [.tmp 2] aro Tryz.func44 rfl trivial
def ahC(aoS:T47)(p0:Int):Option jm:= let n4:=(List.map (λ(b:Int)=>(UInt8.ofNat (Int.toNat b))) [(Go.IntKind.wrap .u8 (dL (48+(Int.tmod p0 (10:Int)))))]);bif (decide (10<=p0)) then OB (aoS (dL (Int.tdiv p0 (10:Int)))) λc7=>ck (C9 c7.length n4.length) <|some (c7++n4) else some n4
def Xf:Nat->T47
 |0=>(λ_=>none)
 |n+1=>(ahC (Xf n))
def Xg(n:Nat):T47:=(Xf n)
def UF(n:Nat):aY:=⟨anE,(Xf n)⟩
theorem aeu(n:Nat)(h47:aC Tryz.prog 47 (UF n)):aC Tryz.prog 47 (UF (n+1)):=
 ts [(47,UF n)] ety [.tmp 2] arp Tryz.func47 rfl ⟨h47,trivial⟩
theorem GY :∀n,aC Tryz.prog 47 (UF n)
 |0=>dW Tryz.func47 rfl rfl (show anE.er.ok=true by decide +kernel) λx=>rfl
 |n+1=>by
  have ih:=GY n
  exact aeu n (ih)
def f47:T47:=Xg 1048576
def alm:aY:=UF 1048576
theorem Y5:aC Tryz.prog 47 alm:=(GY 1048576)
def f48(p0:eP)(p1:KU)(p2 p3:Int)(p4:jm)(p5 p6:Int)(p7:ng)(p8:eH)(p9:Int):Option (Int×Int×Int×Int×Int×Int×eH×Int×eH):= OB (f24 12 p8 p9) λc0=>let n1:=(dL (1+c0.1));OB (f24 p6 c0.2.1 c0.2.2) λc2=>OB (f24 p6 c2.2.1 c2.2.2) λc3=>OB (f24 p6 c3.2.1 c3.2.2) λc4=>OB (bif (decide (n1=1)) then OB (f24 6 c4.2.1 c4.2.2) λc6=>some (c6.2.1,c6.2.2,n1,(0:Int),c2.1,c3.1,c4.1,(dL (c6.1-1)),eInt) else OB (bif (decide (n1=3)) then OB (f24 2 c4.2.1 c4.2.2) λc9=>some (c9.2.1,c9.2.2,n1,(dL (1+c9.1)),c2.1,c3.1,c4.1,(0:Int),eInt) else OB (bif (decide (n1=4)) then OB (f24 9 c4.2.1 c4.2.2) λc12=>some (c12.2.1,c12.2.2,n1,(dL (3+c12.1)),c2.1,c3.1,c4.1,(0:Int),eInt) else OB (bif (decide (n1=7)) then some true else some (decide (n1=8))) λs16=>OB (bif s16 then some (c4.2.1,c4.2.2,n1,(0:Int),c2.1,c3.1,c4.1,(1:Int),eInt) else OB (bif (decide (n1=11)) then OB (f24 (p1.length:Int) c4.2.1 c4.2.2) λc19=>OB (bF (λ(s20:(Int×eH×Int×Int×Int×Int×Int×Int×Int×eH))=>ck (inB s20.2.2.2.2.2.2.2.2.1 p1.length) <|bif (decide (s20.1<(List.getD p1 s20.2.2.2.2.2.2.2.2.1.toNat ah).params)) then OB (f24 p6 s20.2.1 s20.2.2.1) λc23=>let n24:=[c23.1];ck (aX s20.2.2.2.2.2.2.2.2.2.length n24.length 8) <|some (.inl ((dL (s20.1+1)),c23.2.1,c23.2.2,s20.2.2.2.1,s20.2.2.2.2.1,s20.2.2.2.2.2.1,s20.2.2.2.2.2.2.1,s20.2.2.2.2.2.2.2.1,s20.2.2.2.2.2.2.2.2.1,(s20.2.2.2.2.2.2.2.2.2++n24))) else some (.inr s20.2)) ((0:Int),c19.2.1,c19.2.2,n1,(0:Int),c2.1,c3.1,c4.1,c19.1,eInt)) λs27=>some s27 else OB (bif (decide (n1=12)) then OB (f24 3 c4.2.1 c4.2.2) λc29=>OB (bF (λ(E_:(Int×eH×Int×Int×Int×Int×Int×Int×Int×eH))=>bif (decide (0<E_.1)) then OB (f24 p6 E_.2.1 E_.2.2.1) λc32=>let n33:=[c32.1];ck (aX E_.2.2.2.2.2.2.2.2.2.length n33.length 8) <|some (.inl ((dL (E_.1-1)),c32.2.1,c32.2.2,E_.2.2.2.1,E_.2.2.2.2.1,E_.2.2.2.2.2.1,E_.2.2.2.2.2.2.1,E_.2.2.2.2.2.2.2.1,E_.2.2.2.2.2.2.2.2.1,(E_.2.2.2.2.2.2.2.2.2++n33))) else some (.inr E_.2)) (c29.1,c29.2.1,c29.2.2,n1,(0:Int),c2.1,c3.1,c4.1,(0:Int),eInt)) λs36=>some s36 else some (c4.2.1,c4.2.2,n1,(0:Int),c2.1,c3.1,c4.1,(0:Int),eInt)) λs37=>some s37) λxH=>some xH) λLJ=>some LJ) λQY=>some QY) λXh=>some Xh) λFa=>OB (bif (decide (Fa.2.2.1=1)) then bif (decide (0<p2)) then OB (f24 3 Fa.1 Fa.2.1) λc46=>some ((decide (c46.1=0)),c46.2) else some (false,Fa.1,Fa.2.1) else some (false,Fa.1,Fa.2.1)) λs49=>bif s49.1 then OB (f24 p2 s49.2.1 s49.2.2) λc50=>some ((14:Int),(0:Int),Fa.2.2.2.2.1,(0:Int),(0:Int),c50.1,c50.2.1,c50.2.2,eInt) else some (Fa.2.2.1,Fa.2.2.2.1,Fa.2.2.2.2.1,Fa.2.2.2.2.2.1,Fa.2.2.2.2.2.2.1,Fa.2.2.2.2.2.2.2.1,s49.2.1,s49.2.2,Fa.2.2.2.2.2.2.2.2)
def aoT:aY:=⟨arq,u10 f48⟩
theorem ahD:aC Tryz.prog 48 aoT:=
 ts [(24,E8)] ety [.cell 6 99] ars Tryz.func48 rfl ⟨mW,trivial⟩
def f50(p0:jm)(p1 p2:Int)(p3:ng):Option eH:= OB (bF (λ(s0:(Int×eH))=>bif (decide (s0.1<(p3.length:Int))) then let n3:=[s0.1];ck (aX s0.2.length n3.length 8) <|some (.inl ((dL (s0.1+1)),(s0.2++n3))) else some (.inr s0.2)) ((0:Int),eInt)) λs6=>some s6
def alo:aY:=⟨aru,u4 f50⟩
theorem Y6:aC Tryz.prog 50 alo:=
 ts [] ety [.tmp 2] arv Tryz.func50 rfl trivial
def f51(p0:eH):Option eH:= bif (List.isEmpty p0) then both (some eInt) (ck (aX (List.length eInt) p0.length 8) <|some (eInt++p0)) else ck (aX (List.length eInt) p0.length 8) <|some (eInt++p0)
def ahE:aY:=⟨arw,f51⟩
theorem Qz:aC Tryz.prog 51 ahE:=
 ts [] ety [.tmp 2] arx Tryz.func51 rfl trivial
def f53(p0 p1:eH):Option Bool:= bif (!(decide ((p0.length:Int)=(p1.length:Int)))) then some false else d_ (bF (λ(s4:Int)=>bif (decide (s4<(p0.length:Int))) then ck (inB s4 p0.length) <|ck (inB s4 p1.length) <|bif (!(decide ((List.getD p0 s4.toNat 0)=(List.getD p1 s4.toNat 0)))) then some (.inr (.inr false)) else some (.inl (dL (s4+1))) else some (.inr (.inl ()))) (0:Int)) λs10=>some true
def alp:aY:=⟨arz,u2 f53⟩
theorem Y7:aC Tryz.prog 53 alp:=
 ts [] ety [.tmp 4] arA Tryz.func53 rfl trivial
def f59(p0 p1:Int)(p2:eH):Option eH:= OB (bF (λ(s0:(Int×eH))=>bif (decide (s0.1<p1)) then let n3:=(dL (8*s0.1));ck (decide (0<=n3)) <|let n6:=[(Go.IntKind.wrap .u8 (Int.fdiv (Go.IntKind.wrap .u64 p0) ((2:Int) ^ (min n3.toNat (64:Nat)))))];ck (aX s0.2.length n6.length 1) <|some (.inl ((dL (s0.1+1)),(s0.2++n6))) else some (.inr s0.2)) ((0:Int),p2)) λs9=>some s9
def aoU:aY:=⟨arB,u3 f59⟩
theorem ahF:aC Tryz.prog 59 aoU:=
 ts [] ety [.tmp 6] arC Tryz.func59 rfl trivial
def f60(p0:Bool):Option Int:= bif p0 then some (4:Int) else some (1:Int)
def aoV:aY:=⟨arD,f60⟩
theorem ahG:aC Tryz.prog 60 aoV:=
 ts [] ety [.tmp 2] arE Tryz.func60 rfl trivial
def f62(p0 p1 p2 p3 p4 p5:Int)(p6:eH):Option (Int×Int×Int×Int×Int×Int×Bool×eH):= OB (bif (decide (p0=1)) then some true else some (decide (p0=5))) λs2=>OB (bif s2 then some (p0,(0:Int),p2,(0:Int),(0:Int),p5,false,eInt) else OB (bif (decide (p0=2)) then some (p0,(0:Int),p2,p3,(0:Int),(0:Int),false,eInt) else OB (bif (decide (p0=3)) then some (p0,p1,p2,p3,(0:Int),(0:Int),false,eInt) else OB (bif (decide (p0=4)) then some (p0,p1,p2,p3,p4,(0:Int),false,eInt) else OB (bif (decide (p0=6)) then some (p0,(0:Int),(0:Int),p3,(0:Int),p5,false,eInt) else OB (bif (decide (p0=7)) then some (p0,(0:Int),p2,p3,(0:Int),p5,false,eInt) else OB (bif (decide (p0=8)) then some (p0,(0:Int),(0:Int),p3,p4,p5,false,eInt) else OB (bif (decide (p0=9)) then some (p0,(0:Int),p2,(0:Int),(0:Int),(0:Int),false,eInt) else OB (bif (decide (p0=10)) then some (p0,(0:Int),(0:Int),p3,(0:Int),(0:Int),false,eInt) else OB (bif (decide (p0=11)) then ck (aX (List.length eInt) p6.length 8) <|some (p0,(0:Int),p2,(0:Int),(0:Int),p5,false,(eInt++p6)) else OB (bif (decide (p0=12)) then ck (aX (List.length eInt) p6.length 8) <|some (p0,(0:Int),p2,p3,(0:Int),(0:Int),false,(eInt++p6)) else OB (bif (decide (p0=13)) then some ((17:Int),(0:Int),(0:Int),(0:Int),(0:Int),p5,false) else OB (bif (decide (p0=14)) then some ((18:Int),(0:Int),p2,(0:Int),(0:Int),p5,false) else some (p0,(0:Int),(0:Int),(0:Int),(0:Int),(0:Int),false)) λoZ=>some oZ) λKW=>some (KW.1,KW.2.1,KW.2.2.1,KW.2.2.2.1,KW.2.2.2.2.1,KW.2.2.2.2.2.1,KW.2.2.2.2.2.2,eInt)) λvG=>some vG) λs20=>some s20) λKY=>some KY) λmX=>some mX) λs23=>some s23) λs24=>some s24) λvH=>some vH) λs26=>some s26) λs27=>some s27) λIh=>some Ih) λs29=>some s29
def f65(p0 p1 p2:Int):Option Bool:= OB (bif (decide (p1<=p0)) then some (decide (p0<=p2)) else some false) λs3=>some s3
def aew:aY:=⟨arF,u3 f65⟩
theorem Ii:aC Tryz.prog 65 aew:=
 ts [] ety [.tmp 6] arG Tryz.func65 rfl trivial
def f66(p0:Int):Option Bool:= OB (f65 p0 13 15) λc0=>some c0
def aoW:aY:=⟨arH,f66⟩
theorem ahH:aC Tryz.prog 66 aoW:=
 ts [(65,aew)] ety [.tmp 2] arI Tryz.func66 rfl ⟨Ii,trivial⟩
def f75(p0:Int)(p1:eP)(p2:(List aB))(p3:bG)(p4 p5 p6:Int)(p7:ng):Option (Int×eP×(List aB)×bG×Int×Int×Int×ng):= let n0:=(p7.length:Int);let n1:=[(aK.mk ([]:(List dB)) 0 0 0 0 p0 p4 n0)];ck (aX p7.length n1.length 80) <|some (n0,p1,p2,p3,p4,p5,n0,(p7++n1))
def aex:aY:=⟨arJ,u8 f75⟩
theorem Ij:aC Tryz.prog 75 aex:=
 ts [] anF [.tmp 4] arK Tryz.func75 rfl trivial
def f77(p0 p1 p2 p3 p4 p5:Int)(p6:eH)(p7:eP)(p8:(List aB))(p9:bG)(p10 p11 p12:Int)(p13:ng):Option (eP×(List aB)×bG×Int×Int×Int×ng):= OB (ck (inB p12 p13.length) <|let n0:=[(dB.mk p0 p1 p2 p3 p4 p5 p6)];ck (true&&(decide ((((List.length (List.getD p13 p12.toNat au).instrs)+n0.length)*(72:Nat))<=(140737488355328:Nat)))) <|ck (inB p12 p13.length) <|ck (Nat.beq p12.toNat p12.toNat) <|some (p7,p8,p9,p10,p11,p12,(List.set p13 p12.toNat (aK.mk ((List.getD p13 p12.toNat au).instrs++n0) (List.getD p13 p12.toNat au).bT (List.getD p13 p12.toNat au).lY (List.getD p13 p12.toNat au).f_ (List.getD p13 p12.toNat au).dF (List.getD p13 p12.toNat au).line (List.getD p13 p12.toNat au).gY (List.getD p13 p12.toNat au).gG)))) λs3=>ck (decide (p13.length=s3.2.2.2.2.2.2.length)) <|some s3
def aey:aY:=⟨arL,u14 f77⟩
theorem Ik:aC Tryz.prog 77 aey:=
 ts [] anG [] arM Tryz.func77 rfl trivial
def f78(p0 p1 p2 p3 p4:Int)(p5:eP)(p6:(List aB))(p7:bG)(p8 p9 p10:Int)(p11:ng):Option (eP×(List aB)×bG×Int×Int×Int×ng):= OB (ck (inB p0 p11.length) <|some (p5,p6,p7,p8,p9,p10,(List.set p11 p0.toNat (aK.mk (List.getD p11 p0.toNat au).instrs p1 p2 p3 p4 (List.getD p11 p0.toNat au).line (List.getD p11 p0.toNat au).gY (List.getD p11 p0.toNat au).gG)))) λs1=>ck (decide (p11.length=s1.2.2.2.2.2.2.length)) <|some s1
def abt:aY:=⟨arN,u12 f78⟩
theorem DL:aC Tryz.prog 78 abt:=
 ts [] anH [] arO Tryz.func78 rfl trivial
def f85(p0 p1 p2 p3 p4 p5:Int)(p6:eH):Option (Int×Int×Int×Int×Int×Int×Bool×eH):= OB (bif (decide (p0=1)) then some ((1:Int),(0:Int),p2,(0:Int),(0:Int),p5,false,eInt) else OB (bif (decide (p0=2)) then some ((2:Int),(0:Int),p2,p3,(0:Int),(0:Int),false,eInt) else OB (bif (decide (p0=3)) then some ((3:Int),p1,p2,p3,(0:Int),(0:Int),false,eInt) else OB (bif (decide (p0=4)) then some ((4:Int),p1,p2,p3,p4,(0:Int),false,eInt) else OB (bif (decide (p0=5)) then some ((5:Int),(0:Int),p2,(0:Int),(0:Int),p5,false,eInt) else OB (bif (decide (p0=6)) then some ((6:Int),(0:Int),(0:Int),p3,(0:Int),p5,false,eInt) else OB (bif (decide (p0=7)) then some ((7:Int),(0:Int),p2,p3,(0:Int),p5,false,eInt) else OB (bif (decide (p0=8)) then some ((8:Int),(0:Int),(0:Int),p3,p4,p5,false,eInt) else OB (bif (decide (p0=9)) then some ((9:Int),(0:Int),p2,(0:Int),(0:Int),(0:Int),false,eInt) else OB (bif (decide (p0=10)) then some ((10:Int),(0:Int),(0:Int),p3,(0:Int),(0:Int),false,eInt) else OB (bif (decide (p0=11)) then OB (f51 p6) λc11=>some ((11:Int),(0:Int),p2,(0:Int),(0:Int),p5,false,c11) else OB (bif (decide (p0=12)) then OB (f51 p6) λc13=>some ((12:Int),(0:Int),p2,p3,(0:Int),(0:Int),false,c13) else OB (bif (decide (p0=13)) then some ((17:Int),(0:Int),(0:Int),(0:Int),(0:Int),p5,false) else OB (bif (decide (p0=14)) then some ((18:Int),(0:Int),p2,(0:Int),(0:Int),p5,false) else some ((0:Int),(0:Int),(0:Int),(0:Int),(0:Int),(0:Int),false)) λs16=>some s16) λoZ=>some (oZ.1,oZ.2.1,oZ.2.2.1,oZ.2.2.2.1,oZ.2.2.2.2.1,oZ.2.2.2.2.2.1,oZ.2.2.2.2.2.2,eInt)) λKW=>some KW) λvG=>some vG) λs20=>some s20) λKY=>some KY) λmX=>some mX) λs23=>some s23) λs24=>some s24) λvH=>some vH) λs26=>some s26) λs27=>some s27) λIh=>some Ih) λs29=>some s29
def aoX:aY:=⟨arP,u7 f85⟩
theorem ahI:aC Tryz.prog 85 aoX:=
 ts [(51,ahE)] ety [.cell 2 53] arQ Tryz.func85 rfl ⟨Qz,trivial⟩
def f86(p0 p1 p2 p3 p4:Int):Option LUn:= bif (decide (p0=3)) then some [(cu.mk 16 0 0 p1 0 0 false eInt (-1:Int))] else OB (bif (decide (p0=1)) then some true else some (decide (p2=p3))) λs5=>bif s5 then bif (decide (p2=p4)) then some ([]:LUn) else some [(cu.mk 13 0 0 0 0 0 false eInt p2)] else bif (decide (p3=p4)) then some [(cu.mk 14 0 0 p1 0 0 false eInt p2)] else bif (decide (p2=p4)) then some [(cu.mk 15 0 0 p1 0 0 false eInt p3)] else some [(cu.mk 14 0 0 p1 0 0 false eInt p2),(cu.mk 13 0 0 0 0 0 false eInt p3)]
def aoY:aY:=⟨arR,u5 f86⟩
theorem ahJ:aC Tryz.prog 86 aoY:=
 ts [] ety [.tmp 4] arS Tryz.func86 rfl trivial
def f87(p0 p1 p2 p3 p4 p5:Int)(p6:Bool)(p7:eH):Option Bool:= OB (f65 p0 1 18) λc0=>OB (bif (!c0) then some true else OB (bif p6 then OB (f66 p0) λc2=>some (!c2) else some false) λs5=>some s5) λs6=>bif s6 then some false else bif (decide (p0=3)) then OB (f65 p1 1 2) λc8=>some c8 else bif (decide (p0=4)) then OB (f65 p1 3 11) λc10=>some c10 else some true
def aoZ:aY:=⟨arT,u8 f87⟩
theorem ahK:aC Tryz.prog 87 aoZ:=
 ts [(65,aew),(66,aoW)] ety [.tmp 2] arU Tryz.func87 rfl ⟨Ii,ahH,trivial⟩
def f88(p0 p1 p2 p3 p4 p5:Int)(p6:Bool)(p7:eH):Option eH:= ck (inB p0 (19:Nat)) <|OB (bF (λ(s1:(eH×jm×Int))=>bif (TD s1.2.1 s1.2.2) then OB (bif (decide ((nV s1.2.1 s1.2.2)=100)) then let n3:=[p2];ck (aX s1.1.length n3.length 8) <|some (s1.1++n3) else OB (bif (decide ((nV s1.2.1 s1.2.2)=97)) then let n6:=[p3];ck (aX s1.1.length n6.length 8) <|some (s1.1++n6) else OB (bif (decide ((nV s1.2.1 s1.2.2)=98)) then let n9:=[p4];ck (aX s1.1.length n9.length 8) <|some (s1.1++n9) else OB (bif (decide ((nV s1.2.1 s1.2.2)=110)) then ck (aX s1.1.length p7.length 8) <|some (s1.1++p7) else some s1.1) λs13=>some s13) λs14=>some s14) λs15=>some s15) λs16=>some (.inl (s16,s1.2.1,(uN s1.2.1 s1.2.2))) else some (.inr s1.1)) (eInt,(List.getD Qv p0.toNat bI),(0:Int))) λoZ=>some oZ
def ao0:aY:=⟨arV,u8 f88⟩
theorem ahL:aC Tryz.prog 88 ao0:=
 ts [] ety [.tmp 2] arW Tryz.func88 rfl trivial
def f90(p0:Int):Option Bool:= OB (f65 p0 0 249) λc0=>some (!c0)
def alq:aY:=⟨arX,f90⟩
theorem Y8:aC Tryz.prog 90 alq:=
 ts [(65,aew)] ety [.tmp 2] arY Tryz.func90 rfl ⟨Ii,trivial⟩
def f91(p0 p1 p2 p3 p4 p5:Int)(p6:Bool)(p7:eH):Option Bool:= OB (bif (decide (p0=5)) then some true else OB (bif (decide (p0=6)) then some true else OB (bif (decide (p0=7)) then some true else some (decide (p0=8))) λs4=>some s4) λs5=>some s5) λs6=>d_ (bif s6 then some (.inl ((0:Int),(31:Int))) else d_ (bif (decide (p0=11)) then some (.inl ((0:Int),(1048576:Int))) else d_ (bif (decide (p0=17)) then some (.inl ((0:Int),(4095:Int))) else d_ (bif (decide (p0=18)) then some (.inl ((0:Int),(63:Int))) else OB (bif (decide (p0=13)) then some true else OB (bif (decide (p0=14)) then some true else some (decide (p0=15))) λs13=>some s13) λs14=>bif s14 then OB (bif p6 then some ((-2147483648:Int),(2147483647:Int)) else some ((-128:Int),(127:Int))) λs15=>some (.inl s15) else some (.inr (.inr (.inr (.inr true))))) λs16=>some (.inl s16)) λoZ=>some (.inl oZ)) λKW=>some (.inl KW)) λvG=>OB (f65 p5 vG.1 vG.2) λc20=>some c20
def ao1:aY:=⟨arZ,u8 f91⟩
theorem ahM:aC Tryz.prog 91 ao1:=
 ts [(65,aew)] ety [.tmp 2] ar0 Tryz.func91 rfl ⟨Ii,trivial⟩
def alr(ajn:T94)(p0:rF)(p1:bG):Option bG:= OB (bF (λ(s0:(Int×bG))=>bif (decide (s0.1<(p0.length:Int))) then ck (inB s0.1 p0.length) <|OB (bif (decide ((List.getD p0 s0.1.toNat oW).kind=1)) then ck (inB s0.1 p0.length) <|let n6:=[(List.getD p0 s0.1.toNat oW).name];ck (aX s0.2.length n6.length 16) <|some (s0.2++n6) else some s0.2) λs8=>ck (inB s0.1 p0.length) <|OB (ajn (List.getD p0 s0.1.toNat oW).then' s8) λc10=>ck (inB s0.1 p0.length) <|OB (ajn (List.getD p0 s0.1.toNat oW).else' c10) λc12=>some (.inl ((dL (s0.1+1)),c12)) else some (.inr s0.2)) ((0:Int),p1)) λs14=>some s14
def Xi:Nat->T94
 |0=>(λ_ _=>none)
 |n+1=>(alr (Xi n))
def alu(n:Nat):T94:=(Xi n)
def UG(n:Nat):aY:=⟨anI,u2 (Xi n)⟩
theorem aez(n:Nat)(h94:aC Tryz.prog 94 (UG n)):aC Tryz.prog 94 (UG (n+1)):=
 ts [(94,UG n)] ety [.tmp 4] ar1 Tryz.func94 rfl ⟨h94,trivial⟩
theorem GZ :∀n,aC Tryz.prog 94 (UG n)
 |0=>dW Tryz.func94 rfl rfl (show anI.er.ok=true by decide +kernel) λx=>rfl
 |n+1=>by
  have ih:=GZ n
  exact aez n (ih)
def f94:T94:=alu 1048576
def ao3:aY:=UG 1048576
theorem ahN:aC Tryz.prog 94 ao3:=(GZ 1048576)
def f97(p0:eP)(p1:(List aB))(p2:jm):Option Int:= d_ (bF (λ(s0:Int)=>bif (decide (s0<(p0.length:Int))) then ck (inB s0 p0.length) <|bif ((List.getD p0 s0.toNat (aA.mk bI 0)).name==p2) then some (.inr (.inr s0)) else some (.inl (dL (s0+1))) else some (.inr (.inl ()))) (0:Int)) λs6=>some (-1:Int)
def aeA:aY:=⟨ar2,u3 f97⟩
theorem Il:aC Tryz.prog 97 aeA:=
 ts [] ety [.tmp 4] ar4 Tryz.func97 rfl trivial
def f98(p0:eP)(p1:(List aB))(p2:jm):Option Int:= d_ (bF (λ(s0:Int)=>bif (decide (s0<(p1.length:Int))) then ck (inB s0 p1.length) <|bif ((List.getD p1 s0.toNat bC).name==p2) then some (.inr (.inr s0)) else some (.inl (dL (s0+1))) else some (.inr (.inl ()))) (0:Int)) λs6=>some (-1:Int)
def aeB:aY:=⟨ar5,u3 f98⟩
theorem Io:aC Tryz.prog 98 aeB:=
 ts [] ety [.tmp 4] ar6 Tryz.func98 rfl trivial
def alv(ajo:T99)(p0:rF):Option Int:= OB (bF (λ(s0:(Int×Int))=>bif (decide (s0.2<(p0.length:Int))) then ck (inB s0.2 p0.length) <|OB (ajo (List.getD p0 s0.2.toNat oW).then') λc4=>ck (inB s0.2 p0.length) <|OB (ajo (List.getD p0 s0.2.toNat oW).else') λc7=>some (.inl ((Eu (Eu s0.1 (dL (1+c4))) (dL (1+c7))),(dL (s0.2+1)))) else some (.inr s0.1)) ((0:Int),(0:Int))) λs11=>some s11
def Xj:Nat->T99
 |0=>(λ_=>none)
 |n+1=>(alv (Xj n))
def alx(n:Nat):T99:=(Xj n)
def UH(n:Nat):aY:=⟨anJ,(Xj n)⟩
theorem aeC(n:Nat)(h99:aC Tryz.prog 99 (UH n)):aC Tryz.prog 99 (UH (n+1)):=
 ts [(99,UH n)] ety [.tmp 2] ar7 Tryz.func99 rfl ⟨h99,trivial⟩
theorem G5 :∀n,aC Tryz.prog 99 (UH n)
 |0=>dW Tryz.func99 rfl rfl (show anJ.er.ok=true by decide +kernel) λx=>rfl
 |n+1=>by
  have ih:=G5 n
  exact aeC n (ih)
def f99:T99:=alx 1048576
def ao4:aY:=UH 1048576
theorem ahO:aC Tryz.prog 99 ao4:=(G5 1048576)
def f100(p0:bG)(p1:jm):Option Bool:= d_ (bF (λ(s0:Int)=>bif (decide (s0<(p0.length:Int))) then ck (inB s0 p0.length) <|bif ((List.getD p0 s0.toNat bI)==p1) then some (.inr (.inr true)) else some (.inl (dL (s0+1))) else some (.inr (.inl ()))) (0:Int)) λs6=>some false
def aeD:aY:=⟨anK,u2 f100⟩
theorem UJ:aC Tryz.prog 100 aeD:=
 ts [] ety [.tmp 4] anL Tryz.func100 rfl trivial
def f101(p0:eP)(p1:(List aB))(p2:jm):Option Int:= OB (f97 p0 p1 p2) λc0=>bif (decide (0<=c0)) then ck (inB c0 p0.length) <|bif (decide (0<(List.getD p0 c0.toNat (aA.mk bI 0)).size)) then some (3:Int) else some (2:Int) else OB (f98 p0 p1 p2) λc4=>bif (decide (0<=c4)) then some (4:Int) else some (0:Int)
def aeE:aY:=⟨anM,u3 f101⟩
theorem UK:aC Tryz.prog 101 aeE:=
 ts [(97,aeA),(98,aeB)] ety [.tmp 4] anN Tryz.func101 rfl ⟨Il,Io,trivial⟩
def f104(p0 p1 p2 p3:Int):Option eH:= OB (bif (decide (p0=2)) then some (!(decide (p3=p2))) else some false) λs3=>bif s3 then some [p2,p3] else OB (bif (decide (p0=1)) then some true else some (decide (p0=2))) λs8=>bif s8 then some [p2] else some eInt
def aeF:aY:=⟨anO,u4 f104⟩
theorem UL:aC Tryz.prog 104 aeF:=
 ts [] ety [.tmp 2] anP Tryz.func104 rfl trivial
def f116(p0:eH):Option Int:= d_ (bF (λ(s1:Int)=>bif (decide (s1<(p0.length:Int))) then ck (inB s1 p0.length) <|OB (f90 (List.getD p0 s1.toNat 0)) λc4=>bif c4 then some (.inr (.inr s1)) else some (.inl (dL (s1+1))) else some (.inr (.inl ()))) (0:Int)) λs6=>some (-1:Int)
def ajp:aY:=⟨anQ,f116⟩
theorem aeG:aC Tryz.prog 116 ajp:=
 ts [(90,alq)] ety [.tmp 4] anR Tryz.func116 rfl ⟨Y8,trivial⟩
def aeH(p0:jm)(p1:eP)(p2:(List aB))(p3:bG)(p4 p5 p6:Int)(p7:ng):Option (Int×eP×(List aB)×bG×Int×Int×Int×ng):= OB (d_ (bF (λ(s0:Int)=>bif (decide (s0<(p3.length:Int))) then ck (inB s0 p3.length) <|bif ((List.getD p3 s0.toNat bI)==p0) then some (.inr (.inr (s0,p1,p2,p3,p4,p5,p6,p7))) else some (.inl (dL (s0+1))) else some (.inr (.inl ()))) (0:Int)) λs6=>some ((-1:Int),p1,p2,p3,p4,p5,p6,p7)) λs7=>ck (decide (p7.length=s7.2.2.2.2.2.2.2.length)) <|some s7
def f119(p0:jm)(p1:eP)(p2:(List aB))(p3:bG)(p4 p5 p6:Int)(p7:ng):Option (Int×eP×(List aB)×bG×Int×Int×Int×ng):=OB (aeH p0 p1 p2 p3 p4 p5 p6 p7) λ(y:(Int×eP×(List aB)×bG×Int×Int×Int×ng))=>yH y.2.2.2.2.2.2.2 p7 <| some y
def aeI:aY:=⟨anS,u8 aeH⟩
theorem UM:aC Tryz.prog 119 aeI:=
 ts [] alc [.tmp 4] anT Tryz.func119 rfl trivial
def f121(p0:jm)(p1 p2:Int)(p3:ng):Option Int:= OB (bF (λ(s0:(Int×Int))=>bif (decide (s0.2<(p3.length:Int))) then ck (inB s0.2 p3.length) <|some (.inl ((dL (s0.1+(dL (((List.length (List.getD p3 s0.2.toNat au).instrs):Int)+1)))),(dL (s0.2+1)))) else some (.inr s0.1)) ((0:Int),(0:Int))) λs8=>some s8
def ajq:aY:=⟨anU,u4 f121⟩
theorem aeJ:aC Tryz.prog 121 ajq:=
 ts [] ety [.tmp 2] anV Tryz.func121 rfl trivial
def f123(p0:jm)(p1 p2:Int)(p3:ng)(p4 p5 p6 p7:Int):Option Int:= OB (bif (decide (p4<1)) then some true else some (decide (3<p4))) λs3=>bif s3 then some (17:Int) else OB (bif (!(decide (p4=1))) then bif (decide (p5<0)) then some true else some (decide (p2<=p5)) else some false) λs10=>bif s10 then some (14:Int) else OB (f104 p4 p5 p6 p7) λc11=>d_ (bF (λ(s12:Int)=>bif (decide (s12<(c11.length:Int))) then OB (ck (inB s12 c11.length) <|bif (decide ((List.getD c11 s12.toNat 0)<0)) then some true else ck (inB s12 c11.length) <|some (decide ((p3.length:Int)<=(List.getD c11 s12.toNat 0)))) λKY=>bif KY then some (.inr (.inr (13:Int))) else some (.inl (dL (s12+1))) else some (.inr (.inl ()))) (0:Int)) λs23=>some (0:Int)
def ajr:aY:=⟨anW,u8 f123⟩
theorem aeK:aC Tryz.prog 123 ajr:=
 ts [(104,aeF)] ety [.tmp 4] anX Tryz.func123 rfl ⟨UL,trivial⟩
def aeL(aly:ahw)(p0 p1 p2 p3:Int)(p4:jm)(p5:nI):Option Int:= OB (bF (λ(s0:(Int×Int))=>bif (decide (s0.2<(p5.length:Int))) then ck (inB s0.2 p5.length) <|let n3:=(List.getD p5 s0.2.toNat eF);OB (aly n3.kind n3.op n3.value n3.line n3.name n3.args) λc4=>some (.inl ((Eu s0.1 c4),(dL (s0.2+1)))) else some (.inr s0.1)) ((0:Int),(0:Int))) λs7=>some (dL (s7+1))
def QA:Nat->ahw
 |0=>(λ_ _ _ _ _ _=>none)
 |n+1=>(aeL (QA n))
def Y9(n:Nat):ahw:=(QA n)
def KZ(n:Nat):aY:=⟨ai8,u6 (QA n)⟩
theorem abu(n:Nat)(as6:aC Tryz.prog 124 (KZ n)):aC Tryz.prog 124 (KZ (n+1)):=
 ts [(124,KZ n)] ety [.tmp 2] anY Tryz.func124 rfl ⟨as6,trivial⟩
theorem DN :∀n,aC Tryz.prog 124 (KZ n)
 |0=>dW Tryz.func124 rfl rfl (show ai8.er.ok=true by decide +kernel) λx=>rfl
 |n+1=>by
  have ih:=DN n
  exact abu n (ih)
def f124:ahw:=Y9 1048576
def ajs:aY:=KZ 1048576
theorem aeM:aC Tryz.prog 124 ajs:=(DN 1048576)
def ajt(p0 p1:Int)(p2:eP)(p3:(List aB))(p4 p5:Int)(p6:bG):Option (eP×(List aB)×Int×Int×bG):= OB (OB (bif (decide (p5=0)) then some (p2,p3,p0,p1) else some (p2,p3,p4,p5)) λs1=>some (s1.1,s1.2.1,s1.2.2.1,s1.2.2.2,p6)) λs2=>ck (decide (p6.length=s2.2.2.2.2.length)) <|some s2
def f125(p0 p1:Int)(p2:eP)(p3:(List aB))(p4 p5:Int)(p6:bG):Option (eP×(List aB)×Int×Int×bG):=OB (ajt p0 p1 p2 p3 p4 p5 p6) λ(y:(eP×(List aB)×Int×Int×bG))=>yH y.2.2.2.2 p6 <| some y
def Y_:aY:=⟨anZ,u7 ajt⟩
theorem K_:aC Tryz.prog 125 Y_:=
 ts [] ety [] an0 Tryz.func125 rfl trivial
def aeN(p0:jm)(p1:eP)(p2:(List aB))(p3 p4:Int)(p5:bG):Option (Int×eP×(List aB)×Int×Int×bG):= OB (OB (f100 p5 p0) λc0=>bif c0 then some ((1:Int),p1,p2,p3,p4,p5) else OB (f101 p1 p2 p0) λc1=>some (c1,p1,p2,p3,p4,p5)) λs2=>ck (decide (p5.length=s2.2.2.2.2.2.length)) <|some s2
def f127(p0:jm)(p1:eP)(p2:(List aB))(p3 p4:Int)(p5:bG):Option (Int×eP×(List aB)×Int×Int×bG):=OB (aeN p0 p1 p2 p3 p4 p5) λ(y:(Int×eP×(List aB)×Int×Int×bG))=>yH y.2.2.2.2.2 p5 <| some y
def UN:aY:=⟨an1,u6 aeN⟩
theorem DR:aC Tryz.prog 127 UN:=
 ts [(100,aeD),(101,aeE)] ety [.tmp 4] an2 Tryz.func127 rfl ⟨UJ,UK,trivial⟩
def Za(La:Hq)(Xk:abq)(Xl:Uz)(p0 p1 p2 p3:Int)(p4:jm)(p5:nI)(p6:Int)(p7:eP)(p8:(List aB))(p9:bG)(p10 p11 p12:Int)(p13:ng):Option (eP×(List aB)×bG×Int×Int×Int×ng):= let n1:=(Eu p11 (dL (p6+1)));OB (bif (decide (p0=7)) then some true else some (decide (p0=8))) λs5=>bif s5 then OB (Xk p0 p1 p2 p3 p4 p5 p6 p7 p8 p9 p10 n1 p12 p13) λc6=>some c6 else OB (Xl p5 p6 p7 p8 p9 p10 n1 p12 p13) λc7=>OB (bif (decide (p0=1)) then OB (f77 1 0 p6 0 0 p2 eInt c7.1 c7.2.1 c7.2.2.1 c7.2.2.2.1 c7.2.2.2.2.1 c7.2.2.2.2.2.1 c7.2.2.2.2.2.2.2) λc9=>some c9 else OB (bif (decide (p0=2)) then OB (f119 p4 c7.1 c7.2.1 c7.2.2.1 c7.2.2.2.1 c7.2.2.2.2.1 c7.2.2.2.2.2.1 c7.2.2.2.2.2.2.2) λc11=>OB (f77 2 0 p6 c11.1 0 0 eInt c11.2.1 c11.2.2.1 c11.2.2.2.1 c11.2.2.2.2.1 c11.2.2.2.2.2.1 c11.2.2.2.2.2.2.1 c7.2.2.2.2.2.2.2) λc12=>some c12 else OB (bif (decide (p0=3)) then OB (f97 c7.1 c7.2.1 p4) λc14=>OB (f77 5 0 p6 0 0 c14 eInt c7.1 c7.2.1 c7.2.2.1 c7.2.2.2.1 c7.2.2.2.2.1 c7.2.2.2.2.2.1 c7.2.2.2.2.2.2.2) λc15=>some c15 else OB (bif (decide (p0=4)) then OB (f97 c7.1 c7.2.1 p4) λc17=>OB (f77 7 0 p6 p6 0 c17 eInt c7.1 c7.2.1 c7.2.2.1 c7.2.2.2.1 c7.2.2.2.2.1 c7.2.2.2.2.2.1 c7.2.2.2.2.2.2.2) λc18=>some c18 else OB (bif (decide (p0=5)) then OB (f77 3 p1 p6 p6 0 0 eInt c7.1 c7.2.1 c7.2.2.1 c7.2.2.2.1 c7.2.2.2.2.1 c7.2.2.2.2.2.1 c7.2.2.2.2.2.2.2) λc20=>some c20 else OB (bif (decide (p0=6)) then OB (f77 4 p1 p6 p6 (dL (p6+1)) 0 eInt c7.1 c7.2.1 c7.2.2.1 c7.2.2.2.1 c7.2.2.2.2.1 c7.2.2.2.2.2.1 c7.2.2.2.2.2.2.2) λc23=>some c23 else OB (bif (decide (p0=9)) then OB (f98 c7.1 c7.2.1 p4) λc25=>OB (f77 11 0 p6 0 0 c25 c7.2.2.2.2.2.2.1 c7.1 c7.2.1 c7.2.2.1 c7.2.2.2.1 c7.2.2.2.2.1 c7.2.2.2.2.2.1 c7.2.2.2.2.2.2.2) λc26=>some c26 else OB (bif (decide (p0=10)) then ck (Hf (1:Int) (c7.2.2.2.2.2.2.1.length:Int) c7.2.2.2.2.2.2.1.length) <|OB (f77 12 0 p6 p6 0 0 (List.drop (Int.toNat (1:Int)) (List.take (Int.toNat (c7.2.2.2.2.2.2.1.length:Int)) c7.2.2.2.2.2.2.1)) c7.1 c7.2.1 c7.2.2.1 c7.2.2.2.1 c7.2.2.2.2.1 c7.2.2.2.2.2.1 c7.2.2.2.2.2.2.2) λc28=>some c28 else OB (bif (decide (p0=11)) then OB (f98 c7.1 c7.2.1 p4) λOa=>OB (f77 14 0 p6 0 0 Oa eInt c7.1 c7.2.1 c7.2.2.1 c7.2.2.2.1 c7.2.2.2.2.1 c7.2.2.2.2.2.1 c7.2.2.2.2.2.2.2) λc31=>some c31 else OB (bif (decide (p0=12)) then OB (f77 9 0 p6 0 0 0 eInt c7.1 c7.2.1 c7.2.2.1 c7.2.2.2.1 c7.2.2.2.2.1 c7.2.2.2.2.2.1 c7.2.2.2.2.2.2.2) λLK=>some LK else some (c7.1,c7.2.1,c7.2.2.1,c7.2.2.2.1,c7.2.2.2.2.1,c7.2.2.2.2.2.1,c7.2.2.2.2.2.2.2)) λVt=>some Vt) λZb=>some Zb) λs36=>some s36) λs37=>some s37) λxH=>some xH) λLJ=>some LJ) λQY=>some QY) λXh=>some Xh) λFa=>some Fa) λs43=>some s43
def Zc(La:Hq)(Xk:abq)(Xl:Uz)(p0 p1 p2 p3:Int)(p4:jm)(p5:nI)(p6:Int)(p7:eP)(p8:(List aB))(p9:bG)(p10 p11 p12:Int)(p13:ng):Option (eP×(List aB)×bG×Int×Int×Int×ng):= ck (inB (0:Int) p5.length) <|let n1:=(List.getD p5 (Int.toNat 0) eF);OB (La n1.kind n1.op n1.value n1.line n1.name n1.args p6 p7 p8 p9 p10 p11 p12 p13) λc2=>OB (f75 p3 c2.1 c2.2.1 c2.2.2.1 c2.2.2.2.1 c2.2.2.2.2.1 c2.2.2.2.2.2.1 c2.2.2.2.2.2.2) λc3=>ck (inB (1:Int) p5.length) <|let n4:=(List.getD p5 (Int.toNat 1) eF);OB (La n4.kind n4.op n4.value n4.line n4.name n4.args p6 c3.2.1 c3.2.2.1 c3.2.2.2.1 c3.2.2.2.2.1 c3.2.2.2.2.2.1 c3.2.2.2.2.2.2.1 c3.2.2.2.2.2.2.2) λc5=>OB (f75 p3 c5.1 c5.2.1 c5.2.2.1 c5.2.2.2.1 c5.2.2.2.2.1 c5.2.2.2.2.2.1 c5.2.2.2.2.2.2) λc6=>OB (f77 1 0 p6 0 0 1 eInt c6.2.1 c6.2.2.1 c6.2.2.2.1 c6.2.2.2.2.1 c6.2.2.2.2.2.1 c6.2.2.2.2.2.2.1 c6.2.2.2.2.2.2.2) λc7=>OB (f75 p3 c7.1 c7.2.1 c7.2.2.1 c7.2.2.2.1 c7.2.2.2.2.1 c7.2.2.2.2.2.1 c7.2.2.2.2.2.2) λc8=>OB (f77 1 0 p6 0 0 0 eInt c8.2.1 c8.2.2.1 c8.2.2.2.1 c8.2.2.2.2.1 c8.2.2.2.2.2.1 c8.2.2.2.2.2.2.1 c8.2.2.2.2.2.2.2) λc9=>OB (f75 p3 c9.1 c9.2.1 c9.2.2.1 c9.2.2.2.1 c9.2.2.2.2.1 c9.2.2.2.2.2.1 c9.2.2.2.2.2.2) λc10=>OB (f78 c5.2.2.2.2.2.1 2 p6 c6.1 c8.1 c10.2.1 c10.2.2.1 c10.2.2.2.1 c10.2.2.2.2.1 c10.2.2.2.2.2.1 c10.2.2.2.2.2.2.1 c10.2.2.2.2.2.2.2) λc11=>OB (bif (decide (p0=8)) then OB (f78 c2.2.2.2.2.2.1 2 p6 c6.1 c3.1 c11.1 c11.2.1 c11.2.2.1 c11.2.2.2.1 c11.2.2.2.2.1 c11.2.2.2.2.2.1 c11.2.2.2.2.2.2) λc12=>some c12 else OB (f78 c2.2.2.2.2.2.1 2 p6 c3.1 c8.1 c11.1 c11.2.1 c11.2.2.1 c11.2.2.2.1 c11.2.2.2.2.1 c11.2.2.2.2.2.1 c11.2.2.2.2.2.2) λc13=>some c13) λs14=>OB (f78 c6.1 1 0 c10.1 0 s14.1 s14.2.1 s14.2.2.1 s14.2.2.2.1 s14.2.2.2.2.1 s14.2.2.2.2.2.1 s14.2.2.2.2.2.2) λc15=>OB (f78 c8.1 1 0 c10.1 0 c15.1 c15.2.1 c15.2.2.1 c15.2.2.2.1 c15.2.2.2.2.1 c15.2.2.2.2.2.1 c15.2.2.2.2.2.2) λc16=>some c16
def Zd(La:Hq)(Xk:abq)(Xl:Uz)(p0:nI)(p1:Int)(p2:eP)(p3:(List aB))(p4:bG)(p5 p6 p7:Int)(p8:ng):Option (eP×(List aB)×bG×Int×Int×Int×eH×ng):= OB (bF (λ(s0:(Int×eP×(List aB)×bG×Int×Int×Int×eH×ng))=>bif (decide (s0.1<(p0.length:Int))) then ck (inB s0.1 p0.length) <|let n3:=(List.getD p0 s0.1.toNat eF);OB (La n3.kind n3.op n3.value n3.line n3.name n3.args (dL (p1+s0.1)) s0.2.1 s0.2.2.1 s0.2.2.2.1 s0.2.2.2.2.1 s0.2.2.2.2.2.1 s0.2.2.2.2.2.2.1 s0.2.2.2.2.2.2.2.2) λc5=>let n7:=[(dL (p1+s0.1))];ck (aX s0.2.2.2.2.2.2.2.1.length n7.length 8) <|some (.inl ((dL (s0.1+1)),c5.1,c5.2.1,c5.2.2.1,c5.2.2.2.1,c5.2.2.2.2.1,c5.2.2.2.2.2.1,(s0.2.2.2.2.2.2.2.1++n7),c5.2.2.2.2.2.2)) else some (.inr s0.2)) ((0:Int),p2,p3,p4,p5,p6,p7,eInt,p8)) λs10=>some s10
def iJ:Nat->Hq×Hq×Uz
 |0=>(λ_ _ _ _ _ _ _ _ _ _ _ _ _ _=>none,λ_ _ _ _ _ _ _ _ _ _ _ _ _ _=>none,λ_ _ _ _ _ _ _ _ _=>none)
 |n+1=>(Za (iJ n).1 (iJ n).2.1 (iJ n).2.2,Zc (iJ n).1 (iJ n).2.1 (iJ n).2.2,Zd (iJ n).1 (iJ n).2.1 (iJ n).2.2)
def UO(n:Nat):Hq:=(iJ n).1
def wS(n:Nat):aY:=⟨ai9,u14 (iJ n).1⟩
def aeO(n:Nat):Hq:=(iJ n).2.1
def yX(n:Nat):aY:=⟨ai_,u14 (iJ n).2.1⟩
def aeP(n:Nat):Uz:=(iJ n).2.2
def yY(n:Nat):aY:=⟨aja,u9 (iJ n).2.2⟩
theorem abv(n:Nat)(aeQ:aC Tryz.prog 118 (wS n))(aeR:aC Tryz.prog 135 (yX n))(aeS:aC Tryz.prog 136 (yY n)):aC Tryz.prog 118 (wS (n+1)):=
 ts [(77,aey),(119,aeI),(97,aeA),(98,aeB),(118,wS n),(135,yX n),(136,yY n)] ald [] an4 Tryz.func118 rfl ⟨Ik,UM,Il,Io,aeQ,aeR,aeS,trivial⟩
theorem abw(n:Nat)(aeQ:aC Tryz.prog 118 (wS n))(aeR:aC Tryz.prog 135 (yX n))(aeS:aC Tryz.prog 136 (yY n)):aC Tryz.prog 135 (yX (n+1)):=
 ts [(75,aex),(77,aey),(78,abt),(118,wS n),(135,yX n),(136,yY n)] ale [] an5 Tryz.func135 rfl ⟨Ij,Ik,DL,aeQ,aeR,aeS,trivial⟩
theorem abx(n:Nat)(aeQ:aC Tryz.prog 118 (wS n))(aeR:aC Tryz.prog 135 (yX n))(aeS:aC Tryz.prog 136 (yY n)):aC Tryz.prog 136 (yY (n+1)):=
 ts [(118,wS n),(135,yX n),(136,yY n)] alf [.tmp 6] an_ Tryz.func136 rfl ⟨aeQ,aeR,aeS,trivial⟩
theorem DT :∀n,aC Tryz.prog 118 (wS n)/\aC Tryz.prog 135 (yX n)/\aC Tryz.prog 136 (yY n)
 |0=>⟨dW Tryz.func118 rfl rfl (show ai9.er.ok=true by decide +kernel) λx=>rfl,dW Tryz.func135 rfl rfl (show ai_.er.ok=true by decide +kernel) λx=>rfl,dW Tryz.func136 rfl rfl (show aja.er.ok=true by decide +kernel) λx=>rfl⟩
 |n+1=>by
  have ih:=DT n
  exact ⟨abv n (ih.1) (ih.2.1) (ih.2.2),abw n (ih.1) (ih.2.1) (ih.2.2),abx n (ih.1) (ih.2.1) (ih.2.2)⟩
def f118:Hq:=UO 1048576
def aeT:aY:=wS 1048576
theorem UQ:aC Tryz.prog 118 aeT:=(DT 1048576).1
def f137(p0 p1 p2 p3 p4 p5:Int)(p6:eH):Option eH:= OB (bif (decide (p0=2)) then some true else OB (bif (decide (p0=3)) then some true else OB (bif (decide (p0=6)) then some true else OB (bif (decide (p0=7)) then some true else some (decide (p0=10))) λs5=>some s5) λs6=>some s6) λs7=>some s7) λs8=>bif s8 then some [p3] else OB (bif (decide (p0=4)) then some true else some (decide (p0=8))) λs12=>bif s12 then some [p3,p4] else bif (decide (p0=11)) then ck (aX (List.length eInt) p6.length 8) <|some (eInt++p6) else bif (decide (p0=12)) then let n17:=[p3];ck (aX n17.length p6.length 8) <|some (n17++p6) else some eInt
def aju:aY:=⟨aoa,u7 f137⟩
theorem aeU:aC Tryz.prog 137 aju:=
 ts [] ety [.tmp 2] aob Tryz.func137 rfl trivial
def f138(p0 p1 p2 p3 p4 p5:Int)(p6:eH):Option (Int×Bool):= OB (bif (decide (p0=6)) then some true else OB (bif (decide (p0=8)) then some true else OB (bif (decide (p0=10)) then some true else some (decide (p0=13))) λs4=>some s4) λs5=>some s5) λs6=>bif s6 then some ((0:Int),false) else OB (bif (decide (p0<1)) then some true else some (decide (14<p0))) λs10=>bif s10 then some ((0:Int),false) else some (p2,true)
def ajv:aY:=⟨aoc,u7 f138⟩
theorem aeV:aC Tryz.prog 138 ajv:=
 ts [] ety [.tmp 2,.tmp 3] aod Tryz.func138 rfl trivial
def f139(p0:eP)(p1:KU)(p2 p3 p4:Int)(p5:Bool):Option Bool:= OB (bif (decide (0<=p4)) then bif (decide (p4<(p0.length:Int))) then ck (inB p4 p0.length) <|some ((decide (0<(List.getD p0 p4.toNat (aA.mk bI 0)).size))==p5) else some false else some false) λs8=>some s8
def ajw:aY:=⟨aoe,u6 f139⟩
theorem aeW:aC Tryz.prog 139 ajw:=
 ts [] ety [.tmp 6] aof Tryz.func139 rfl trivial
def aeX(p0 p1 p2 p3:Int)(p4:jm)(p5:nI)(p6 p7:Int)(p8:eP)(p9:(List aB))(p10 p11:Int)(p12:bG):Option (eP×(List aB)×Int×Int×bG):= OB (OB (f127 p4 p8 p9 p10 p11 p12) λc0=>OB (bif (decide (c0.1=0)) then OB (f125 p3 8 c0.2.1 c0.2.2.1 c0.2.2.2.1 c0.2.2.2.2.1 p12) λc2=>some (c2.1,c2.2.1,c2.2.2.1,c2.2.2.2.1) else OB (bif (!(decide (c0.1=p6))) then some (!(decide (c0.1=p7))) else some false) λs6=>OB (bif s6 then OB (f125 p3 10 c0.2.1 c0.2.2.1 c0.2.2.2.1 c0.2.2.2.2.1 p12) λc7=>some (c7.1,c7.2.1,c7.2.2.1,c7.2.2.2.1) else some (c0.2.1,c0.2.2.1,c0.2.2.2.1,c0.2.2.2.2.1)) λs8=>some s8) λs9=>some (s9.1,s9.2.1,s9.2.2.1,s9.2.2.2,p12)) λs10=>ck (decide (p12.length=s10.2.2.2.2.length)) <|some s10
def f140(p0 p1 p2 p3:Int)(p4:jm)(p5:nI)(p6 p7:Int)(p8:eP)(p9:(List aB))(p10 p11:Int)(p12:bG):Option (eP×(List aB)×Int×Int×bG):=OB (aeX p0 p1 p2 p3 p4 p5 p6 p7 p8 p9 p10 p11 p12) λ(y:(eP×(List aB)×Int×Int×bG))=>yH y.2.2.2.2 p12 <| some y
def ajx:aY:=⟨aog,u13 aeX⟩
theorem aeY:aC Tryz.prog 140 ajx:=
 ts [(127,UN),(125,Y_)] ety [] aoh Tryz.func140 rfl ⟨DR,K_,trivial⟩
def aeZ(p0:jm)(p1:Int)(p2:eP)(p3:(List aB))(p4 p5:Int)(p6:bG):Option (Int×Int×Int×Int×jm×eP×(List aB)×Int×Int×bG):= OB (OB (f127 p0 p2 p3 p4 p5 p6) λc0=>OB (bif (!(decide (c0.1=1))) then some (3:Int) else some (2:Int)) λs2=>some (s2,(0:Int),(0:Int),p1,p0,c0.2.1,c0.2.2.1,c0.2.2.2.1,c0.2.2.2.2.1,p6)) λs3=>ck (decide (p6.length=s3.2.2.2.2.2.2.2.2.2.length)) <|some s3
def f141(p0:jm)(p1:Int)(p2:eP)(p3:(List aB))(p4 p5:Int)(p6:bG):Option (Int×Int×Int×Int×jm×eP×(List aB)×Int×Int×bG):=OB (aeZ p0 p1 p2 p3 p4 p5 p6) λ(y:(Int×Int×Int×Int×jm×eP×(List aB)×Int×Int×bG))=>yH y.2.2.2.2.2.2.2.2.2 p6 <| some y
def ajy:aY:=⟨aoi,u7 aeZ⟩
theorem ae0:aC Tryz.prog 141 ajy:=
 ts [(127,UN)] ety [.cell 6 179] aoj Tryz.func141 rfl ⟨DR,trivial⟩
def Ze(ae1:Xd)(Xm:abr)(p0 p1 p2 p3:Int)(p4:jm)(p5:nI)(p6:eP)(p7:(List aB))(p8 p9:Int)(p10:bG):Option (Int×Int×Int×Int×jm×eP×(List aB)×Int×Int×bG×nI):= OB (bif (decide (p0=13)) then OB (f140 p0 p1 p2 p3 p4 p5 1 2 p6 p7 p8 p9 p10) λc1=>OB (f141 p4 p3 c1.1 c1.2.1 c1.2.2.1 c1.2.2.2.1 p10) λc2=>some (c2.1,c2.2.1,c2.2.2.1,c2.2.2.2.1,c2.2.2.2.2.1,c2.2.2.2.2.2.1,c2.2.2.2.2.2.2.1,c2.2.2.2.2.2.2.2.1,c2.2.2.2.2.2.2.2.2.1,p10,qh) else d_ (bif (decide (p0=4)) then OB (f140 p0 p1 p2 p3 p4 p5 3 3 p6 p7 p8 p9 p10) λc4=>some (.inl (c4.1,c4.2.1,c4.2.2.1,c4.2.2.2.1)) else d_ (bif (decide (p0=11)) then OB (f140 p0 p1 p2 p3 p4 p5 4 4 p6 p7 p8 p9 p10) λc6=>some (.inl (c6.1,c6.2.1,c6.2.2.1,c6.2.2.2.1)) else d_ (bif (decide (p0=9)) then OB (f127 p4 p6 p7 p8 p9 p10) λc8=>d_ (bif (decide (c8.1=0)) then OB (f125 p3 8 c8.2.1 c8.2.2.1 c8.2.2.2.1 c8.2.2.2.2.1 p10) λc10=>some (.inl (c10.1,c10.2.1,c10.2.2.1,c10.2.2.2.1)) else d_ (bif (decide (c8.1=3)) then OB (f125 p3 10 c8.2.1 c8.2.2.1 c8.2.2.2.1 c8.2.2.2.2.1 p10) λc12=>some (.inl (c12.1,c12.2.1,c12.2.2.1,c12.2.2.2.1)) else bif (decide (c8.1=4)) then OB (f98 c8.2.1 c8.2.2.1 p4) λc14=>ck (inB c14 c8.2.2.1.length) <|OB (bif (!(decide (((List.length (List.getD c8.2.2.1 c14.toNat bC).params):Int)=(p5.length:Int)))) then OB (f125 p3 11 c8.2.1 c8.2.2.1 c8.2.2.2.1 c8.2.2.2.2.1 p10) λc19=>some (c19.1,c19.2.1,c19.2.2.1,c19.2.2.2.1) else some (c8.2.1,c8.2.2.1,c8.2.2.2.1,c8.2.2.2.2.1)) λs20=>some (.inl s20) else OB (bif (decide (6<(p5.length:Int))) then OB (f125 p3 5 c8.2.1 c8.2.2.1 c8.2.2.2.1 c8.2.2.2.2.1 p10) λc23=>some (c23.1,c23.2.1,c23.2.2.1,c23.2.2.2.1) else some (c8.2.1,c8.2.2.1,c8.2.2.2.1,c8.2.2.2.2.1)) λs24=>OB (f141 p4 p3 s24.1 s24.2.1 s24.2.2.1 s24.2.2.2 p10) λc25=>let n26:=[(aQ.mk c25.1 c25.2.1 c25.2.2.1 c25.2.2.2.1 c25.2.2.2.2.1 qh)];OB (Xm p5 c25.2.2.2.2.2.1 c25.2.2.2.2.2.2.1 c25.2.2.2.2.2.2.2.1 c25.2.2.2.2.2.2.2.2.1 p10) λXn=>ck (aX n26.length Xn.2.2.2.2.2.length 72) <|some (.inr (.inr (.inr (.inr (.inr ((10:Int),(0:Int),(0:Int),p3,bI,Xn.1,Xn.2.1,Xn.2.2.1,Xn.2.2.2.1,p10,(n26++Xn.2.2.2.2.2)))))))) λs29=>some (.inl s29)) λE_=>some (.inl E_) else OB (bif (decide (p0=10)) then OB (bif (decide (7<(p5.length:Int))) then OB (f125 p3 5 p6 p7 p8 p9 p10) λc34=>some (c34.1,c34.2.1,c34.2.2.1,c34.2.2.2.1) else some (p6,p7,p8,p9)) λZb=>some Zb else some (p6,p7,p8,p9)) λs36=>some (.inl s36)) λs37=>some (.inl s37)) λxH=>some (.inl xH)) λLJ=>OB (Xm p5 LJ.1 LJ.2.1 LJ.2.2.1 LJ.2.2.2 p10) λc40=>some (p0,p1,p2,p3,p4,c40.1,c40.2.1,c40.2.2.1,c40.2.2.2.1,p10,c40.2.2.2.2.2)) λXh=>ck (decide (p10.length=Xh.2.2.2.2.2.2.2.2.2.1.length)) <|some Xh
def alz(p0:Int)(p1:Int)(p2:Int)(p3:Int)(p4:jm)(p5:nI)(p6:eP)(p7:(List aB))(p8:Int)(p9:Int)(p10:bG)(r:Option (Int×Int×Int×Int×jm×eP×(List aB)×Int×Int×bG×nI)):Option (Int×Int×Int×Int×jm×eP×(List aB)×Int×Int×bG×nI):=OB r λ(y:(Int×Int×Int×Int×jm×eP×(List aB)×Int×Int×bG×nI))=>yH y.2.2.2.2.2.2.2.2.2.1 p10 <| some y
def Zf(ae1:Xd)(Xm:abr)(p0:nI)(p1:eP)(p2:(List aB))(p3 p4:Int)(p5:bG):Option (eP×(List aB)×Int×Int×bG×nI):= OB (OB (bF (λ(s0:(Int×eP×(List aB)×Int×Int×nI))=>bif (decide (s0.1<(p0.length:Int))) then ck (inB s0.1 p0.length) <|let n3:=(List.getD p0 s0.1.toNat eF);OB (ae1 n3.kind n3.op n3.value n3.line n3.name n3.args s0.2.1 s0.2.2.1 s0.2.2.2.1 s0.2.2.2.2.1 p5) λc4=>let n5:=[(aQ.mk c4.1 c4.2.1 c4.2.2.1 c4.2.2.2.1 c4.2.2.2.2.1 c4.2.2.2.2.2.2.2.2.2.2)];ck (aX s0.2.2.2.2.2.length n5.length 72) <|some (.inl ((dL (s0.1+1)),c4.2.2.2.2.2.1,c4.2.2.2.2.2.2.1,c4.2.2.2.2.2.2.2.1,c4.2.2.2.2.2.2.2.2.1,(s0.2.2.2.2.2++n5))) else some (.inr s0.2)) ((0:Int),p1,p2,p3,p4,qh)) λs8=>some (s8.1,s8.2.1,s8.2.2.1,s8.2.2.2.1,p5,s8.2.2.2.2)) λs9=>ck (decide (p5.length=s9.2.2.2.2.1.length)) <|some s9
def alA(p0:nI)(p1:eP)(p2:(List aB))(p3:Int)(p4:Int)(p5:bG)(r:Option (eP×(List aB)×Int×Int×bG×nI)):Option (eP×(List aB)×Int×Int×bG×nI):=OB r λ(y:(eP×(List aB)×Int×Int×bG×nI))=>yH y.2.2.2.2.1 p5 <| some y
def o7:Nat->Xd×abr
 |0=>(λ_ _ _ _ _ _ _ _ _ _ _=>none,λ_ _ _ _ _ _=>none)
 |n+1=>(Ze (λp0 p1 p2 p3 p4 p5 p6 p7 p8 p9 p10=>alz p0 p1 p2 p3 p4 p5 p6 p7 p8 p9 p10 ((o7 n).1 p0 p1 p2 p3 p4 p5 p6 p7 p8 p9 p10)) (λp0 p1 p2 p3 p4 p5=>alA p0 p1 p2 p3 p4 p5 ((o7 n).2 p0 p1 p2 p3 p4 p5)),Zf (λp0 p1 p2 p3 p4 p5 p6 p7 p8 p9 p10=>alz p0 p1 p2 p3 p4 p5 p6 p7 p8 p9 p10 ((o7 n).1 p0 p1 p2 p3 p4 p5 p6 p7 p8 p9 p10)) (λp0 p1 p2 p3 p4 p5=>alA p0 p1 p2 p3 p4 p5 ((o7 n).2 p0 p1 p2 p3 p4 p5)))
def Zg(n:Nat):Xd:=(λp0 p1 p2 p3 p4 p5 p6 p7 p8 p9 p10=>alz p0 p1 p2 p3 p4 p5 p6 p7 p8 p9 p10 ((o7 n).1 p0 p1 p2 p3 p4 p5 p6 p7 p8 p9 p10))
def Bv(n:Nat):aY:=⟨ajb,u11 (o7 n).1⟩
def ajz(n:Nat):abr:=(λp0 p1 p2 p3 p4 p5=>alA p0 p1 p2 p3 p4 p5 ((o7 n).2 p0 p1 p2 p3 p4 p5))
def Fb(n:Nat):aY:=⟨ajc,u6 (o7 n).2⟩
theorem aby(n:Nat)(alB:aC Tryz.prog 126 (Bv n))(alC:aC Tryz.prog 142 (Fb n)):aC Tryz.prog 126 (Bv (n+1)):=
 ts [(140,ajx),(141,ajy),(127,UN),(125,Y_),(98,aeB),(126,Bv n),(142,Fb n)] ety [.cell 4 179] aok Tryz.func126 rfl ⟨aeY,ae0,DR,K_,Io,alB,alC,trivial⟩
theorem abz(n:Nat)(alB:aC Tryz.prog 126 (Bv n))(alC:aC Tryz.prog 142 (Fb n)):aC Tryz.prog 142 (Fb (n+1)):=
 ts [(126,Bv n),(142,Fb n)] ety [.tmp 4] aol Tryz.func142 rfl ⟨alB,alC,trivial⟩
theorem DU :∀n,aC Tryz.prog 126 (Bv n)/\aC Tryz.prog 142 (Fb n)
 |0=>⟨dW Tryz.func126 rfl rfl (show ajb.er.ok=true by decide +kernel) λx=>rfl,dW Tryz.func142 rfl rfl (show ajc.er.ok=true by decide +kernel) λx=>rfl⟩
 |n+1=>by
  have ih:=DU n
  exact ⟨aby n (ih.1) (ih.2),abz n (ih.1) (ih.2)⟩
def f126:Xd:=Zg 1048576
def ajA:aY:=Bv 1048576
theorem ae2:aC Tryz.prog 126 ajA:=(DU 1048576).1
def f144(p0:Int)(p1:jm)(p2 p3 p4 p5:Int)(p6:jm)(p7:nI):Option (Int×Int×jm×nI):= some (p0,(0:Int),p1,[(aQ.mk p2 p3 p4 p5 p6 p7)])
def ae3:aY:=⟨aom,u8 f144⟩
theorem UR:aC Tryz.prog 144 ae3:=
 ts [] ety [.cell 6 150] aon Tryz.func144 rfl trivial
def Zh(p0:Bool)(p1:Int)(p2:eH)(p3:Int)(p4:eP)(p5:(List aB))(p6:bG):Option (jm×Bool×Int×eH×Int×eP×(List aB)×bG):= OB (OB (bF (λ(s0:(Int×bG))=>bif (decide (s0.1<(p4.length:Int))) then ck (inB s0.1 p4.length) <|OB (bif ((decide (0<(List.getD p4 s0.1.toNat (aA.mk bI 0)).size))==p0) then ck (inB s0.1 p4.length) <|let n7:=[(List.getD p4 s0.1.toNat (aA.mk bI 0)).name];ck (aX s0.2.length n7.length 16) <|some (s0.2++n7) else some s0.2) λs9=>some (.inl ((dL (s0.1+1)),s9)) else some (.inr s0.2)) ((0:Int),jX)) λs11=>bif (decide ((s11.length:Int)=0)) then some (bI,false,p1,p2,p3,p4,p5,p6) else OB (f24 (s11.length:Int) p2 p3) λc15=>ck (inB c15.1 s11.length) <|some ((List.getD s11 c15.1.toNat bI),true,p1,c15.2.1,c15.2.2,p4,p5,p6)) λoZ=>ck (decide (p4.length=oZ.2.2.2.2.2.1.length)) <|ck (decide (p5.length=oZ.2.2.2.2.2.2.1.length)) <|ck (decide (p6.length=oZ.2.2.2.2.2.2.2.length)) <|some oZ
def f146(p0:Bool)(p1:Int)(p2:eH)(p3:Int)(p4:eP)(p5:(List aB))(p6:bG):Option (jm×Bool×Int×eH×Int×eP×(List aB)×bG):=OB (Zh p0 p1 p2 p3 p4 p5 p6) λ(y:(jm×Bool×Int×eH×Int×eP×(List aB)×bG))=>yH y.2.2.2.2.2.1 p4 <| yH y.2.2.2.2.2.2.1 p5 <| yH y.2.2.2.2.2.2.2 p6 <| some y
def UU:aY:=⟨aoo,u7 Zh⟩
theorem DV:aC Tryz.prog 146 UU:=
 ts [(24,E8)] ety [.tmp 4,.tmp 5] aop Tryz.func146 rfl ⟨mW,trivial⟩
def f150:Option bG:= some [[(97:UInt8)],[(98:UInt8)],[(99:UInt8)],[(100:UInt8)],[(101:UInt8)],[(102:UInt8)],[(105:UInt8)],[(107:UInt8)]]
def ajB:aY:=⟨aoq,λx=>f150⟩
theorem ae4:aC Tryz.prog 150 ajB:=
 ts [] ety [.tmp 0] aor Tryz.func150 rfl trivial
def Zi(p0:Int)(p1:eH)(p2:Int)(p3:eP)(p4:(List aB))(p5:bG):Option (Int×Int×Int×Int×jm×Int×eH×Int×eP×(List aB)×bG):= OB (OB (f24 6 p1 p2) λc0=>bif (decide (c0.1=0)) then some ((12:Int),(0:Int),(0:Int),(0:Int),bI,p0,c0.2.1,c0.2.2,p3,p4,p5) else d_ (bif (decide (c0.1=1)) then OB (f146 false p0 c0.2.1 c0.2.2 p3 p4 p5) λc3=>bif c3.2.1 then some (.inr ((13:Int),(0:Int),(0:Int),(0:Int),c3.1,c3.2.2.1,c3.2.2.2.1,c3.2.2.2.2.1,p3,p4,p5)) else some (.inl (c3.2.2.1,c3.2.2.2.1,c3.2.2.2.2.1)) else OB (bif (decide (c0.1=2)) then some true else some (decide (c0.1=3))) λs6=>d_ (bif s6 then bif (decide (0<(p5.length:Int))) then OB (f24 (p5.length:Int) c0.2.1 c0.2.2) λc10=>ck (inB c10.1 p5.length) <|some (.inr (.inr ((13:Int),(0:Int),(0:Int),(0:Int),(List.getD p5 c10.1.toNat bI),p0,c10.2.1,c10.2.2,p3,p4,p5))) else some (.inl ()) else some (.inl ())) λs12=>some (.inl (p0,c0.2))) λs13=>OB (f24 5 s13.2.1 s13.2.2) λc14=>OB (f24 12 c14.2.1 c14.2.2) λc15=>OB (bif (decide (c15.1=11)) then let n17:=[(9223372036854775807:Int),(2147483648:Int),(1000:Int),(64:Int)];OB (f24 4 c15.2.1 c15.2.2) λc18=>ck (inB c18.1 n17.length) <|some ((List.getD n17 c18.1.toNat 0),c18.2) else some (c14.1,c15.2)) λs20=>some ((1:Int),(0:Int),s20.1,(0:Int),bI,s13.1,s20.2.1,s20.2.2,p3,p4,p5)) λKY=>ck (decide (p3.length=KY.2.2.2.2.2.2.2.2.1.length)) <|ck (decide (p4.length=KY.2.2.2.2.2.2.2.2.2.1.length)) <|ck (decide (p5.length=KY.2.2.2.2.2.2.2.2.2.2.length)) <|some KY
def f151(p0:Int)(p1:eH)(p2:Int)(p3:eP)(p4:(List aB))(p5:bG):Option (Int×Int×Int×Int×jm×Int×eH×Int×eP×(List aB)×bG):=OB (Zi p0 p1 p2 p3 p4 p5) λ(y:(Int×Int×Int×Int×jm×Int×eH×Int×eP×(List aB)×bG))=>yH y.2.2.2.2.2.2.2.2.1 p3 <| yH y.2.2.2.2.2.2.2.2.2.1 p4 <| yH y.2.2.2.2.2.2.2.2.2.2 p5 <| some y
def ajC:aY:=⟨aos,u6 Zi⟩
theorem ae5:aC Tryz.prog 151 ajC:=
 ts [(24,E8),(146,UU)] ety [.cell 2 179] aot Tryz.func151 rfl ⟨mW,DV,trivial⟩
def f152(p0 p1:Int)(p2:nI):Option (Int×Int×Int×Int×jm×nI):= some (p0,p1,(0:Int),(0:Int),bI,p2)
def ae6:aY:=⟨aou,u3 f152⟩
theorem UW:aC Tryz.prog 152 ae6:=
 ts [] ety [.cell 6 179] aov Tryz.func152 rfl trivial
def f23(p0:eP)(p1:KU)(p2 p3:Int):Option (eH×MK):= OB (bF (λ(s1:(Int×eH×MK))=>bif (decide (s1.1<(p1.length:Int))) then ck (inB s1.1 p1.length) <|let n3:=(List.getD p1 s1.1.toNat ah);let n4:=[s1.1];ck (aX s1.2.1.length n4.length 8) <|OB (f44 n3.name n3.params n3.regs n3.blocks) λc6=>let n7:=[c6];ck (aX s1.2.2.length n7.length 24) <|some (.inl ((dL (s1.1+1)),(s1.2.1++n4),(s1.2.2++n7))) else some (.inr s1.2)) ((0:Int),eInt,([]:MK))) λs10=>some s10
def alD:aY:=⟨ar8,u4 f23⟩
theorem Zj:aC Tryz.prog 23 alD:=
 ts [(44,alk)] ety [.cell 2 34] ar9 Tryz.func23 rfl ⟨Y4,trivial⟩
def f27(p0:eP)(p1:KU)(p2 p3:Int):Option (eH×MK):= OB (bF (λ(s0:(Int×eH×MK))=>bif (decide (s0.1<(p1.length:Int))) then let n3:=[s0.1];ck (aX s0.2.1.length n3.length 8) <|ck (inB s0.1 p1.length) <|let n5:=(List.getD p1 s0.1.toNat ah);OB (f50 n5.name n5.params n5.regs n5.blocks) λc6=>let n7:=[c6];ck (aX s0.2.2.length n7.length 24) <|some (.inl ((dL (s0.1+1)),(s0.2.1++n3),(s0.2.2++n7))) else some (.inr s0.2)) ((0:Int),eInt,([]:MK))) λs10=>some s10
def ao5:aY:=⟨ar_,u4 f27⟩
theorem ahQ:aC Tryz.prog 27 ao5:=
 ts [(50,alo)] ety [.cell 2 34] asa Tryz.func27 rfl ⟨Y6,trivial⟩
def f28(p0:jm)(p1 p2:Int)(p3:ng)(p4:eH)(p5:Int):Option (eH×Int×eH):= OB (f50 p0 p1 p2 p3) λc0=>OB (bF (λ(s1:(Int×eH×Int×eH))=>bif (decide (s1.1<(s1.2.2.2.length:Int))) then OB (f24 s1.1 s1.2.1 s1.2.2.1) λc4=>let n5:=(dL (1+c4.1));ck (inB n5 s1.2.2.2.length) <|ck (inB s1.1 s1.2.2.2.length) <|ck (inB s1.1 s1.2.2.2.length) <|let n8:=(List.set s1.2.2.2 s1.1.toNat (List.getD s1.2.2.2 n5.toNat 0));ck (inB n5 n8.length) <|some (.inl ((dL (s1.1+1)),c4.2.1,c4.2.2,(List.set n8 n5.toNat (List.getD s1.2.2.2 s1.1.toNat 0)))) else some (.inr s1.2)) ((1:Int),p4,p5,c0)) λs11=>some s11
def ao6:aY:=⟨asb,u6 f28⟩
theorem ahR:aC Tryz.prog 28 ao6:=
 ts [(50,alo),(24,E8)] ety [.tmp 4] asc Tryz.func28 rfl ⟨Y6,mW,trivial⟩
def f56(p0:jm)(p1 p2:Int)(p3:ng)(p4:eH):Option (LUn×eH):= OB (bF (λ(s1:(Int×LUn×eH))=>bif (decide (s1.1<(p4.length:Int))) then ck (inB s1.1 p4.length) <|let n3:=(List.getD p4 s1.1.toNat 0);let n5:=[(s1.2.1.length:Int)];ck (aX s1.2.2.length n5.length 8) <|ck (inB n3 p3.length) <|let n7:=(List.getD p3 n3.toNat au);OB (bF (λ(s9:(Int×LUn))=>bif (decide (s9.1<((List.length n7.instrs):Int))) then ck (inB s9.1 (List.length n7.instrs)) <|let n11:=(List.getD n7.instrs s9.1.toNat UD);OB (f85 n11.kind n11.op n11.dst n11.a n11.b n11.value n11.args) λc12=>let n13:=[(cu.mk c12.1 c12.2.1 c12.2.2.1 c12.2.2.2.1 c12.2.2.2.2.1 c12.2.2.2.2.2.1 c12.2.2.2.2.2.2.1 c12.2.2.2.2.2.2.2 (-1:Int))];ck (aX s9.2.length n13.length 88) <|some (.inl ((dL (s9.1+1)),(s9.2++n13))) else some (.inr s9.2)) ((0:Int),s1.2.1)) λs16=>OB (bif (decide ((dL (s1.1+1))<(p4.length:Int))) then let n20:=(dL (s1.1+1));ck (inB n20 p4.length) <|some (List.getD p4 n20.toNat 0) else some (-1:Int)) λmX=>ck (inB n3 p3.length) <|let n23:=(List.getD p3 n3.toNat au);OB (f86 n23.bT n23.lY n23.f_ n23.dF mX) λc24=>ck (aX s16.length c24.length 88) <|some (.inl ((dL (s1.1+1)),(s16++c24),(s1.2.2++n5))) else some (.inr s1.2)) ((0:Int),([]:LUn),eInt)) λs27=>some s27
def ao7:aY:=⟨ase,u5 f56⟩
theorem ahS:aC Tryz.prog 56 ao7:=
 ts [(85,aoX),(86,aoY)] ety [.tmp 4,.tmp 5] asf Tryz.func56 rfl ⟨ahI,ahJ,trivial⟩
def f74(p0:jm)(p1:Int)(p2:bG)(p3:rF):Option bG:= ck (true&&(decide ((((List.length jX)+p2.length)*(16:Nat))<=(140737488355328:Nat)))) <|OB (f94 p3 (jX++p2)) λc1=>some c1
def alE:aY:=⟨ash,u4 f74⟩
theorem Zk:aC Tryz.prog 74 alE:=
 ts [(94,ao3)] ety [.tmp 2] asi Tryz.func74 rfl ⟨ahN,trivial⟩
def ahT(Ob:T76)(Zl:T95)(QB:ML)(QC:MN)(p0:rF)(p1:eP)(p2:(List aB))(p3:bG)(p4 p5 p6:Int)(p7:ng):Option (Bool×eP×(List aB)×bG×Int×Int×Int×ng):= d_ (bF (λ(s0:(Int×eP×(List aB)×bG×Int×Int×Int×ng))=>bif (decide (s0.1<(p0.length:Int))) then ck (inB s0.1 p0.length) <|let n3:=(List.getD p0 s0.1.toNat oW);OB (Zl n3.kind n3.line n3.name n3.exprs n3.then' n3.else' s0.2.1 s0.2.2.1 s0.2.2.2.1 s0.2.2.2.2.1 s0.2.2.2.2.2.1 s0.2.2.2.2.2.2.1 s0.2.2.2.2.2.2.2) λc4=>bif (!c4.1) then some (.inr (.inr (false,c4.2))) else some (.inl ((dL (s0.1+1)),c4.2)) else some (.inr (.inl s0.2))) ((0:Int),p1,p2,p3,p4,p5,p6,p7)) λs7=>some (true,s7)
def ahU(Ob:T76)(Zl:T95)(QB:ML)(QC:MN)(p0 p1:Int)(p2:jm)(p3:nI)(p4 p5:rF)(p6:eP)(p7:(List aB))(p8:bG)(p9 p10 p11:Int)(p12:ng):Option (Bool×eP×(List aB)×bG×Int×Int×Int×ng):= let n0:=(p8.length:Int);bif (decide (p0=5)) then OB (QB p0 p1 p2 p3 p4 p5 n0 p6 p7 p8 p9 p10 p11 p12) λc2=>some (true,c2) else OB (bF (λ(s3:(Int×eP×(List aB)×bG×Int×Int×Int×ng))=>bif (decide (s3.1<(p3.length:Int))) then ck (inB s3.1 p3.length) <|let n6:=(List.getD p3 s3.1.toNat eF);OB (f118 n6.kind n6.op n6.value n6.line n6.name n6.args (dL (n0+s3.1)) s3.2.1 s3.2.2.1 s3.2.2.2.1 s3.2.2.2.2.1 s3.2.2.2.2.2.1 s3.2.2.2.2.2.2.1 s3.2.2.2.2.2.2.2) λc8=>some (.inl ((dL (s3.1+1)),c8)) else some (.inr s3.2)) ((0:Int),p6,p7,p8,p9,p10,p11,p12)) λs10=>OB (bif (decide (p0=1)) then some true else some (decide (p0=2))) λs13=>d_ (bif s13 then OB (f119 p2 s10.1 s10.2.1 s10.2.2.1 s10.2.2.2.1 s10.2.2.2.2.1 s10.2.2.2.2.2.1 s10.2.2.2.2.2.2) λc14=>OB (bif (decide (0<=c14.1)) then OB (f77 2 0 c14.1 n0 0 0 eInt c14.2.1 c14.2.2.1 c14.2.2.2.1 c14.2.2.2.2.1 c14.2.2.2.2.2.1 c14.2.2.2.2.2.2.1 s10.2.2.2.2.2.2) λc16=>some c16 else OB (f97 c14.2.1 c14.2.2.1 p2) λc17=>OB (f77 6 0 0 n0 0 c17 eInt c14.2.1 c14.2.2.1 c14.2.2.2.1 c14.2.2.2.2.1 c14.2.2.2.2.2.1 c14.2.2.2.2.2.2.1 s10.2.2.2.2.2.2) λc18=>some c18) λvG=>some (.inl vG) else d_ (bif (decide (p0=3)) then OB (f97 s10.1 s10.2.1 p2) λLc=>OB (f77 8 0 0 n0 (dL (n0+1)) Lc eInt s10.1 s10.2.1 s10.2.2.1 s10.2.2.2.1 s10.2.2.2.2.1 s10.2.2.2.2.2.1 s10.2.2.2.2.2.2) λc23=>some (.inl c23) else bif (decide (p0=6)) then OB (f78 s10.2.2.2.2.2.1 3 n0 0 0 s10.1 s10.2.1 s10.2.2.1 s10.2.2.2.1 s10.2.2.2.2.1 s10.2.2.2.2.2.1 s10.2.2.2.2.2.2) λc25=>some (.inr (.inr (false,c25))) else d_ (bif (decide (p0=7)) then OB (f77 10 0 0 n0 0 0 eInt s10.1 s10.2.1 s10.2.2.1 s10.2.2.2.1 s10.2.2.2.2.1 s10.2.2.2.2.2.1 s10.2.2.2.2.2.2) λXn=>some (.inl Xn) else bif (decide (p0=4)) then OB (QC p0 p1 p2 p3 p4 p5 n0 s10.1 s10.2.1 s10.2.2.1 s10.2.2.2.1 s10.2.2.2.2.1 s10.2.2.2.2.2.1 s10.2.2.2.2.2.2) λc29=>some (.inr (.inr (.inr c29))) else some (.inl s10)) λE_=>some (.inl E_)) λUY=>some (.inl UY)) λAd=>some (true,Ad)
def Zm(Ob:T76)(Zl:T95)(QB:ML)(QC:MN)(p0 p1:Int)(p2:jm)(p3:nI)(p4 p5:rF)(p6:Int)(p7:eP)(p8:(List aB))(p9:bG)(p10 p11 p12:Int)(p13:ng):Option (eP×(List aB)×bG×Int×Int×Int×ng):= OB (f75 p1 p7 p8 p9 p10 p11 p12 p13) λc0=>OB (f78 p12 1 0 c0.1 0 c0.2.1 c0.2.2.1 c0.2.2.2.1 c0.2.2.2.2.1 c0.2.2.2.2.2.1 c0.2.2.2.2.2.2.1 c0.2.2.2.2.2.2.2) λc1=>ck (inB (0:Int) p3.length) <|let n2:=(List.getD p3 (Int.toNat 0) eF);OB (f118 n2.kind n2.op n2.value n2.line n2.name n2.args p6 c1.1 c1.2.1 c1.2.2.1 c1.2.2.2.1 c1.2.2.2.2.1 c1.2.2.2.2.2.1 c1.2.2.2.2.2.2) λc3=>OB (f75 p1 c3.1 c3.2.1 c3.2.2.1 c3.2.2.2.1 c3.2.2.2.2.1 c3.2.2.2.2.2.1 c3.2.2.2.2.2.2) λc4=>OB (Ob p4 c4.2.1 c4.2.2.1 c4.2.2.2.1 c4.2.2.2.2.1 c4.2.2.2.2.2.1 c4.2.2.2.2.2.2.1 c4.2.2.2.2.2.2.2) λc5=>OB (bif c5.1 then OB (f78 c5.2.2.2.2.2.2.1 1 0 c0.1 0 c5.2.1 c5.2.2.1 c5.2.2.2.1 c5.2.2.2.2.1 c5.2.2.2.2.2.1 c5.2.2.2.2.2.2.1 c5.2.2.2.2.2.2.2) λc6=>some c6 else some c5.2) λs7=>OB (f75 p1 s7.1 s7.2.1 s7.2.2.1 s7.2.2.2.1 s7.2.2.2.2.1 s7.2.2.2.2.2.1 s7.2.2.2.2.2.2) λc8=>OB (f78 c3.2.2.2.2.2.1 2 p6 c4.1 c8.1 c8.2.1 c8.2.2.1 c8.2.2.2.1 c8.2.2.2.2.1 c8.2.2.2.2.2.1 c8.2.2.2.2.2.2.1 c8.2.2.2.2.2.2.2) λc9=>some c9
def Zn(Ob:T76)(Zl:T95)(QB:ML)(QC:MN)(p0 p1:Int)(p2:jm)(p3:nI)(p4 p5:rF)(p6:Int)(p7:eP)(p8:(List aB))(p9:bG)(p10 p11 p12:Int)(p13:ng):Option (Bool×eP×(List aB)×bG×Int×Int×Int×ng):= OB (f75 p1 p7 p8 p9 p10 p11 p12 p13) λc0=>OB (Ob p4 c0.2.1 c0.2.2.1 c0.2.2.2.1 c0.2.2.2.2.1 c0.2.2.2.2.2.1 c0.2.2.2.2.2.2.1 c0.2.2.2.2.2.2.2) λc1=>bif (decide ((p5.length:Int)=0)) then OB (f75 p1 c1.2.1 c1.2.2.1 c1.2.2.2.1 c1.2.2.2.2.1 c1.2.2.2.2.2.1 c1.2.2.2.2.2.2.1 c1.2.2.2.2.2.2.2) λc4=>OB (f78 p12 2 p6 c0.1 c4.1 c4.2.1 c4.2.2.1 c4.2.2.2.1 c4.2.2.2.2.1 c4.2.2.2.2.2.1 c4.2.2.2.2.2.2.1 c4.2.2.2.2.2.2.2) λc5=>OB (bif c1.1 then OB (f78 c1.2.2.2.2.2.2.1 1 0 c4.1 0 c5.1 c5.2.1 c5.2.2.1 c5.2.2.2.1 c5.2.2.2.2.1 c5.2.2.2.2.2.1 c5.2.2.2.2.2.2) λc6=>some c6 else some c5) λs7=>some (true,s7) else OB (f75 p1 c1.2.1 c1.2.2.1 c1.2.2.2.1 c1.2.2.2.2.1 c1.2.2.2.2.2.1 c1.2.2.2.2.2.2.1 c1.2.2.2.2.2.2.2) λc8=>OB (f78 p12 2 p6 c0.1 c8.1 c8.2.1 c8.2.2.1 c8.2.2.2.1 c8.2.2.2.2.1 c8.2.2.2.2.2.1 c8.2.2.2.2.2.2.1 c8.2.2.2.2.2.2.2) λc9=>OB (Ob p5 c9.1 c9.2.1 c9.2.2.1 c9.2.2.2.1 c9.2.2.2.2.1 c9.2.2.2.2.2.1 c9.2.2.2.2.2.2) λc10=>OB (bif (!c1.1) then some (!c10.1) else some false) λs14=>bif s14 then some (false,c10.2) else OB (f75 p1 c10.2.1 c10.2.2.1 c10.2.2.2.1 c10.2.2.2.2.1 c10.2.2.2.2.2.1 c10.2.2.2.2.2.2.1 c10.2.2.2.2.2.2.2) λc15=>OB (bif c1.1 then OB (f78 c1.2.2.2.2.2.2.1 1 0 c15.1 0 c15.2.1 c15.2.2.1 c15.2.2.2.1 c15.2.2.2.2.1 c15.2.2.2.2.2.1 c15.2.2.2.2.2.2.1 c15.2.2.2.2.2.2.2) λc16=>some c16 else some c15.2) λoZ=>OB (bif c10.1 then OB (f78 c10.2.2.2.2.2.2.1 1 0 c15.1 0 oZ.1 oZ.2.1 oZ.2.2.1 oZ.2.2.2.1 oZ.2.2.2.2.1 oZ.2.2.2.2.2.1 oZ.2.2.2.2.2.2) λc18=>some c18 else some oZ) λvG=>some (true,vG)
def gB:Nat->T76×T95×ML×MN
 |0=>(λ_ _ _ _ _ _ _ _=>none,λ_ _ _ _ _ _ _ _ _ _ _ _ _=>none,λ_ _ _ _ _ _ _ _ _ _ _ _ _ _=>none,λ_ _ _ _ _ _ _ _ _ _ _ _ _ _=>none)
 |n+1=>(ahT (gB n).1 (gB n).2.1 (gB n).2.2.1 (gB n).2.2.2,ahU (gB n).1 (gB n).2.1 (gB n).2.2.1 (gB n).2.2.2,Zm (gB n).1 (gB n).2.1 (gB n).2.2.1 (gB n).2.2.2,Zn (gB n).1 (gB n).2.1 (gB n).2.2.1 (gB n).2.2.2)
def abA(n:Nat):T76:=(gB n).1
def yZ(n:Nat):aY:=⟨aow,u8 (gB n).1⟩
def ahV(n:Nat):T95:=(gB n).2.1
def Ae(n:Nat):aY:=⟨aoy,u13 (gB n).2.1⟩
def Zo(n:Nat):ML:=(gB n).2.2.1
def tZ(n:Nat):aY:=⟨ajd,u14 (gB n).2.2.1⟩
def Zp(n:Nat):MN:=(gB n).2.2.2
def t_(n:Nat):aY:=⟨aje,u14 (gB n).2.2.2⟩
theorem ae7(n:Nat)(h76:aC Tryz.prog 76 (yZ n))(h95:aC Tryz.prog 95 (Ae n))(Xo:aC Tryz.prog 117 (tZ n))(Xp:aC Tryz.prog 120 (t_ n)):aC Tryz.prog 76 (yZ (n+1)):=
 ts [(76,yZ n),(95,Ae n),(117,tZ n),(120,t_ n)] aox [.tmp 4] asj Tryz.func76 rfl ⟨h76,h95,Xo,Xp,trivial⟩
theorem ae8(n:Nat)(h76:aC Tryz.prog 76 (yZ n))(h95:aC Tryz.prog 95 (Ae n))(Xo:aC Tryz.prog 117 (tZ n))(Xp:aC Tryz.prog 120 (t_ n)):aC Tryz.prog 95 (Ae (n+1)):=
 ts [(118,aeT),(119,aeI),(77,aey),(97,aeA),(78,abt),(76,yZ n),(95,Ae n),(117,tZ n),(120,t_ n)] aoz [.tmp 4] asl Tryz.func95 rfl ⟨UQ,UM,Ik,Il,DL,h76,h95,Xo,Xp,trivial⟩
theorem abB(n:Nat)(h76:aC Tryz.prog 76 (yZ n))(h95:aC Tryz.prog 95 (Ae n))(Xo:aC Tryz.prog 117 (tZ n))(Xp:aC Tryz.prog 120 (t_ n)):aC Tryz.prog 117 (tZ (n+1)):=
 ts [(75,aex),(78,abt),(118,aeT),(76,yZ n),(95,Ae n),(117,tZ n),(120,t_ n)] alg [] aoA Tryz.func117 rfl ⟨Ij,DL,UQ,h76,h95,Xo,Xp,trivial⟩
theorem abC(n:Nat)(h76:aC Tryz.prog 76 (yZ n))(h95:aC Tryz.prog 95 (Ae n))(Xo:aC Tryz.prog 117 (tZ n))(Xp:aC Tryz.prog 120 (t_ n)):aC Tryz.prog 120 (t_ (n+1)):=
 ts [(75,aex),(78,abt),(76,yZ n),(95,Ae n),(117,tZ n),(120,t_ n)] alh [.tmp 6] aoB Tryz.func120 rfl ⟨Ij,DL,h76,h95,Xo,Xp,trivial⟩
theorem G6 :∀n,aC Tryz.prog 76 (yZ n)/\aC Tryz.prog 95 (Ae n)/\aC Tryz.prog 117 (tZ n)/\aC Tryz.prog 120 (t_ n)
 |0=>⟨dW Tryz.func76 rfl rfl (show aow.er.ok=true by decide +kernel) λx=>rfl,dW Tryz.func95 rfl rfl (show aoy.er.ok=true by decide +kernel) λx=>rfl,dW Tryz.func117 rfl rfl (show ajd.er.ok=true by decide +kernel) λx=>rfl,dW Tryz.func120 rfl rfl (show aje.er.ok=true by decide +kernel) λx=>rfl⟩
 |n+1=>by
  have ih:=G6 n
  exact ⟨ae7 n (ih.1) (ih.2.1) (ih.2.2.1) (ih.2.2.2),ae8 n (ih.1) (ih.2.1) (ih.2.2.1) (ih.2.2.2),abB n (ih.1) (ih.2.1) (ih.2.2.1) (ih.2.2.2),abC n (ih.1) (ih.2.1) (ih.2.2.1) (ih.2.2.2)⟩
def f76:T76:=abA 1048576
def ao8:aY:=yZ 1048576
theorem ahW:aC Tryz.prog 76 ao8:=(G6 1048576).1
def f82(p0:jm)(p1 p2:Int)(p3:ng):Option (List Bool):= let n0:=(p3.length:Int);ck (JD (1:Nat) n0 n0) <|let n1:=(List.replicate n0.toNat false);bif (decide ((n1.length:Int)=0)) then some n1 else ck (inB (0:Int) n1.length) <|OB (bF (λ(s6:((List Bool)×eH))=>bif (decide (0<(s6.2.length:Int))) then let n10:=(dL ((s6.2.length:Int)-1));ck (inB n10 s6.2.length) <|let n11:=(List.getD s6.2 n10.toNat 0);let n13:=(dL ((s6.2.length:Int)-1));ck ((decide (0<=n13))&&(decide (n13<=(s6.2.length:Int)))) <|ck (inB n11 p3.length) <|let n15:=(List.getD p3 n11.toNat au);OB (f104 n15.bT n15.lY n15.f_ n15.dF) λc16=>OB (bF (λ(oZ:(Int×(List Bool)×eH))=>bif (decide (oZ.1<(c16.length:Int))) then ck (inB oZ.1 c16.length) <|let n20:=(List.getD c16 oZ.1.toNat 0);ck (inB n20 oZ.2.1.length) <|OB (bif (!(List.getD oZ.2.1 n20.toNat false)) then ck (inB oZ.1 c16.length) <|let n23:=(List.getD c16 oZ.1.toNat 0);ck (inB n23 oZ.2.1.length) <|ck (inB oZ.1 c16.length) <|let n26:=[(List.getD c16 oZ.1.toNat 0)];ck (aX oZ.2.2.length n26.length 8) <|some ((List.set oZ.2.1 n23.toNat true),(oZ.2.2++n26)) else some oZ.2) λIh=>some (.inl ((dL (oZ.1+1)),Ih)) else some (.inr oZ.2)) ((0:Int),s6.1,(List.take n13.toNat s6.2))) λE_=>some (.inl E_) else some (.inr s6.1)) ((List.set n1 (Int.toNat (0:Int)) true),[(0:Int)])) λUY=>some UY
def alG:aY:=⟨asn,u4 f82⟩
theorem Zq:aC Tryz.prog 82 alG:=
 ts [(104,aeF)] aoC [.tmp 2] aso Tryz.func82 rfl ⟨UL,trivial⟩
def f89(p0:eH):Option Bool:= OB (f116 p0) λc0=>some (decide (0<=c0))
def ao9:aY:=⟨asq,f89⟩
theorem ahX:aC Tryz.prog 89 ao9:=
 ts [(116,ajp),(90,alq)] ety [.tmp 4] asr Tryz.func89 rfl ⟨aeG,Y8,trivial⟩
def ae9(ae_:ahx)(p0:rF)(p1:eP)(p2:(List aB))(p3 p4:Int)(p5:bG):Option (eP×(List aB)×Int×Int×rF×bG):= OB (bF (λ(s0:(Int×eP×(List aB)×Int×Int×rF×bG))=>bif (decide (s0.1<(p0.length:Int))) then ck (inB s0.1 p0.length) <|let n3:=(List.getD p0 s0.1.toNat oW);OB (bF (λ(s4:(Int×eP×(List aB)×Int×Int×nI))=>bif (decide (s4.1<((List.length n3.exprs):Int))) then ck (inB s4.1 (List.length n3.exprs)) <|let n7:=(List.getD n3.exprs s4.1.toNat eF);OB (f124 n7.kind n7.op n7.value n7.line n7.name n7.args) λc8=>OB (bif (decide (64<c8)) then ck (inB s4.1 (List.length n3.exprs)) <|OB (f125 (List.getD n3.exprs s4.1.toNat eF).line 5 s4.2.1 s4.2.2.1 s4.2.2.2.1 s4.2.2.2.2.1 s0.2.2.2.2.2.2) λc11=>some (c11.1,c11.2.1,c11.2.2.1,c11.2.2.2.1) else some (s4.2.1,s4.2.2.1,s4.2.2.2.1,s4.2.2.2.2.1)) λs12=>ck (inB s4.1 (List.length n3.exprs)) <|let n13:=(List.getD n3.exprs s4.1.toNat eF);OB (f126 n13.kind n13.op n13.value n13.line n13.name n13.args s12.1 s12.2.1 s12.2.2.1 s12.2.2.2 s0.2.2.2.2.2.2) λc14=>let n15:=[(aQ.mk c14.1 c14.2.1 c14.2.2.1 c14.2.2.2.1 c14.2.2.2.2.1 c14.2.2.2.2.2.2.2.2.2.2)];ck (aX s4.2.2.2.2.2.length n15.length 72) <|some (.inl ((dL (s4.1+1)),c14.2.2.2.2.2.1,c14.2.2.2.2.2.2.1,c14.2.2.2.2.2.2.2.1,c14.2.2.2.2.2.2.2.2.1,(s4.2.2.2.2.2++n15))) else some (.inr s4.2)) ((0:Int),s0.2.1,s0.2.2.1,s0.2.2.2.1,s0.2.2.2.2.1,qh)) λKW=>OB (f127 n3.name KW.1 KW.2.1 KW.2.2.1 KW.2.2.2.1 s0.2.2.2.2.2.2) λc19=>OB (bif (decide (n3.kind=1)) then OB (bif (!(decide (c19.1=0))) then OB (f125 n3.line 9 c19.2.1 c19.2.2.1 c19.2.2.2.1 c19.2.2.2.2.1 s0.2.2.2.2.2.2) λLc=>some (Lc.1,Lc.2.1,Lc.2.2.1,Lc.2.2.2.1) else some (c19.2.1,c19.2.2.1,c19.2.2.2.1,c19.2.2.2.2.1)) λs23=>let n24:=[n3.name];ck (aX s0.2.2.2.2.2.2.length n24.length 16) <|some (s23.1,s23.2.1,s23.2.2.1,s23.2.2.2,(s0.2.2.2.2.2.2++n24)) else OB (bif (decide (n3.kind=2)) then some true else some (decide (n3.kind=3))) λIh=>OB (bif Ih then OB (bif (decide (c19.1=0)) then OB (f125 n3.line 8 c19.2.1 c19.2.2.1 c19.2.2.2.1 c19.2.2.2.2.1 s0.2.2.2.2.2.2) λOa=>some (Oa.1,Oa.2.1,Oa.2.2.1,Oa.2.2.2.1) else OB (bif (decide (n3.kind=2)) then bif (!(decide (c19.1=1))) then bif (!(decide (c19.1=2))) then some true else bif (decide (n3.kind=3)) then some (!(decide (c19.1=3))) else some false else bif (decide (n3.kind=3)) then some (!(decide (c19.1=3))) else some false else bif (decide (n3.kind=3)) then some (!(decide (c19.1=3))) else some false) λs51=>OB (bif s51 then OB (f125 n3.line 10 c19.2.1 c19.2.2.1 c19.2.2.2.1 c19.2.2.2.2.1 s0.2.2.2.2.2.2) λc52=>some (c52.1,c52.2.1,c52.2.2.1,c52.2.2.2.1) else some (c19.2.1,c19.2.2.1,c19.2.2.2.1,c19.2.2.2.2.1)) λs53=>some s53) λs54=>some s54 else some (c19.2.1,c19.2.2.1,c19.2.2.2.1,c19.2.2.2.2.1)) λVu=>some (Vu.1,Vu.2.1,Vu.2.2.1,Vu.2.2.2,s0.2.2.2.2.2.2)) λs56=>OB (ae_ n3.then' s56.1 s56.2.1 s56.2.2.1 s56.2.2.2.1 s56.2.2.2.2) λc57=>OB (ae_ n3.else' c57.1 c57.2.1 c57.2.2.1 c57.2.2.2.1 c57.2.2.2.2.2) λZr=>let n59:=[(bZ.mk n3.kind n3.line n3.name KW.2.2.2.2 c57.2.2.2.2.1 Zr.2.2.2.2.1)];ck (aX s0.2.2.2.2.2.1.length n59.length 104) <|some (.inl ((dL (s0.1+1)),Zr.1,Zr.2.1,Zr.2.2.1,Zr.2.2.2.1,(s0.2.2.2.2.2.1++n59),Zr.2.2.2.2.2)) else some (.inr s0.2)) ((0:Int),p1,p2,p3,p4,jy,p5)) λs62=>some s62
def QD:Nat->ahx
 |0=>(λ_ _ _ _ _ _=>none)
 |n+1=>(ae9 (QD n))
def afa(n:Nat):ahx:=(QD n)
def Ld(n:Nat):aY:=⟨ajf,u6 (QD n)⟩
theorem abE(n:Nat)(as7:aC Tryz.prog 102 (Ld n)):aC Tryz.prog 102 (Ld (n+1)):=
 ts [(124,ajs),(125,Y_),(126,ajA),(127,UN),(102,Ld n)] ety [.tmp 4] aoD Tryz.func102 rfl ⟨aeM,K_,ae2,DR,as7,trivial⟩
theorem DW :∀n,aC Tryz.prog 102 (Ld n)
 |0=>dW Tryz.func102 rfl rfl (show ajf.er.ok=true by decide +kernel) λx=>rfl
 |n+1=>by
  have ih:=DW n
  exact abE n (ih)
def f102:ahx:=afa 1048576
def ajE:aY:=Ld 1048576
theorem afb:aC Tryz.prog 102 ajE:=(DW 1048576)
def f122(p0:eP)(p1:KU)(p2 p3:Int)(p4:jm)(p5 p6:Int)(p7:ng)(p8 p9 p10 p11 p12 p13:Int)(p14:eH):Option Int:= OB (bif (decide (p8<1)) then some true else bif (decide (14<p8)) then some true else bif (decide (p8=3)) then bif (!(decide (p9=1))) then bif (!(decide (p9=2))) then some true else bif (decide (p8=4)) then bif (decide (p9<3)) then some true else some (decide (11<p9)) else some false else bif false then some true else bif (decide (p8=4)) then bif (decide (p9<3)) then some true else some (decide (11<p9)) else some false else bif false then some true else bif (decide (p8=4)) then bif (decide (p9<3)) then some true else some (decide (11<p9)) else some false) λxH=>bif xH then some (17:Int) else OB (f137 p8 p9 p10 p11 p12 p13 p14) λc39=>OB (f138 p8 p9 p10 p11 p12 p13 p14) λc40=>OB (bif c40.2 then let n41:=[c40.1];ck (aX c39.length n41.length 8) <|some (c39++n41) else some c39) λs43=>d_ (bF (λ(s44:Int)=>bif (decide (s44<(s43.length:Int))) then OB (ck (inB s44 s43.length) <|bif (decide ((List.getD s43 s44.toNat 0)<0)) then some true else ck (inB s44 s43.length) <|some (decide (p6<=(List.getD s43 s44.toNat 0)))) λOc=>bif Oc then some (.inr (.inr (14:Int))) else some (.inl (dL (s44+1))) else some (.inr (.inl ()))) (0:Int)) λs54=>OB (bif (decide (p8=5)) then some true else some (decide (p8=6))) λs57=>d_ (bif s57 then OB (f139 p0 p1 p2 p3 p13 false) λZr=>bif (!Zr) then some (.inr (16:Int)) else some (.inl ()) else OB (bif (decide (p8=7)) then some true else some (decide (p8=8))) λs62=>d_ (bif s62 then OB (f139 p0 p1 p2 p3 p13 true) λc63=>bif (!c63) then some (.inr (.inr (16:Int))) else some (.inl ()) else d_ (bif (decide (p8=11)) then OB (bif (decide (p13<0)) then some true else some (decide ((p1.length:Int)<=p13))) λs70=>bif s70 then some (.inr (.inr (.inr (15:Int)))) else ck (inB p13 p1.length) <|bif (!(decide ((List.getD p1 p13.toNat ah).params=(p14.length:Int)))) then some (.inr (.inr (.inr (11:Int)))) else some (.inl ()) else d_ (bif (decide (p8=12)) then bif (decide (250<(p14.length:Int))) then some (.inr (.inr (.inr (.inr (11:Int))))) else some (.inl ()) else d_ (bif (decide (p8=14)) then OB (bif (decide (p13<0)) then some true else some (decide (p2<=p13))) λs81=>bif s81 then some (.inr (.inr (.inr (.inr (.inr (15:Int)))))) else some (.inl ()) else d_ (bif (decide (p8=13)) then OB (bif (decide (p13<0)) then some true else some (decide (p3<=p13))) λs86=>bif s86 then some (.inr (.inr (.inr (.inr (.inr (.inr (1:Int))))))) else some (.inl ()) else some (.inl ())) λs87=>some (.inl ())) λs88=>some (.inl ())) λs89=>some (.inl ())) λs90=>some (.inl ())) λs91=>some (.inl ())) λs92=>some (0:Int)
def ajF:aY:=⟨aoE,u15 f122⟩
theorem afc:aC Tryz.prog 122 ajF:=
 ts [(137,aju),(138,ajv),(139,ajw)] ety [.tmp 6] aoF Tryz.func122 rfl ⟨aeU,aeV,aeW,trivial⟩
def afd(p0:Int)(p1:eH)(p2:Int)(p3:eP)(p4:(List aB))(p5:bG):Option (jm×Bool×Int×eH×Int×eP×(List aB)×bG):= OB (OB (f150) λc0=>d_ (bF (λ(s1:Int)=>bif (decide (s1<(c0.length:Int))) then OB (bF (λ(s4:(Bool×Int))=>bif (decide (s4.2<(p5.length:Int))) then OB (bif s4.1 then some true else ck (inB s4.2 p5.length) <|ck (inB s1 c0.length) <|some ((List.getD p5 s4.2.toNat bI)==(List.getD c0 s1.toNat bI))) λs11=>some (.inl (s11,(dL (s4.2+1)))) else some (.inr s4.1)) (false,(0:Int))) λs13=>bif (!s13) then ck (inB s1 c0.length) <|some (.inr (.inr ((List.getD c0 s1.toNat bI),true,p0,p1,p2,p3,p4,p5))) else some (.inl (dL (s1+1))) else some (.inr (.inl ()))) (0:Int)) λoZ=>some (bI,false,p0,p1,p2,p3,p4,p5)) λKW=>ck (decide (p3.length=KW.2.2.2.2.2.1.length)) <|ck (decide (p4.length=KW.2.2.2.2.2.2.1.length)) <|ck (decide (p5.length=KW.2.2.2.2.2.2.2.length)) <|some KW
def f143(p0:Int)(p1:eH)(p2:Int)(p3:eP)(p4:(List aB))(p5:bG):Option (jm×Bool×Int×eH×Int×eP×(List aB)×bG):=OB (afd p0 p1 p2 p3 p4 p5) λ(y:(jm×Bool×Int×eH×Int×eP×(List aB)×bG))=>yH y.2.2.2.2.2.1 p3 <| yH y.2.2.2.2.2.2.1 p4 <| yH y.2.2.2.2.2.2.2 p5 <| some y
def ajG:aY:=⟨aoG,u6 afd⟩
theorem afe:aC Tryz.prog 143 ajG:=
 ts [(150,ajB)] ety [.tmp 2,.tmp 3] aoH Tryz.func143 rfl ⟨ae4,trivial⟩
def Oe(qZ:Qw)(aff:Qx)(p0 p1:Int)(p2:eH)(p3:Int)(p4:eP)(p5:(List aB))(p6:bG):Option (Int×Int×Int×Int×jm×nI×Int×eH×Int×eP×(List aB)×bG):= OB (OB (bif (decide (p0<1)) then some (true,p2,p3) else OB (f24 3 p2 p3) λc1=>some ((decide (c1.1=0)),c1.2)) λs4=>bif s4.1 then OB (f151 p1 s4.2.1 s4.2.2 p4 p5 p6) λc5=>some (c5.1,c5.2.1,c5.2.2.1,c5.2.2.2.1,c5.2.2.2.2.1,qh,c5.2.2.2.2.2.1,c5.2.2.2.2.2.2.1,c5.2.2.2.2.2.2.2.1,p4,p5,p6) else OB (f24 9 s4.2.1 s4.2.2) λc6=>bif (decide (c6.1=0)) then OB (f24 2 c6.2.1 c6.2.2) λc8=>OB (qZ (dL (p0-1)) p1 c8.2.1 c8.2.2 p4 p5 p6) λc11=>OB (f152 5 (dL (1+c8.1)) [(aQ.mk c11.1 c11.2.1 c11.2.2.1 c11.2.2.2.1 c11.2.2.2.2.1 c11.2.2.2.2.2.1)]) λc13=>some (c13.1,c13.2.1,c13.2.2.1,c13.2.2.2.1,c13.2.2.2.2.1,c13.2.2.2.2.2,c11.2.2.2.2.2.2.1,c11.2.2.2.2.2.2.2.1,c11.2.2.2.2.2.2.2.2.1,p4,p5,p6) else bif (decide (c6.1=1)) then OB (qZ (dL (p0-1)) p1 c6.2.1 c6.2.2 p4 p5 p6) λc16=>OB (qZ (dL (p0-1)) c16.2.2.2.2.2.2.1 c16.2.2.2.2.2.2.2.1 c16.2.2.2.2.2.2.2.2.1 p4 p5 p6) λc18=>OB (f152 7 0 [(aQ.mk c16.1 c16.2.1 c16.2.2.1 c16.2.2.2.1 c16.2.2.2.2.1 c16.2.2.2.2.2.1),(aQ.mk c18.1 c18.2.1 c18.2.2.1 c18.2.2.2.1 c18.2.2.2.2.1 c18.2.2.2.2.2.1)]) λc20=>some (c20.1,c20.2.1,c20.2.2.1,c20.2.2.2.1,c20.2.2.2.2.1,c20.2.2.2.2.2,c18.2.2.2.2.2.2.1,c18.2.2.2.2.2.2.2.1,c18.2.2.2.2.2.2.2.2.1,p4,p5,p6) else bif (decide (c6.1=2)) then OB (qZ (dL (p0-1)) p1 c6.2.1 c6.2.2 p4 p5 p6) λc23=>OB (qZ (dL (p0-1)) c23.2.2.2.2.2.2.1 c23.2.2.2.2.2.2.2.1 c23.2.2.2.2.2.2.2.2.1 p4 p5 p6) λc25=>OB (f152 8 0 [(aQ.mk c23.1 c23.2.1 c23.2.2.1 c23.2.2.2.1 c23.2.2.2.2.1 c23.2.2.2.2.2.1),(aQ.mk c25.1 c25.2.1 c25.2.2.1 c25.2.2.2.1 c25.2.2.2.2.1 c25.2.2.2.2.2.1)]) λXn=>some (Xn.1,Xn.2.1,Xn.2.2.1,Xn.2.2.2.1,Xn.2.2.2.2.1,Xn.2.2.2.2.2,c25.2.2.2.2.2.2.1,c25.2.2.2.2.2.2.2.1,c25.2.2.2.2.2.2.2.2.1,p4,p5,p6) else OB (bif (decide (c6.1=3)) then some true else some (decide (c6.1=4))) λE_=>bif E_ then OB (aff p0 p1 c6.2.1 c6.2.2 p4 p5 p6) λc31=>some (c31.1,c31.2.1,c31.2.2.1,c31.2.2.2.1,c31.2.2.2.2.1,c31.2.2.2.2.2.2.2.2.2.2.2,c31.2.2.2.2.2.1,c31.2.2.2.2.2.2.1,c31.2.2.2.2.2.2.2.1,p4,p5,p6) else d_ (bif (decide (c6.1=5)) then OB (f146 true p1 c6.2.1 c6.2.2 p4 p5 p6) λLK=>bif LK.2.1 then OB (qZ (dL (p0-1)) LK.2.2.1 LK.2.2.2.1 LK.2.2.2.2.1 p4 p5 p6) λIp=>some (.inr ((4:Int),(0:Int),(0:Int),(0:Int),LK.1,[(aQ.mk Ip.1 Ip.2.1 Ip.2.2.1 Ip.2.2.2.1 Ip.2.2.2.2.1 Ip.2.2.2.2.2.1)],Ip.2.2.2.2.2.2.1,Ip.2.2.2.2.2.2.2.1,Ip.2.2.2.2.2.2.2.2.1,p4,p5,p6)) else some (.inl (LK.2.2.1,LK.2.2.2.1,LK.2.2.2.2.1)) else some (.inl (p1,c6.2))) λs37=>OB (f24 9 s37.2.1 s37.2.2) λc38=>OB (qZ (dL (p0-1)) s37.1 c38.2.1 c38.2.2 p4 p5 p6) λXq=>OB (qZ (dL (p0-1)) Xq.2.2.2.2.2.2.1 Xq.2.2.2.2.2.2.2.1 Xq.2.2.2.2.2.2.2.2.1 p4 p5 p6) λc43=>OB (f152 6 (dL (3+c38.1)) [(aQ.mk Xq.1 Xq.2.1 Xq.2.2.1 Xq.2.2.2.1 Xq.2.2.2.2.1 Xq.2.2.2.2.2.1),(aQ.mk c43.1 c43.2.1 c43.2.2.1 c43.2.2.2.1 c43.2.2.2.2.1 c43.2.2.2.2.2.1)]) λQZ=>some (QZ.1,QZ.2.1,QZ.2.2.1,QZ.2.2.2.1,QZ.2.2.2.2.1,QZ.2.2.2.2.2,c43.2.2.2.2.2.2.1,c43.2.2.2.2.2.2.2.1,c43.2.2.2.2.2.2.2.2.1,p4,p5,p6)) λs46=>ck (decide (p4.length=s46.2.2.2.2.2.2.2.2.2.1.length)) <|ck (decide (p5.length=s46.2.2.2.2.2.2.2.2.2.2.1.length)) <|ck (decide (p6.length=s46.2.2.2.2.2.2.2.2.2.2.2.length)) <|some s46
def ahZ(p0:Int)(p1:Int)(p2:eH)(p3:Int)(p4:eP)(p5:(List aB))(p6:bG)(r:Option (Int×Int×Int×Int×jm×nI×Int×eH×Int×eP×(List aB)×bG)):Option (Int×Int×Int×Int×jm×nI×Int×eH×Int×eP×(List aB)×bG):=OB r λ(y:(Int×Int×Int×Int×jm×nI×Int×eH×Int×eP×(List aB)×bG))=>yH y.2.2.2.2.2.2.2.2.2.1 p4 <| yH y.2.2.2.2.2.2.2.2.2.2.1 p5 <| yH y.2.2.2.2.2.2.2.2.2.2.2 p6 <| some y
def Zt(qZ:Qw)(aff:Qx)(p0 p1:Int)(p2:eH)(p3:Int)(p4:eP)(p5:(List aB))(p6:bG):Option (Int×Int×Int×Int×jm×Int×eH×Int×eP×(List aB)×bG×nI):= OB (OB (f24 (p5.length:Int) p2 p3) λc1=>ck (inB c1.1 p5.length) <|let n2:=(List.getD p5 c1.1.toNat bC);OB (f24 3 c1.2.1 c1.2.2) λc4=>let n5:=(decide (c4.1=2));OB (bif n5 then OB (f24 8 c4.2.1 c4.2.2) λc6=>some ((decide (c6.1=7)),c6.2) else some (false,c4.2)) λs9=>OB (bif s9.1 then OB (f24 3 s9.2.1 s9.2.2) λc10=>some c10 else some (((List.length n2.params):Int),s9.2)) λs11=>OB (bF (λ(s12:(Int×Int×eH×Int×nI))=>bif (decide (s12.1<s11.1)) then OB (qZ (dL (p0-1)) s12.2.1 s12.2.2.1 s12.2.2.2.1 p4 p5 p6) λc15=>let n16:=[(aQ.mk c15.1 c15.2.1 c15.2.2.1 c15.2.2.2.1 c15.2.2.2.2.1 c15.2.2.2.2.2.1)];ck (aX s12.2.2.2.2.length n16.length 72) <|some (.inl ((dL (s12.1+1)),c15.2.2.2.2.2.2.1,c15.2.2.2.2.2.2.2.1,c15.2.2.2.2.2.2.2.2.1,(s12.2.2.2.2++n16))) else some (.inr s12.2)) ((0:Int),p1,s11.2.1,s11.2.2,qh)) λvG=>bif (!n5) then some ((9:Int),(0:Int),(0:Int),(0:Int),n2.name,vG.1,vG.2.1,vG.2.2.1,p4,p5,p6,vG.2.2.2) else OB (f24 4 vG.2.1 vG.2.2.1) λc21=>OB (bif (decide (c21.1=3)) then OB (qZ (dL (p0-1)) vG.1 c21.2.1 c21.2.2 p4 p5 p6) λc24=>some (c24.2.2.2.2.2.2.1,c24.2.2.2.2.2.2.2.1,c24.2.2.2.2.2.2.2.2.1,c24.1,c24.2.1,c24.2.2.1,c24.2.2.2.1,c24.2.2.2.2.1,c24.2.2.2.2.2.1) else some (vG.1,c21.2.1,c21.2.2,(11:Int),(0:Int),(0:Int),(0:Int),n2.name,qh)) λvH=>bif (decide (vH.2.2.2.1=13)) then some ((9:Int),(0:Int),(0:Int),(0:Int),vH.2.2.2.2.2.2.2.1,vH.1,vH.2.1,vH.2.2.1,p4,p5,p6,vG.2.2.2) else let n27:=[(aQ.mk vH.2.2.2.1 vH.2.2.2.2.1 vH.2.2.2.2.2.1 vH.2.2.2.2.2.2.1 vH.2.2.2.2.2.2.2.1 vH.2.2.2.2.2.2.2.2)];ck (aX n27.length vG.2.2.2.length 72) <|some ((10:Int),(0:Int),(0:Int),(0:Int),bI,vH.1,vH.2.1,vH.2.2.1,p4,p5,p6,(n27++vG.2.2.2))) λs29=>ck (decide (p4.length=s29.2.2.2.2.2.2.2.2.1.length)) <|ck (decide (p5.length=s29.2.2.2.2.2.2.2.2.2.1.length)) <|ck (decide (p6.length=s29.2.2.2.2.2.2.2.2.2.2.1.length)) <|some s29
def ah0(p0:Int)(p1:Int)(p2:eH)(p3:Int)(p4:eP)(p5:(List aB))(p6:bG)(r:Option (Int×Int×Int×Int×jm×Int×eH×Int×eP×(List aB)×bG×nI)):Option (Int×Int×Int×Int×jm×Int×eH×Int×eP×(List aB)×bG×nI):=OB r λ(y:(Int×Int×Int×Int×jm×Int×eH×Int×eP×(List aB)×bG×nI))=>yH y.2.2.2.2.2.2.2.2.1 p4 <| yH y.2.2.2.2.2.2.2.2.2.1 p5 <| yH y.2.2.2.2.2.2.2.2.2.2.1 p6 <| some y
def o8:Nat->Qw×Qx
 |0=>(λ_ _ _ _ _ _ _=>none,λ_ _ _ _ _ _ _=>none)
 |n+1=>(Oe (λp0 p1 p2 p3 p4 p5 p6=>ahZ p0 p1 p2 p3 p4 p5 p6 ((o8 n).1 p0 p1 p2 p3 p4 p5 p6)) (λp0 p1 p2 p3 p4 p5 p6=>ah0 p0 p1 p2 p3 p4 p5 p6 ((o8 n).2 p0 p1 p2 p3 p4 p5 p6)),Zt (λp0 p1 p2 p3 p4 p5 p6=>ahZ p0 p1 p2 p3 p4 p5 p6 ((o8 n).1 p0 p1 p2 p3 p4 p5 p6)) (λp0 p1 p2 p3 p4 p5 p6=>ah0 p0 p1 p2 p3 p4 p5 p6 ((o8 n).2 p0 p1 p2 p3 p4 p5 p6)))
def Zu(n:Nat):Qw:=(λp0 p1 p2 p3 p4 p5 p6=>ahZ p0 p1 p2 p3 p4 p5 p6 ((o8 n).1 p0 p1 p2 p3 p4 p5 p6))
def Bz(n:Nat):aY:=⟨ajg,u7 (o8 n).1⟩
def Zv(n:Nat):Qx:=(λp0 p1 p2 p3 p4 p5 p6=>ah0 p0 p1 p2 p3 p4 p5 p6 ((o8 n).2 p0 p1 p2 p3 p4 p5 p6))
def BA(n:Nat):aY:=⟨ajh,u7 (o8 n).2⟩
theorem abG(n:Nat)(alJ:aC Tryz.prog 145 (Bz n))(alK:aC Tryz.prog 148 (BA n)):aC Tryz.prog 145 (Bz (n+1)):=
 ts [(24,E8),(151,ajC),(152,ae6),(146,UU),(145,Bz n),(148,BA n)] ety [.cell 4 179] aoI Tryz.func145 rfl ⟨mW,ae5,UW,DV,alJ,alK,trivial⟩
theorem abH(n:Nat)(alJ:aC Tryz.prog 145 (Bz n))(alK:aC Tryz.prog 148 (BA n)):aC Tryz.prog 148 (BA (n+1)):=
 ts [(24,E8),(145,Bz n),(148,BA n)] ety [.cell 4 179] aoJ Tryz.func148 rfl ⟨mW,alJ,alK,trivial⟩
theorem wU :∀n,aC Tryz.prog 145 (Bz n)/\aC Tryz.prog 148 (BA n)
 |0=>⟨dW Tryz.func145 rfl rfl (show ajg.er.ok=true by decide +kernel) λx=>rfl,dW Tryz.func148 rfl rfl (show ajh.er.ok=true by decide +kernel) λx=>rfl⟩
 |n+1=>by
  have ih:=wU n
  exact ⟨abG n (ih.1) (ih.2),abH n (ih.1) (ih.2)⟩
def f145:Qw:=Zu 1048576
def afg:aY:=Bz 1048576
theorem UZ:aC Tryz.prog 145 afg:=(wU 1048576).1
def f148:Qx:=Zv 1048576
def ajH:aY:=BA 1048576
theorem afh:aC Tryz.prog 148 ajH:=(wU 1048576).2
def Zw(Fe:MO)(Xr:UA)(Xt:UC)(p0 p1 p2:Int)(p3:eH)(p4:Int)(p5:eP)(p6:(List aB))(p7:bG):Option (Int×eH×Int×eP×(List aB)×rF×bG):= OB (OB (bF (λ(s0:(Int×Int×eH×Int×rF×bG))=>OB (bif (decide (s0.1<p1)) then some (decide (0<s0.2.1)) else some false) λs4=>bif s4 then OB (Xr p0 (dL (s0.2.1-1)) s0.2.2.1 s0.2.2.2.1 p5 p6 s0.2.2.2.2.2) λc6=>let n7:=[(bZ.mk c6.1 c6.2.1 c6.2.2.1 c6.2.2.2.2.2.2.2.2.1 c6.2.2.2.2.2.2.2.2.2.1 c6.2.2.2.2.2.2.2.2.2.2.1)];ck (aX s0.2.2.2.2.1.length n7.length 104) <|some (.inl ((dL (s0.1+1)),c6.2.2.2.1,c6.2.2.2.2.1,c6.2.2.2.2.2.1,(s0.2.2.2.2.1++n7),c6.2.2.2.2.2.2.2.2.2.2.2)) else some (.inr s0.2)) ((0:Int),p2,p3,p4,jy,p7)) λs10=>some (s10.1,s10.2.1,s10.2.2.1,p5,p6,s10.2.2.2)) λs11=>ck (decide (p5.length=s11.2.2.2.1.length)) <|ck (decide (p6.length=s11.2.2.2.2.1.length)) <|some s11
def afi(p0:Int)(p1:Int)(p2:Int)(p3:eH)(p4:Int)(p5:eP)(p6:(List aB))(p7:bG)(r:Option (Int×eH×Int×eP×(List aB)×rF×bG)):Option (Int×eH×Int×eP×(List aB)×rF×bG):=OB r λ(y:(Int×eH×Int×eP×(List aB)×rF×bG))=>yH y.2.2.2.1 p5 <| yH y.2.2.2.2.1 p6 <| some y
def Zx(Fe:MO)(Xr:UA)(Xt:UC)(p0 p1:Int)(p2:eH)(p3:Int)(p4:eP)(p5:(List aB))(p6:bG):Option (Int×Int×jm×Int×eH×Int×eP×(List aB)×nI×rF×rF×bG):= OB (OB (f24 10 p2 p3) λc0=>OB (bif (decide (c0.1=0)) then some true else some (decide (c0.1=1))) λs3=>d_ (bif s3 then OB (f143 p1 c0.2.1 c0.2.2 p4 p5 p6) λc4=>bif c4.2.1 then OB (f145 2 c4.2.2.1 c4.2.2.2.1 c4.2.2.2.2.1 p4 p5 p6) λc5=>OB (f144 1 c4.1 c5.1 c5.2.1 c5.2.2.1 c5.2.2.2.1 c5.2.2.2.2.1 c5.2.2.2.2.2.1) λc6=>let n7:=[c4.1];ck (aX p6.length n7.length 16) <|some (.inr (c6.1,c6.2.1,c6.2.2.1,c5.2.2.2.2.2.2.1,c5.2.2.2.2.2.2.2.1,c5.2.2.2.2.2.2.2.2.1,p4,p5,c6.2.2.2,jy,jy,(p6++n7))) else some (.inl (c4.2.2.1,c4.2.2.2.1,c4.2.2.2.2.1)) else d_ (bif (decide (c0.1=2)) then bif (decide (0<(p6.length:Int))) then OB (f24 (p6.length:Int) c0.2.1 c0.2.2) λc13=>ck (inB c13.1 p6.length) <|OB (f145 2 p1 c13.2.1 c13.2.2 p4 p5 p6) λc15=>OB (f144 2 (List.getD p6 c13.1.toNat bI) c15.1 c15.2.1 c15.2.2.1 c15.2.2.2.1 c15.2.2.2.2.1 c15.2.2.2.2.2.1) λc16=>some (.inr (.inr (c16.1,c16.2.1,c16.2.2.1,c15.2.2.2.2.2.2.1,c15.2.2.2.2.2.2.2.1,c15.2.2.2.2.2.2.2.2.1,p4,p5,c16.2.2.2,jy,jy,p6))) else some (.inl (p1,c0.2)) else d_ (bif (decide (c0.1=3)) then OB (f146 false p1 c0.2.1 c0.2.2 p4 p5 p6) λc18=>bif c18.2.1 then OB (f145 2 c18.2.2.1 c18.2.2.2.1 c18.2.2.2.2.1 p4 p5 p6) λc19=>OB (f144 2 c18.1 c19.1 c19.2.1 c19.2.2.1 c19.2.2.2.1 c19.2.2.2.2.1 c19.2.2.2.2.2.1) λc20=>some (.inr (.inr (.inr (c20.1,c20.2.1,c20.2.2.1,c19.2.2.2.2.2.2.1,c19.2.2.2.2.2.2.2.1,c19.2.2.2.2.2.2.2.2.1,p4,p5,c20.2.2.2,jy,jy,p6)))) else some (.inl (c18.2.2.1,c18.2.2.2.1,c18.2.2.2.2.1)) else d_ (bif (decide (c0.1=4)) then OB (f146 true p1 c0.2.1 c0.2.2 p4 p5 p6) λLc=>bif Lc.2.1 then OB (f145 1 Lc.2.2.1 Lc.2.2.2.1 Lc.2.2.2.2.1 p4 p5 p6) λc23=>OB (f145 2 c23.2.2.2.2.2.2.1 c23.2.2.2.2.2.2.2.1 c23.2.2.2.2.2.2.2.2.1 p4 p5 p6) λc24=>some (.inr (.inr (.inr (.inr ((3:Int),(0:Int),Lc.1,c24.2.2.2.2.2.2.1,c24.2.2.2.2.2.2.2.1,c24.2.2.2.2.2.2.2.2.1,p4,p5,[(aQ.mk c23.1 c23.2.1 c23.2.2.1 c23.2.2.2.1 c23.2.2.2.2.1 c23.2.2.2.2.2.1),(aQ.mk c24.1 c24.2.1 c24.2.2.1 c24.2.2.2.1 c24.2.2.2.2.1 c24.2.2.2.2.2.1)],jy,jy,p6))))) else some (.inl (Lc.2.2.1,Lc.2.2.2.1,Lc.2.2.2.2.1)) else OB (bif (decide (c0.1=5)) then some true else some (decide (c0.1=6))) λIh=>d_ (bif Ih then bif (decide (0<p0)) then OB (f145 2 p1 c0.2.1 c0.2.2 p4 p5 p6) λOa=>OB (f144 4 bI Oa.1 Oa.2.1 Oa.2.2.1 Oa.2.2.2.1 Oa.2.2.2.2.1 Oa.2.2.2.2.2.1) λc31=>OB (f24 2 Oa.2.2.2.2.2.2.2.1 Oa.2.2.2.2.2.2.2.2.1) λLK=>OB (Fe (dL (p0-1)) (dL (1+LK.1)) Oa.2.2.2.2.2.2.1 LK.2.1 LK.2.2 p4 p5 p6) λIp=>OB (f24 2 Ip.2.1 Ip.2.2.1) λc36=>OB (bif (decide (c36.1=1)) then OB (f24 2 c36.2.1 c36.2.2) λc39=>OB (Fe (dL (p0-1)) (dL (1+c39.1)) Ip.1 c39.2.1 c39.2.2 p4 p5 Ip.2.2.2.2.2.2) λXq=>some (Xq.1,Xq.2.1,Xq.2.2.1,c31.1,c31.2.1,c31.2.2.1,Xq.2.2.2.2.2.2,Xq.2.2.2.2.2.1) else some (Ip.1,c36.2.1,c36.2.2,c31.1,c31.2.1,c31.2.2.1,Ip.2.2.2.2.2.2,jy)) λFa=>some (.inr (.inr (.inr (.inr (.inr (Fa.2.2.2.1,Fa.2.2.2.2.1,Fa.2.2.2.2.2.1,Fa.1,Fa.2.1,Fa.2.2.1,p4,p5,c31.2.2.2,Ip.2.2.2.2.2.1,Fa.2.2.2.2.2.2.2,Fa.2.2.2.2.2.2.1)))))) else some (.inl ()) else d_ (bif (decide (c0.1=7)) then bif (decide (0<p0)) then OB (Xt p0 p1 c0.2.1 c0.2.2 p4 p5 p6) λQZ=>some (.inr (.inr (.inr (.inr (.inr (.inr (QZ.1,QZ.2.1,QZ.2.2.1,QZ.2.2.2.1,QZ.2.2.2.2.1,QZ.2.2.2.2.2.1,p4,p5,QZ.2.2.2.2.2.2.2.2.1,QZ.2.2.2.2.2.2.2.2.2.1,jy,QZ.2.2.2.2.2.2.2.2.2.2))))))) else some (.inl ()) else bif (decide (c0.1=8)) then OB (f24 3 c0.2.1 c0.2.2) λc47=>bif (decide (c47.1=0)) then OB (f145 2 p1 c47.2.1 c47.2.2 p4 p5 p6) λc49=>OB (f144 6 bI c49.1 c49.2.1 c49.2.2.1 c49.2.2.2.1 c49.2.2.2.2.1 c49.2.2.2.2.2.1) λc50=>some (.inr (.inr (.inr (.inr (.inr (.inr (c50.1,c50.2.1,c50.2.2.1,c49.2.2.2.2.2.2.1,c49.2.2.2.2.2.2.2.1,c49.2.2.2.2.2.2.2.2.1,p4,p5,c50.2.2.2,jy,jy,p6))))))) else OB (f148 2 p1 c47.2.1 c47.2.2 p4 p5 p6) λc51=>OB (f144 8 bI c51.1 c51.2.1 c51.2.2.1 c51.2.2.2.1 c51.2.2.2.2.1 c51.2.2.2.2.2.2.2.2.2.2.2) λc52=>some (.inr (.inr (.inr (.inr (.inr (.inr (c52.1,c52.2.1,c52.2.2.1,c51.2.2.2.2.2.1,c51.2.2.2.2.2.2.1,c51.2.2.2.2.2.2.2.1,p4,p5,c52.2.2.2,jy,jy,p6))))))) else some (.inl ())) λs53=>some (.inl ())) λs54=>some (.inl (p1,c0.2))) λVu=>some (.inl Vu)) λs56=>some (.inl s56)) λs57=>some (.inl s57)) λs58=>OB (f145 2 s58.1 s58.2.1 s58.2.2 p4 p5 p6) λc59=>OB (f144 7 bI c59.1 c59.2.1 c59.2.2.1 c59.2.2.2.1 c59.2.2.2.2.1 c59.2.2.2.2.2.1) λc60=>some (c60.1,c60.2.1,c60.2.2.1,c59.2.2.2.2.2.2.1,c59.2.2.2.2.2.2.2.1,c59.2.2.2.2.2.2.2.2.1,p4,p5,c60.2.2.2,jy,jy,p6)) λs61=>ck (decide (p4.length=s61.2.2.2.2.2.2.1.length)) <|ck (decide (p5.length=s61.2.2.2.2.2.2.2.1.length)) <|some s61
def afk(p0:Int)(p1:Int)(p2:eH)(p3:Int)(p4:eP)(p5:(List aB))(p6:bG)(r:Option (Int×Int×jm×Int×eH×Int×eP×(List aB)×nI×rF×rF×bG)):Option (Int×Int×jm×Int×eH×Int×eP×(List aB)×nI×rF×rF×bG):=OB r λ(y:(Int×Int×jm×Int×eH×Int×eP×(List aB)×nI×rF×rF×bG))=>yH y.2.2.2.2.2.2.1 p4 <| yH y.2.2.2.2.2.2.2.1 p5 <| some y
def Zy(Fe:MO)(Xr:UA)(Xt:UC)(p0 p1:Int)(p2:eH)(p3:Int)(p4:eP)(p5:(List aB))(p6:bG):Option (Int×Int×jm×Int×eH×Int×eP×(List aB)×nI×rF×bG):= OB (OB (f146 false p1 p2 p3 p4 p5 p6) λc0=>OB (bif (decide (0<(p6.length:Int))) then OB (f24 3 c0.2.2.2.1 c0.2.2.2.2.1) λc3=>some ((decide (0<c3.1)),c3.2) else some (false,c0.2.2.2.1,c0.2.2.2.2.1)) λs6=>OB (bif s6.1 then OB (f24 (p6.length:Int) s6.2.1 s6.2.2) λc8=>ck (inB c8.1 p6.length) <|some ((List.getD p6 c8.1.toNat bI),true,c8.2) else some (c0.1,c0.2.1,s6.2)) λs10=>OB (bif (!s10.2.1) then some (true,s10.2.2) else OB (f24 8 s10.2.2.1 s10.2.2.2) λc12=>some ((decide (c12.1=7)),c12.2)) λs15=>bif s15.1 then OB (f145 2 c0.2.2.1 s15.2.1 s15.2.2 p4 p5 p6) λc16=>OB (f144 5 bI c16.1 c16.2.1 c16.2.2.1 c16.2.2.2.1 c16.2.2.2.2.1 c16.2.2.2.2.2.1) λc17=>OB (f24 2 c16.2.2.2.2.2.2.2.1 c16.2.2.2.2.2.2.2.2.1) λc19=>OB (Fe (dL (p0-1)) (dL (1+c19.1)) c16.2.2.2.2.2.2.1 c19.2.1 c19.2.2 p4 p5 p6) λc21=>some (c17.1,c17.2.1,c17.2.2.1,c21.1,c21.2.1,c21.2.2.1,p4,p5,c17.2.2.2,c21.2.2.2.2.2) else OB (f24 5 s15.2.1 s15.2.2) λLc=>OB (f152 6 8 [(aQ.mk 13 0 0 0 s10.1 qh),(aQ.mk 1 0 (dL (1+Lc.1)) 0 bI qh)]) λc25=>OB (f144 5 bI c25.1 c25.2.1 c25.2.2.1 c25.2.2.2.1 c25.2.2.2.2.1 c25.2.2.2.2.2) λc26=>OB (f24 3 Lc.2.1 Lc.2.2) λc28=>OB (Fe (dL (p0-1)) c28.1 c0.2.2.1 c28.2.1 c28.2.2 p4 p5 p6) λc29=>OB (f152 6 3 [(aQ.mk 13 0 0 0 s10.1 qh),(aQ.mk 1 0 1 0 bI qh)]) λc31=>OB (f144 2 s10.1 c31.1 c31.2.1 c31.2.2.1 c31.2.2.2.1 c31.2.2.2.2.1 c31.2.2.2.2.2) λc32=>let n33:=[(bZ.mk c32.1 c32.2.1 c32.2.2.1 c32.2.2.2 jy jy)];ck (aX c29.2.2.2.2.2.1.length n33.length 104) <|some (c26.1,c26.2.1,c26.2.2.1,c29.1,c29.2.1,c29.2.2.1,p4,p5,c26.2.2.2,(c29.2.2.2.2.2.1++n33),c29.2.2.2.2.2.2)) λZb=>ck (decide (p4.length=Zb.2.2.2.2.2.2.1.length)) <|ck (decide (p5.length=Zb.2.2.2.2.2.2.2.1.length)) <|some Zb
def afl(p0:Int)(p1:Int)(p2:eH)(p3:Int)(p4:eP)(p5:(List aB))(p6:bG)(r:Option (Int×Int×jm×Int×eH×Int×eP×(List aB)×nI×rF×bG)):Option (Int×Int×jm×Int×eH×Int×eP×(List aB)×nI×rF×bG):=OB r λ(y:(Int×Int×jm×Int×eH×Int×eP×(List aB)×nI×rF×bG))=>yH y.2.2.2.2.2.2.1 p4 <| yH y.2.2.2.2.2.2.2.1 p5 <| some y
def jr:Nat->MO×UA×UC
 |0=>(λ_ _ _ _ _ _ _ _=>none,λ_ _ _ _ _ _ _=>none,λ_ _ _ _ _ _ _=>none)
 |n+1=>(Zw (λp0 p1 p2 p3 p4 p5 p6 p7=>afi p0 p1 p2 p3 p4 p5 p6 p7 ((jr n).1 p0 p1 p2 p3 p4 p5 p6 p7)) (λp0 p1 p2 p3 p4 p5 p6=>afk p0 p1 p2 p3 p4 p5 p6 ((jr n).2.1 p0 p1 p2 p3 p4 p5 p6)) (λp0 p1 p2 p3 p4 p5 p6=>afl p0 p1 p2 p3 p4 p5 p6 ((jr n).2.2 p0 p1 p2 p3 p4 p5 p6)),Zx (λp0 p1 p2 p3 p4 p5 p6 p7=>afi p0 p1 p2 p3 p4 p5 p6 p7 ((jr n).1 p0 p1 p2 p3 p4 p5 p6 p7)) (λp0 p1 p2 p3 p4 p5 p6=>afk p0 p1 p2 p3 p4 p5 p6 ((jr n).2.1 p0 p1 p2 p3 p4 p5 p6)) (λp0 p1 p2 p3 p4 p5 p6=>afl p0 p1 p2 p3 p4 p5 p6 ((jr n).2.2 p0 p1 p2 p3 p4 p5 p6)),Zy (λp0 p1 p2 p3 p4 p5 p6 p7=>afi p0 p1 p2 p3 p4 p5 p6 p7 ((jr n).1 p0 p1 p2 p3 p4 p5 p6 p7)) (λp0 p1 p2 p3 p4 p5 p6=>afk p0 p1 p2 p3 p4 p5 p6 ((jr n).2.1 p0 p1 p2 p3 p4 p5 p6)) (λp0 p1 p2 p3 p4 p5 p6=>afl p0 p1 p2 p3 p4 p5 p6 ((jr n).2.2 p0 p1 p2 p3 p4 p5 p6)))
def U0(n:Nat):MO:=(λp0 p1 p2 p3 p4 p5 p6 p7=>afi p0 p1 p2 p3 p4 p5 p6 p7 ((jr n).1 p0 p1 p2 p3 p4 p5 p6 p7))
def wW(n:Nat):aY:=⟨aji,u8 (jr n).1⟩
def Zz(n:Nat):UA:=(λp0 p1 p2 p3 p4 p5 p6=>afk p0 p1 p2 p3 p4 p5 p6 ((jr n).2.1 p0 p1 p2 p3 p4 p5 p6))
def y7(n:Nat):aY:=⟨ajj,u7 (jr n).2.1⟩
def ZA(n:Nat):UC:=(λp0 p1 p2 p3 p4 p5 p6=>afl p0 p1 p2 p3 p4 p5 p6 ((jr n).2.2 p0 p1 p2 p3 p4 p5 p6))
def y8(n:Nat):aY:=⟨ajk,u7 (jr n).2.2⟩
theorem abI(n:Nat)(afm:aC Tryz.prog 103 (wW n))(h128:aC Tryz.prog 128 (y7 n))(afn:aC Tryz.prog 147 (y8 n)):aC Tryz.prog 103 (wW (n+1)):=
 ts [(103,wW n),(128,y7 n),(147,y8 n)] ety [.tmp 6] aoK Tryz.func103 rfl ⟨afm,h128,afn,trivial⟩
theorem abJ(n:Nat)(afm:aC Tryz.prog 103 (wW n))(h128:aC Tryz.prog 128 (y7 n))(afn:aC Tryz.prog 147 (y8 n)):aC Tryz.prog 128 (y7 (n+1)):=
 ts [(24,E8),(143,ajG),(145,afg),(144,ae3),(146,UU),(148,ajH),(103,wW n),(128,y7 n),(147,y8 n)] ety [.cell 4 150] aoL Tryz.func128 rfl ⟨mW,afe,UZ,UR,DV,afh,afm,h128,afn,trivial⟩
theorem abK(n:Nat)(afm:aC Tryz.prog 103 (wW n))(h128:aC Tryz.prog 128 (y7 n))(afn:aC Tryz.prog 147 (y8 n)):aC Tryz.prog 147 (y8 (n+1)):=
 ts [(146,UU),(24,E8),(145,afg),(144,ae3),(152,ae6),(103,wW n),(128,y7 n),(147,y8 n)] ety [.cell 4 150] aoM Tryz.func147 rfl ⟨DV,mW,UZ,UR,UW,afm,h128,afn,trivial⟩
theorem DX :∀n,aC Tryz.prog 103 (wW n)/\aC Tryz.prog 128 (y7 n)/\aC Tryz.prog 147 (y8 n)
 |0=>⟨dW Tryz.func103 rfl rfl (show aji.er.ok=true by decide +kernel) λx=>rfl,dW Tryz.func128 rfl rfl (show ajj.er.ok=true by decide +kernel) λx=>rfl,dW Tryz.func147 rfl rfl (show ajk.er.ok=true by decide +kernel) λx=>rfl⟩
 |n+1=>by
  have ih:=DX n
  exact ⟨abI n (ih.1) (ih.2.1) (ih.2.2),abJ n (ih.1) (ih.2.1) (ih.2.2),abK n (ih.1) (ih.2.1) (ih.2.2)⟩
def f103:MO:=U0 1048576
def ajI:aY:=wW 1048576
theorem afo:aC Tryz.prog 103 ajI:=(DX 1048576).1
def f9(p0:eP)(p1:KU)(p2 p3:Int)(p4:eH)(p5:Int):Option (eH×Int×eH×MK):= OB (f27 p0 p1 p2 p3) λc0=>OB (bF (λ(s1:(Int×eH×Int×eH))=>bif (decide (s1.1<(s1.2.2.2.length:Int))) then OB (f24 (dL (s1.1+1)) s1.2.1 s1.2.2.1) λc5=>ck (inB c5.1 s1.2.2.2.length) <|ck (inB s1.1 s1.2.2.2.length) <|ck (inB s1.1 s1.2.2.2.length) <|let n8:=(List.set s1.2.2.2 s1.1.toNat (List.getD s1.2.2.2 c5.1.toNat 0));ck (inB c5.1 n8.length) <|some (.inl ((dL (s1.1+1)),c5.2.1,c5.2.2,(List.set n8 c5.1.toNat (List.getD s1.2.2.2 s1.1.toNat 0)))) else some (.inr s1.2)) ((1:Int),p4,p5,c0.1)) λs11=>OB (bF (λ(s12:(Int×eH×Int×MK))=>bif (decide (s12.1<(s12.2.2.2.length:Int))) then ck (inB s12.1 p1.length) <|let n15:=(List.getD p1 s12.1.toNat ah);OB (f28 n15.name n15.params n15.regs n15.blocks s12.2.1 s12.2.2.1) λc16=>ck (inB s12.1 s12.2.2.2.length) <|some (.inl ((dL (s12.1+1)),c16.1,c16.2.1,(List.set s12.2.2.2 s12.1.toNat c16.2.2))) else some (.inr s12.2)) ((0:Int),s11.1,s11.2.1,c0.2)) λvG=>some (vG.1,vG.2.1,s11.2.2,vG.2.2)
def sp9:aY:=⟨sg9,u6 f9⟩
theorem alL:aC Tryz.prog 9 sp9:=
 ts [(27,ao5),(24,E8),(28,ao6)] ety [.cell 4 34] an9 Tryz.func9 rfl ⟨ahQ,mW,ahR,trivial⟩
def f49(p0:jm)(p1 p2:Int)(p3:ng):Option (jm×Int×Int×ng):= OB (f82 p0 p1 p2 p3) λc0=>let n1:=(c0.length:Int);ck (JD (8:Nat) n1 n1) <|OB (bF (λ(s3:(Int×Int×eH))=>bif (decide (s3.2.1<(c0.length:Int))) then ck (inB s3.2.1 s3.2.2.length) <|ck (inB s3.2.1 c0.length) <|OB (bif (List.getD c0 s3.2.1.toNat false) then some (dL (s3.1+1)) else some s3.1) λs9=>some (.inl (s9,(dL (s3.2.1+1)),(List.set s3.2.2 s3.2.1.toNat s3.1))) else some (.inr s3.2.2)) ((0:Int),(0:Int),(List.replicate n1.toNat (0:Int)))) λs11=>OB (bF (λ(s12:(Int×jm×Int×Int×ng))=>bif (decide (s12.1<(c0.length:Int))) then OB (ck (inB s12.1 c0.length) <|bif (!(List.getD c0 s12.1.toNat false)) then some s12.2 else ck (inB s12.1 p3.length) <|let n17:=(List.getD p3 s12.1.toNat au);OB (bif (!(decide (n17.bT=3))) then ck (inB n17.f_ s11.length) <|some (n17.instrs,n17.bT,n17.lY,(List.getD s11 (Int.toNat n17.f_) 0),n17.dF,n17.line,n17.gY,n17.gG) else some (n17.instrs,n17.bT,n17.lY,n17.f_,n17.dF,n17.line,n17.gY,n17.gG)) λs20=>OB (bif (decide (s20.2.1=2)) then ck (inB s20.2.2.2.2.1 s11.length) <|some (s20.1,s20.2.1,s20.2.2.1,s20.2.2.2.1,(List.getD s11 s20.2.2.2.2.1.toNat 0),s20.2.2.2.2.2) else some s20) λs23=>let n24:=[(aK.mk s23.1 s23.2.1 s23.2.2.1 s23.2.2.2.1 s23.2.2.2.2.1 s23.2.2.2.2.2.1 s23.2.2.2.2.2.2.1 s23.2.2.2.2.2.2.2)];ck (aX s12.2.2.2.2.length n24.length 80) <|some (s12.2.1,s12.2.2.1,s12.2.2.2.1,(s12.2.2.2.2++n24))) λs26=>some (.inl ((dL (s12.1+1)),s26)) else some (.inr s12.2)) ((0:Int),p0,p1,p2,([]:ng))) λIh=>some Ih
def apc:aY:=⟨asu,u4 f49⟩
theorem ah1:aC Tryz.prog 49 apc:=
 ts [(82,alG)] ety [.cell 2 46] asv Tryz.func49 rfl ⟨Zq,trivial⟩
def f58(p0 p1 p2 p3 p4 p5:Int)(p6:Bool)(p7:eH):Option Int:= OB (f87 p0 p1 p2 p3 p4 p5 p6 p7) λc0=>bif (!c0) then some (17:Int) else OB (f88 p0 p1 p2 p3 p4 p5 p6 p7) λc2=>OB (OB (f89 c2) λc3=>bif c3 then some true else bif (decide (250<(p7.length:Int))) then ck (inB p0 (19:Nat)) <|let n6:=(List.getD Qv p0.toNat bI);ck (inB p0 (19:Nat)) <|let n9:=(dL (((List.getD Qv p0.toNat bI).length:Int)-1));ck (inB n9 n6.length) <|some (decide (((UInt8.toNat (List.getD n6 n9.toNat (0:UInt8))):Int)=110)) else some false) λs15=>bif s15 then some (14:Int) else OB (f91 p0 p1 p2 p3 p4 p5 p6 p7) λc16=>bif (!c16) then some (1:Int) else some (0:Int)
def apd:aY:=⟨asw,u8 f58⟩
theorem ah2:aC Tryz.prog 58 apd:=
 ts [(87,aoZ),(88,ao0),(89,ao9),(91,ao1)] ety [.tmp 2] asx Tryz.func58 rfl ⟨ahK,ahL,ahX,ahM,trivial⟩
def f80(p0:eP)(p1:(List aB)):Option (Int×Int×eP×(List aB)):= OB (bif (decide (64<(p1.length:Int))) then some true else some (decide (32<(p0.length:Int)))) λs5=>bif s5 then some ((0:Int),(5:Int),eG,wR) else OB (bif (decide ((p1.length:Int)=0)) then some true else ck (inB (0:Int) p1.length) <|bif (!((List.getD p1 (Int.toNat 0) bC).name==[(109:UInt8),(97:UInt8),(105:UInt8),(110:UInt8)])) then some true else ck (inB (0:Int) p1.length) <|some (decide (0<((List.length (List.getD p1 (Int.toNat 0) bC).params):Int)))) λs15=>bif s15 then some ((0:Int),(12:Int),eG,wR) else d_ (bF (λ(s16:Int)=>bif (decide (s16<(p0.length:Int))) then ck (inB s16 p0.length) <|OB (f97 p0 p1 (List.getD p0 s16.toNat (aA.mk bI 0)).name) λc20=>bif (!(decide (c20=s16))) then some (.inr (.inr ((0:Int),(9:Int),eG,wR))) else some (.inl (dL (s16+1))) else some (.inr (.inl ()))) (0:Int)) λs23=>d_ (bF (λ(s24:Int)=>bif (decide (s24<(p1.length:Int))) then OB (ck (inB s24 p1.length) <|OB (f97 p0 p1 (List.getD p1 s24.toNat bC).name) λc28=>bif (decide (0<=c28)) then some true else ck (inB s24 p1.length) <|OB (f98 p0 p1 (List.getD p1 s24.toNat bC).name) λc31=>some (!(decide (c31=s24)))) λVt=>bif Vt then ck (inB s24 p1.length) <|some (.inr (.inr ((List.getD p1 s24.toNat bC).line,(9:Int),eG,wR))) else some (.inl (dL (s24+1))) else some (.inr (.inl ()))) (0:Int)) λs37=>ck (aX (List.length eG) p0.length 24) <|d_ (bF (λ(LJ:(Int×(List aB)))=>bif (decide (LJ.1<(p1.length:Int))) then ck (inB LJ.1 p1.length) <|let n42:=(List.getD p1 LJ.1.toNat bC);OB (bif (decide (6<((List.length n42.params):Int))) then some true else OB (f74 n42.name n42.line n42.params n42.body) λQZ=>bif (decide (32<(QZ.length:Int))) then some true else OB (f99 n42.body) λc49=>some (decide (24<c49))) λOc=>bif Oc then some (.inr (.inr (n42.line,(5:Int),eG,wR))) else d_ (bF (λ(s53:Int)=>bif (decide (s53<((List.length n42.params):Int))) then OB (ck (Hf (0:Int) s53 (List.length n42.params)) <|ck (inB s53 (List.length n42.params)) <|OB (f100 (List.drop (Int.toNat (0:Int)) (List.take s53.toNat n42.params)) (List.getD n42.params s53.toNat bI)) λZr=>bif Zr then some true else ck (inB s53 (List.length n42.params)) <|OB (f101 p0 p1 (List.getD n42.params s53.toNat bI)) λc60=>some (!(decide (c60=0)))) λs63=>bif s63 then some (.inr (.inr (.inr (.inr (n42.line,(9:Int),eG,wR))))) else some (.inl (dL (s53+1))) else some (.inr (.inl ()))) (0:Int)) λs65=>ck (true&&(decide ((((List.length jX)+(List.length n42.params))*(16:Nat))<=(140737488355328:Nat)))) <|OB (f102 n42.body p0 p1 0 0 (jX++n42.params)) λc67=>bif (!(decide (c67.2.2.2.1=0))) then some (.inr (.inr (c67.2.2.1,c67.2.2.2.1,eG,wR))) else ck (true&&(decide ((((List.length jX)+(List.length n42.params))*(16:Nat))<=(140737488355328:Nat)))) <|let n70:=[(aB.mk n42.name n42.line (jX++n42.params) c67.2.2.2.2.1)];ck (aX LJ.2.length n70.length 72) <|some (.inl ((dL (LJ.1+1)),(LJ.2++n70))) else some (.inr (.inl LJ.2))) ((0:Int),wR)) λs73=>some ((0:Int),(0:Int),(eG++p0),s73)
def ape:aY:=⟨asy,u2 f80⟩
theorem ah3:aC Tryz.prog 80 ape:=
 ts [(97,aeA),(98,aeB),(74,alE),(99,ao4),(100,aeD),(101,aeE),(102,ajE)] ety [.cell 2 95,.tmp 3,.tmp 4] asz Tryz.func80 rfl ⟨Il,Io,Zk,ahO,UJ,UK,afb,trivial⟩
def f81(p0:eH)(p1:Int):Option (eH×Int×eP×(List aB)):= OB (some ((0:Int),eG,wR,jX)) λs0=>OB (f24 3 p0 p1) λc1=>OB (bF (λ(s2:(Int×Int×eP))=>bif (decide (0<s2.1)) then OB (f47 (s2.2.2.length:Int)) λc5=>ck (C9 (List.length [(103:UInt8)]) c5.length) <|let n7:=[(aA.mk ([(103:UInt8)]++c5) 0)];ck (aX s2.2.2.length n7.length 24) <|some (.inl ((dL (s2.1-1)),s2.2.1,(s2.2.2++n7))) else some (.inr s2.2)) (c1.1,s0.1,s0.2.1)) λs10=>OB (f24 3 c1.2.1 c1.2.2) λc11=>OB (bF (λ(s12:(Int×eH×Int×Int×eP))=>bif (decide (0<s12.1)) then OB (f47 (s12.2.2.2.2.length:Int)) λc15=>ck (C9 (List.length [(103:UInt8)]) c15.length) <|OB (f24 5 s12.2.1 s12.2.2.1) λc17=>let n19:=[(aA.mk ([(103:UInt8)]++c15) (dL (1+c17.1)))];ck (aX s12.2.2.2.2.length n19.length 24) <|some (.inl ((dL (s12.1-1)),c17.2.1,c17.2.2,s12.2.2.2.1,(s12.2.2.2.2++n19))) else some (.inr s12.2)) (c11.1,c11.2.1,c11.2.2,s10)) λmX=>OB (f24 4 mX.1 mX.2.1) λc24=>OB (bF (λ(vH:(Int×eH×Int×Int×(List aB)))=>bif (decide (0<vH.1)) then OB (f47 (vH.2.2.2.2.length:Int)) λc28=>ck (C9 (List.length [(102:UInt8)]) c28.length) <|OB (f24 3 vH.2.1 vH.2.2.1) λOa=>OB (bF (λ(UY:(Int×jm×Int×bG))=>bif (decide (0<UY.1)) then OB (f47 (UY.2.2.2.length:Int)) λc34=>ck (C9 (List.length [(112:UInt8)]) c34.length) <|let n36:=[([(112:UInt8)]++c34)];ck (aX UY.2.2.2.length n36.length 16) <|some (.inl ((dL (UY.1-1)),UY.2.1,UY.2.2.1,(UY.2.2.2++n36))) else some (.inr UY.2)) (Oa.1,([(102:UInt8)]++c28),(0:Int),jX)) λLJ=>let n40:=[(aB.mk LJ.1 LJ.2.1 LJ.2.2 jy)];ck (aX vH.2.2.2.2.length n40.length 72) <|some (.inl ((dL (vH.1-1)),Oa.2.1,Oa.2.2,vH.2.2.2.1,(vH.2.2.2.2++n40))) else some (.inr vH.2)) (c24.1,c24.2.1,c24.2.2,mX.2.2.1,[(aB.mk [(109:UInt8),(97:UInt8),(105:UInt8),(110:UInt8)] 0 jX jy)])) λs43=>OB (bF (λ(s44:(Int×eH×Int×Int×eP×(List aB)×bG))=>bif (decide (s44.1<(s44.2.2.2.2.2.1.length:Int))) then ck (inB s44.1 s44.2.2.2.2.2.1.length) <|let n47:=(List.getD s44.2.2.2.2.2.1 s44.1.toNat bC);ck (true&&(decide ((((List.length jX)+(List.length n47.params))*(16:Nat))<=(140737488355328:Nat)))) <|OB (f24 4 s44.2.1 s44.2.2.1) λc49=>OB (f103 2 (dL (1+c49.1)) 7 c49.2.1 c49.2.2 s44.2.2.2.2.1 s44.2.2.2.2.2.1 (jX++n47.params)) λc51=>ck (inB s44.1 s44.2.2.2.2.2.1.length) <|some (.inl ((dL (s44.1+1)),c51.2.1,c51.2.2.1,c51.1,s44.2.2.2.2.1,(List.set s44.2.2.2.2.2.1 s44.1.toNat (aB.mk (List.getD s44.2.2.2.2.2.1 s44.1.toNat bC).name (List.getD s44.2.2.2.2.2.1 s44.1.toNat bC).line (List.getD s44.2.2.2.2.2.1 s44.1.toNat bC).params c51.2.2.2.2.2.1)),c51.2.2.2.2.2.2)) else some (.inr s44.2)) ((0:Int),s43.1,s43.2.1,s43.2.2.1,mX.2.2.2,s43.2.2.2,s0.2.2.2)) λs54=>some (s54.1,s54.2.1,s54.2.2.2.1,s54.2.2.2.2.1)
def apf:aY:=⟨asA,u2 f81⟩
theorem ah4:aC Tryz.prog 81 apf:=
 ts [(24,E8),(47,alm),(103,ajI)] ety [.cell 2 95] asB Tryz.func81 rfl ⟨mW,Y5,afo,trivial⟩
def f96(p0:eP)(p1:KU)(p2 p3:Int)(p4:jm)(p5 p6:Int)(p7:ng):Option Int:= OB (bif (decide ((p7.length:Int)<1)) then some true else bif (decide (256<(p7.length:Int))) then some true else OB (f121 p4 p5 p6 p7) λc5=>some (decide (2048<c5))) λs8=>bif s8 then some (5:Int) else OB (bif (decide (p6<0)) then some true else bif (decide (250<p6)) then some true else bif (decide (p5<0)) then some true else some (decide (p6<p5))) λs16=>bif s16 then some (14:Int) else d_ (bF (λ(oZ:Int)=>bif (decide (oZ<(p7.length:Int))) then d_ (bF (λ(s20:Int)=>ck (inB oZ p7.length) <|bif (decide (s20<((List.length (List.getD p7 oZ.toNat au).instrs):Int))) then ck (inB oZ p7.length) <|let n24:=(List.getD p7 oZ.toNat au);ck (inB s20 (List.length n24.instrs)) <|let n25:=(List.getD n24.instrs s20.toNat UD);OB (f122 p0 p1 p2 p3 p4 p5 p6 p7 n25.kind n25.op n25.dst n25.a n25.b n25.value n25.args) λc26=>bif (!(decide (c26=0))) then some (.inr (.inr (.inr (.inr c26)))) else some (.inl (dL (s20+1))) else some (.inr (.inl ()))) (0:Int)) λs29=>ck (inB oZ p7.length) <|let n30:=(List.getD p7 oZ.toNat au);OB (f123 p4 p5 p6 p7 n30.bT n30.lY n30.f_ n30.dF) λc31=>bif (!(decide (c31=0))) then some (.inr (.inr c31)) else some (.inl (dL (oZ+1))) else some (.inr (.inl ()))) (0:Int)) λVt=>OB (f82 p4 p5 p6 p7) λIp=>d_ (bF (λ(s36:Int)=>bif (decide (s36<(Ip.length:Int))) then ck (inB s36 Ip.length) <|bif (!(List.getD Ip s36.toNat false)) then some (.inr (.inr (13:Int))) else some (.inl (dL (s36+1))) else some (.inr (.inl ()))) (0:Int)) λFa=>some (0:Int)
def apg:aY:=⟨asC,u8 f96⟩
theorem ah5:aC Tryz.prog 96 apg:=
 ts [(121,ajq),(122,ajF),(123,ajr),(82,alG)] ety [.tmp 4] asD Tryz.func96 rfl ⟨aeJ,afc,aeK,Zq,trivial⟩
def f26(p0:eH)(p1:Int):Option (Int×Int×eH×Int×eP×KU):= OB (f24 4 p0 p1) λc0=>let n2:=[(aA.mk [(103:UInt8),(48:UInt8)] 0),(aA.mk [(103:UInt8),(49:UInt8)] (dL (1+c0.1)))];OB (f24 3 c0.2.1 c0.2.2) λc3=>let n4:=(dL (1+c3.1));OB (bF (λ(s5:(Int×eH×Int×Int×Int×KU))=>bif (decide (s5.1<n4)) then OB (f47 s5.1) λc7=>ck (C9 (List.length [(102:UInt8)]) c7.length) <|let n8:=([(102:UInt8)]++c7);OB (f24 4 s5.2.1 s5.2.2.1) λc9=>let n10:=(dL (1+c9.1));OB (bif (decide (0<s5.1)) then OB (f24 (dL ((aaO n10 (2:Int))+1)) c9.2.1 c9.2.2) λc14=>some (c14.2.1,c14.2.2,n8,c14.1,n10) else some (c9.2.1,c9.2.2,n8,(0:Int),n10)) λs15=>let n16:=[(aO.mk s15.2.2.1 s15.2.2.2.1 s15.2.2.2.2 ([]:ng))];ck (aX s5.2.2.2.2.2.length n16.length 56) <|some (.inl ((dL (s5.1+1)),s15.1,s15.2.1,s5.2.2.2.1,s5.2.2.2.2.1,(s5.2.2.2.2.2++n16))) else some (.inr s5.2)) ((0:Int),c3.2.1,c3.2.2,(0:Int),(0:Int),([]:KU))) λvG=>OB (f24 (dL (n4+1)) vG.1 vG.2.1) λc21=>OB (bF (λ(mX:(Int×eH×Int×KU))=>bif (decide (mX.1<n4)) then ck (inB mX.1 mX.2.2.2.length) <|OB (f24 6 mX.2.1 mX.2.2.1) λc24=>OB (bF (λ(s26:(Int×eH×Int×KU))=>bif (decide (0<s26.1)) then OB (f24 20 s26.2.1 s26.2.2.1) λc28=>OB (f24 4 c28.2.1 c28.2.2) λc31=>OB (bF (λ(Ad:(Int×eH×Int×KU×Int×Int×Int×Int×Int×Int×Int×(List dB)))=>bif (decide (0<Ad.1)) then OB (f48 n2 (List.set Ad.2.2.2.1 mX.1.toNat (aO.mk (List.getD Ad.2.2.2.1 mX.1.toNat ah).name (List.getD Ad.2.2.2.1 mX.1.toNat ah).params (List.getD Ad.2.2.2.1 mX.1.toNat ah).regs (List.getD Ad.2.2.2.1 mX.1.toNat ah).blocks)) c21.1 vG.2.2.2.1 (List.getD Ad.2.2.2.1 mX.1.toNat ah).name (List.getD Ad.2.2.2.1 mX.1.toNat ah).params (List.getD Ad.2.2.2.1 mX.1.toNat ah).regs (List.getD Ad.2.2.2.1 mX.1.toNat ah).blocks Ad.2.1 Ad.2.2.1) λc34=>let n35:=[(dB.mk c34.1 c34.2.1 c34.2.2.1 c34.2.2.2.1 c34.2.2.2.2.1 c34.2.2.2.2.2.1 c34.2.2.2.2.2.2.2.2)];ck (aX Ad.2.2.2.2.2.2.2.2.2.2.2.length n35.length 72) <|some (.inl ((dL (Ad.1-1)),c34.2.2.2.2.2.2.1,c34.2.2.2.2.2.2.2.1,(List.set Ad.2.2.2.1 mX.1.toNat (aO.mk (List.getD Ad.2.2.2.1 mX.1.toNat ah).name (List.getD Ad.2.2.2.1 mX.1.toNat ah).params (List.getD Ad.2.2.2.1 mX.1.toNat ah).regs (List.getD Ad.2.2.2.1 mX.1.toNat ah).blocks)),Ad.2.2.2.2.1,Ad.2.2.2.2.2.1,Ad.2.2.2.2.2.2.1,Ad.2.2.2.2.2.2.2.1,Ad.2.2.2.2.2.2.2.2.1,Ad.2.2.2.2.2.2.2.2.2.1,Ad.2.2.2.2.2.2.2.2.2.2.1,(Ad.2.2.2.2.2.2.2.2.2.2.2++n35))) else some (.inr Ad.2)) (c31.1,c31.2.1,c31.2.2,s26.2.2.2,(0:Int),(0:Int),(0:Int),(0:Int),c28.1,mX.1,((List.replicate (List.length (List.getD s26.2.2.2 mX.1.toNat ah).blocks) ()).length:Int),([]:(List dB)))) λxH=>let n39:=[(aK.mk xH.2.2.2.2.2.2.2.2.2.2 xH.2.2.2.1 xH.2.2.2.2.1 xH.2.2.2.2.2.1 xH.2.2.2.2.2.2.1 xH.2.2.2.2.2.2.2.1 xH.2.2.2.2.2.2.2.2.1 xH.2.2.2.2.2.2.2.2.2.1)];ck (true&&(decide ((((List.length (List.getD xH.2.2.1 mX.1.toNat ah).blocks)+n39.length)*(80:Nat))<=(140737488355328:Nat)))) <|ck (Nat.beq mX.1.toNat mX.1.toNat) <|some (.inl ((dL (s26.1-1)),xH.1,xH.2.1,(List.set xH.2.2.1 mX.1.toNat (aO.mk (List.getD xH.2.2.1 mX.1.toNat ah).name (List.getD xH.2.2.1 mX.1.toNat ah).params (List.getD xH.2.2.1 mX.1.toNat ah).regs ((List.getD xH.2.2.1 mX.1.toNat ah).blocks++n39))))) else some (.inr s26.2)) ((dL (1+c24.1)),c24.2.1,c24.2.2,mX.2.2.2)) λs43=>OB (bF (λ(s44:(Int×eH×Int×KU))=>bif (decide (s44.1<((List.replicate (List.length (List.getD s44.2.2.2 mX.1.toNat ah).blocks) ()).length:Int))) then let n48:=[(2:Int),(1:Int),(3:Int),(2:Int)];OB (f24 4 s44.2.1 s44.2.2.1) λc49=>ck (inB c49.1 n48.length) <|OB (f24 (List.getD s44.2.2.2 mX.1.toNat ah).regs c49.2.1 c49.2.2) λc52=>OB (f24 ((List.replicate (List.length (List.getD s44.2.2.2 mX.1.toNat ah).blocks) ()).length:Int) c52.2.1 c52.2.2) λc55=>OB (f24 ((List.replicate (List.length (List.getD s44.2.2.2 mX.1.toNat ah).blocks) ()).length:Int) c55.2.1 c55.2.2) λZr=>ck (inB s44.1 (List.length (List.getD s44.2.2.2 mX.1.toNat ah).blocks)) <|some (.inl ((dL (s44.1+1)),Zr.2.1,Zr.2.2,(List.set s44.2.2.2 mX.1.toNat (aO.mk (List.getD s44.2.2.2 mX.1.toNat ah).name (List.getD s44.2.2.2 mX.1.toNat ah).params (List.getD s44.2.2.2 mX.1.toNat ah).regs (List.set (List.getD s44.2.2.2 mX.1.toNat ah).blocks s44.1.toNat (aK.mk (List.getD (List.getD s44.2.2.2 mX.1.toNat ah).blocks s44.1.toNat au).instrs (List.getD n48 c49.1.toNat 0) c52.1 c55.1 Zr.1 (List.getD (List.getD s44.2.2.2 mX.1.toNat ah).blocks s44.1.toNat au).line (List.getD (List.getD s44.2.2.2 mX.1.toNat ah).blocks s44.1.toNat au).gY (List.getD (List.getD s44.2.2.2 mX.1.toNat ah).blocks s44.1.toNat au).gG)))))) else some (.inr s44.2)) ((0:Int),s43)) λs61=>OB (f49 (List.getD s61.2.2 mX.1.toNat ah).name (List.getD s61.2.2 mX.1.toNat ah).params (List.getD s61.2.2 mX.1.toNat ah).regs (List.getD s61.2.2 mX.1.toNat ah).blocks) λc62=>ck (Nat.beq mX.1.toNat mX.1.toNat) <|some (.inl ((dL (mX.1+1)),s61.1,s61.2.1,(List.set s61.2.2 mX.1.toNat (aO.mk c62.1 c62.2.1 c62.2.2.1 c62.2.2.2)))) else some (.inr mX.2)) ((0:Int),c21.2.1,c21.2.2,vG.2.2.2.2)) λs65=>some (c21.1,vG.2.2.2.1,s65.1,s65.2.1,n2,s65.2.2)
def aph:aY:=⟨asE,u2 f26⟩
theorem ah6:aC Tryz.prog 26 aph:=
 ts [(24,E8),(47,alm),(48,aoT),(49,apc)] aoN [.cell 2 29] asF Tryz.func26 rfl ⟨mW,Y5,ahD,ah1,trivial⟩
def f33(p0 p1 p2 p3 p4 p5:Int)(p6:Bool)(p7:eH):Option (Int×eH):= OB (f58 p0 p1 p2 p3 p4 p5 p6 p7) λc0=>bif (!(decide (c0=0))) then some (c0,eInt) else let n3:=[(Go.IntKind.wrap .u8 p0)];OB (bif p6 then ck (inB (0:Int) n3.length) <|ck (inB (0:Int) n3.length) <|some (List.set n3 (Int.toNat (0:Int)) (Go.IntKind.wrap .u8 ((List.getD n3 (Int.toNat 0) (0:Int))+128))) else some n3) λs7=>ck (inB p0 (19:Nat)) <|OB (bF (λ(s9:(eH×jm×Int))=>bif (TD s9.2.1 s9.2.2) then OB (bif (decide ((nV s9.2.1 s9.2.2)=111)) then OB (f59 p1 1 s9.1) λc11=>some c11 else OB (bif (decide ((nV s9.2.1 s9.2.2)=100)) then OB (f59 p2 1 s9.1) λc13=>some c13 else OB (bif (decide ((nV s9.2.1 s9.2.2)=97)) then OB (f59 p3 1 s9.1) λc15=>some c15 else OB (bif (decide ((nV s9.2.1 s9.2.2)=98)) then OB (f59 p4 1 s9.1) λc17=>some c17 else OB (bif (decide ((nV s9.2.1 s9.2.2)=106)) then OB (f60 p6) λc19=>OB (f59 p5 c19 s9.1) λc20=>some c20 else OB (bif (decide ((nV s9.2.1 s9.2.2)=110)) then OB (f59 (p7.length:Int) 1 s9.1) λc23=>OB (bF (λ(vH:(Int×eH))=>bif (decide (vH.1<(p7.length:Int))) then ck (inB vH.1 p7.length) <|OB (f59 (List.getD p7 vH.1.toNat 0) 1 vH.2) λc28=>some (.inl ((dL (vH.1+1)),c28)) else some (.inr vH.2)) ((0:Int),c23)) λE_=>some E_ else OB (f59 p5 (dL (Go.IntKind.wrap .i32 ((nV s9.2.1 s9.2.2)-48))) s9.1) λLK=>some LK) λVt=>some Vt) λZb=>some Zb) λs36=>some s36) λs37=>some s37) λxH=>some xH) λLJ=>some (.inl (LJ,s9.2.1,(uN s9.2.1 s9.2.2))) else some (.inr s9.1)) (s7,(List.getD Qv p0.toNat bI),(0:Int))) λQY=>some ((0:Int),QY)
def alM:aY:=⟨asG,u8 f33⟩
theorem ZB:aC Tryz.prog 33 alM:=
 ts [(58,apd),(59,aoU),(60,aoV)] ety [.tmp 2,.tmp 3] asH Tryz.func33 rfl ⟨ah2,ahF,ahG,trivial⟩
def f46(p0:eH)(p1:Int):Option (eH×Int×eP×(List aB)):= OB (f81 p0 p1) λc0=>OB (f80 c0.2.2.1 c0.2.2.2) λc1=>some (c0.1,c0.2.1,c1.2.2)
def apj:aY:=⟨asI,u2 f46⟩
theorem ah7:aC Tryz.prog 46 apj:=
 ts [(81,apf),(80,ape)] ety [.cell 2 95] asJ Tryz.func46 rfl ⟨ah4,ah3,trivial⟩
def f55(p0 p1 p2 p3 p4 p5:Int)(p6:Bool)(p7:eH):Option Int:= OB (f33 p0 p1 p2 p3 p4 p5 p6 p7) λc0=>some (c0.2.length:Int)
def alN:aY:=⟨asK,u8 f55⟩
theorem ZC:aC Tryz.prog 55 alN:=
 ts [(33,alM)] ety [.tmp 2] asL Tryz.func55 rfl ⟨ZB,trivial⟩
def f57(p0:LUn):Option eH:= OB (bF (λ(s2:(Int×eH))=>bif (decide (s2.1<(p0.length:Int))) then ck (inB s2.1 p0.length) <|let n4:=(List.getD p0 s2.1.toNat bK);ck (inB s2.1 s2.2.length) <|OB (f55 n4.jd n4.iD n4.kL n4.qX n4.qY n4.gZ n4.fE n4.iq) λc6=>let n8:=[(dL ((List.getD s2.2 s2.1.toNat 0)+c6))];ck (aX s2.2.length n8.length 8) <|some (.inl ((dL (s2.1+1)),(s2.2++n8))) else some (.inr s2.2)) ((0:Int),[(0:Int)])) λs11=>some s11
def apk:aY:=⟨asM,f57⟩
theorem ah8:aC Tryz.prog 57 apk:=
 ts [(55,alN)] ety [.tmp 2] asN Tryz.func57 rfl ⟨ZC,trivial⟩
def f79(p0:eP)(p1:KU)(p2 p3:Int):Option Int:= OB (bif (decide ((p1.length:Int)<1)) then some true else bif (decide (64<(p1.length:Int))) then some true else bif (decide (32<(p0.length:Int))) then some true else bif (decide (p3<0)) then some true else some (decide (4096<p3))) λs12=>bif s12 then some (5:Int) else d_ (bF (λ(s13:Int)=>bif (decide (s13<(p0.length:Int))) then OB (ck (inB s13 p0.length) <|bif (decide ((List.getD p0 s13.toNat (aA.mk bI 0)).size<0)) then some true else ck (inB s13 p0.length) <|some (decide (1024<(List.getD p0 s13.toNat (aA.mk bI 0)).size))) λKY=>bif KY then some (.inr (.inr (16:Int))) else some (.inl (dL (s13+1))) else some (.inr (.inl ()))) (0:Int)) λs23=>OB (bif (decide (p2<0)) then some true else some (decide ((p1.length:Int)<p2))) λIh=>bif Ih then some (15:Int) else ck (inB (0:Int) p1.length) <|bif (!(decide ((List.getD p1 (Int.toNat 0) ah).params=0))) then some (12:Int) else d_ (bF (λ(UY:Int)=>bif (decide (UY<(p1.length:Int))) then ck (inB UY p1.length) <|let n34:=(List.getD p1 UY.toNat ah);OB (f96 p0 p1 p2 p3 n34.name n34.params n34.regs n34.blocks) λIp=>bif (!(decide (Ip=0))) then some (.inr (.inr Ip)) else some (.inl (dL (UY+1))) else some (.inr (.inl ()))) (0:Int)) λxH=>some (0:Int)
def apl:aY:=⟨asO,u4 f79⟩
theorem ah9:aC Tryz.prog 79 apl:=
 ts [(96,apg)] ety [.tmp 2] asP Tryz.func79 rfl ⟨ah5,trivial⟩
def f45(p0:eP)(p1:(List aB)):Option (Int×Int×Int×eP×KU):= ck (aX (List.length eG) p0.length 24) <|let n0:=(eG++p0);OB (bF (λ(s2:(Int×Int×Int×KU))=>bif (decide (s2.1<(p1.length:Int))) then ck (inB s2.1 p1.length) <|let n5:=(List.getD p1 s2.1.toNat bC);OB (OB (f74 n5.name n5.line n5.params n5.body) λc6=>some (p0,p1,c6,s2.1,(0:Int),(0:Int),([]:ng))) λs7=>OB (f75 n5.line s7.1 s7.2.1 s7.2.2.1 s7.2.2.2.1 (s7.2.2.1.length:Int) s7.2.2.2.2.2.1 s7.2.2.2.2.2.2) λc9=>OB (f76 n5.body c9.2.1 c9.2.2.1 c9.2.2.2.1 c9.2.2.2.2.1 c9.2.2.2.2.2.1 c9.2.2.2.2.2.2.1 c9.2.2.2.2.2.2.2) λc10=>OB (bif c10.1 then let n11:=(c10.2.2.2.1.length:Int);OB (f77 1 0 n11 0 0 0 eInt c10.2.1 c10.2.2.1 c10.2.2.2.1 c10.2.2.2.2.1 (Eu c10.2.2.2.2.2.1 (dL (n11+1))) c10.2.2.2.2.2.2.1 c10.2.2.2.2.2.2.2) λc14=>OB (f78 c14.2.2.2.2.2.1 3 n11 0 0 c14.1 c14.2.1 c14.2.2.1 c14.2.2.2.1 c14.2.2.2.2.1 c14.2.2.2.2.2.1 c14.2.2.2.2.2.2) λc15=>some c15 else some c10.2) λs16=>let n18:=[(aO.mk n5.name ((List.length n5.params):Int) s16.2.2.2.2.1 s16.2.2.2.2.2.2)];ck (aX s2.2.2.2.length n18.length 56) <|some (.inl ((dL (s2.1+1)),s2.2.1,s2.2.2.1,(s2.2.2.2++n18))) else some (.inr s2.2)) ((0:Int),(p1.length:Int),(0:Int),([]:KU))) λKY=>OB (f79 n0 KY.2.2 KY.1 KY.2.1) λLc=>bif (!(decide (Lc=0))) then some ((0:Int),(0:Int),(5:Int),eG,([]:KU)) else some (KY.1,KY.2.1,(0:Int),n0,KY.2.2)
def apm:aY:=⟨asQ,u2 f45⟩
theorem ah_:aC Tryz.prog 45 apm:=
 ts [(74,alE),(75,aex),(76,ao8),(77,aey),(78,abt),(79,apl)] aoO [.cell 2 29,.tmp 3] asR Tryz.func45 rfl ⟨Zk,Ij,ahW,Ik,DL,ah9,trivial⟩
def f25(p0:eH)(p1:Int):Option (Int×Int×eH×Int×eP×KU):= OB (f46 p0 p1) λc0=>OB (f45 c0.2.2.1 c0.2.2.2) λc1=>some (c1.1,c1.2.1,c0.1,c0.2.1,c1.2.2.2)
def apn:aY:=⟨asT,u2 f25⟩
theorem aia:aC Tryz.prog 25 apn:=
 ts [(46,apj),(45,apm)] ety [.cell 2 29] asU Tryz.func25 rfl ⟨ah7,ah_,trivial⟩
def f8(p0:eH)(p1:Int):Option (KU×Int×Int×eH×Int×eP):= OB (f24 2 p0 p1) λc0=>bif (decide (c0.1=0)) then OB (f25 c0.2.1 c0.2.2) λc2=>some (c2.2.2.2.2.2,c2.1,c2.2.1,c2.2.2.1,c2.2.2.2.1,c2.2.2.2.2.1) else OB (f26 c0.2.1 c0.2.2) λc3=>some (c3.2.2.2.2.2,c3.1,c3.2.1,c3.2.2.1,c3.2.2.2.1,c3.2.2.2.2.1)
def sp8:aY:=⟨sg8,u2 f8⟩
theorem alO:aC Tryz.prog 8 sp8:=
 ts [(24,E8),(25,apn),(26,aph)] ety [.cell 2 29] an8 Tryz.func8 rfl ⟨mW,aia,ah6,trivial⟩
def f54(p0:jm)(p1 p2:Int)(p3:ng)(p4:eH):Option Bool:= OB (bif (decide ((p4.length:Int)=0)) then some true else ck (inB (0:Int) p4.length) <|some (!(decide ((List.getD p4 (Int.toNat 0) (0:Int))=0)))) λs5=>bif s5 then some false else OB (f51 p4) λc6=>OB (f52 c6) λc7=>OB (f44 p0 p1 p2 p3) λc8=>OB (f53 c7 c8) λc9=>some c9
def alP:aY:=⟨asV,u5 f54⟩
theorem ZE:aC Tryz.prog 54 alP:=
 ts [(51,ahE),(52,ali),(44,alk),(53,alp)] ety [.tmp 4] asW Tryz.func54 rfl ⟨Qz,Y3,Y4,Y7,trivial⟩
def f29(p0:eP)(p1:KU)(p2 p3:Int)(p4:eH)(p5:MK):Option Int:= OB (f51 p4) λc0=>OB (f52 c0) λc1=>OB (OB (f23 p0 p1 p2 p3) λc2=>OB (f53 c1 c2.1) λc3=>bif (!c3) then some true else some (!(decide ((p5.length:Int)=(p1.length:Int))))) λs9=>bif s9 then some (18:Int) else d_ (bF (λ(s11:Int)=>bif (decide (s11<(p1.length:Int))) then ck (inB s11 p1.length) <|let n13:=(List.getD p1 s11.toNat ah);ck (inB s11 p5.length) <|OB (f54 n13.name n13.params n13.regs n13.blocks (List.getD p5 s11.toNat eInt)) λc15=>bif (!c15) then some (.inr (.inr (18:Int))) else some (.inl (dL (s11+1))) else some (.inr (.inl ()))) (0:Int)) λKW=>some (0:Int)
def apo:aY:=⟨asX,u6 f29⟩
theorem aib:aC Tryz.prog 29 apo:=
 ts [(51,ahE),(52,ali),(23,alD),(53,alp),(54,alP)] ety [.tmp 4] asY Tryz.func29 rfl ⟨Qz,Y3,Zj,Y7,ZE,trivial⟩
def f32(p0:jm)(p1 p2:Int)(p3:ng)(p4:eH):Option (Int×(List gq)×eH):= OB (f54 p0 p1 p2 p3 p4) λc0=>bif (!c0) then some ((18:Int),aer,eInt) else OB (f56 p0 p1 p2 p3 p4) λc2=>let n3:=(p3.length:Int);ck (JD (8:Nat) n3 n3) <|OB (bF (λ(s6:(Int×eH))=>bif (decide (s6.1<(p4.length:Int))) then ck (inB s6.1 p4.length) <|let n8:=(List.getD p4 s6.1.toNat 0);ck (inB s6.1 c2.2.length) <|ck (inB n8 s6.2.length) <|some (.inl ((dL (s6.1+1)),(List.set s6.2 n8.toNat (List.getD c2.2 s6.1.toNat 0)))) else some (.inr s6.2)) ((0:Int),(List.replicate n3.toNat (0:Int)))) λs12=>OB (f57 c2.1) λc13=>OB (bF (λ(s14:(LUn×eH))=>OB (bF (λ(s16:(Bool×Int×LUn))=>bif (decide (s16.2.1<(s14.1.length:Int))) then OB (ck (inB s16.2.1 s16.2.2.length) <|let n18:=(List.getD s16.2.2 s16.2.1.toNat bK);OB (bif (decide (n18.to<0)) then some true else some n18.fE) λKY=>bif KY then some (s16.1,s16.2.2) else ck (inB n18.to s12.length) <|let n22:=(List.getD s12 (Int.toNat n18.to) 0);ck (inB n22 s14.2.length) <|let n24:=(dL (s16.2.1+1));ck (inB n24 s14.2.length) <|let n26:=(dL ((List.getD s14.2 n22.toNat 0)-(List.getD s14.2 n24.toNat 0)));OB (bif (decide (n26<(-128:Int))) then some true else some (decide (128<=n26))) λE_=>OB (bif E_ then ck (inB s16.2.1 s16.2.2.length) <|some (true,(List.set s16.2.2 s16.2.1.toNat (cu.mk (List.getD s16.2.2 s16.2.1.toNat bK).jd (List.getD s16.2.2 s16.2.1.toNat bK).iD (List.getD s16.2.2 s16.2.1.toNat bK).kL (List.getD s16.2.2 s16.2.1.toNat bK).qX (List.getD s16.2.2 s16.2.1.toNat bK).qY (List.getD s16.2.2 s16.2.1.toNat bK).gZ true (List.getD s16.2.2 s16.2.1.toNat bK).iq (List.getD s16.2.2 s16.2.1.toNat bK).to))) else some (s16.1,s16.2.2)) λAd=>some Ad) λs33=>some (.inl (s33.1,(dL (s16.2.1+1)),s33.2)) else some (.inr (s16.1,s16.2.2))) (false,(0:Int),s14.1)) λZb=>bif (!Zb.1) then some (.inr (Zb.2,s14.2)) else OB (f57 Zb.2) λc37=>some (.inl (Zb.2,c37))) (c2.1,c13)) λxH=>OB (bF (λ(QY:(Int×(List gq)))=>bif (decide (QY.1<(xH.1.length:Int))) then ck (inB QY.1 xH.1.length) <|let n42:=(List.getD xH.1 QY.1.toNat bK);OB (bif (decide (0<=n42.to)) then ck (inB n42.to s12.length) <|let n44:=(List.getD s12 (Int.toNat n42.to) 0);ck (inB n44 xH.2.length) <|let n46:=(dL (QY.1+1));ck (inB n46 xH.2.length) <|some (n42.jd,n42.iD,n42.kL,n42.qX,n42.qY,(dL ((List.getD xH.2 n44.toNat 0)-(List.getD xH.2 n46.toNat 0))),n42.fE,n42.iq,n42.to) else some (n42.jd,n42.iD,n42.kL,n42.qX,n42.qY,n42.gZ,n42.fE,n42.iq,n42.to)) λs49=>let n50:=[(gq.mk s49.1 s49.2.1 s49.2.2.1 s49.2.2.2.1 s49.2.2.2.2.1 s49.2.2.2.2.2.1 s49.2.2.2.2.2.2.1 s49.2.2.2.2.2.2.2.1)];ck (aX QY.2.length n50.length 80) <|some (.inl ((dL (QY.1+1)),(QY.2++n50))) else some (.inr QY.2)) ((0:Int),aer)) λs53=>OB (bF (λ(Vu:(Int×eH))=>bif (decide (Vu.1<(c2.2.length:Int))) then ck (inB Vu.1 c2.2.length) <|let n57:=(List.getD c2.2 Vu.1.toNat 0);ck (inB n57 xH.2.length) <|let n59:=[(List.getD xH.2 n57.toNat 0)];ck (aX Vu.2.length n59.length 8) <|some (.inl ((dL (Vu.1+1)),(Vu.2++n59))) else some (.inr Vu.2)) ((0:Int),eInt)) λs62=>some ((0:Int),s53,s62)
def alQ:aY:=⟨asZ,u5 f32⟩
theorem ZF:aC Tryz.prog 32 alQ:=
 ts [(54,alP),(56,ao7),(57,apk)] ety [.tmp 4,.tmp 5,.tmp 6] as1 Tryz.func32 rfl ⟨ZE,ahS,ah8,trivial⟩
def f31(p0:jm)(p1 p2:Int)(p3:ng)(p4:eH):Option Int:= OB (f32 p0 p1 p2 p3 p4) λc0=>OB (bF (λ(s2:(Int×Int))=>bif (decide (s2.2<(c0.2.1.length:Int))) then ck (inB s2.2 c0.2.1.length) <|let n4:=(List.getD c0.2.1 s2.2.toNat DK);OB (f55 n4.op n4.arith n4.dst n4.a n4.b n4.value n4.wide n4.args) λc5=>some (.inl ((dL (s2.1+c5)),(dL (s2.2+1)))) else some (.inr s2.1)) ((0:Int),(0:Int))) λs8=>some s8
def apq:aY:=⟨as2,u5 f31⟩
theorem aic:aC Tryz.prog 31 apq:=
 ts [(32,alQ),(55,alN)] ety [.tmp 4] as3 Tryz.func31 rfl ⟨ZF,ZC,trivial⟩
def f10(p0:eP)(p1:KU)(p2 p3:Int)(p4:eH)(p5:MK):Option (Int×Int×Int×eH×eH×eH×eH×eP×LPl):= OB (f29 p0 p1 p2 p3 p4 p5) λc0=>bif (!(decide (c0=0))) then some ((0:Int),(0:Int),c0,eInt,eInt,eInt,eInt,eG,Qy) else OB (f30 p0) λc2=>let n3:=(p1.length:Int);ck (JD (8:Nat) n3 n3) <|OB (bF (λ(s6:(Int×Int×Int×eH×eH))=>bif (decide (s6.1<(p1.length:Int))) then ck (inB s6.1 p1.length) <|let n8:=(List.getD p1 s6.1.toNat ah);let n9:=[n8.params];ck (aX s6.2.2.2.1.length n9.length 8) <|let n11:=[n8.regs];ck (aX s6.2.2.2.2.length n11.length 8) <|some (.inl ((dL (s6.1+1)),s6.2.1,s6.2.2.1,(s6.2.2.2.1++n9),(s6.2.2.2.2++n11))) else some (.inr s6.2)) ((0:Int),p2,p3,eInt,eInt)) λs14=>OB (bF (λ(s16:(Int×Int×eH))=>bif (decide (s16.2.1<(p4.length:Int))) then ck (inB s16.2.1 p4.length) <|let n18:=(List.getD p4 s16.2.1.toNat 0);ck (inB n18 s16.2.2.length) <|ck (inB n18 p1.length) <|let n20:=(List.getD p1 n18.toNat ah);ck (inB n18 p5.length) <|OB (f31 n20.name n20.params n20.regs n20.blocks (List.getD p5 n18.toNat eInt)) λLc=>some (.inl ((dL (s16.1+Lc)),(dL (s16.2.1+1)),(List.set s16.2.2 n18.toNat s16.1))) else some (.inr (s16.1,s16.2.2))) ((0:Int),(0:Int),(List.replicate n3.toNat (0:Int)))) λvH=>bif (decide (1048576<vH.1)) then some ((0:Int),(0:Int),(5:Int),eInt,eInt,eInt,eInt,eG,Qy) else OB (bF (λ(Ih:(Int×Int×Int×eH×LPl))=>bif (decide (Ih.1<(p4.length:Int))) then ck (inB Ih.1 p4.length) <|let n30:=(List.getD p4 Ih.1.toNat 0);ck (inB n30 p1.length) <|let n31:=(List.getD p1 n30.toNat ah);ck (inB n30 p5.length) <|OB (f32 n31.name n31.params n31.regs n31.blocks (List.getD p5 n30.toNat eInt)) λLK=>let n34:=(Ih.2.2.2.1.length:Int);OB (bF (λ(s36:(Int×Int×Int×eH))=>bif (decide (s36.1<(LK.2.1.length:Int))) then ck (inB s36.1 LK.2.1.length) <|let n38:=(List.getD LK.2.1 s36.1.toNat DK);OB (bif (decide (n38.op=11)) then ck (inB n38.value vH.2.length) <|some (n38.op,n38.arith,n38.dst,n38.a,n38.b,(List.getD vH.2 (Int.toNat n38.value) 0),n38.wide,n38.args) else some (n38.op,n38.arith,n38.dst,n38.a,n38.b,n38.value,n38.wide,n38.args)) λXh=>OB (f33 Xh.1 Xh.2.1 Xh.2.2.1 Xh.2.2.2.1 Xh.2.2.2.2.1 Xh.2.2.2.2.2.1 Xh.2.2.2.2.2.2.1 Xh.2.2.2.2.2.2.2) λc42=>ck (aX s36.2.2.2.length c42.2.length 1) <|some (.inl ((dL (s36.1+1)),s36.2.1,s36.2.2.1,(s36.2.2.2++c42.2))) else some (.inr s36.2)) ((0:Int),Ih.2.1,Ih.2.2.1,Ih.2.2.2.1)) λs45=>let n48:=[(dL ((s45.2.2.length:Int)-n34))];ck (aX LK.2.2.length n48.length 8) <|let n49:=(LK.2.2++n48);ck (inB n30 p5.length) <|let n50:=(List.getD p5 n30.toNat eInt);OB (bF (λ(Oc:(Int×Int×Int×LPl))=>bif (decide (Oc.1<(n50.length:Int))) then ck (inB Oc.1 n50.length) <|ck (inB Oc.1 n49.length) <|let n57:=(dL (Oc.1+1));ck (inB n57 n49.length) <|ck (inB Oc.1 n49.length) <|let n61:=[(fQ.mk n30 (List.getD n50 Oc.1.toNat 0) (dL (n34+(List.getD n49 Oc.1.toNat 0))) (dL ((List.getD n49 n57.toNat 0)-(List.getD n49 Oc.1.toNat 0))))];ck (aX Oc.2.2.2.length n61.length 32) <|some (.inl ((dL (Oc.1+1)),Oc.2.1,Oc.2.2.1,(Oc.2.2.2++n61))) else some (.inr Oc.2)) ((0:Int),s45.1,s45.2.1,Ih.2.2.2.2)) λs64=>some (.inl ((dL (Ih.1+1)),s64.1,s64.2.1,s45.2.2,s64.2.2)) else some (.inr Ih.2)) ((0:Int),s14.1,s14.2.1,eInt,Qy)) λs66=>some (s66.1,s66.2.1,(0:Int),s66.2.2.1,vH.2,s14.2.2.1,s14.2.2.2,c2,s66.2.2.2)
def alR:aY:=⟨as4,u6 f10⟩
theorem ZG:aC Tryz.prog 10 alR:=
 ts [(29,apo),(30,aoR),(31,apq),(32,alQ),(33,alM)] ety [.cell 4 38,.tmp 5] as5 Tryz.func10 rfl ⟨aib,ahB,aic,ZF,ZB,trivial⟩
def f6:Option Bool:= let n1:=[(aO.mk bI 0 1 [(aK.mk ([]:(List dB)) 3 0 0 0 0 0 0)])];OB (f23 eG n1 0 0) λc2=>OB (f10 eG n1 0 0 c2.1 c2.2) λc3=>OB (bif (decide (c3.2.2.1=0)) then bif (decide ((c3.2.2.2.1.length:Int)=2)) then bif (decide ((c3.2.2.2.2.2.2.2.2.length:Int)=1)) then ck (inB (0:Int) c3.2.2.2.2.2.2.2.2.length) <|some (decide ((List.getD c3.2.2.2.2.2.2.2.2 (Int.toNat 0) (fQ.mk 0 0 0 0)).size=2)) else some false else some false else some false) λs14=>some s14
def sp6:aY:=⟨sg6,λx=>f6⟩
theorem alS:aC Tryz.prog 6 sp6:=
 ts [(23,alD),(10,alR)] ety [.tmp 0] an6 Tryz.func6 rfl ⟨Zj,ZG,trivial⟩
def f3(p0:eH):Option Bool:= OB (f6) λc0=>bif (!c0) then some false else OB (f7 p0 500) λc2=>OB (f8 c2.1 c2.2) λc3=>OB (f9 c3.2.2.2.2.2 c3.1 c3.2.1 c3.2.2.1 c3.2.2.2.1 c3.2.2.2.2.1) λc4=>OB (f10 c3.2.2.2.2.2 c3.1 c3.2.1 c3.2.2.1 c4.2.2.1 c4.2.2.2) λc5=>OB (bif (!(decide (c5.2.2.1=0))) then some true else some (!(decide ((c5.2.2.2.2.1.length:Int)=(c3.1.length:Int))))) λs11=>bif s11 then some false else d_ (bF (λ(s12:(Int×Int))=>bif (decide (s12.2<(c5.2.2.2.2.2.2.2.2.length:Int))) then ck (inB s12.2 c5.2.2.2.2.2.2.2.2.length) <|let n15:=(List.getD c5.2.2.2.2.2.2.2.2 s12.2.toNat pV);OB (bif (!(decide (n15.address=s12.1))) then some true else bif (decide (n15.size<0)) then some true else bif (decide (n15.func<0)) then some true else bif (decide ((c3.1.length:Int)<=n15.func)) then some true else bif (decide (n15.block=0)) then ck (inB n15.func c5.2.2.2.2.1.length) <|some (!(decide ((List.getD c5.2.2.2.2.1 (Int.toNat n15.func) 0)=s12.1))) else some false) λE_=>bif E_ then some (.inr (.inr false)) else some (.inl ((dL (s12.1+n15.size)),(dL (s12.2+1)))) else some (.inr (.inl s12.1))) ((0:Int),(0:Int))) λs33=>d_ (bF (λ(Vt:(Int×Int))=>bif (decide (Vt.2<(c3.1.length:Int))) then ck (inB Vt.2 c3.1.length) <|d_ (bF (λ(QY:Int)=>ck (inB Vt.2 c3.1.length) <|bif (decide (QY<((List.length (List.getD c3.1 Vt.2.toNat ah).blocks):Int))) then OB (f11 c5.2.2.2.1 c5.2.2.2.2.1 c5.2.2.2.2.2.1 c5.2.2.2.2.2.2.1 c5.1 c5.2.1 c5.2.2.2.2.2.2.2.1 c5.2.2.2.2.2.2.2.2 Vt.2 QY) λc44=>bif (!c44.2.2.2.2) then some (.inr (.inr (.inr (.inr false)))) else some (.inl (dL (QY+1))) else some (.inr (.inl ()))) (0:Int)) λs47=>some (.inl ((dL (Vt.1+((List.length (List.getD c3.1 Vt.2.toNat ah).blocks):Int))),(dL (Vt.2+1)))) else some (.inr (.inl Vt.1))) ((0:Int),(0:Int))) λs49=>OB (bif (decide (s33=(c5.2.2.2.1.length:Int))) then some (decide (s49=(c5.2.2.2.2.2.2.2.2.length:Int))) else some false) λVu=>some Vu
def sp3:aY:=⟨sg3,f3⟩
theorem alT:aC Tryz.prog 3 sp3:=
 ts [(6,sp6),(7,sp7),(8,sp8),(9,sp9),(10,alR),(11,aoQ)] ety [.tmp 2] an3 Tryz.func3 rfl ⟨alS,alj,alO,alL,ZG,ahy,trivial⟩
end
end Go.Fg.YtoipcimfapppmaaGreatDoor

