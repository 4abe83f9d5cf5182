/-
 What the functions of the seat compute, printed by a program (wip/gen).
-/
import Derived.Test.YtfklooeiipkijaaFgA
namespace Go.Fg.Ytfklooeiipkijaa
open Go.Fw Go.Proofs Go.Fw.Ytfklooeiipkijaa
noncomputable section
set_option linter.unusedVariables false
set_option maxRecDepth 100000
abbrev bG:Type:=List (List UInt8)
abbrev LFu:Type:=List dw
abbrev eF:Type:=List aW
abbrev mD:Type:=List aG
abbrev LPr:Type:=List aJ
abbrev iQ:Type:=List UInt8
abbrev qj:Type:=List eX
abbrev mY:Type:=List bK
abbrev LLi:Type:=List dn
abbrev LBo:Type:=List Bool
abbrev eY:Type:=List Int
abbrev OB {A B:Type}:Option A→(A→Option B)→Option B:=Option.bind
theorem ts (l:List (Nat×aZ)) (e:TypeId→Option Ty) {f:FuncId} {fn:Func} {c:Code} {sp:aZ} (r:List ResultVar) (a:gG) (hf:Try.prog.funcs[f]?=some fn) (hb:fn.body=some c) (hT:Zu Try.prog l) (h1:(fn.name == "runtime.NumGoroutine")=false:=by rfl) (h2:fn.results=r.toArray:=by rfl) (h3:sp.sig.er.ok=true:=by kernel_rfl) (h4:(sp.sig.bg.all fun g=>sp.sig.pin.er.nms.contains g)=true:=by rfl) (h5:sp.sig.bH≤fn.ntmps:=by exact of_decide_eq_true (by kernel_rfl)) (h6:r.length=sp.sig.dA:=by rfl)
 (h :∀x,(abH (lY.of l) tt e fn.ntmps sp.sig r c a x).run=sp.f x:=by intro x;kernel_rfl):ay Try.prog f sp:=Zv (T:=lY.of l) (ety:=e) r a hf hb h1 h2 h3 h4 h5 h6 (Zu.sound hT) anJ mixed h
def u2 {A0 A1 R:Type} (f:A0→A1→R) (x:A0×A1):R:=f x.1 x.2
def u3 {A0 A1 A2 R:Type} (f:A0→A1→A2→R) (x:A0×A1×A2):R:=f x.1 x.2.1 x.2.2
def u4 {A0 A1 A2 A3 R:Type} (f:A0→A1→A2→A3→R) (x:A0×A1×A2×A3):R:=f x.1 x.2.1 x.2.2.1 x.2.2.2
def u5 {A0 A1 A2 A3 A4 R:Type} (f:A0→A1→A2→A3→A4→R) (x:A0×A1×A2×A3×A4):R:=f x.1 x.2.1 x.2.2.1 x.2.2.2.1 x.2.2.2.2
def u6 {A0 A1 A2 A3 A4 A5 R:Type} (f:A0→A1→A2→A3→A4→A5→R) (x:A0×A1×A2×A3×A4×A5):R:=f x.1 x.2.1 x.2.2.1 x.2.2.2.1 x.2.2.2.2.1 x.2.2.2.2.2
def u7 {A0 A1 A2 A3 A4 A5 A6 R:Type} (f:A0→A1→A2→A3→A4→A5→A6→R) (x:A0×A1×A2×A3×A4×A5×A6):R:=f x.1 x.2.1 x.2.2.1 x.2.2.2.1 x.2.2.2.2.1 x.2.2.2.2.2.1 x.2.2.2.2.2.2
def u8 {A0 A1 A2 A3 A4 A5 A6 A7 R:Type} (f:A0→A1→A2→A3→A4→A5→A6→A7→R) (x:A0×A1×A2×A3×A4×A5×A6×A7):R:=f x.1 x.2.1 x.2.2.1 x.2.2.2.1 x.2.2.2.2.1 x.2.2.2.2.2.1 x.2.2.2.2.2.2.1 x.2.2.2.2.2.2.2
def u9 {A0 A1 A2 A3 A4 A5 A6 A7 A8 R:Type} (f:A0→A1→A2→A3→A4→A5→A6→A7→A8→R) (x:A0×A1×A2×A3×A4×A5×A6×A7×A8):R:=f x.1 x.2.1 x.2.2.1 x.2.2.2.1 x.2.2.2.2.1 x.2.2.2.2.2.1 x.2.2.2.2.2.2.1 x.2.2.2.2.2.2.2.1 x.2.2.2.2.2.2.2.2
def u10 {A0 A1 A2 A3 A4 A5 A6 A7 A8 A9 R:Type} (f:A0→A1→A2→A3→A4→A5→A6→A7→A8→A9→R) (x:A0×A1×A2×A3×A4×A5×A6×A7×A8×A9):R:=f x.1 x.2.1 x.2.2.1 x.2.2.2.1 x.2.2.2.2.1 x.2.2.2.2.2.1 x.2.2.2.2.2.2.1 x.2.2.2.2.2.2.2.1 x.2.2.2.2.2.2.2.2.1 x.2.2.2.2.2.2.2.2.2
def u11 {A0 A1 A2 A3 A4 A5 A6 A7 A8 A9 XI R:Type} (f:A0→A1→A2→A3→A4→A5→A6→A7→A8→A9→XI→R) (x:A0×A1×A2×A3×A4×A5×A6×A7×A8×A9×XI):R:=f x.1 x.2.1 x.2.2.1 x.2.2.2.1 x.2.2.2.2.1 x.2.2.2.2.2.1 x.2.2.2.2.2.2.1 x.2.2.2.2.2.2.2.1 x.2.2.2.2.2.2.2.2.1 x.2.2.2.2.2.2.2.2.2.1 x.2.2.2.2.2.2.2.2.2.2
def u12 {A0 A1 A2 A3 A4 A5 A6 A7 A8 A9 XI A11 R:Type} (f:A0→A1→A2→A3→A4→A5→A6→A7→A8→A9→XI→A11→R) (x:A0×A1×A2×A3×A4×A5×A6×A7×A8×A9×XI×A11):R:=f x.1 x.2.1 x.2.2.1 x.2.2.2.1 x.2.2.2.2.1 x.2.2.2.2.2.1 x.2.2.2.2.2.2.1 x.2.2.2.2.2.2.2.1 x.2.2.2.2.2.2.2.2.1 x.2.2.2.2.2.2.2.2.2.1 x.2.2.2.2.2.2.2.2.2.2.1 x.2.2.2.2.2.2.2.2.2.2.2
def u13 {A0 A1 A2 A3 A4 A5 A6 A7 A8 A9 XI A11 A12 R:Type} (f:A0→A1→A2→A3→A4→A5→A6→A7→A8→A9→XI→A11→A12→R) (x:A0×A1×A2×A3×A4×A5×A6×A7×A8×A9×XI×A11×A12):R:=f x.1 x.2.1 x.2.2.1 x.2.2.2.1 x.2.2.2.2.1 x.2.2.2.2.2.1 x.2.2.2.2.2.2.1 x.2.2.2.2.2.2.2.1 x.2.2.2.2.2.2.2.2.1 x.2.2.2.2.2.2.2.2.2.1 x.2.2.2.2.2.2.2.2.2.2.1 x.2.2.2.2.2.2.2.2.2.2.2.1 x.2.2.2.2.2.2.2.2.2.2.2.2
def u14 {A0 A1 A2 A3 A4 A5 A6 A7 A8 A9 XI A11 A12 A13 R:Type} (f:A0→A1→A2→A3→A4→A5→A6→A7→A8→A9→XI→A11→A12→A13→R) (x:A0×A1×A2×A3×A4×A5×A6×A7×A8×A9×XI×A11×A12×A13):R:=f x.1 x.2.1 x.2.2.1 x.2.2.2.1 x.2.2.2.2.1 x.2.2.2.2.2.1 x.2.2.2.2.2.2.1 x.2.2.2.2.2.2.2.1 x.2.2.2.2.2.2.2.2.1 x.2.2.2.2.2.2.2.2.2.1 x.2.2.2.2.2.2.2.2.2.2.1 x.2.2.2.2.2.2.2.2.2.2.2.1 x.2.2.2.2.2.2.2.2.2.2.2.2.1 x.2.2.2.2.2.2.2.2.2.2.2.2.2
def u15 {A0 A1 A2 A3 A4 A5 A6 A7 A8 A9 XI A11 A12 A13 A14 R:Type} (f:A0→A1→A2→A3→A4→A5→A6→A7→A8→A9→XI→A11→A12→A13→A14→R) (x:A0×A1×A2×A3×A4×A5×A6×A7×A8×A9×XI×A11×A12×A13×A14):R:=f x.1 x.2.1 x.2.2.1 x.2.2.2.1 x.2.2.2.2.1 x.2.2.2.2.2.1 x.2.2.2.2.2.2.1 x.2.2.2.2.2.2.2.1 x.2.2.2.2.2.2.2.2.1 x.2.2.2.2.2.2.2.2.2.1 x.2.2.2.2.2.2.2.2.2.2.1 x.2.2.2.2.2.2.2.2.2.2.2.1 x.2.2.2.2.2.2.2.2.2.2.2.2.1 x.2.2.2.2.2.2.2.2.2.2.2.2.2.1 x.2.2.2.2.2.2.2.2.2.2.2.2.2.2
abbrev T11:=Int→eY→Int→Option (Int×eY×Int)
abbrev T31:=Int→Option iQ
abbrev T50:=qj→bG→Option bG
abbrev T55:=qj→Option Int
abbrev T68:=Int→Int→Int→Int→iQ→mY→Option Int
abbrev Z_:=Int→Int→Int→Int→iQ→mY→Int→eF→(List aB)→bG→Int→Int→Int→mD→Option (eF×(List aB)×bG×Int×Int×Int×mD)
abbrev T73:=Int→Int→Int→Int→iQ→mY→Int→eF→(List aB)→bG→Int→Int→Int→mD→Option (eF×(List aB)×bG×Int×Int×Int×mD)
abbrev T74:=mY→Int→eF→(List aB)→bG→Int→Int→Int→mD→Option (eF×(List aB)×bG×Int×Int×Int×eY×mD)
abbrev T70:=Int→Int→Int→Int→iQ→mY→eF→(List aB)→Int→Int→bG→Option (Int×Int×Int×Int×iQ×eF×(List aB)×Int×Int×bG×mY)
abbrev T80:=mY→eF→(List aB)→Int→Int→bG→Option (eF×(List aB)×Int×Int×bG×mY)
abbrev T43:=qj→eF→(List aB)→bG→Int→Int→Int→mD→Option (Bool×eF×(List aB)×bG×Int×Int×Int×mD)
abbrev T51:=Int→Int→iQ→mY→qj→qj→eF→(List aB)→bG→Int→Int→Int→mD→Option (Bool×eF×(List aB)×bG×Int×Int×Int×mD)
abbrev T61:=Int→Int→iQ→mY→qj→qj→Int→eF→(List aB)→bG→Int→Int→Int→mD→Option (eF×(List aB)×bG×Int×Int×Int×mD)
abbrev T64:=Int→Int→iQ→mY→qj→qj→Int→eF→(List aB)→bG→Int→Int→Int→mD→Option (Bool×eF×(List aB)×bG×Int×Int×Int×mD)
abbrev T58:=qj→eF→(List aB)→Int→Int→bG→Option (eF×(List aB)×Int×Int×qj×bG)
abbrev T83:=Int→Int→eY→Int→eF→(List aB)→bG→Option (Int×Int×Int×Int×iQ×mY×Int×eY×Int×eF×(List aB)×bG)
abbrev T86:=Int→Int→eY→Int→eF→(List aB)→bG→Option (Int×Int×Int×Int×iQ×Int×eY×Int×eF×(List aB)×bG×mY)
abbrev T59:=Int→Int→Int→eY→Int→eF→(List aB)→bG→Option (Int×eY×Int×eF×(List aB)×qj×bG)
abbrev T72:=Int→Int→eY→Int→eF→(List aB)→bG→Option (Int×Int×iQ×Int×eY×Int×eF×(List aB)×mY×qj×qj×bG)
abbrev T85:=Int→Int→eY→Int→eF→(List aB)→bG→Option (Int×Int×iQ×Int×eY×Int×eF×(List aB)×mY×qj×bG)
abbrev eInt:eY:=[]
abbrev dX:iQ:=[]
abbrev pW:mY:=[]
abbrev kH:bG:=[]
abbrev je:qj:=[]
abbrev iU:eF:=[]
abbrev wH:(List aB):=[]
abbrev ql:LFu:=[]
def bV (a b k:Nat):Bool:=true&&decide ((a+b)*k≤140737488355328)
def G_:nR:=nR.mk (0:Int) (0:Int) ([]:(List lD))
def ak:aF:=aF.mk ([]:iQ) (0:Int) (0:Int) ([]:mD)
def h_:aB:=aB.mk ([]:iQ) (0:Int) ([]:bG) ([]:qj)
def SK:fM:=fM.mk (0:Int) (0:Int) (0:Int) (0:Int) (0:Int) (0:Int) ([]:eY)
def dS:dw:=dw.mk (0:Int) ([]:eY) ([]:(List (Int×Int))) ([]:(List nR))
def iK:bK:=bK.mk (0:Int) (0:Int) (0:Int) (0:Int) ([]:iQ) ([]:mY)
def ah:aG:=aG.mk ([]:(List fM)) (0:Int) (0:Int) (0:Int) (0:Int) (0:Int) (0:Int) 0
def kJ:eX:=eX.mk (0:Int) (0:Int) ([]:iQ) ([]:mY) ([]:qj) ([]:qj)
def f6 (p0:eY) (p1:Int):Option (eY×Int):=
 OB (
  bif (decide (p1<(p0.length:Int))) then
   ck (zG (0:Int) p1 p0.length) <|
   some (List.drop (Int.toNat (0:Int)) (List.take p1.toNat p0))
  else
   some p0) fun s3=>
 some (s3,(0:Int))
def sp6:aZ:=⟨sg6,u2 f6⟩
theorem aiy:ay Try.prog 6 sp6:=
 ts [] ety [.tmp 4] an6 Try.func6 rfl trivial
def f9 (p0:iQ) (p1:Int) (p2:Int) (p3:mD):Option LPr:=
 OB (
  bD (fun (s2:(Int×LPr))=>
   bif (decide (s2.1<(p3.length:Int))) then
    ck (inB s2.1 p3.length) <|
    let n4:=(List.getD p3 s2.1.toNat ah)
    OB (
     bif (!(decide (n4.aA=3))) then
      let n6:=[(aJ.mk 0 s2.1 0)]
      ck (bV s2.2.length n6.length 24) <|
      some (s2.2++n6)
     else
      some s2.2) fun s8=>
    OB (
     bif (decide (n4.aA=2)) then
      let n10:=[(aJ.mk 0 s2.1 1)]
      ck (bV s8.length n10.length 24) <|
      some (s8++n10)
     else
      some s8) fun s12=>
    some (.inl ((b_ (s2.1+1)),s12))
   else
    some (.inr s2.2)) ((0:Int),[(aJ.mk 0 0 2)])) fun s14=>
 some s14
def sp9:aZ:=⟨sg9,u4 f9⟩
theorem EG:ay Try.prog 9 sp9:=
 ts [] ety [.tmp 2] an9 Try.func9 rfl trivial
def aff (alb:T11) (p0:Int) (p1:eY) (p2:Int):Option (Int×eY×Int):=
 OB (
  bif (decide ((p1.length:Int)≤p2)) then
   some true
  else
   some (decide (p0<1))) fun s4=>
 bif s4 then
  some ((0:Int),p1,p2)
 else
  ck (inB p2 p1.length) <|
  let n6:=(b_ (List.getD p1 p2.toNat 0))
  let n7:=(b_ (p2+1))
  bif (decide (256<p0)) then
   OB (alb 256 p1 n7) fun c10=>
   ck (!(decide (p0=0))) <|
   some ((Int.tmod (b_ ((b_ (256*n6))+c10.1)) p0),c10.2.1,c10.2.2)
  else
   ck (!(decide (p0=0))) <|
   some ((Int.tmod n6 p0),p1,n7)
def VI:Nat→T11
 |0=>(fun _ _ _=>none)
 |n+1=>(aff (VI n))
def afg (n:Nat):T11:=(VI n)
def SL (n:Nat):aZ:=⟨akB,u3 (VI n)⟩
theorem acn (n:Nat) (h11:ay Try.prog 11 (SL n)):ay Try.prog 11 (SL (n+1)):=
 ts [(11,SL n)] ety [.tmp 4] anU Try.func11 rfl ⟨h11,trivial⟩
theorem F6 :∀n,ay Try.prog 11 (SL n)
 |0=>dR Try.func11 rfl rfl (show akB.er.ok=true by decide +kernel) fun x=>rfl
 |n+1=>by
  have ih:=F6 n
  exact acn n (ih)
def f11:T11:=afg 1048576
def GR:aZ:=SL 1048576
theorem nS:ay Try.prog 11 GR:=(F6 1048576)
def f20 (p0:Int):Option Bool:=
 OB (
  bif (decide (0≤p0)) then
   some (decide (p0≤1099511627776))
  else
   some false) fun s3=>
 some s3
def afh:aZ:=⟨anV,f20⟩
theorem Py:ay Try.prog 20 afh:=
 ts [] ety [.tmp 2] anW Try.func20 rfl trivial
def f24 (p0:Int):Option Bool:=
 some (decide (p0<0))
def aiA:aZ:=⟨anX,f24⟩
theorem XJ:ay Try.prog 24 aiA:=
 ts [] ety [.tmp 2] anY Try.func24 rfl trivial
def f25 (p0:Int):Option Bool:=
 OB (
  bif (decide (0≤p0)) then
   some (decide (p0≤1099511627776))
  else
   some false) fun s3=>
 some s3
def aiB:aZ:=⟨anZ,f25⟩
theorem XK:ay Try.prog 25 aiB:=
 ts [] ety [.tmp 2] an0 Try.func25 rfl trivial
def f26 (p0:eF) (p1:(List aF)) (p2:Int) (p3:Int) (p4:iQ) (p5:Int) (p6:Int) (p7:mD) (p8:(List nR)):Option Bool:=
 dP (
  bD (fun (s0:Int)=>
   bif (decide (s0<(p8.length:Int))) then
    ck (inB s0 p8.length) <|
    let n3:=(List.getD p8 s0.toNat G_)
    OB (
     bif (decide (n3.block<0)) then
      some true
     else
      bif (decide ((p7.length:Int)≤n3.block)) then
       some true
      else
       bif (decide (n3.instr<0)) then
        some true
       else
        ck (inB n3.block p7.length) <|
        bif (decide (((List.length (List.getD p7 (Int.toNat n3.block) ah).instrs):Int)≤n3.instr)) then
         some true
        else
         some (decide (((List.length n3.targets):Int)=0))) fun pG=>
    bif pG then
     some (.inr (.inr false))
    else
     ck (inB n3.block p7.length) <|
     let n18:=(List.getD p7 (Int.toNat n3.block) ah)
     ck (inB n3.instr (List.length n18.instrs)) <|
     let n19:=(List.getD n18.instrs (Int.toNat n3.instr) SK)
     OB (
      bif (!(decide (n19.kind=12))) then
       some true
      else
       bif (decide (0<s0)) then
        let n22:=(b_ (s0-1))
        ck (inB n22 p8.length) <|
        bif (decide (n3.block<(List.getD p8 n22.toNat G_).block)) then
         some true
        else
         let n27:=(b_ (s0-1))
         ck (inB n27 p8.length) <|
         bif (decide ((List.getD p8 n27.toNat G_).block=n3.block)) then
          let n30:=(b_ (s0-1))
          ck (inB n30 p8.length) <|
          some (decide (n3.instr≤(List.getD p8 n30.toNat G_).instr))
         else
          some false
       else
        some false) fun F7=>
     bif F7 then
      some (.inr (.inr false))
     else
      dP (
       bD (fun (rG:Int)=>
        bif (decide (rG<((List.length n3.targets):Int))) then
         ck (inB rG (List.length n3.targets)) <|
         let n45:=(List.getD n3.targets rG.toNat (lD.mk 0 0))
         OB (
          bif (decide (n45.func<0)) then
           some true
          else
           bif (decide (p2≤n45.func)) then
            some true
           else
            ck (inB n45.func p1.length) <|
            bif (!(decide ((List.getD p1 (Int.toNat n45.func) ak).params=((List.length n19.args):Int)))) then
             some true
            else
             bif (decide (n45.count<1)) then
              some true
             else
              OB (f25 n45.count) fun c55=>
              bif (!c55) then
               some true
              else
               bif (decide (0<rG)) then
                let n59:=(b_ (rG-1))
                ck (inB n59 (List.length n3.targets)) <|
                some (decide (n45.func≤(List.getD n3.targets n59.toNat (lD.mk 0 0)).func))
               else
                some false) fun s65=>
         bif s65 then
          some (.inr (.inr (.inr (.inr false))))
         else
          some (.inl (b_ (rG+1)))
        else
         some (.inr (.inl ()))) (0:Int)) fun s67=>
      some (.inl (b_ (s0+1)))
   else
    some (.inr (.inl ()))) (0:Int)) fun s69=>
 some true
def ald:aZ:=⟨an1,u9 f26⟩
theorem afi:ay Try.prog 26 ald:=
 ts [(25,aiB)] ety [.tmp 6] an2 Try.func26 rfl ⟨XK,trivial⟩
def f28 (p0:iQ) (p1:Int) (p2:Int) (p3:mD) (p4:Int) (p5:(List mX)):Option eY:=
 let n0:=(p3.length:Int)
 ck (uJ (8:Nat) n0 n0) <|
 OB (
  bD (fun (s2:(Int×eY))=>
   bif (decide (s2.1<(p5.length:Int))) then
    OB (
     ck (inB s2.1 p5.length) <|
     bif (decide ((List.getD p5 s2.1.toNat (mX.mk 0 0)).func=p4)) then
      ck (inB s2.1 p5.length) <|
      bif (decide (0≤(List.getD p5 s2.1.toNat (mX.mk 0 0)).block)) then
       ck (inB s2.1 p5.length) <|
       some (decide ((List.getD p5 s2.1.toNat (mX.mk 0 0)).block<(s2.2.length:Int)))
      else
       some false
     else
      some false) fun s14=>
    OB (
     bif s14 then
      ck (inB s2.1 p5.length) <|
      let n15:=(List.getD p5 s2.1.toNat (mX.mk 0 0))
      ck (inB n15.block s2.2.length) <|
      ck (inB n15.block s2.2.length) <|
      some (List.set s2.2 (Int.toNat n15.block) (b_ ((List.getD s2.2 (Int.toNat n15.block) 0)+1)))
     else
      some s2.2) fun jE=>
    some (.inl ((b_ (s2.1+1)),jE))
   else
    some (.inr s2.2)) ((0:Int),(List.replicate n0.toNat (0:Int)))) fun zy=>
 some zy
def ale:aZ:=⟨an3,u6 f28⟩
theorem afj:ay Try.prog 28 ale:=
 ts [] ety [.tmp 6] an_ Try.func28 rfl trivial
def aiC (alf:T31) (p0:Int):Option iQ:=
 let n4:=(List.map (fun (b:Int)=>(UInt8.ofNat (Int.toNat b))) [(Go.IntKind.wrap .u8 (b_ (48+(Int.tmod p0 (10:Int)))))])
 bif (decide (10≤p0)) then
  OB (alf (b_ (Int.tdiv p0 (10:Int)))) fun c7=>
  ck (CU c7.length n4.length) <|
  some (c7++n4)
 else
  some n4
def VJ:Nat→T31
 |0=>(fun _=>none)
 |n+1=>(aiC (VJ n))
def afk (n:Nat):T31:=(VJ n)
def SN (n:Nat):aZ:=⟨akC,(VJ n)⟩
theorem aco (n:Nat) (h31:ay Try.prog 31 (SN n)):ay Try.prog 31 (SN (n+1)):=
 ts [(31,SN n)] ety [.tmp 2] aoa Try.func31 rfl ⟨h31,trivial⟩
theorem F8 :∀n,ay Try.prog 31 (SN n)
 |0=>dR Try.func31 rfl rfl (show akC.er.ok=true by decide +kernel) fun x=>rfl
 |n+1=>by
  have ih:=F8 n
  exact aco n (ih)
def f31:T31:=afk 1048576
def aiD:aZ:=SN 1048576
theorem XL:ay Try.prog 31 aiD:=(F8 1048576)
def f32 (p0:eF) (p1:(List aF)) (p2:Int) (p3:Int) (p4:iQ) (p5:Int) (p6:Int) (p7:mD) (p8:eY) (p9:Int):Option (Int×Int×Int×Int×Int×Int×eY×Int×eY):=
 OB (f11 12 p8 p9) fun c0=>
 let n1:=(b_ (1+c0.1))
 OB (f11 p6 c0.2.1 c0.2.2) fun c2=>
 OB (f11 p6 c2.2.1 c2.2.2) fun c3=>
 OB (f11 p6 c3.2.1 c3.2.2) fun c4=>
 OB (
  bif (decide (n1=1)) then
   OB (f11 6 c4.2.1 c4.2.2) fun c6=>
   some (c6.2.1,c6.2.2,n1,(0:Int),c2.1,c3.1,c4.1,(b_ (c6.1-1)),eInt)
  else
   OB (
    bif (decide (n1=3)) then
     OB (f11 2 c4.2.1 c4.2.2) fun c9=>
     some (c9.2.1,c9.2.2,n1,(b_ (1+c9.1)),c2.1,c3.1,c4.1,(0:Int),eInt)
    else
     OB (
      bif (decide (n1=4)) then
       OB (f11 9 c4.2.1 c4.2.2) fun c12=>
       some (c12.2.1,c12.2.2,n1,(b_ (3+c12.1)),c2.1,c3.1,c4.1,(0:Int),eInt)
      else
       OB (
        bif (decide (n1=7)) then
         some true
        else
         some (decide (n1=8))) fun s16=>
       OB (
        bif s16 then
         some (c4.2.1,c4.2.2,n1,(0:Int),c2.1,c3.1,c4.1,(1:Int),eInt)
        else
         OB (
          bif (decide (n1=11)) then
           OB (f11 (p1.length:Int) c4.2.1 c4.2.2) fun c19=>
           OB (
            bD (fun (s20:(Int×eY×Int×Int×Int×Int×Int×Int×Int×eY))=>
             ck (inB s20.2.2.2.2.2.2.2.2.1 p1.length) <|
             bif (decide (s20.1<(List.getD p1 s20.2.2.2.2.2.2.2.2.1.toNat ak).params)) then
              OB (f11 p6 s20.2.1 s20.2.2.1) fun c23=>
              let n24:=[c23.1]
              ck (bV s20.2.2.2.2.2.2.2.2.2.length n24.length 8) <|
              some (.inl ((b_ (s20.1+1)),c23.2.1,c23.2.2,s20.2.2.2.1,s20.2.2.2.2.1,s20.2.2.2.2.2.1,s20.2.2.2.2.2.2.1,s20.2.2.2.2.2.2.2.1,s20.2.2.2.2.2.2.2.2.1,(s20.2.2.2.2.2.2.2.2.2++n24)))
             else
              some (.inr (s20.2.1,s20.2.2.1,s20.2.2.2.1,s20.2.2.2.2.1,s20.2.2.2.2.2.1,s20.2.2.2.2.2.2.1,s20.2.2.2.2.2.2.2.1,s20.2.2.2.2.2.2.2.2.1,s20.2.2.2.2.2.2.2.2.2))) ((0:Int),c19.2.1,c19.2.2,n1,(0:Int),c2.1,c3.1,c4.1,c19.1,eInt)) fun XM=>
           some (XM.1,XM.2.1,XM.2.2.1,XM.2.2.2.1,XM.2.2.2.2.1,XM.2.2.2.2.2.1,XM.2.2.2.2.2.2.1,XM.2.2.2.2.2.2.2.1,XM.2.2.2.2.2.2.2.2)
          else
           OB (
            bif (decide (n1=12)) then
             OB (f11 3 c4.2.1 c4.2.2) fun c29=>
             OB (
              bD (fun (t_:(Int×eY×Int×Int×Int×Int×Int×Int×Int×eY))=>
               bif (decide (0<t_.1)) then
                OB (f11 p6 t_.2.1 t_.2.2.1) fun c32=>
                let n33:=[c32.1]
                ck (bV t_.2.2.2.2.2.2.2.2.2.length n33.length 8) <|
                some (.inl ((b_ (t_.1-1)),c32.2.1,c32.2.2,t_.2.2.2.1,t_.2.2.2.2.1,t_.2.2.2.2.2.1,t_.2.2.2.2.2.2.1,t_.2.2.2.2.2.2.2.1,t_.2.2.2.2.2.2.2.2.1,(t_.2.2.2.2.2.2.2.2.2++n33)))
               else
                some (.inr (t_.2.1,t_.2.2.1,t_.2.2.2.1,t_.2.2.2.2.1,t_.2.2.2.2.2.1,t_.2.2.2.2.2.2.1,t_.2.2.2.2.2.2.2.1,t_.2.2.2.2.2.2.2.2.1,t_.2.2.2.2.2.2.2.2.2))) (c29.1,c29.2.1,c29.2.2,n1,(0:Int),c2.1,c3.1,c4.1,(0:Int),eInt)) fun s36=>
             some (s36.1,s36.2.1,s36.2.2.1,s36.2.2.2.1,s36.2.2.2.2.1,s36.2.2.2.2.2.1,s36.2.2.2.2.2.2.1,s36.2.2.2.2.2.2.2.1,s36.2.2.2.2.2.2.2.2)
            else
             some (c4.2.1,c4.2.2,n1,(0:Int),c2.1,c3.1,c4.1,(0:Int),eInt)) fun BA=>
           some (BA.1,BA.2.1,BA.2.2.1,BA.2.2.2.1,BA.2.2.2.2.1,BA.2.2.2.2.2.1,BA.2.2.2.2.2.2.1,BA.2.2.2.2.2.2.2.1,BA.2.2.2.2.2.2.2.2)) fun rO=>
         some (rO.1,rO.2.1,rO.2.2.1,rO.2.2.2.1,rO.2.2.2.2.1,rO.2.2.2.2.2.1,rO.2.2.2.2.2.2.1,rO.2.2.2.2.2.2.2.1,rO.2.2.2.2.2.2.2.2)) fun qB=>
       some (qB.1,qB.2.1,qB.2.2.1,qB.2.2.2.1,qB.2.2.2.2.1,qB.2.2.2.2.2.1,qB.2.2.2.2.2.2.1,qB.2.2.2.2.2.2.2.1,qB.2.2.2.2.2.2.2.2)) fun SQ=>
     some (SQ.1,SQ.2.1,SQ.2.2.1,SQ.2.2.2.1,SQ.2.2.2.2.1,SQ.2.2.2.2.2.1,SQ.2.2.2.2.2.2.1,SQ.2.2.2.2.2.2.2.1,SQ.2.2.2.2.2.2.2.2)) fun F7=>
   some (F7.1,F7.2.1,F7.2.2.1,F7.2.2.2.1,F7.2.2.2.2.1,F7.2.2.2.2.2.1,F7.2.2.2.2.2.2.1,F7.2.2.2.2.2.2.2.1,F7.2.2.2.2.2.2.2.2)) fun rG=>
 OB (
  bif (decide (rG.2.2.1=1)) then
   bif (decide (0<p2)) then
    OB (f11 3 rG.1 rG.2.1) fun c46=>
    some ((decide (c46.1=0)),c46.2.1,c46.2.2)
   else
    some (false,rG.1,rG.2.1)
  else
   some (false,rG.1,rG.2.1)) fun s49=>
 bif s49.1 then
  OB (f11 p2 s49.2.1 s49.2.2) fun c50=>
  some ((14:Int),(0:Int),rG.2.2.2.2.1,(0:Int),(0:Int),c50.1,c50.2.1,c50.2.2,eInt)
 else
  some (rG.2.2.1,rG.2.2.2.1,rG.2.2.2.2.1,rG.2.2.2.2.2.1,rG.2.2.2.2.2.2.1,rG.2.2.2.2.2.2.2.1,s49.2.1,s49.2.2,rG.2.2.2.2.2.2.2.2)
def alg:aZ:=⟨aob,u10 f32⟩
theorem afl:ay Try.prog 32 alg:=
 ts [(11,GR)] ety [.cell 6 92] aoc Try.func32 rfl ⟨nS,trivial⟩
def f35 (p0:Int) (p1:eY):Option (Int×eY):=
 OB (
  OB (
   bD (fun (s0:(Int×eY))=>
    ck (inB s0.1 s0.2.length) <|
    bif (!(decide ((List.getD s0.2 s0.1.toNat 0)=s0.1))) then
     ck (inB s0.1 s0.2.length) <|
     let n3:=(List.getD s0.2 s0.1.toNat 0)
     ck (inB n3 s0.2.length) <|
     ck (inB s0.1 s0.2.length) <|
     let n5:=(List.set s0.2 s0.1.toNat (List.getD s0.2 n3.toNat 0))
     ck (inB s0.1 n5.length) <|
     some (.inl ((List.getD n5 s0.1.toNat 0),n5))
    else
     some (.inr (s0.1,s0.2))) (p0,p1)) fun s7=>
  some (s7.1,s7.2)) fun s8=>
 ck (decide (p1.length=s8.2.length)) <|
 some s8
def aiE:aZ:=⟨aod,u2 f35⟩
theorem XO:ay Try.prog 35 aiE:=
 ts [] ety [.tmp 3] aoe Try.func35 rfl trivial
def f36 (p0:iQ) (p1:Int) (p2:Int) (p3:mD):Option LLi:=
 let n0:=(p3.length:Int)
 OB (f9 p0 p1 p2 p3) fun c1=>
 OB (
  bD (fun (s3:(Int×LLi))=>
   bif (decide (s3.1<(c1.length:Int))) then
    ck (inB s3.1 c1.length) <|
    let n5:=(List.getD c1 s3.1.toNat (aJ.mk 0 0 0))
    ck (inB n5.block p3.length) <|
    let n6:=(List.getD p3 (Int.toNat n5.block) ah)
    OB (
     bif (decide (n5.way=0)) then
      let n8:=[(dn.mk n5.block n6.fO)]
      ck (bV s3.2.length n8.length 16) <|
      some (s3.2++n8)
     else
      OB (
       bif (decide (n5.way=1)) then
        let n11:=[(dn.mk n5.block n6.dh)]
        ck (bV s3.2.length n11.length 16) <|
        some (s3.2++n11)
       else
        let n13:=[(dn.mk n0 0)]
        ck (bV s3.2.length n13.length 16) <|
        some (s3.2++n13)) fun s15=>
      some s15) fun s16=>
    some (.inl ((b_ (s3.1+1)),s16))
   else
    some (.inr s3.2)) ((0:Int),([]:LLi))) fun s18=>
 OB (
  bD (fun (s20:(Int×LLi))=>
   bif (decide (s20.1<(p3.length:Int))) then
    ck (inB s20.1 p3.length) <|
    OB (
     bif (decide ((List.getD p3 s20.1.toNat ah).aA=3)) then
      let n24:=[(dn.mk s20.1 n0)]
      ck (bV s20.2.length n24.length 16) <|
      some (s20.2++n24)
     else
      some s20.2) fun s26=>
    some (.inl ((b_ (s20.1+1)),s26))
   else
    some (.inr s20.2)) ((0:Int),s18)) fun Qb=>
 some Qb
def afm:aZ:=⟨aof,u4 f36⟩
theorem Pz:ay Try.prog 36 afm:=
 ts [(9,sp9)] ety [.tmp 2] aog Try.func36 rfl ⟨EG,trivial⟩
def f37 (p0:Int) (p1:LLi) (p2:eY) (p3:LBo):Option (eY×LLi×LBo):=
 OB (
  ck (inB p0 p1.length) <|
  OB (f35 (List.getD p1 p0.toNat (dn.mk 0 0)).from' p2) fun c1=>
  ck (inB p0 p1.length) <|
  OB (f35 (List.getD p1 p0.toNat (dn.mk 0 0)).to c1.2) fun c3=>
  ck (inB p0 p3.length) <|
  ck (inB c1.1 c3.2.length) <|
  some ((List.set c3.2 c1.1.toNat c3.1),p1,(List.set p3 p0.toNat (!(decide (c1.1=c3.1)))))) fun s7=>
 ck (decide (p2.length=s7.1.length)) <|
 ck (decide (p3.length=s7.2.2.length)) <|
 some s7
def alh:aZ:=⟨aoh,u4 f37⟩
theorem afn:ay Try.prog 37 alh:=
 ts [(35,aiE)] ety [] aoi Try.func37 rfl ⟨XO,trivial⟩
def f38 (p0:eY):Option eY:=
 bif (List.isEmpty p0) then
  both (
   some eInt) (
   ck (bV (List.length eInt) p0.length 8) <|
   some (eInt++p0))
 else
  ck (bV (List.length eInt) p0.length 8) <|
  some (eInt++p0)
def ali:aZ:=⟨aoj,f38⟩
theorem afo:ay Try.prog 38 ali:=
 ts [] ety [.tmp 2] aok Try.func38 rfl trivial
def f39 (p0:Int):Option Bool:=
 OB (f20 p0) fun c0=>
 some (!c0)
def aiF:aZ:=⟨aol,f39⟩
theorem XP:ay Try.prog 39 aiF:=
 ts [(20,afh)] ety [.tmp 2] aom Try.func39 rfl ⟨Py,trivial⟩
def f40 (p0:eY) (p1:eY):Option Bool:=
 bif (!(decide ((p0.length:Int)=(p1.length:Int)))) then
  some false
 else
  dP (
   bD (fun (s3:Int)=>
    bif (decide (s3<(p0.length:Int))) then
     ck (inB s3 p0.length) <|
     ck (inB s3 p1.length) <|
     bif (!(decide ((List.getD p0 s3.toNat 0)=(List.getD p1 s3.toNat 0)))) then
      some (.inr (.inr false))
     else
      some (.inl (b_ (s3+1)))
    else
     some (.inr (.inl ()))) (0:Int)) fun s10=>
  some true
def alj:aZ:=⟨aon,u2 f40⟩
theorem afp:ay Try.prog 40 alj:=
 ts [] ety [.tmp 4] aoo Try.func40 rfl trivial
def f42 (p0:Int) (p1:eF) (p2:(List aB)) (p3:bG) (p4:Int) (p5:Int) (p6:Int) (p7:mD):Option (Int×eF×(List aB)×bG×Int×Int×Int×mD):=
 let n0:=(p7.length:Int)
 let n1:=[(aG.mk ([]:(List fM)) 0 0 0 0 p0 p4 n0)]
 ck (bV p7.length n1.length 80) <|
 some (n0,p1,p2,p3,p4,p5,n0,(p7++n1))
def acp:aZ:=⟨aop,u8 f42⟩
theorem He:ay Try.prog 42 acp:=
 ts [] akD [.tmp 4] aoq Try.func42 rfl trivial
def f44 (p0:Int) (p1:Int) (p2:Int) (p3:Int) (p4:Int) (p5:Int) (p6:eY) (p7:eF) (p8:(List aB)) (p9:bG) (p10:Int) (p11:Int) (p12:Int) (p13:mD):Option (eF×(List aB)×bG×Int×Int×Int×mD):=
 OB (
  ck (inB p12 p13.length) <|
  let n0:=[(fM.mk p0 p1 p2 p3 p4 p5 p6)]
  ck (true&&(decide ((((List.length (List.getD p13 p12.toNat ah).instrs)+n0.length)*(72:Nat))≤(140737488355328:Nat)))) <|
  ck (inB p12 p13.length) <|
  ck (Nat.beq p12.toNat p12.toNat) <|
  some (p7,p8,p9,p10,p11,p12,(List.set p13 p12.toNat (aG.mk ((List.getD p13 p12.toNat ah).instrs++n0) (List.getD p13 p12.toNat ah).aA (List.getD p13 p12.toNat ah).Du (List.getD p13 p12.toNat ah).fO (List.getD p13 p12.toNat ah).dh (List.getD p13 p12.toNat ah).line (List.getD p13 p12.toNat ah).jU (List.getD p13 p12.toNat ah).jm)))) fun s3=>
 ck (decide (p13.length=s3.2.2.2.2.2.2.length)) <|
 some s3
def acr:aZ:=⟨aor,u14 f44⟩
theorem Hf:ay Try.prog 44 acr:=
 ts [] akE [] aos Try.func44 rfl trivial
def f45 (p0:Int) (p1:Int) (p2:Int) (p3:Int) (p4:Int) (p5:eF) (p6:(List aB)) (p7:bG) (p8:Int) (p9:Int) (p10:Int) (p11:mD):Option (eF×(List aB)×bG×Int×Int×Int×mD):=
 OB (
  ck (inB p0 p11.length) <|
  some (p5,p6,p7,p8,p9,p10,(List.set p11 p0.toNat (aG.mk (List.getD p11 p0.toNat ah).instrs p1 p2 p3 p4 (List.getD p11 p0.toNat ah).line (List.getD p11 p0.toNat ah).jU (List.getD p11 p0.toNat ah).jm)))) fun s1=>
 ck (decide (p11.length=s1.2.2.2.2.2.2.length)) <|
 some s1
def ZA:aZ:=⟨aot,u12 f45⟩
theorem Dv:ay Try.prog 45 ZA:=
 ts [] akF [] aou Try.func45 rfl trivial
def aiG (ahj:T50) (p0:qj) (p1:bG):Option bG:=
 OB (
  bD (fun (s0:(Int×bG))=>
   bif (decide (s0.1<(p0.length:Int))) then
    ck (inB s0.1 p0.length) <|
    OB (
     bif (decide ((List.getD p0 s0.1.toNat kJ).kind=1)) then
      ck (inB s0.1 p0.length) <|
      let n6:=[(List.getD p0 s0.1.toNat kJ).name]
      ck (bV s0.2.length n6.length 16) <|
      some (s0.2++n6)
     else
      some s0.2) fun s8=>
    ck (inB s0.1 p0.length) <|
    OB (ahj (List.getD p0 s0.1.toNat kJ).then' s8) fun c10=>
    ck (inB s0.1 p0.length) <|
    OB (ahj (List.getD p0 s0.1.toNat kJ).else' c10) fun c12=>
    some (.inl ((b_ (s0.1+1)),c12))
   else
    some (.inr s0.2)) ((0:Int),p1)) fun s14=>
 some s14
def VK:Nat→T50
 |0=>(fun _ _=>none)
 |n+1=>(aiG (VK n))
def aiH (n:Nat):T50:=(VK n)
def SV (n:Nat):aZ:=⟨akG,u2 (VK n)⟩
theorem acs (n:Nat) (h50:ay Try.prog 50 (SV n)):ay Try.prog 50 (SV (n+1)):=
 ts [(50,SV n)] ety [.tmp 4] aov Try.func50 rfl ⟨h50,trivial⟩
theorem F9 :∀n,ay Try.prog 50 (SV n)
 |0=>dR Try.func50 rfl rfl (show akG.er.ok=true by decide +kernel) fun x=>rfl
 |n+1=>by
  have ih:=F9 n
  exact acs n (ih)
def f50:T50:=aiH 1048576
def alk:aZ:=SV 1048576
theorem afq:ay Try.prog 50 alk:=(F9 1048576)
def f53 (p0:eF) (p1:(List aB)) (p2:iQ):Option Int:=
 dP (
  bD (fun (s0:Int)=>
   bif (decide (s0<(p0.length:Int))) then
    ck (inB s0 p0.length) <|
    bif ((List.getD p0 s0.toNat (aW.mk dX 0)).name==p2) then
     some (.inr (.inr s0))
    else
     some (.inl (b_ (s0+1)))
   else
    some (.inr (.inl ()))) (0:Int)) fun s6=>
 some (-1:Int)
def acu:aZ:=⟨aow,u3 f53⟩
theorem Hg:ay Try.prog 53 acu:=
 ts [] ety [.tmp 4] aox Try.func53 rfl trivial
def f54 (p0:eF) (p1:(List aB)) (p2:iQ):Option Int:=
 dP (
  bD (fun (s0:Int)=>
   bif (decide (s0<(p1.length:Int))) then
    ck (inB s0 p1.length) <|
    bif ((List.getD p1 s0.toNat h_).name==p2) then
     some (.inr (.inr s0))
    else
     some (.inl (b_ (s0+1)))
   else
    some (.inr (.inl ()))) (0:Int)) fun s6=>
 some (-1:Int)
def acv:aZ:=⟨aoy,u3 f54⟩
theorem Hl:ay Try.prog 54 acv:=
 ts [] ety [.tmp 4] aoz Try.func54 rfl trivial
def aiI (ahk:T55) (p0:qj):Option Int:=
 OB (
  bD (fun (s0:(Int×Int))=>
   bif (decide (s0.2<(p0.length:Int))) then
    ck (inB s0.2 p0.length) <|
    OB (ahk (List.getD p0 s0.2.toNat kJ).then') fun c4=>
    ck (inB s0.2 p0.length) <|
    OB (ahk (List.getD p0 s0.2.toNat kJ).else') fun c7=>
    some (.inl ((Rh (Rh s0.1 (b_ (1+c4))) (b_ (1+c7))),(b_ (s0.2+1))))
   else
    some (.inr s0.1)) ((0:Int),(0:Int))) fun s11=>
 some s11
def VL:Nat→T55
 |0=>(fun _=>none)
 |n+1=>(aiI (VL n))
def aiJ (n:Nat):T55:=(VL n)
def SX (n:Nat):aZ:=⟨akH,(VL n)⟩
theorem acw (n:Nat) (h55:ay Try.prog 55 (SX n)):ay Try.prog 55 (SX (n+1)):=
 ts [(55,SX n)] ety [.tmp 2] aoA Try.func55 rfl ⟨h55,trivial⟩
theorem Gf :∀n,ay Try.prog 55 (SX n)
 |0=>dR Try.func55 rfl rfl (show akH.er.ok=true by decide +kernel) fun x=>rfl
 |n+1=>by
  have ih:=Gf n
  exact acw n (ih)
def f55:T55:=aiJ 1048576
def alm:aZ:=SX 1048576
theorem afr:ay Try.prog 55 alm:=(Gf 1048576)
def f56 (p0:bG) (p1:iQ):Option Bool:=
 dP (
  bD (fun (s0:Int)=>
   bif (decide (s0<(p0.length:Int))) then
    ck (inB s0 p0.length) <|
    bif ((List.getD p0 s0.toNat dX)==p1) then
     some (.inr (.inr true))
    else
     some (.inl (b_ (s0+1)))
   else
    some (.inr (.inl ()))) (0:Int)) fun s6=>
 some false
def aiK:aZ:=⟨aoB,u2 f56⟩
theorem XQ:ay Try.prog 56 aiK:=
 ts [] ety [.tmp 4] aoC Try.func56 rfl trivial
def f57 (p0:eF) (p1:(List aB)) (p2:iQ):Option Int:=
 OB (f53 p0 p1 p2) fun c0=>
 bif (decide (0≤c0)) then
  ck (inB c0 p0.length) <|
  bif (decide (0<(List.getD p0 c0.toNat (aW.mk dX 0)).size)) then
   some (3:Int)
  else
   some (2:Int)
 else
  OB (f54 p0 p1 p2) fun c4=>
  bif (decide (0≤c4)) then
   some (4:Int)
  else
   some (0:Int)
def aiL:aZ:=⟨aoD,u3 f57⟩
theorem XR:ay Try.prog 57 aiL:=
 ts [(53,acu),(54,acv)] ety [.tmp 4] aoE Try.func57 rfl ⟨Hg,Hl,trivial⟩
def f60 (p0:Int) (p1:Int) (p2:Int) (p3:Int):Option eY:=
 OB (
  bif (decide (p0=2)) then
   some (!(decide (p3=p2)))
  else
   some false) fun s3=>
 bif s3 then
  some [p2,p3]
 else
  OB (
   bif (decide (p0=1)) then
    some true
   else
    some (decide (p0=2))) fun s8=>
  bif s8 then
   some [p2]
  else
   some eInt
def aiM:aZ:=⟨aoF,u4 f60⟩
theorem XT:ay Try.prog 60 aiM:=
 ts [] ety [.tmp 2] aoG Try.func60 rfl trivial
def aiN (p0:iQ) (p1:eF) (p2:(List aB)) (p3:bG) (p4:Int) (p5:Int) (p6:Int) (p7:mD):Option (Int×eF×(List aB)×bG×Int×Int×Int×mD):=
 OB (
  dP (
   bD (fun (s0:Int)=>
    bif (decide (s0<(p3.length:Int))) then
     ck (inB s0 p3.length) <|
     bif ((List.getD p3 s0.toNat dX)==p0) then
      some (.inr (.inr (s0,p1,p2,p3,p4,p5,p6,p7)))
     else
      some (.inl (b_ (s0+1)))
    else
     some (.inr (.inl ()))) (0:Int)) fun s6=>
  some ((-1:Int),p1,p2,p3,p4,p5,p6,p7)) fun s7=>
 ck (decide (p7.length=s7.2.2.2.2.2.2.2.length)) <|
 some s7
def f63 (p0:iQ) (p1:eF) (p2:(List aB)) (p3:bG) (p4:Int) (p5:Int) (p6:Int) (p7:mD):Option (Int×eF×(List aB)×bG×Int×Int×Int×mD):=OB (aiN p0 p1 p2 p3 p4 p5 p6 p7) fun (y:(Int×eF×(List aB)×bG×Int×Int×Int×mD))=>yA y.2.2.2.2.2.2.2 p7 <| some y
def aiO:aZ:=⟨aoH,u8 aiN⟩
theorem XU:ay Try.prog 63 aiO:=
 ts [] akI [.tmp 4] aoI Try.func63 rfl trivial
def f65 (p0:iQ) (p1:Int) (p2:Int) (p3:mD):Option Int:=
 OB (
  bD (fun (s0:(Int×Int))=>
   bif (decide (s0.2<(p3.length:Int))) then
    ck (inB s0.2 p3.length) <|
    some (.inl ((b_ (s0.1+(b_ (((List.length (List.getD p3 s0.2.toNat ah).instrs):Int)+1)))),(b_ (s0.2+1))))
   else
    some (.inr s0.1)) ((0:Int),(0:Int))) fun s8=>
 some s8
def aln:aZ:=⟨aoJ,u4 f65⟩
theorem afs:ay Try.prog 65 aln:=
 ts [] ety [.tmp 2] aoK Try.func65 rfl trivial
def f67 (p0:iQ) (p1:Int) (p2:Int) (p3:mD) (p4:Int) (p5:Int) (p6:Int) (p7:Int):Option Int:=
 OB (
  bif (decide (p4<1)) then
   some true
  else
   some (decide (3<p4))) fun s3=>
 bif s3 then
  some (17:Int)
 else
  OB (
   bif (!(decide (p4=1))) then
    bif (decide (p5<0)) then
     some true
    else
     some (decide (p2≤p5))
   else
    some false) fun s10=>
  bif s10 then
   some (14:Int)
  else
   OB (f60 p4 p5 p6 p7) fun c11=>
   dP (
    bD (fun (s12:Int)=>
     bif (decide (s12<(c11.length:Int))) then
      OB (
       ck (inB s12 c11.length) <|
       bif (decide ((List.getD c11 s12.toNat 0)<0)) then
        some true
       else
        ck (inB s12 c11.length) <|
        some (decide ((p3.length:Int)≤(List.getD c11 s12.toNat 0)))) fun zy=>
      bif zy then
       some (.inr (.inr (13:Int)))
      else
       some (.inl (b_ (s12+1)))
     else
      some (.inr (.inl ()))) (0:Int)) fun s23=>
   some (0:Int)
def alo:aZ:=⟨aoL,u8 f67⟩
theorem aft:ay Try.prog 67 alo:=
 ts [(60,aiM)] ety [.tmp 4] aoM Try.func67 rfl ⟨XT,trivial⟩
def aiP (alp:T68) (p0:Int) (p1:Int) (p2:Int) (p3:Int) (p4:iQ) (p5:mY):Option Int:=
 OB (
  bD (fun (s0:(Int×Int))=>
   bif (decide (s0.2<(p5.length:Int))) then
    ck (inB s0.2 p5.length) <|
    let n3:=(List.getD p5 s0.2.toNat iK)
    OB (alp n3.kind n3.op n3.value n3.line n3.name n3.args) fun c4=>
    some (.inl ((Rh s0.1 c4),(b_ (s0.2+1))))
   else
    some (.inr s0.1)) ((0:Int),(0:Int))) fun s7=>
 some (b_ (s7+1))
def VN:Nat→T68
 |0=>(fun _ _ _ _ _ _=>none)
 |n+1=>(aiP (VN n))
def aiQ (n:Nat):T68:=(VN n)
def SY (n:Nat):aZ:=⟨akJ,u6 (VN n)⟩
theorem acy (n:Nat) (h68:ay Try.prog 68 (SY n)):ay Try.prog 68 (SY (n+1)):=
 ts [(68,SY n)] ety [.tmp 2] aoN Try.func68 rfl ⟨h68,trivial⟩
theorem Gg :∀n,ay Try.prog 68 (SY n)
 |0=>dR Try.func68 rfl rfl (show akJ.er.ok=true by decide +kernel) fun x=>rfl
 |n+1=>by
  have ih:=Gg n
  exact acy n (ih)
def f68:T68:=aiQ 1048576
def alq:aZ:=SY 1048576
theorem afu:ay Try.prog 68 alq:=(Gg 1048576)
def aiR (p0:Int) (p1:Int) (p2:eF) (p3:(List aB)) (p4:Int) (p5:Int) (p6:bG):Option (eF×(List aB)×Int×Int×bG):=
 OB (
  OB (
   bif (decide (p5=0)) then
    some (p2,p3,p0,p1)
   else
    some (p2,p3,p4,p5)) fun s1=>
  some (s1.1,s1.2.1,s1.2.2.1,s1.2.2.2,p6)) fun s2=>
 ck (decide (p6.length=s2.2.2.2.2.length)) <|
 some s2
def f69 (p0:Int) (p1:Int) (p2:eF) (p3:(List aB)) (p4:Int) (p5:Int) (p6:bG):Option (eF×(List aB)×Int×Int×bG):=OB (aiR p0 p1 p2 p3 p4 p5 p6) fun (y:(eF×(List aB)×Int×Int×bG))=>yA y.2.2.2.2 p6 <| some y
def afv:aZ:=⟨aoO,u7 aiR⟩
theorem PD:ay Try.prog 69 afv:=
 ts [] ety [] aoP Try.func69 rfl trivial
def aiS (p0:iQ) (p1:eF) (p2:(List aB)) (p3:Int) (p4:Int) (p5:bG):Option (Int×eF×(List aB)×Int×Int×bG):=
 OB (
  OB (f56 p5 p0) fun c0=>
  bif c0 then
   some ((1:Int),p1,p2,p3,p4,p5)
  else
   OB (f57 p1 p2 p0) fun c1=>
   some (c1,p1,p2,p3,p4,p5)) fun s2=>
 ck (decide (p5.length=s2.2.2.2.2.2.length)) <|
 some s2
def f71 (p0:iQ) (p1:eF) (p2:(List aB)) (p3:Int) (p4:Int) (p5:bG):Option (Int×eF×(List aB)×Int×Int×bG):=OB (aiS p0 p1 p2 p3 p4 p5) fun (y:(Int×eF×(List aB)×Int×Int×bG))=>yA y.2.2.2.2.2 p5 <| some y
def acz:aZ:=⟨aoQ,u6 aiS⟩
theorem Ho:ay Try.prog 71 acz:=
 ts [(56,aiK),(57,aiL)] ety [.tmp 4] aoR Try.func71 rfl ⟨XQ,XR,trivial⟩
def afw (S9:Z_) (acA:T73) (acB:T74) (p0:Int) (p1:Int) (p2:Int) (p3:Int) (p4:iQ) (p5:mY) (p6:Int) (p7:eF) (p8:(List aB)) (p9:bG) (p10:Int) (p11:Int) (p12:Int) (p13:mD):Option (eF×(List aB)×bG×Int×Int×Int×mD):=
 let n1:=(Rh p11 (b_ (p6+1)))
 OB (
  bif (decide (p0=7)) then
   some true
  else
   some (decide (p0=8))) fun s5=>
 bif s5 then
  OB (acA p0 p1 p2 p3 p4 p5 p6 p7 p8 p9 p10 n1 p12 p13) fun c6=>
  some (c6.1,c6.2.1,c6.2.2.1,c6.2.2.2.1,c6.2.2.2.2.1,c6.2.2.2.2.2.1,c6.2.2.2.2.2.2)
 else
  OB (acB p5 p6 p7 p8 p9 p10 n1 p12 p13) fun c7=>
  OB (
   bif (decide (p0=1)) then
    OB (f44 1 0 p6 0 0 p2 eInt c7.1 c7.2.1 c7.2.2.1 c7.2.2.2.1 c7.2.2.2.2.1 c7.2.2.2.2.2.1 c7.2.2.2.2.2.2.2) fun c9=>
    some (c9.1,c9.2.1,c9.2.2.1,c9.2.2.2.1,c9.2.2.2.2.1,c9.2.2.2.2.2.1,c9.2.2.2.2.2.2)
   else
    OB (
     bif (decide (p0=2)) then
      OB (f63 p4 c7.1 c7.2.1 c7.2.2.1 c7.2.2.2.1 c7.2.2.2.2.1 c7.2.2.2.2.2.1 c7.2.2.2.2.2.2.2) fun c11=>
      OB (f44 2 0 p6 c11.1 0 0 eInt c11.2.1 c11.2.2.1 c11.2.2.2.1 c11.2.2.2.2.1 c11.2.2.2.2.2.1 c11.2.2.2.2.2.2.1 c7.2.2.2.2.2.2.2) fun c12=>
      some (c12.1,c12.2.1,c12.2.2.1,c12.2.2.2.1,c12.2.2.2.2.1,c12.2.2.2.2.2.1,c12.2.2.2.2.2.2)
     else
      OB (
       bif (decide (p0=3)) then
        OB (f53 c7.1 c7.2.1 p4) fun c14=>
        OB (f44 5 0 p6 0 0 c14 eInt c7.1 c7.2.1 c7.2.2.1 c7.2.2.2.1 c7.2.2.2.2.1 c7.2.2.2.2.2.1 c7.2.2.2.2.2.2.2) fun c15=>
        some (c15.1,c15.2.1,c15.2.2.1,c15.2.2.2.1,c15.2.2.2.2.1,c15.2.2.2.2.2.1,c15.2.2.2.2.2.2)
       else
        OB (
         bif (decide (p0=4)) then
          OB (f53 c7.1 c7.2.1 p4) fun c17=>
          OB (f44 7 0 p6 p6 0 c17 eInt c7.1 c7.2.1 c7.2.2.1 c7.2.2.2.1 c7.2.2.2.2.1 c7.2.2.2.2.2.1 c7.2.2.2.2.2.2.2) fun c18=>
          some (c18.1,c18.2.1,c18.2.2.1,c18.2.2.2.1,c18.2.2.2.2.1,c18.2.2.2.2.2.1,c18.2.2.2.2.2.2)
         else
          OB (
           bif (decide (p0=5)) then
            OB (f44 3 p1 p6 p6 0 0 eInt c7.1 c7.2.1 c7.2.2.1 c7.2.2.2.1 c7.2.2.2.2.1 c7.2.2.2.2.2.1 c7.2.2.2.2.2.2.2) fun c20=>
            some (c20.1,c20.2.1,c20.2.2.1,c20.2.2.2.1,c20.2.2.2.2.1,c20.2.2.2.2.2.1,c20.2.2.2.2.2.2)
           else
            OB (
             bif (decide (p0=6)) then
              OB (f44 4 p1 p6 p6 (b_ (p6+1)) 0 eInt c7.1 c7.2.1 c7.2.2.1 c7.2.2.2.1 c7.2.2.2.2.1 c7.2.2.2.2.2.1 c7.2.2.2.2.2.2.2) fun c23=>
              some (c23.1,c23.2.1,c23.2.2.1,c23.2.2.2.1,c23.2.2.2.2.1,c23.2.2.2.2.2.1,c23.2.2.2.2.2.2)
             else
              OB (
               bif (decide (p0=9)) then
                OB (f54 c7.1 c7.2.1 p4) fun c25=>
                OB (f44 11 0 p6 0 0 c25 c7.2.2.2.2.2.2.1 c7.1 c7.2.1 c7.2.2.1 c7.2.2.2.1 c7.2.2.2.2.1 c7.2.2.2.2.2.1 c7.2.2.2.2.2.2.2) fun Qc=>
                some (Qc.1,Qc.2.1,Qc.2.2.1,Qc.2.2.2.1,Qc.2.2.2.2.1,Qc.2.2.2.2.2.1,Qc.2.2.2.2.2.2)
               else
                OB (
                 bif (decide (p0=10)) then
                  ck (zG (1:Int) (c7.2.2.2.2.2.2.1.length:Int) c7.2.2.2.2.2.2.1.length) <|
                  OB (f44 12 0 p6 p6 0 0 (List.drop (Int.toNat (1:Int)) (List.take (Int.toNat (c7.2.2.2.2.2.2.1.length:Int)) c7.2.2.2.2.2.2.1)) c7.1 c7.2.1 c7.2.2.1 c7.2.2.2.1 c7.2.2.2.2.1 c7.2.2.2.2.2.1 c7.2.2.2.2.2.2.2) fun c28=>
                  some (c28.1,c28.2.1,c28.2.2.1,c28.2.2.2.1,c28.2.2.2.2.1,c28.2.2.2.2.2.1,c28.2.2.2.2.2.2)
                 else
                  OB (
                   bif (decide (p0=11)) then
                    OB (f54 c7.1 c7.2.1 p4) fun KH=>
                    OB (f44 14 0 p6 0 0 KH eInt c7.1 c7.2.1 c7.2.2.1 c7.2.2.2.1 c7.2.2.2.2.1 c7.2.2.2.2.2.1 c7.2.2.2.2.2.2.2) fun c31=>
                    some (c31.1,c31.2.1,c31.2.2.1,c31.2.2.2.1,c31.2.2.2.2.1,c31.2.2.2.2.2.1,c31.2.2.2.2.2.2)
                   else
                    OB (
                     bif (decide (p0=12)) then
                      OB (f44 9 0 p6 0 0 0 eInt c7.1 c7.2.1 c7.2.2.1 c7.2.2.2.1 c7.2.2.2.2.1 c7.2.2.2.2.2.1 c7.2.2.2.2.2.2.2) fun Nc=>
                      some (Nc.1,Nc.2.1,Nc.2.2.1,Nc.2.2.2.1,Nc.2.2.2.2.1,Nc.2.2.2.2.2.1,Nc.2.2.2.2.2.2)
                     else
                      some (c7.1,c7.2.1,c7.2.2.1,c7.2.2.2.1,c7.2.2.2.2.1,c7.2.2.2.2.2.1,c7.2.2.2.2.2.2.2)) fun s34=>
                    some (s34.1,s34.2.1,s34.2.2.1,s34.2.2.2.1,s34.2.2.2.2.1,s34.2.2.2.2.2.1,s34.2.2.2.2.2.2)) fun Ub=>
                  some (Ub.1,Ub.2.1,Ub.2.2.1,Ub.2.2.2.1,Ub.2.2.2.2.1,Ub.2.2.2.2.2.1,Ub.2.2.2.2.2.2)) fun s36=>
                some (s36.1,s36.2.1,s36.2.2.1,s36.2.2.2.1,s36.2.2.2.2.1,s36.2.2.2.2.2.1,s36.2.2.2.2.2.2)) fun BA=>
              some (BA.1,BA.2.1,BA.2.2.1,BA.2.2.2.1,BA.2.2.2.2.1,BA.2.2.2.2.2.1,BA.2.2.2.2.2.2)) fun rO=>
            some (rO.1,rO.2.1,rO.2.2.1,rO.2.2.2.1,rO.2.2.2.2.1,rO.2.2.2.2.2.1,rO.2.2.2.2.2.2)) fun qB=>
          some (qB.1,qB.2.1,qB.2.2.1,qB.2.2.2.1,qB.2.2.2.2.1,qB.2.2.2.2.2.1,qB.2.2.2.2.2.2)) fun SQ=>
        some (SQ.1,SQ.2.1,SQ.2.2.1,SQ.2.2.2.1,SQ.2.2.2.2.1,SQ.2.2.2.2.2.1,SQ.2.2.2.2.2.2)) fun F7=>
      some (F7.1,F7.2.1,F7.2.2.1,F7.2.2.2.1,F7.2.2.2.2.1,F7.2.2.2.2.2.1,F7.2.2.2.2.2.2)) fun rG=>
    some (rG.1,rG.2.1,rG.2.2.1,rG.2.2.2.1,rG.2.2.2.2.1,rG.2.2.2.2.2.1,rG.2.2.2.2.2.2)) fun s43=>
  some (s43.1,s43.2.1,s43.2.2.1,s43.2.2.2.1,s43.2.2.2.2.1,s43.2.2.2.2.2.1,s43.2.2.2.2.2.2)
def afx (S9:Z_) (acA:T73) (acB:T74) (p0:Int) (p1:Int) (p2:Int) (p3:Int) (p4:iQ) (p5:mY) (p6:Int) (p7:eF) (p8:(List aB)) (p9:bG) (p10:Int) (p11:Int) (p12:Int) (p13:mD):Option (eF×(List aB)×bG×Int×Int×Int×mD):=
 ck (inB (0:Int) p5.length) <|
 let n1:=(List.getD p5 (Int.toNat 0) iK)
 OB (S9 n1.kind n1.op n1.value n1.line n1.name n1.args p6 p7 p8 p9 p10 p11 p12 p13) fun c2=>
 OB (f42 p3 c2.1 c2.2.1 c2.2.2.1 c2.2.2.2.1 c2.2.2.2.2.1 c2.2.2.2.2.2.1 c2.2.2.2.2.2.2) fun c3=>
 ck (inB (1:Int) p5.length) <|
 let n4:=(List.getD p5 (Int.toNat 1) iK)
 OB (S9 n4.kind n4.op n4.value n4.line n4.name n4.args p6 c3.2.1 c3.2.2.1 c3.2.2.2.1 c3.2.2.2.2.1 c3.2.2.2.2.2.1 c3.2.2.2.2.2.2.1 c3.2.2.2.2.2.2.2) fun c5=>
 OB (f42 p3 c5.1 c5.2.1 c5.2.2.1 c5.2.2.2.1 c5.2.2.2.2.1 c5.2.2.2.2.2.1 c5.2.2.2.2.2.2) fun c6=>
 OB (f44 1 0 p6 0 0 1 eInt c6.2.1 c6.2.2.1 c6.2.2.2.1 c6.2.2.2.2.1 c6.2.2.2.2.2.1 c6.2.2.2.2.2.2.1 c6.2.2.2.2.2.2.2) fun c7=>
 OB (f42 p3 c7.1 c7.2.1 c7.2.2.1 c7.2.2.2.1 c7.2.2.2.2.1 c7.2.2.2.2.2.1 c7.2.2.2.2.2.2) fun c8=>
 OB (f44 1 0 p6 0 0 0 eInt c8.2.1 c8.2.2.1 c8.2.2.2.1 c8.2.2.2.2.1 c8.2.2.2.2.2.1 c8.2.2.2.2.2.2.1 c8.2.2.2.2.2.2.2) fun c9=>
 OB (f42 p3 c9.1 c9.2.1 c9.2.2.1 c9.2.2.2.1 c9.2.2.2.2.1 c9.2.2.2.2.2.1 c9.2.2.2.2.2.2) fun c10=>
 OB (f45 c5.2.2.2.2.2.1 2 p6 c6.1 c8.1 c10.2.1 c10.2.2.1 c10.2.2.2.1 c10.2.2.2.2.1 c10.2.2.2.2.2.1 c10.2.2.2.2.2.2.1 c10.2.2.2.2.2.2.2) fun c11=>
 OB (
  bif (decide (p0=8)) then
   OB (f45 c2.2.2.2.2.2.1 2 p6 c6.1 c3.1 c11.1 c11.2.1 c11.2.2.1 c11.2.2.2.1 c11.2.2.2.2.1 c11.2.2.2.2.2.1 c11.2.2.2.2.2.2) fun c12=>
   some (c12.1,c12.2.1,c12.2.2.1,c12.2.2.2.1,c12.2.2.2.2.1,c12.2.2.2.2.2.1,c12.2.2.2.2.2.2)
  else
   OB (f45 c2.2.2.2.2.2.1 2 p6 c3.1 c8.1 c11.1 c11.2.1 c11.2.2.1 c11.2.2.2.1 c11.2.2.2.2.1 c11.2.2.2.2.2.1 c11.2.2.2.2.2.2) fun c13=>
   some (c13.1,c13.2.1,c13.2.2.1,c13.2.2.2.1,c13.2.2.2.2.1,c13.2.2.2.2.2.1,c13.2.2.2.2.2.2)) fun s14=>
 OB (f45 c6.1 1 0 c10.1 0 s14.1 s14.2.1 s14.2.2.1 s14.2.2.2.1 s14.2.2.2.2.1 s14.2.2.2.2.2.1 s14.2.2.2.2.2.2) fun c15=>
 OB (f45 c8.1 1 0 c10.1 0 c15.1 c15.2.1 c15.2.2.1 c15.2.2.2.1 c15.2.2.2.2.1 c15.2.2.2.2.2.1 c15.2.2.2.2.2.2) fun c16=>
 some (c16.1,c16.2.1,c16.2.2.1,c16.2.2.2.1,c16.2.2.2.2.1,c16.2.2.2.2.2.1,c16.2.2.2.2.2.2)
def afy (S9:Z_) (acA:T73) (acB:T74) (p0:mY) (p1:Int) (p2:eF) (p3:(List aB)) (p4:bG) (p5:Int) (p6:Int) (p7:Int) (p8:mD):Option (eF×(List aB)×bG×Int×Int×Int×eY×mD):=
 OB (
  bD (fun (s0:(Int×eF×(List aB)×bG×Int×Int×Int×eY×mD))=>
   bif (decide (s0.1<(p0.length:Int))) then
    ck (inB s0.1 p0.length) <|
    let n3:=(List.getD p0 s0.1.toNat iK)
    OB (S9 n3.kind n3.op n3.value n3.line n3.name n3.args (b_ (p1+s0.1)) s0.2.1 s0.2.2.1 s0.2.2.2.1 s0.2.2.2.2.1 s0.2.2.2.2.2.1 s0.2.2.2.2.2.2.1 s0.2.2.2.2.2.2.2.2) fun c5=>
    let n7:=[(b_ (p1+s0.1))]
    ck (bV s0.2.2.2.2.2.2.2.1.length n7.length 8) <|
    some (.inl ((b_ (s0.1+1)),c5.1,c5.2.1,c5.2.2.1,c5.2.2.2.1,c5.2.2.2.2.1,c5.2.2.2.2.2.1,(s0.2.2.2.2.2.2.2.1++n7),c5.2.2.2.2.2.2))
   else
    some (.inr (s0.2.1,s0.2.2.1,s0.2.2.2.1,s0.2.2.2.2.1,s0.2.2.2.2.2.1,s0.2.2.2.2.2.2.1,s0.2.2.2.2.2.2.2.1,s0.2.2.2.2.2.2.2.2))) ((0:Int),p2,p3,p4,p5,p6,p7,eInt,p8)) fun s10=>
 some (s10.1,s10.2.1,s10.2.2.1,s10.2.2.2.1,s10.2.2.2.2.1,s10.2.2.2.2.2.1,s10.2.2.2.2.2.2.1,s10.2.2.2.2.2.2.2)
def jy:Nat→Z_×Z_×T74
 |0=>(fun _ _ _ _ _ _ _ _ _ _ _ _ _ _=>none,fun _ _ _ _ _ _ _ _ _ _ _ _ _ _=>none,fun _ _ _ _ _ _ _ _ _=>none)
 |n+1=>(afw (jy n).1 (jy n).2.1 (jy n).2.2,afx (jy n).1 (jy n).2.1 (jy n).2.2,afy (jy n).1 (jy n).2.1 (jy n).2.2)
def acC (n:Nat):Z_:=(jy n).1
def Dw (n:Nat):aZ:=⟨akK,u14 (jy n).1⟩
def aiT (n:Nat):Z_:=(jy n).2.1
def Gi (n:Nat):aZ:=⟨akM,u14 (jy n).2.1⟩
def aiU (n:Nat):T74:=(jy n).2.2
def Gj (n:Nat):aZ:=⟨akO,u9 (jy n).2.2⟩
theorem acD (n:Nat) (h62:ay Try.prog 62 (Dw n)) (h73:ay Try.prog 73 (Gi n)) (h74:ay Try.prog 74 (Gj n)):ay Try.prog 62 (Dw (n+1)):=
 ts [(44,acr),(63,aiO),(53,acu),(54,acv),(62,Dw n),(73,Gi n),(74,Gj n)] akL [] aoS Try.func62 rfl ⟨Hf,XU,Hg,Hl,h62,h73,h74,trivial⟩
theorem acE (n:Nat) (h62:ay Try.prog 62 (Dw n)) (h73:ay Try.prog 73 (Gi n)) (h74:ay Try.prog 74 (Gj n)):ay Try.prog 73 (Gi (n+1)):=
 ts [(42,acp),(44,acr),(45,ZA),(62,Dw n),(73,Gi n),(74,Gj n)] akN [] aoT Try.func73 rfl ⟨He,Hf,Dv,h62,h73,h74,trivial⟩
theorem acF (n:Nat) (h62:ay Try.prog 62 (Dw n)) (h73:ay Try.prog 73 (Gi n)) (h74:ay Try.prog 74 (Gj n)):ay Try.prog 74 (Gj (n+1)):=
 ts [(62,Dw n),(73,Gi n),(74,Gj n)] akP [.tmp 6] aoU Try.func74 rfl ⟨h62,h73,h74,trivial⟩
theorem Gl :∀n,ay Try.prog 62 (Dw n)∧ay Try.prog 73 (Gi n)∧ay Try.prog 74 (Gj n)
 |0=>⟨dR Try.func62 rfl rfl (show akK.er.ok=true by decide +kernel) fun x=>rfl,dR Try.func73 rfl rfl (show akM.er.ok=true by decide +kernel) fun x=>rfl,dR Try.func74 rfl rfl (show akO.er.ok=true by decide +kernel) fun x=>rfl⟩
 |n+1=>by
  have ih:=Gl n
  exact ⟨acD n (ih.1) (ih.2.1) (ih.2.2),acE n (ih.1) (ih.2.1) (ih.2.2),acF n (ih.1) (ih.2.1) (ih.2.2)⟩
def f62:Z_:=acC 1048576
def aiV:aZ:=Dw 1048576
theorem XV:ay Try.prog 62 aiV:=(Gl 1048576).1
def f75 (p0:Int) (p1:Int) (p2:Int) (p3:Int) (p4:Int) (p5:Int) (p6:eY):Option eY:=
 OB (
  bif (decide (p0=2)) then
   some true
  else
   OB (
    bif (decide (p0=3)) then
     some true
    else
     OB (
      bif (decide (p0=6)) then
       some true
      else
       OB (
        bif (decide (p0=7)) then
         some true
        else
         some (decide (p0=10))) fun s5=>
       some s5) fun s6=>
     some s6) fun s7=>
   some s7) fun s8=>
 bif s8 then
  some [p3]
 else
  OB (
   bif (decide (p0=4)) then
    some true
   else
    some (decide (p0=8))) fun s12=>
  bif s12 then
   some [p3,p4]
  else
   bif (decide (p0=11)) then
    ck (bV (List.length eInt) p6.length 8) <|
    some (eInt++p6)
   else
    bif (decide (p0=12)) then
     let n17:=[p3]
     ck (bV n17.length p6.length 8) <|
     some (n17++p6)
    else
     some eInt
def alv:aZ:=⟨aoV,u7 f75⟩
theorem afz:ay Try.prog 75 alv:=
 ts [] ety [.tmp 2] aoW Try.func75 rfl trivial
def f76 (p0:Int) (p1:Int) (p2:Int) (p3:Int) (p4:Int) (p5:Int) (p6:eY):Option (Int×Bool):=
 OB (
  bif (decide (p0=6)) then
   some true
  else
   OB (
    bif (decide (p0=8)) then
     some true
    else
     OB (
      bif (decide (p0=10)) then
       some true
      else
       some (decide (p0=13))) fun s4=>
     some s4) fun s5=>
   some s5) fun s6=>
 bif s6 then
  some ((0:Int),false)
 else
  OB (
   bif (decide (p0<1)) then
    some true
   else
    some (decide (14<p0))) fun s10=>
  bif s10 then
   some ((0:Int),false)
  else
   some (p2,true)
def alx:aZ:=⟨aoX,u7 f76⟩
theorem afA:ay Try.prog 76 alx:=
 ts [] ety [.tmp 2,.tmp 3] aoY Try.func76 rfl trivial
def f77 (p0:eF) (p1:(List aF)) (p2:Int) (p3:Int) (p4:Int) (p5:Bool):Option Bool:=
 OB (
  bif (decide (0≤p4)) then
   bif (decide (p4<(p0.length:Int))) then
    ck (inB p4 p0.length) <|
    some ((decide (0<(List.getD p0 p4.toNat (aW.mk dX 0)).size))==p5)
   else
    some false
  else
   some false) fun s8=>
 some s8
def aly:aZ:=⟨aoZ,u6 f77⟩
theorem afB:ay Try.prog 77 aly:=
 ts [] ety [.tmp 6] ao0 Try.func77 rfl trivial
def aiW (p0:Int) (p1:Int) (p2:Int) (p3:Int) (p4:iQ) (p5:mY) (p6:Int) (p7:Int) (p8:eF) (p9:(List aB)) (p10:Int) (p11:Int) (p12:bG):Option (eF×(List aB)×Int×Int×bG):=
 OB (
  OB (f71 p4 p8 p9 p10 p11 p12) fun c0=>
  OB (
   bif (decide (c0.1=0)) then
    OB (f69 p3 8 c0.2.1 c0.2.2.1 c0.2.2.2.1 c0.2.2.2.2.1 p12) fun c2=>
    some (c2.1,c2.2.1,c2.2.2.1,c2.2.2.2.1)
   else
    OB (
     bif (!(decide (c0.1=p6))) then
      some (!(decide (c0.1=p7)))
     else
      some false) fun s6=>
    OB (
     bif s6 then
      OB (f69 p3 10 c0.2.1 c0.2.2.1 c0.2.2.2.1 c0.2.2.2.2.1 p12) fun c7=>
      some (c7.1,c7.2.1,c7.2.2.1,c7.2.2.2.1)
     else
      some (c0.2.1,c0.2.2.1,c0.2.2.2.1,c0.2.2.2.2.1)) fun s8=>
    some (s8.1,s8.2.1,s8.2.2.1,s8.2.2.2)) fun s9=>
  some (s9.1,s9.2.1,s9.2.2.1,s9.2.2.2,p12)) fun s10=>
 ck (decide (p12.length=s10.2.2.2.2.length)) <|
 some s10
def f78 (p0:Int) (p1:Int) (p2:Int) (p3:Int) (p4:iQ) (p5:mY) (p6:Int) (p7:Int) (p8:eF) (p9:(List aB)) (p10:Int) (p11:Int) (p12:bG):Option (eF×(List aB)×Int×Int×bG):=OB (aiW p0 p1 p2 p3 p4 p5 p6 p7 p8 p9 p10 p11 p12) fun (y:(eF×(List aB)×Int×Int×bG))=>yA y.2.2.2.2 p12 <| some y
def alz:aZ:=⟨ao1,u13 aiW⟩
theorem afC:ay Try.prog 78 alz:=
 ts [(71,acz),(69,afv)] ety [] ao3 Try.func78 rfl ⟨Ho,PD,trivial⟩
def aiX (p0:iQ) (p1:Int) (p2:eF) (p3:(List aB)) (p4:Int) (p5:Int) (p6:bG):Option (Int×Int×Int×Int×iQ×eF×(List aB)×Int×Int×bG):=
 OB (
  OB (f71 p0 p2 p3 p4 p5 p6) fun c0=>
  OB (
   bif (!(decide (c0.1=1))) then
    some (3:Int)
   else
    some (2:Int)) fun s2=>
  some (s2,(0:Int),(0:Int),p1,p0,c0.2.1,c0.2.2.1,c0.2.2.2.1,c0.2.2.2.2.1,p6)) fun s3=>
 ck (decide (p6.length=s3.2.2.2.2.2.2.2.2.2.length)) <|
 some s3
def f79 (p0:iQ) (p1:Int) (p2:eF) (p3:(List aB)) (p4:Int) (p5:Int) (p6:bG):Option (Int×Int×Int×Int×iQ×eF×(List aB)×Int×Int×bG):=OB (aiX p0 p1 p2 p3 p4 p5 p6) fun (y:(Int×Int×Int×Int×iQ×eF×(List aB)×Int×Int×bG))=>yA y.2.2.2.2.2.2.2.2.2 p6 <| some y
def alA:aZ:=⟨ao4,u7 aiX⟩
theorem afD:ay Try.prog 79 alA:=
 ts [(71,acz)] ety [.cell 6 143] ao5 Try.func79 rfl ⟨Ho,trivial⟩
def afE (ahl:T70) (acG:T80) (p0:Int) (p1:Int) (p2:Int) (p3:Int) (p4:iQ) (p5:mY) (p6:eF) (p7:(List aB)) (p8:Int) (p9:Int) (p10:bG):Option (Int×Int×Int×Int×iQ×eF×(List aB)×Int×Int×bG×mY):=
 OB (
  bif (decide (p0=13)) then
   OB (f78 p0 p1 p2 p3 p4 p5 1 2 p6 p7 p8 p9 p10) fun c1=>
   OB (f79 p4 p3 c1.1 c1.2.1 c1.2.2.1 c1.2.2.2.1 p10) fun c2=>
   some (c2.1,c2.2.1,c2.2.2.1,c2.2.2.2.1,c2.2.2.2.2.1,c2.2.2.2.2.2.1,c2.2.2.2.2.2.2.1,c2.2.2.2.2.2.2.2.1,c2.2.2.2.2.2.2.2.2.1,p10,pW)
  else
   dP (
    bif (decide (p0=4)) then
     OB (f78 p0 p1 p2 p3 p4 p5 3 3 p6 p7 p8 p9 p10) fun c4=>
     some (.inl (c4.1,c4.2.1,c4.2.2.1,c4.2.2.2.1))
    else
     dP (
      bif (decide (p0=11)) then
       OB (f78 p0 p1 p2 p3 p4 p5 4 4 p6 p7 p8 p9 p10) fun c6=>
       some (.inl (c6.1,c6.2.1,c6.2.2.1,c6.2.2.2.1))
      else
       dP (
        bif (decide (p0=9)) then
         OB (f71 p4 p6 p7 p8 p9 p10) fun c8=>
         dP (
          bif (decide (c8.1=0)) then
           OB (f69 p3 8 c8.2.1 c8.2.2.1 c8.2.2.2.1 c8.2.2.2.2.1 p10) fun c10=>
           some (.inl (c10.1,c10.2.1,c10.2.2.1,c10.2.2.2.1))
          else
           dP (
            bif (decide (c8.1=3)) then
             OB (f69 p3 10 c8.2.1 c8.2.2.1 c8.2.2.2.1 c8.2.2.2.2.1 p10) fun c12=>
             some (.inl (c12.1,c12.2.1,c12.2.2.1,c12.2.2.2.1))
            else
             bif (decide (c8.1=4)) then
              OB (f54 c8.2.1 c8.2.2.1 p4) fun c14=>
              ck (inB c14 c8.2.2.1.length) <|
              OB (
               bif (!(decide (((List.length (List.getD c8.2.2.1 c14.toNat h_).params):Int)=(p5.length:Int)))) then
                OB (f69 p3 11 c8.2.1 c8.2.2.1 c8.2.2.2.1 c8.2.2.2.2.1 p10) fun c19=>
                some (c19.1,c19.2.1,c19.2.2.1,c19.2.2.2.1)
               else
                some (c8.2.1,c8.2.2.1,c8.2.2.2.1,c8.2.2.2.2.1)) fun s20=>
              some (.inl (s20.1,s20.2.1,s20.2.2.1,s20.2.2.2))
             else
              OB (
               bif (decide (6<(p5.length:Int))) then
                OB (f69 p3 5 c8.2.1 c8.2.2.1 c8.2.2.2.1 c8.2.2.2.2.1 p10) fun c23=>
                some (c23.1,c23.2.1,c23.2.2.1,c23.2.2.2.1)
               else
                some (c8.2.1,c8.2.2.1,c8.2.2.2.1,c8.2.2.2.2.1)) fun s24=>
              OB (f79 p4 p3 s24.1 s24.2.1 s24.2.2.1 s24.2.2.2 p10) fun c25=>
              let n26:=[(bK.mk c25.1 c25.2.1 c25.2.2.1 c25.2.2.2.1 c25.2.2.2.2.1 pW)]
              OB (acG p5 c25.2.2.2.2.2.1 c25.2.2.2.2.2.2.1 c25.2.2.2.2.2.2.2.1 c25.2.2.2.2.2.2.2.2.1 p10) fun GU=>
              ck (bV n26.length GU.2.2.2.2.2.length 72) <|
              some (.inr (.inr (.inr (.inr (.inr ((10:Int),(0:Int),(0:Int),p3,dX,GU.1,GU.2.1,GU.2.2.1,GU.2.2.2.1,p10,(n26++GU.2.2.2.2.2)))))))) fun s29=>
           some (.inl (s29.1,s29.2.1,s29.2.2.1,s29.2.2.2))) fun t_=>
         some (.inl (t_.1,t_.2.1,t_.2.2.1,t_.2.2.2))
        else
         OB (
          bif (decide (p0=10)) then
           OB (
            bif (decide (7<(p5.length:Int))) then
             OB (f69 p3 5 p6 p7 p8 p9 p10) fun c34=>
             some (c34.1,c34.2.1,c34.2.2.1,c34.2.2.2.1)
            else
             some (p6,p7,p8,p9)) fun Ub=>
           some (Ub.1,Ub.2.1,Ub.2.2.1,Ub.2.2.2)
          else
           some (p6,p7,p8,p9)) fun s36=>
         some (.inl (s36.1,s36.2.1,s36.2.2.1,s36.2.2.2))) fun BA=>
       some (.inl (BA.1,BA.2.1,BA.2.2.1,BA.2.2.2))) fun rO=>
     some (.inl (rO.1,rO.2.1,rO.2.2.1,rO.2.2.2))) fun qB=>
   OB (acG p5 qB.1 qB.2.1 qB.2.2.1 qB.2.2.2 p10) fun c40=>
   some (p0,p1,p2,p3,p4,c40.1,c40.2.1,c40.2.2.1,c40.2.2.2.1,p10,c40.2.2.2.2.2)) fun F7=>
 ck (decide (p10.length=F7.2.2.2.2.2.2.2.2.2.1.length)) <|
 some F7
def k70 (p0:Int) (p1:Int) (p2:Int) (p3:Int) (p4:iQ) (p5:mY) (p6:eF) (p7:(List aB)) (p8:Int) (p9:Int) (p10:bG) (r:Option (Int×Int×Int×Int×iQ×eF×(List aB)×Int×Int×bG×mY)):Option (Int×Int×Int×Int×iQ×eF×(List aB)×Int×Int×bG×mY):=OB r fun (y:(Int×Int×Int×Int×iQ×eF×(List aB)×Int×Int×bG×mY))=>yA y.2.2.2.2.2.2.2.2.2.1 p10 <| some y
def afF (ahl:T70) (acG:T80) (p0:mY) (p1:eF) (p2:(List aB)) (p3:Int) (p4:Int) (p5:bG):Option (eF×(List aB)×Int×Int×bG×mY):=
 OB (
  OB (
   bD (fun (s0:(Int×eF×(List aB)×Int×Int×mY))=>
    bif (decide (s0.1<(p0.length:Int))) then
     ck (inB s0.1 p0.length) <|
     let n3:=(List.getD p0 s0.1.toNat iK)
     OB (ahl n3.kind n3.op n3.value n3.line n3.name n3.args s0.2.1 s0.2.2.1 s0.2.2.2.1 s0.2.2.2.2.1 p5) fun c4=>
     let n5:=[(bK.mk c4.1 c4.2.1 c4.2.2.1 c4.2.2.2.1 c4.2.2.2.2.1 c4.2.2.2.2.2.2.2.2.2.2)]
     ck (bV s0.2.2.2.2.2.length n5.length 72) <|
     some (.inl ((b_ (s0.1+1)),c4.2.2.2.2.2.1,c4.2.2.2.2.2.2.1,c4.2.2.2.2.2.2.2.1,c4.2.2.2.2.2.2.2.2.1,(s0.2.2.2.2.2++n5)))
    else
     some (.inr (s0.2.1,s0.2.2.1,s0.2.2.2.1,s0.2.2.2.2.1,s0.2.2.2.2.2))) ((0:Int),p1,p2,p3,p4,pW)) fun s8=>
  some (s8.1,s8.2.1,s8.2.2.1,s8.2.2.2.1,p5,s8.2.2.2.2)) fun s9=>
 ck (decide (p5.length=s9.2.2.2.2.1.length)) <|
 some s9
def k80 (p0:mY) (p1:eF) (p2:(List aB)) (p3:Int) (p4:Int) (p5:bG) (r:Option (eF×(List aB)×Int×Int×bG×mY)):Option (eF×(List aB)×Int×Int×bG×mY):=OB r fun (y:(eF×(List aB)×Int×Int×bG×mY))=>yA y.2.2.2.2.1 p5 <| some y
def uf:Nat→T70×T80
 |0=>(fun _ _ _ _ _ _ _ _ _ _ _=>none,fun _ _ _ _ _ _=>none)
 |n+1=>(afE (fun p0 p1 p2 p3 p4 p5 p6 p7 p8 p9 p10=>k70 p0 p1 p2 p3 p4 p5 p6 p7 p8 p9 p10 ((uf n).1 p0 p1 p2 p3 p4 p5 p6 p7 p8 p9 p10)) (fun p0 p1 p2 p3 p4 p5=>k80 p0 p1 p2 p3 p4 p5 ((uf n).2 p0 p1 p2 p3 p4 p5)),afF (fun p0 p1 p2 p3 p4 p5 p6 p7 p8 p9 p10=>k70 p0 p1 p2 p3 p4 p5 p6 p7 p8 p9 p10 ((uf n).1 p0 p1 p2 p3 p4 p5 p6 p7 p8 p9 p10)) (fun p0 p1 p2 p3 p4 p5=>k80 p0 p1 p2 p3 p4 p5 ((uf n).2 p0 p1 p2 p3 p4 p5)))
def afG (n:Nat):T70:=(fun p0 p1 p2 p3 p4 p5 p6 p7 p8 p9 p10=>k70 p0 p1 p2 p3 p4 p5 p6 p7 p8 p9 p10 ((uf n).1 p0 p1 p2 p3 p4 p5 p6 p7 p8 p9 p10))
def J5 (n:Nat):aZ:=⟨akQ,u11 (uf n).1⟩
def alB (n:Nat):T80:=(fun p0 p1 p2 p3 p4 p5=>k80 p0 p1 p2 p3 p4 p5 ((uf n).2 p0 p1 p2 p3 p4 p5))
def Nh (n:Nat):aZ:=⟨akR,u6 (uf n).2⟩
theorem acH (n:Nat) (h70:ay Try.prog 70 (J5 n)) (h80:ay Try.prog 80 (Nh n)):ay Try.prog 70 (J5 (n+1)):=
 ts [(78,alz),(79,alA),(71,acz),(69,afv),(54,acv),(70,J5 n),(80,Nh n)] ety [.cell 4 143] ao6 Try.func70 rfl ⟨afC,afD,Ho,PD,Hl,h70,h80,trivial⟩
theorem acI (n:Nat) (h70:ay Try.prog 70 (J5 n)) (h80:ay Try.prog 80 (Nh n)):ay Try.prog 80 (Nh (n+1)):=
 ts [(70,J5 n),(80,Nh n)] ety [.tmp 4] ao7 Try.func80 rfl ⟨h70,h80,trivial⟩
theorem Gm :∀n,ay Try.prog 70 (J5 n)∧ay Try.prog 80 (Nh n)
 |0=>⟨dR Try.func70 rfl rfl (show akQ.er.ok=true by decide +kernel) fun x=>rfl,dR Try.func80 rfl rfl (show akR.er.ok=true by decide +kernel) fun x=>rfl⟩
 |n+1=>by
  have ih:=Gm n
  exact ⟨acH n (ih.1) (ih.2),acI n (ih.1) (ih.2)⟩
def f70:T70:=afG 1048576
def alD:aZ:=J5 1048576
theorem afH:ay Try.prog 70 alD:=(Gm 1048576).1
def f82 (p0:Int) (p1:iQ) (p2:Int) (p3:Int) (p4:Int) (p5:Int) (p6:iQ) (p7:mY):Option (Int×Int×iQ×mY):=
 some (p0,(0:Int),p1,[(bK.mk p2 p3 p4 p5 p6 p7)])
def aiY:aZ:=⟨ao8,u8 f82⟩
theorem XW:ay Try.prog 82 aiY:=
 ts [] ety [.cell 6 126] ao9 Try.func82 rfl trivial
def afI (p0:Bool) (p1:Int) (p2:eY) (p3:Int) (p4:eF) (p5:(List aB)) (p6:bG):Option (iQ×Bool×Int×eY×Int×eF×(List aB)×bG):=
 OB (
  OB (
   bD (fun (s0:(Int×bG))=>
    bif (decide (s0.1<(p4.length:Int))) then
     ck (inB s0.1 p4.length) <|
     OB (
      bif ((decide (0<(List.getD p4 s0.1.toNat (aW.mk dX 0)).size))==p0) then
       ck (inB s0.1 p4.length) <|
       let n7:=[(List.getD p4 s0.1.toNat (aW.mk dX 0)).name]
       ck (bV s0.2.length n7.length 16) <|
       some (s0.2++n7)
      else
       some s0.2) fun s9=>
     some (.inl ((b_ (s0.1+1)),s9))
    else
     some (.inr s0.2)) ((0:Int),kH)) fun s11=>
  bif (decide ((s11.length:Int)=0)) then
   some (dX,false,p1,p2,p3,p4,p5,p6)
  else
   OB (f11 (s11.length:Int) p2 p3) fun c15=>
   ck (inB c15.1 s11.length) <|
   some ((List.getD s11 c15.1.toNat dX),true,p1,c15.2.1,c15.2.2,p4,p5,p6)) fun pG=>
 ck (decide (p4.length=pG.2.2.2.2.2.1.length)) <|
 ck (decide (p5.length=pG.2.2.2.2.2.2.1.length)) <|
 ck (decide (p6.length=pG.2.2.2.2.2.2.2.length)) <|
 some pG
def f84 (p0:Bool) (p1:Int) (p2:eY) (p3:Int) (p4:eF) (p5:(List aB)) (p6:bG):Option (iQ×Bool×Int×eY×Int×eF×(List aB)×bG):=OB (afI p0 p1 p2 p3 p4 p5 p6) fun (y:(iQ×Bool×Int×eY×Int×eF×(List aB)×bG))=>yA y.2.2.2.2.2.1 p4 <| yA y.2.2.2.2.2.2.1 p5 <| yA y.2.2.2.2.2.2.2 p6 <| some y
def acJ:aZ:=⟨ao_,u7 afI⟩
theorem Hq:ay Try.prog 84 acJ:=
 ts [(11,GR)] ety [.tmp 4,.tmp 5] apa Try.func84 rfl ⟨nS,trivial⟩
def f87:Option bG:=
 some [[(97:UInt8)],[(98:UInt8)],[(99:UInt8)],[(100:UInt8)],[(101:UInt8)],[(102:UInt8)],[(105:UInt8)],[(107:UInt8)]]
def alE:aZ:=⟨apb,fun x=>f87⟩
theorem afJ:ay Try.prog 87 alE:=
 ts [] ety [.tmp 0] apc Try.func87 rfl trivial
def afK (p0:Int) (p1:eY) (p2:Int) (p3:eF) (p4:(List aB)) (p5:bG):Option (Int×Int×Int×Int×iQ×Int×eY×Int×eF×(List aB)×bG):=
 OB (
  OB (f11 6 p1 p2) fun c0=>
  bif (decide (c0.1=0)) then
   some ((12:Int),(0:Int),(0:Int),(0:Int),dX,p0,c0.2.1,c0.2.2,p3,p4,p5)
  else
   dP (
    bif (decide (c0.1=1)) then
     OB (f84 false p0 c0.2.1 c0.2.2 p3 p4 p5) fun c3=>
     bif c3.2.1 then
      some (.inr ((13:Int),(0:Int),(0:Int),(0:Int),c3.1,c3.2.2.1,c3.2.2.2.1,c3.2.2.2.2.1,p3,p4,p5))
     else
      some (.inl (c3.2.2.1,c3.2.2.2.1,c3.2.2.2.2.1))
    else
     OB (
      bif (decide (c0.1=2)) then
       some true
      else
       some (decide (c0.1=3))) fun s6=>
     dP (
      bif s6 then
       bif (decide (0<(p5.length:Int))) then
        OB (f11 (p5.length:Int) c0.2.1 c0.2.2) fun c10=>
        ck (inB c10.1 p5.length) <|
        some (.inr (.inr ((13:Int),(0:Int),(0:Int),(0:Int),(List.getD p5 c10.1.toNat dX),p0,c10.2.1,c10.2.2,p3,p4,p5)))
       else
        some (.inl ())
      else
       some (.inl ())) fun s12=>
     some (.inl (p0,c0.2.1,c0.2.2))) fun s13=>
   OB (f11 5 s13.2.1 s13.2.2) fun c14=>
   OB (f11 12 c14.2.1 c14.2.2) fun c15=>
   OB (
    bif (decide (c15.1=11)) then
     let n17:=[(9223372036854775807:Int),(2147483648:Int),(1000:Int),(64:Int)]
     OB (f11 4 c15.2.1 c15.2.2) fun c18=>
     ck (inB c18.1 n17.length) <|
     some ((List.getD n17 c18.1.toNat 0),c18.2.1,c18.2.2)
    else
     some (c14.1,c15.2.1,c15.2.2)) fun s20=>
   some ((1:Int),(0:Int),s20.1,(0:Int),dX,s13.1,s20.2.1,s20.2.2,p3,p4,p5)) fun zy=>
 ck (decide (p3.length=zy.2.2.2.2.2.2.2.2.1.length)) <|
 ck (decide (p4.length=zy.2.2.2.2.2.2.2.2.2.1.length)) <|
 ck (decide (p5.length=zy.2.2.2.2.2.2.2.2.2.2.length)) <|
 some zy
def f88 (p0:Int) (p1:eY) (p2:Int) (p3:eF) (p4:(List aB)) (p5:bG):Option (Int×Int×Int×Int×iQ×Int×eY×Int×eF×(List aB)×bG):=OB (afK p0 p1 p2 p3 p4 p5) fun (y:(Int×Int×Int×Int×iQ×Int×eY×Int×eF×(List aB)×bG))=>yA y.2.2.2.2.2.2.2.2.1 p3 <| yA y.2.2.2.2.2.2.2.2.2.1 p4 <| yA y.2.2.2.2.2.2.2.2.2.2 p5 <| some y
def alF:aZ:=⟨apd,u6 afK⟩
theorem afL:ay Try.prog 88 alF:=
 ts [(11,GR),(84,acJ)] ety [.cell 2 143] ape Try.func88 rfl ⟨nS,Hq,trivial⟩
def f89 (p0:Int) (p1:Int) (p2:mY):Option (Int×Int×Int×Int×iQ×mY):=
 some (p0,p1,(0:Int),(0:Int),dX,p2)
def aiZ:aZ:=⟨apf,u3 f89⟩
theorem XY:ay Try.prog 89 aiZ:=
 ts [] ety [.cell 6 143] apg Try.func89 rfl trivial
def f13 (p0:eF) (p1:(List aF)) (p2:Int) (p3:Int) (p4:LFu):Option Bool:=
 bif (!(decide ((p4.length:Int)=(p1.length:Int)))) then
  some false
 else
  dP (
   bD (fun (s3:Int)=>
    bif (decide (s3<(p1.length:Int))) then
     ck (inB s3 p1.length) <|
     let n6:=(List.getD p1 s3.toNat ak)
     ck (inB s3 p4.length) <|
     let n7:=(List.getD p4 s3.toNat dS)
     OB (
      bif (!(decide (((List.length n7.blocks):Int)=((List.length n6.blocks):Int)))) then
       some true
      else
       bif (!(decide (((List.length n7.edges):Int)=((List.length n6.blocks):Int)))) then
        some true
       else
        OB (f25 n7.entries) fun c15=>
        bif (!c15) then
         some true
        else
         OB (f26 p0 p1 p2 p3 n6.name n6.params n6.regs n6.blocks n7.sites) fun c18=>
         some (!c18)) fun zy=>
     bif zy then
      some (.inr (.inr false))
     else
      dP (
       bD (fun (jF:Int)=>
        bif (decide (jF<((List.length n6.blocks):Int))) then
         ck (inB jF (List.length n6.blocks)) <|
         let n25:=(List.getD n6.blocks jF.toNat ah)
         OB (
          ck (inB jF (List.length n7.blocks)) <|
          OB (f25 (List.getD n7.blocks jF.toNat 0)) fun GU=>
          bif (!GU) then
           some true
          else
           ck (inB jF (List.length n7.edges)) <|
           OB (f25 (List.getD n7.edges jF.toNat ((0:Int),0)).1) fun KH=>
           bif (!KH) then
            some true
           else
            ck (inB jF (List.length n7.edges)) <|
            OB (f25 (List.getD n7.edges jF.toNat ((0:Int),0)).2) fun c34=>
            bif (!c34) then
             some true
            else
             bif (!(decide (n25.aA=2))) then
              ck (inB jF (List.length n7.edges)) <|
              bif (!(decide ((List.getD n7.edges jF.toNat ((0:Int),0)).2=0))) then
               some true
              else
               bif (decide (n25.aA=3)) then
                ck (inB jF (List.length n7.edges)) <|
                some (!(decide ((List.getD n7.edges jF.toNat ((0:Int),0)).1=0)))
               else
                some false
             else
              bif false then
               some true
              else
               bif (decide (n25.aA=3)) then
                ck (inB jF (List.length n7.edges)) <|
                some (!(decide ((List.getD n7.edges jF.toNat ((0:Int),0)).1=0)))
               else
                some false) fun ZB=>
         bif ZB then
          some (.inr (.inr (.inr (.inr false))))
         else
          some (.inl (b_ (jF+1)))
        else
         some (.inr (.inl ()))) (0:Int)) fun s57=>
      some (.inl (b_ (s3+1)))
    else
     some (.inr (.inl ()))) (0:Int)) fun s59=>
  some true
def alG:aZ:=⟨aph,u5 f13⟩
theorem afM:ay Try.prog 13 alG:=
 ts [(25,aiB),(26,ald)] ety [.tmp 4] apj Try.func13 rfl ⟨XK,afi,trivial⟩
def f19 (p0:Int):Option Bool:=
 OB (f20 p0) fun c0=>
 some (!c0)
def ai0:aZ:=⟨apk,f19⟩
theorem XZ:ay Try.prog 19 ai0:=
 ts [(20,afh)] ety [.tmp 2] apl Try.func19 rfl ⟨Py,trivial⟩
def f21 (p0:iQ) (p1:Int) (p2:Int) (p3:mD):Option LBo:=
 let n1:=(b_ ((p3.length:Int)+1))
 ck (uJ (8:Nat) n1 n1) <|
 let n2:=(List.replicate n1.toNat (0:Int))
 OB (
  bD (fun (s4:(Int×eY))=>
   bif (decide (s4.1<(n2.length:Int))) then
    ck (inB s4.1 s4.2.length) <|
    some (.inl ((b_ (s4.1+1)),(List.set s4.2 s4.1.toNat s4.1)))
   else
    some (.inr s4.2)) ((0:Int),n2)) fun s8=>
 OB (
  OB (f36 p0 p1 p2 p3) fun c9=>
  OB (f9 p0 p1 p2 p3) fun c10=>
  some ((c10.length:Int),c9)) fun s12=>
 let n13:=(s12.2.length:Int)
 ck (uJ (1:Nat) n13 n13) <|
 OB (
  bD (fun (s15:(Int×LLi×LBo×eY))=>
   bif (decide (s15.1<(s15.2.1.length:Int))) then
    OB (f37 s15.1 s15.2.1 s15.2.2.2 s15.2.2.1) fun c18=>
    some (.inl ((b_ (s15.1+1)),c18.2.1,c18.2.2,c18.1))
   else
    some (.inr (s15.2.1,s15.2.2.1,s15.2.2.2))) (s12.1,s12.2,(List.replicate n13.toNat false),s8)) fun s20=>
 OB (
  bD (fun (zy:(Int×LLi×LBo×eY))=>
   bif (decide (zy.1<s12.1)) then
    OB (f37 zy.1 zy.2.1 zy.2.2.2 zy.2.2.1) fun c23=>
    some (.inl ((b_ (zy.1+1)),c23.2.1,c23.2.2,c23.1))
   else
    some (.inr (zy.2.1,zy.2.2.1,zy.2.2.2))) ((1:Int),s20.1,s20.2.1,s20.2.2)) fun yP=>
 OB (f37 0 yP.1 yP.2.2 yP.2.1) fun Qc=>
 some Qc.2.2
def afN:aZ:=⟨apm,u4 f21⟩
theorem PG:ay Try.prog 21 afN:=
 ts [(36,afm),(9,sp9),(35,aiE),(37,alh)] ety [.tmp 2] apn Try.func21 rfl ⟨Pz,EG,XO,afn,trivial⟩
def f22 (p0:iQ) (p1:Int) (p2:Int) (p3:mD) (p4:eY) (p5:eY):Option eY:=
 OB (f36 p0 p1 p2 p3) fun c0=>
 OB (f21 p0 p1 p2 p3) fun c1=>
 OB (f38 p5) fun c2=>
 let n4:=(b_ ((p3.length:Int)+1))
 ck (uJ (8:Nat) n4 n4) <|
 OB (
  bD (fun (s7:(Int×Int))=>
   bif (decide (s7.2<(p5.length:Int))) then
    ck (inB s7.2 p5.length) <|
    some (.inl ((b_ (s7.1+(List.getD p5 s7.2.toNat 0))),(b_ (s7.2+1))))
   else
    some (.inr s7.1)) ((0:Int),(0:Int))) fun s12=>
 let n14:=[(b_ (ael s12))]
 ck (bV c2.length n14.length 8) <|
 let n16:=(c0.length:Int)
 ck (uJ (8:Nat) n16 n16) <|
 OB (
  bD (fun (jE:(Int×eY×eY×eY))=>
   bif (decide (jE.1<(c0.length:Int))) then
    OB (
     ck (inB jE.1 c0.length) <|
     let n21:=(List.getD c0 jE.1.toNat (dn.mk 0 0))
     ck (inB jE.1 c1.length) <|
     bif (List.getD c1 jE.1.toNat false) then
      ck (inB n21.from' jE.2.2.1.length) <|
      ck (inB n21.from' jE.2.2.1.length) <|
      let n25:=(List.set jE.2.2.1 (Int.toNat n21.from') (b_ ((List.getD jE.2.2.1 (Int.toNat n21.from') 0)+1)))
      ck (inB n21.to n25.length) <|
      ck (inB n21.to n25.length) <|
      some (jE.2.1,(List.set n25 (Int.toNat n21.to) (b_ ((List.getD n25 (Int.toNat n21.to) 0)+1))),jE.2.2.2)
     else
      OB (
       bif (decide (jE.1<(p4.length:Int))) then
        ck (inB jE.1 p4.length) <|
        ck (inB jE.1 jE.2.2.2.length) <|
        some (List.set jE.2.2.2 jE.1.toNat (List.getD p4 jE.1.toNat 0))
       else
        some jE.2.2.2) fun s33=>
      ck (inB n21.to jE.2.1.length) <|
      ck (inB jE.1 s33.length) <|
      ck (inB n21.to jE.2.1.length) <|
      let n37:=(List.set jE.2.1 (Int.toNat n21.to) (b_ ((List.getD jE.2.1 (Int.toNat n21.to) 0)-(List.getD s33 jE.1.toNat 0))))
      ck (inB n21.from' n37.length) <|
      ck (inB jE.1 s33.length) <|
      ck (inB n21.from' n37.length) <|
      some ((List.set n37 (Int.toNat n21.from') (b_ ((List.getD n37 (Int.toNat n21.from') 0)+(List.getD s33 jE.1.toNat 0)))),jE.2.2.1,s33)) fun rG=>
    some (.inl ((b_ (jE.1+1)),rG.1,rG.2.1,rG.2.2))
   else
    some (.inr (jE.2.1,jE.2.2.1,jE.2.2.2))) ((0:Int),(c2++n14),(List.replicate n4.toNat (0:Int)),(List.replicate n16.toNat (0:Int)))) fun s44=>
 OB (
  bD (fun (s45:(Bool×LBo×eY×eY×eY))=>
   bif s45.1 then
    OB (
     bD (fun (sO:(Bool×Int×LBo×eY×eY×eY))=>
      bif (decide (sO.2.1<(c0.length:Int))) then
       OB (
        ck (inB sO.2.1 c0.length) <|
        let n49:=(List.getD c0 sO.2.1.toNat (dn.mk 0 0))
        OB (
         ck (inB sO.2.1 sO.2.2.1.length) <|
         bif (!(List.getD sO.2.2.1 sO.2.1.toNat false)) then
          some true
         else
          ck (inB n49.from' sO.2.2.2.2.1.length) <|
          bif (!(decide ((List.getD sO.2.2.2.2.1 (Int.toNat n49.from') 0)=1))) then
           ck (inB n49.to sO.2.2.2.2.1.length) <|
           some (!(decide ((List.getD sO.2.2.2.2.1 (Int.toNat n49.to) 0)=1)))
          else
           some false) fun s59=>
        bif s59 then
         some (sO.1,sO.2.2.1,sO.2.2.2.1,sO.2.2.2.2.1,sO.2.2.2.2.2)
        else
         ck (inB n49.to sO.2.2.2.1.length) <|
         ck (inB n49.to sO.2.2.2.2.1.length) <|
         OB (
          bif (!(decide ((List.getD sO.2.2.2.2.1 (Int.toNat n49.to) 0)=1))) then
           ck (inB n49.from' sO.2.2.2.1.length) <|
           some (b_ (ael (List.getD sO.2.2.2.1 (Int.toNat n49.from') 0)))
          else
           some (List.getD sO.2.2.2.1 (Int.toNat n49.to) 0)) fun s65=>
         ck (inB sO.2.1 sO.2.2.2.2.2.length) <|
         ck (inB sO.2.1 sO.2.2.1.length) <|
         ck (inB n49.to sO.2.2.2.1.length) <|
         ck (inB n49.to sO.2.2.2.1.length) <|
         let n70:=(List.set sO.2.2.2.1 (Int.toNat n49.to) (b_ ((List.getD sO.2.2.2.1 (Int.toNat n49.to) 0)-s65)))
         ck (inB n49.from' n70.length) <|
         ck (inB n49.from' n70.length) <|
         ck (inB n49.to sO.2.2.2.2.1.length) <|
         ck (inB n49.to sO.2.2.2.2.1.length) <|
         let n76:=(List.set sO.2.2.2.2.1 (Int.toNat n49.to) (b_ ((List.getD sO.2.2.2.2.1 (Int.toNat n49.to) 0)-1)))
         ck (inB n49.from' n76.length) <|
         ck (inB n49.from' n76.length) <|
         some (true,(List.set sO.2.2.1 sO.2.1.toNat false),(List.set n70 (Int.toNat n49.from') (b_ ((List.getD n70 (Int.toNat n49.from') 0)+s65))),(List.set n76 (Int.toNat n49.from') (b_ ((List.getD n76 (Int.toNat n49.from') 0)-1))),(List.set sO.2.2.2.2.2 sO.2.1.toNat s65))) fun s80=>
       some (.inl (s80.1,(b_ (sO.2.1+1)),s80.2.1,s80.2.2.1,s80.2.2.2.1,s80.2.2.2.2))
      else
       some (.inr (sO.1,sO.2.2.1,sO.2.2.2.1,sO.2.2.2.2.1,sO.2.2.2.2.2))) (false,(0:Int),s45.2.1,s45.2.2.1,s45.2.2.2.1,s45.2.2.2.2)) fun s82=>
    some (.inl (s82.1,s82.2.1,s82.2.2.1,s82.2.2.2.1,s82.2.2.2.2))
   else
    some (.inr s45.2.2.2.2)) (true,c1,s44.1,s44.2.1,s44.2.2)) fun s83=>
 some s83
def alI:aZ:=⟨apo,u6 f22⟩
theorem afP:ay Try.prog 22 alI:=
 ts [(36,afm),(21,afN),(38,ali)] ety [.tmp 6] apq Try.func22 rfl ⟨Pz,PG,afo,trivial⟩
def f27 (p0:iQ) (p1:Int) (p2:Int) (p3:mD) (p4:Int) (p5:eY) (p6:(List (Int×Int))) (p7:(List nR)) (p8:eY):Option Bool:=
 let n0:=(p3.length:Int)
 ck (uJ (8:Nat) n0 n0) <|
 let n1:=(List.replicate n0.toNat (0:Int))
 ck (inB (0:Int) n1.length) <|
 dP (
  bD (fun (s3:(Int×Int×Int×eY))=>
   bif (decide (s3.2.2.1<(p3.length:Int))) then
    dP (
     ck (inB s3.2.2.1 p3.length) <|
     let n6:=(List.getD p3 s3.2.2.1.toNat ah)
     ck (inB s3.2.2.1 p8.length) <|
     let n8:=(b_ (s3.1-(List.getD p8 s3.2.2.1.toNat 0)))
     bif (decide (n6.aA=3)) then
      ck (inB s3.2.2.1 p5.length) <|
      ck (inB s3.2.2.1 p8.length) <|
      some (.inl (n8,(b_ (s3.2.1+(b_ ((List.getD p5 s3.2.2.1.toNat 0)-(List.getD p8 s3.2.2.1.toNat 0))))),s3.2.2.2))
     else
      ck (inB n6.fO s3.2.2.2.length) <|
      ck (inB s3.2.2.1 p6.length) <|
      ck (inB n6.fO s3.2.2.2.length) <|
      let n17:=(List.set s3.2.2.2 (Int.toNat n6.fO) (b_ ((List.getD s3.2.2.2 (Int.toNat n6.fO) 0)+(List.getD p6 s3.2.2.1.toNat ((0:Int),0)).1)))
      ck (inB s3.2.2.1 p6.length) <|
      let n18:=(List.getD p6 s3.2.2.1.toNat ((0:Int),0))
      OB (
       bif (decide (n6.aA=2)) then
        ck (inB n6.dh n17.length) <|
        ck (inB s3.2.2.1 p6.length) <|
        ck (inB n6.dh n17.length) <|
        ck (inB s3.2.2.1 p6.length) <|
        some ((b_ (n18.1+(List.getD p6 s3.2.2.1.toNat ((0:Int),0)).2)),(List.set n17 (Int.toNat n6.dh) (b_ ((List.getD n17 (Int.toNat n6.dh) 0)+(List.getD p6 s3.2.2.1.toNat ((0:Int),0)).2))))
       else
        some (n18.1,n17)) fun s26=>
      ck (inB s3.2.2.1 p8.length) <|
      ck (inB s3.2.2.1 p5.length) <|
      bif (!(decide ((b_ (s26.1+(List.getD p8 s3.2.2.1.toNat 0)))=(List.getD p5 s3.2.2.1.toNat 0)))) then
       some (.inr (.inr (.inr false)))
      else
       some (.inl (n8,s3.2.1,s26.2))) fun rP=>
    some (.inl (rP.1,rP.2.1,(b_ (s3.2.2.1+1)),rP.2.2))
   else
    some (.inr (.inl (s3.1,s3.2.1,s3.2.2.2)))) (p4,(0:Int),(0:Int),(List.set n1 (Int.toNat (0:Int)) p4))) fun s33=>
 OB (
  OB (f40 s33.2.2 p5) fun c34=>
  bif c34 then
   some (decide (s33.1=s33.2.1))
  else
   some false) fun BA=>
 some BA
def alJ:aZ:=⟨apr,u9 f27⟩
theorem afQ:ay Try.prog 27 alJ:=
 ts [(40,alj)] ety [.tmp 6] aps Try.func27 rfl ⟨afp,trivial⟩
def EH (p0:eY):Option Int:=
 dP (
  bD (fun (s1:Int)=>
   bif (decide (s1<(p0.length:Int))) then
    ck (inB s1 p0.length) <|
    OB (f39 (List.getD p0 s1.toNat 0)) fun c4=>
    bif c4 then
     some (.inr (.inr s1))
    else
     some (.inl (b_ (s1+1)))
   else
    some (.inr (.inl ()))) (0:Int)) fun s6=>
 some (-1:Int)
def J6:aZ:=⟨Vt,EH⟩
theorem Lm:ay Try.prog 34 J6:=
 ts [(39,aiF)] ety [.tmp 4] Vu Try.func34 rfl ⟨XP,trivial⟩
def EI (p0:eY):Option Int:=
 dP (
  bD (fun (s1:Int)=>
   bif (decide (s1<(p0.length:Int))) then
    ck (inB s1 p0.length) <|
    OB (f24 (List.getD p0 s1.toNat 0)) fun c4=>
    bif c4 then
     some (.inr (.inr s1))
    else
     some (.inl (b_ (s1+1)))
   else
    some (.inr (.inl ()))) (0:Int)) fun s6=>
 some (-1:Int)
def J7:aZ:=⟨Vx,EI⟩
theorem Lp:ay Try.prog 34 J7:=
 ts [(24,aiA)] ety [.tmp 4] Vy Try.func34 rfl ⟨XJ,trivial⟩
def EJ (p0:eY):Option Int:=
 dP (
  bD (fun (s1:Int)=>
   bif (decide (s1<(p0.length:Int))) then
    ck (inB s1 p0.length) <|
    OB (f19 (List.getD p0 s1.toNat 0)) fun c4=>
    bif c4 then
     some (.inr (.inr s1))
    else
     some (.inl (b_ (s1+1)))
   else
    some (.inr (.inl ()))) (0:Int)) fun s6=>
 some (-1:Int)
def J8:aZ:=⟨Vz,EJ⟩
theorem Lr:ay Try.prog 34 J8:=
 ts [(19,ai0)] ety [.tmp 4] VA Try.func34 rfl ⟨XZ,trivial⟩
def f41 (p0:iQ) (p1:Int) (p2:bG) (p3:qj):Option bG:=
 ck (true&&(decide ((((List.length kH)+p2.length)*(16:Nat))≤(140737488355328:Nat)))) <|
 OB (f50 p3 (kH++p2)) fun c1=>
 some c1
def ai1:aZ:=⟨apt,u4 f41⟩
theorem X0:ay Try.prog 41 ai1:=
 ts [(50,alk)] ety [.tmp 2] apu Try.func41 rfl ⟨afq,trivial⟩
def afR (Nj:T43) (X3:T51) (X4:T61) (X5:T64) (p0:qj) (p1:eF) (p2:(List aB)) (p3:bG) (p4:Int) (p5:Int) (p6:Int) (p7:mD):Option (Bool×eF×(List aB)×bG×Int×Int×Int×mD):=
 dP (
  bD (fun (s0:(Int×eF×(List aB)×bG×Int×Int×Int×mD))=>
   bif (decide (s0.1<(p0.length:Int))) then
    ck (inB s0.1 p0.length) <|
    let n3:=(List.getD p0 s0.1.toNat kJ)
    OB (X3 n3.kind n3.line n3.name n3.exprs n3.then' n3.else' s0.2.1 s0.2.2.1 s0.2.2.2.1 s0.2.2.2.2.1 s0.2.2.2.2.2.1 s0.2.2.2.2.2.2.1 s0.2.2.2.2.2.2.2) fun c4=>
    bif (!c4.1) then
     some (.inr (.inr (false,c4.2.1,c4.2.2.1,c4.2.2.2.1,c4.2.2.2.2.1,c4.2.2.2.2.2.1,c4.2.2.2.2.2.2.1,c4.2.2.2.2.2.2.2)))
    else
     some (.inl ((b_ (s0.1+1)),c4.2.1,c4.2.2.1,c4.2.2.2.1,c4.2.2.2.2.1,c4.2.2.2.2.2.1,c4.2.2.2.2.2.2.1,c4.2.2.2.2.2.2.2))
   else
    some (.inr (.inl (s0.2.1,s0.2.2.1,s0.2.2.2.1,s0.2.2.2.2.1,s0.2.2.2.2.2.1,s0.2.2.2.2.2.2.1,s0.2.2.2.2.2.2.2)))) ((0:Int),p1,p2,p3,p4,p5,p6,p7)) fun s7=>
 some (true,s7.1,s7.2.1,s7.2.2.1,s7.2.2.2.1,s7.2.2.2.2.1,s7.2.2.2.2.2.1,s7.2.2.2.2.2.2)
def afS (Nj:T43) (X3:T51) (X4:T61) (X5:T64) (p0:Int) (p1:Int) (p2:iQ) (p3:mY) (p4:qj) (p5:qj) (p6:eF) (p7:(List aB)) (p8:bG) (p9:Int) (p10:Int) (p11:Int) (p12:mD):Option (Bool×eF×(List aB)×bG×Int×Int×Int×mD):=
 let n0:=(p8.length:Int)
 bif (decide (p0=5)) then
  OB (X4 p0 p1 p2 p3 p4 p5 n0 p6 p7 p8 p9 p10 p11 p12) fun c2=>
  some (true,c2.1,c2.2.1,c2.2.2.1,c2.2.2.2.1,c2.2.2.2.2.1,c2.2.2.2.2.2.1,c2.2.2.2.2.2.2)
 else
  OB (
   bD (fun (s3:(Int×eF×(List aB)×bG×Int×Int×Int×mD))=>
    bif (decide (s3.1<(p3.length:Int))) then
     ck (inB s3.1 p3.length) <|
     let n6:=(List.getD p3 s3.1.toNat iK)
     OB (f62 n6.kind n6.op n6.value n6.line n6.name n6.args (b_ (n0+s3.1)) s3.2.1 s3.2.2.1 s3.2.2.2.1 s3.2.2.2.2.1 s3.2.2.2.2.2.1 s3.2.2.2.2.2.2.1 s3.2.2.2.2.2.2.2) fun c8=>
     some (.inl ((b_ (s3.1+1)),c8.1,c8.2.1,c8.2.2.1,c8.2.2.2.1,c8.2.2.2.2.1,c8.2.2.2.2.2.1,c8.2.2.2.2.2.2))
    else
     some (.inr (s3.2.1,s3.2.2.1,s3.2.2.2.1,s3.2.2.2.2.1,s3.2.2.2.2.2.1,s3.2.2.2.2.2.2.1,s3.2.2.2.2.2.2.2))) ((0:Int),p6,p7,p8,p9,p10,p11,p12)) fun s10=>
  OB (
   bif (decide (p0=1)) then
    some true
   else
    some (decide (p0=2))) fun s13=>
  dP (
   bif s13 then
    OB (f63 p2 s10.1 s10.2.1 s10.2.2.1 s10.2.2.2.1 s10.2.2.2.2.1 s10.2.2.2.2.2.1 s10.2.2.2.2.2.2) fun c14=>
    OB (
     bif (decide (0≤c14.1)) then
      OB (f44 2 0 c14.1 n0 0 0 eInt c14.2.1 c14.2.2.1 c14.2.2.2.1 c14.2.2.2.2.1 c14.2.2.2.2.2.1 c14.2.2.2.2.2.2.1 s10.2.2.2.2.2.2) fun c16=>
      some (c16.1,c16.2.1,c16.2.2.1,c16.2.2.2.1,c16.2.2.2.2.1,c16.2.2.2.2.2.1,c16.2.2.2.2.2.2)
     else
      OB (f53 c14.2.1 c14.2.2.1 p2) fun c17=>
      OB (f44 6 0 0 n0 0 c17 eInt c14.2.1 c14.2.2.1 c14.2.2.2.1 c14.2.2.2.2.1 c14.2.2.2.2.2.1 c14.2.2.2.2.2.2.1 s10.2.2.2.2.2.2) fun c18=>
      some (c18.1,c18.2.1,c18.2.2.1,c18.2.2.2.1,c18.2.2.2.2.1,c18.2.2.2.2.2.1,c18.2.2.2.2.2.2)) fun jE=>
    some (.inl (jE.1,jE.2.1,jE.2.2.1,jE.2.2.2.1,jE.2.2.2.2.1,jE.2.2.2.2.2.1,jE.2.2.2.2.2.2))
   else
    dP (
     bif (decide (p0=3)) then
      OB (f53 s10.1 s10.2.1 p2) fun KI=>
      OB (f44 8 0 0 n0 (b_ (n0+1)) KI eInt s10.1 s10.2.1 s10.2.2.1 s10.2.2.2.1 s10.2.2.2.2.1 s10.2.2.2.2.2.1 s10.2.2.2.2.2.2) fun c23=>
      some (.inl (c23.1,c23.2.1,c23.2.2.1,c23.2.2.2.1,c23.2.2.2.2.1,c23.2.2.2.2.2.1,c23.2.2.2.2.2.2))
     else
      bif (decide (p0=6)) then
       OB (f45 s10.2.2.2.2.2.1 3 n0 0 0 s10.1 s10.2.1 s10.2.2.1 s10.2.2.2.1 s10.2.2.2.2.1 s10.2.2.2.2.2.1 s10.2.2.2.2.2.2) fun c25=>
       some (.inr (.inr (false,c25.1,c25.2.1,c25.2.2.1,c25.2.2.2.1,c25.2.2.2.2.1,c25.2.2.2.2.2.1,c25.2.2.2.2.2.2)))
      else
       dP (
        bif (decide (p0=7)) then
         OB (f44 10 0 0 n0 0 0 eInt s10.1 s10.2.1 s10.2.2.1 s10.2.2.2.1 s10.2.2.2.2.1 s10.2.2.2.2.2.1 s10.2.2.2.2.2.2) fun GU=>
         some (.inl (GU.1,GU.2.1,GU.2.2.1,GU.2.2.2.1,GU.2.2.2.2.1,GU.2.2.2.2.2.1,GU.2.2.2.2.2.2))
        else
         bif (decide (p0=4)) then
          OB (X5 p0 p1 p2 p3 p4 p5 n0 s10.1 s10.2.1 s10.2.2.1 s10.2.2.2.1 s10.2.2.2.2.1 s10.2.2.2.2.2.1 s10.2.2.2.2.2.2) fun c29=>
          some (.inr (.inr (.inr (c29.1,c29.2.1,c29.2.2.1,c29.2.2.2.1,c29.2.2.2.2.1,c29.2.2.2.2.2.1,c29.2.2.2.2.2.2.1,c29.2.2.2.2.2.2.2))))
         else
          some (.inl (s10.1,s10.2.1,s10.2.2.1,s10.2.2.2.1,s10.2.2.2.2.1,s10.2.2.2.2.2.1,s10.2.2.2.2.2.2))) fun t_=>
       some (.inl (t_.1,t_.2.1,t_.2.2.1,t_.2.2.2.1,t_.2.2.2.2.1,t_.2.2.2.2.2.1,t_.2.2.2.2.2.2))) fun rP=>
    some (.inl (rP.1,rP.2.1,rP.2.2.1,rP.2.2.2.1,rP.2.2.2.2.1,rP.2.2.2.2.2.1,rP.2.2.2.2.2.2))) fun qC=>
  some (true,qC.1,qC.2.1,qC.2.2.1,qC.2.2.2.1,qC.2.2.2.2.1,qC.2.2.2.2.2.1,qC.2.2.2.2.2.2)
def afT (Nj:T43) (X3:T51) (X4:T61) (X5:T64) (p0:Int) (p1:Int) (p2:iQ) (p3:mY) (p4:qj) (p5:qj) (p6:Int) (p7:eF) (p8:(List aB)) (p9:bG) (p10:Int) (p11:Int) (p12:Int) (p13:mD):Option (eF×(List aB)×bG×Int×Int×Int×mD):=
 OB (f42 p1 p7 p8 p9 p10 p11 p12 p13) fun c0=>
 OB (f45 p12 1 0 c0.1 0 c0.2.1 c0.2.2.1 c0.2.2.2.1 c0.2.2.2.2.1 c0.2.2.2.2.2.1 c0.2.2.2.2.2.2.1 c0.2.2.2.2.2.2.2) fun c1=>
 ck (inB (0:Int) p3.length) <|
 let n2:=(List.getD p3 (Int.toNat 0) iK)
 OB (f62 n2.kind n2.op n2.value n2.line n2.name n2.args p6 c1.1 c1.2.1 c1.2.2.1 c1.2.2.2.1 c1.2.2.2.2.1 c1.2.2.2.2.2.1 c1.2.2.2.2.2.2) fun c3=>
 OB (f42 p1 c3.1 c3.2.1 c3.2.2.1 c3.2.2.2.1 c3.2.2.2.2.1 c3.2.2.2.2.2.1 c3.2.2.2.2.2.2) fun c4=>
 OB (Nj p4 c4.2.1 c4.2.2.1 c4.2.2.2.1 c4.2.2.2.2.1 c4.2.2.2.2.2.1 c4.2.2.2.2.2.2.1 c4.2.2.2.2.2.2.2) fun c5=>
 OB (
  bif c5.1 then
   OB (f45 c5.2.2.2.2.2.2.1 1 0 c0.1 0 c5.2.1 c5.2.2.1 c5.2.2.2.1 c5.2.2.2.2.1 c5.2.2.2.2.2.1 c5.2.2.2.2.2.2.1 c5.2.2.2.2.2.2.2) fun c6=>
   some (c6.1,c6.2.1,c6.2.2.1,c6.2.2.2.1,c6.2.2.2.2.1,c6.2.2.2.2.2.1,c6.2.2.2.2.2.2)
  else
   some (c5.2.1,c5.2.2.1,c5.2.2.2.1,c5.2.2.2.2.1,c5.2.2.2.2.2.1,c5.2.2.2.2.2.2.1,c5.2.2.2.2.2.2.2)) fun s7=>
 OB (f42 p1 s7.1 s7.2.1 s7.2.2.1 s7.2.2.2.1 s7.2.2.2.2.1 s7.2.2.2.2.2.1 s7.2.2.2.2.2.2) fun c8=>
 OB (f45 c3.2.2.2.2.2.1 2 p6 c4.1 c8.1 c8.2.1 c8.2.2.1 c8.2.2.2.1 c8.2.2.2.2.1 c8.2.2.2.2.2.1 c8.2.2.2.2.2.2.1 c8.2.2.2.2.2.2.2) fun c9=>
 some (c9.1,c9.2.1,c9.2.2.1,c9.2.2.2.1,c9.2.2.2.2.1,c9.2.2.2.2.2.1,c9.2.2.2.2.2.2)
def afU (Nj:T43) (X3:T51) (X4:T61) (X5:T64) (p0:Int) (p1:Int) (p2:iQ) (p3:mY) (p4:qj) (p5:qj) (p6:Int) (p7:eF) (p8:(List aB)) (p9:bG) (p10:Int) (p11:Int) (p12:Int) (p13:mD):Option (Bool×eF×(List aB)×bG×Int×Int×Int×mD):=
 OB (f42 p1 p7 p8 p9 p10 p11 p12 p13) fun c0=>
 OB (Nj p4 c0.2.1 c0.2.2.1 c0.2.2.2.1 c0.2.2.2.2.1 c0.2.2.2.2.2.1 c0.2.2.2.2.2.2.1 c0.2.2.2.2.2.2.2) fun c1=>
 bif (decide ((p5.length:Int)=0)) then
  OB (f42 p1 c1.2.1 c1.2.2.1 c1.2.2.2.1 c1.2.2.2.2.1 c1.2.2.2.2.2.1 c1.2.2.2.2.2.2.1 c1.2.2.2.2.2.2.2) fun c4=>
  OB (f45 p12 2 p6 c0.1 c4.1 c4.2.1 c4.2.2.1 c4.2.2.2.1 c4.2.2.2.2.1 c4.2.2.2.2.2.1 c4.2.2.2.2.2.2.1 c4.2.2.2.2.2.2.2) fun c5=>
  OB (
   bif c1.1 then
    OB (f45 c1.2.2.2.2.2.2.1 1 0 c4.1 0 c5.1 c5.2.1 c5.2.2.1 c5.2.2.2.1 c5.2.2.2.2.1 c5.2.2.2.2.2.1 c5.2.2.2.2.2.2) fun c6=>
    some (c6.1,c6.2.1,c6.2.2.1,c6.2.2.2.1,c6.2.2.2.2.1,c6.2.2.2.2.2.1,c6.2.2.2.2.2.2)
   else
    some (c5.1,c5.2.1,c5.2.2.1,c5.2.2.2.1,c5.2.2.2.2.1,c5.2.2.2.2.2.1,c5.2.2.2.2.2.2)) fun s7=>
  some (true,s7.1,s7.2.1,s7.2.2.1,s7.2.2.2.1,s7.2.2.2.2.1,s7.2.2.2.2.2.1,s7.2.2.2.2.2.2)
 else
  OB (f42 p1 c1.2.1 c1.2.2.1 c1.2.2.2.1 c1.2.2.2.2.1 c1.2.2.2.2.2.1 c1.2.2.2.2.2.2.1 c1.2.2.2.2.2.2.2) fun c8=>
  OB (f45 p12 2 p6 c0.1 c8.1 c8.2.1 c8.2.2.1 c8.2.2.2.1 c8.2.2.2.2.1 c8.2.2.2.2.2.1 c8.2.2.2.2.2.2.1 c8.2.2.2.2.2.2.2) fun c9=>
  OB (Nj p5 c9.1 c9.2.1 c9.2.2.1 c9.2.2.2.1 c9.2.2.2.2.1 c9.2.2.2.2.2.1 c9.2.2.2.2.2.2) fun c10=>
  OB (
   bif (!c1.1) then
    some (!c10.1)
   else
    some false) fun s14=>
  bif s14 then
   some (false,c10.2.1,c10.2.2.1,c10.2.2.2.1,c10.2.2.2.2.1,c10.2.2.2.2.2.1,c10.2.2.2.2.2.2.1,c10.2.2.2.2.2.2.2)
  else
   OB (f42 p1 c10.2.1 c10.2.2.1 c10.2.2.2.1 c10.2.2.2.2.1 c10.2.2.2.2.2.1 c10.2.2.2.2.2.2.1 c10.2.2.2.2.2.2.2) fun c15=>
   OB (
    bif c1.1 then
     OB (f45 c1.2.2.2.2.2.2.1 1 0 c15.1 0 c15.2.1 c15.2.2.1 c15.2.2.2.1 c15.2.2.2.2.1 c15.2.2.2.2.2.1 c15.2.2.2.2.2.2.1 c15.2.2.2.2.2.2.2) fun c16=>
     some (c16.1,c16.2.1,c16.2.2.1,c16.2.2.2.1,c16.2.2.2.2.1,c16.2.2.2.2.2.1,c16.2.2.2.2.2.2)
    else
     some (c15.2.1,c15.2.2.1,c15.2.2.2.1,c15.2.2.2.2.1,c15.2.2.2.2.2.1,c15.2.2.2.2.2.2.1,c15.2.2.2.2.2.2.2)) fun pG=>
   OB (
    bif c10.1 then
     OB (f45 c10.2.2.2.2.2.2.1 1 0 c15.1 0 pG.1 pG.2.1 pG.2.2.1 pG.2.2.2.1 pG.2.2.2.2.1 pG.2.2.2.2.2.1 pG.2.2.2.2.2.2) fun c18=>
     some (c18.1,c18.2.1,c18.2.2.1,c18.2.2.2.1,c18.2.2.2.2.1,c18.2.2.2.2.2.1,c18.2.2.2.2.2.2)
    else
     some (pG.1,pG.2.1,pG.2.2.1,pG.2.2.2.1,pG.2.2.2.2.1,pG.2.2.2.2.2.1,pG.2.2.2.2.2.2)) fun jE=>
   some (true,jE.1,jE.2.1,jE.2.2.1,jE.2.2.2.1,jE.2.2.2.2.1,jE.2.2.2.2.2.1,jE.2.2.2.2.2.2)
def fP:Nat→T43×T51×T61×T64
 |0=>(fun _ _ _ _ _ _ _ _=>none,fun _ _ _ _ _ _ _ _ _ _ _ _ _=>none,fun _ _ _ _ _ _ _ _ _ _ _ _ _ _=>none,fun _ _ _ _ _ _ _ _ _ _ _ _ _ _=>none)
 |n+1=>(afR (fP n).1 (fP n).2.1 (fP n).2.2.1 (fP n).2.2.2,afS (fP n).1 (fP n).2.1 (fP n).2.2.1 (fP n).2.2.2,afT (fP n).1 (fP n).2.1 (fP n).2.2.1 (fP n).2.2.2,afU (fP n).1 (fP n).2.1 (fP n).2.2.1 (fP n).2.2.2)
def ZC (n:Nat):T43:=(fP n).1
def yQ (n:Nat):aZ:=⟨akS,u8 (fP n).1⟩
def afV (n:Nat):T51:=(fP n).2.1
def zY (n:Nat):aZ:=⟨akU,u13 (fP n).2.1⟩
def afW (n:Nat):T61:=(fP n).2.2.1
def zZ (n:Nat):aZ:=⟨akW,u14 (fP n).2.2.1⟩
def afX (n:Nat):T64:=(fP n).2.2.2
def z_ (n:Nat):aZ:=⟨akY,u14 (fP n).2.2.2⟩
theorem acK (n:Nat) (h43:ay Try.prog 43 (yQ n)) (h51:ay Try.prog 51 (zY n)) (h61:ay Try.prog 61 (zZ n)) (h64:ay Try.prog 64 (z_ n)):ay Try.prog 43 (yQ (n+1)):=
 ts [(43,yQ n),(51,zY n),(61,zZ n),(64,z_ n)] akT [.tmp 4] apv Try.func43 rfl ⟨h43,h51,h61,h64,trivial⟩
theorem acL (n:Nat) (h43:ay Try.prog 43 (yQ n)) (h51:ay Try.prog 51 (zY n)) (h61:ay Try.prog 61 (zZ n)) (h64:ay Try.prog 64 (z_ n)):ay Try.prog 51 (zY (n+1)):=
 ts [(62,aiV),(63,aiO),(44,acr),(53,acu),(45,ZA),(43,yQ n),(51,zY n),(61,zZ n),(64,z_ n)] akV [.tmp 4] apw Try.func51 rfl ⟨XV,XU,Hf,Hg,Dv,h43,h51,h61,h64,trivial⟩
theorem acM (n:Nat) (h43:ay Try.prog 43 (yQ n)) (h51:ay Try.prog 51 (zY n)) (h61:ay Try.prog 61 (zZ n)) (h64:ay Try.prog 64 (z_ n)):ay Try.prog 61 (zZ (n+1)):=
 ts [(42,acp),(45,ZA),(62,aiV),(43,yQ n),(51,zY n),(61,zZ n),(64,z_ n)] akX [] apx Try.func61 rfl ⟨He,Dv,XV,h43,h51,h61,h64,trivial⟩
theorem acN (n:Nat) (h43:ay Try.prog 43 (yQ n)) (h51:ay Try.prog 51 (zY n)) (h61:ay Try.prog 61 (zZ n)) (h64:ay Try.prog 64 (z_ n)):ay Try.prog 64 (z_ (n+1)):=
 ts [(42,acp),(45,ZA),(43,yQ n),(51,zY n),(61,zZ n),(64,z_ n)] akZ [.tmp 6] apy Try.func64 rfl ⟨He,Dv,h43,h51,h61,h64,trivial⟩
theorem Gn :∀n,ay Try.prog 43 (yQ n)∧ay Try.prog 51 (zY n)∧ay Try.prog 61 (zZ n)∧ay Try.prog 64 (z_ n)
 |0=>⟨dR Try.func43 rfl rfl (show akS.er.ok=true by decide +kernel) fun x=>rfl,dR Try.func51 rfl rfl (show akU.er.ok=true by decide +kernel) fun x=>rfl,dR Try.func61 rfl rfl (show akW.er.ok=true by decide +kernel) fun x=>rfl,dR Try.func64 rfl rfl (show akY.er.ok=true by decide +kernel) fun x=>rfl⟩
 |n+1=>by
  have ih:=Gn n
  exact ⟨acK n (ih.1) (ih.2.1) (ih.2.2.1) (ih.2.2.2),acL n (ih.1) (ih.2.1) (ih.2.2.1) (ih.2.2.2),acM n (ih.1) (ih.2.1) (ih.2.2.1) (ih.2.2.2),acN n (ih.1) (ih.2.1) (ih.2.2.1) (ih.2.2.2)⟩
def f43:T43:=ZC 1048576
def alK:aZ:=yQ 1048576
theorem afY:ay Try.prog 43 alK:=(Gn 1048576).1
def f49 (p0:iQ) (p1:Int) (p2:Int) (p3:mD):Option LBo:=
 let n0:=(p3.length:Int)
 ck (uJ (1:Nat) n0 n0) <|
 let n1:=(List.replicate n0.toNat false)
 bif (decide ((n1.length:Int)=0)) then
  some n1
 else
  ck (inB (0:Int) n1.length) <|
  OB (
   bD (fun (s6:(LBo×eY))=>
    bif (decide (0<(s6.2.length:Int))) then
     let n10:=(b_ ((s6.2.length:Int)-1))
     ck (inB n10 s6.2.length) <|
     let n11:=(List.getD s6.2 n10.toNat 0)
     let n13:=(b_ ((s6.2.length:Int)-1))
     ck ((decide (0≤n13))&&(decide (n13≤(s6.2.length:Int)))) <|
     ck (inB n11 p3.length) <|
     let n15:=(List.getD p3 n11.toNat ah)
     OB (f60 n15.aA n15.Du n15.fO n15.dh) fun c16=>
     OB (
      bD (fun (pG:(Int×LBo×eY))=>
       bif (decide (pG.1<(c16.length:Int))) then
        ck (inB pG.1 c16.length) <|
        let n20:=(List.getD c16 pG.1.toNat 0)
        ck (inB n20 pG.2.1.length) <|
        OB (
         bif (!(List.getD pG.2.1 n20.toNat false)) then
          ck (inB pG.1 c16.length) <|
          let n23:=(List.getD c16 pG.1.toNat 0)
          ck (inB n23 pG.2.1.length) <|
          ck (inB pG.1 c16.length) <|
          let n26:=[(List.getD c16 pG.1.toNat 0)]
          ck (bV pG.2.2.length n26.length 8) <|
          some ((List.set pG.2.1 n23.toNat true),(pG.2.2++n26))
         else
          some (pG.2.1,pG.2.2)) fun Qb=>
        some (.inl ((b_ (pG.1+1)),Qb.1,Qb.2))
       else
        some (.inr (pG.2.1,pG.2.2))) ((0:Int),s6.1,(List.take n13.toNat s6.2))) fun t_=>
     some (.inl (t_.1,t_.2))
    else
     some (.inr s6.1)) ((List.set n1 (Int.toNat (0:Int)) true),[(0:Int)])) fun rP=>
  some rP
def ai4:aZ:=⟨apz,u4 f49⟩
theorem X6:ay Try.prog 49 ai4:=
 ts [(60,aiM)] ak0 [.tmp 2] apA Try.func49 rfl ⟨XT,trivial⟩
def ai5 (ahm:T58) (p0:qj) (p1:eF) (p2:(List aB)) (p3:Int) (p4:Int) (p5:bG):Option (eF×(List aB)×Int×Int×qj×bG):=
 OB (
  bD (fun (s0:(Int×eF×(List aB)×Int×Int×qj×bG))=>
   bif (decide (s0.1<(p0.length:Int))) then
    ck (inB s0.1 p0.length) <|
    let n3:=(List.getD p0 s0.1.toNat kJ)
    OB (
     bD (fun (s4:(Int×eF×(List aB)×Int×Int×mY))=>
      bif (decide (s4.1<((List.length n3.exprs):Int))) then
       ck (inB s4.1 (List.length n3.exprs)) <|
       let n7:=(List.getD n3.exprs s4.1.toNat iK)
       OB (f68 n7.kind n7.op n7.value n7.line n7.name n7.args) fun c8=>
       OB (
        bif (decide (64<c8)) then
         ck (inB s4.1 (List.length n3.exprs)) <|
         OB (f69 (List.getD n3.exprs s4.1.toNat iK).line 5 s4.2.1 s4.2.2.1 s4.2.2.2.1 s4.2.2.2.2.1 s0.2.2.2.2.2.2) fun c11=>
         some (c11.1,c11.2.1,c11.2.2.1,c11.2.2.2.1)
        else
         some (s4.2.1,s4.2.2.1,s4.2.2.2.1,s4.2.2.2.2.1)) fun s12=>
       ck (inB s4.1 (List.length n3.exprs)) <|
       let n13:=(List.getD n3.exprs s4.1.toNat iK)
       OB (f70 n13.kind n13.op n13.value n13.line n13.name n13.args s12.1 s12.2.1 s12.2.2.1 s12.2.2.2 s0.2.2.2.2.2.2) fun c14=>
       let n15:=[(bK.mk c14.1 c14.2.1 c14.2.2.1 c14.2.2.2.1 c14.2.2.2.2.1 c14.2.2.2.2.2.2.2.2.2.2)]
       ck (bV s4.2.2.2.2.2.length n15.length 72) <|
       some (.inl ((b_ (s4.1+1)),c14.2.2.2.2.2.1,c14.2.2.2.2.2.2.1,c14.2.2.2.2.2.2.2.1,c14.2.2.2.2.2.2.2.2.1,(s4.2.2.2.2.2++n15)))
      else
       some (.inr (s4.2.1,s4.2.2.1,s4.2.2.2.1,s4.2.2.2.2.1,s4.2.2.2.2.2))) ((0:Int),s0.2.1,s0.2.2.1,s0.2.2.2.1,s0.2.2.2.2.1,pW)) fun s18=>
    OB (f71 n3.name s18.1 s18.2.1 s18.2.2.1 s18.2.2.2.1 s0.2.2.2.2.2.2) fun c19=>
    OB (
     bif (decide (n3.kind=1)) then
      OB (
       bif (!(decide (c19.1=0))) then
        OB (f69 n3.line 9 c19.2.1 c19.2.2.1 c19.2.2.2.1 c19.2.2.2.2.1 s0.2.2.2.2.2.2) fun KI=>
        some (KI.1,KI.2.1,KI.2.2.1,KI.2.2.2.1)
       else
        some (c19.2.1,c19.2.2.1,c19.2.2.2.1,c19.2.2.2.2.1)) fun s23=>
      let n24:=[n3.name]
      ck (bV s0.2.2.2.2.2.2.length n24.length 16) <|
      some (s23.1,s23.2.1,s23.2.2.1,s23.2.2.2,(s0.2.2.2.2.2.2++n24))
     else
      OB (
       bif (decide (n3.kind=2)) then
        some true
       else
        some (decide (n3.kind=3))) fun Qb=>
      OB (
       bif Qb then
        OB (
         bif (decide (c19.1=0)) then
          OB (f69 n3.line 8 c19.2.1 c19.2.2.1 c19.2.2.2.1 c19.2.2.2.2.1 s0.2.2.2.2.2.2) fun KH=>
          some (KH.1,KH.2.1,KH.2.2.1,KH.2.2.2.1)
         else
          OB (
           bif (decide (n3.kind=2)) then
            bif (!(decide (c19.1=1))) then
             bif (!(decide (c19.1=2))) then
              some true
             else
              bif (decide (n3.kind=3)) then
               some (!(decide (c19.1=3)))
              else
               some false
            else
             bif (decide (n3.kind=3)) then
              some (!(decide (c19.1=3)))
             else
              some false
           else
            bif (decide (n3.kind=3)) then
             some (!(decide (c19.1=3)))
            else
             some false) fun s51=>
          OB (
           bif s51 then
            OB (f69 n3.line 10 c19.2.1 c19.2.2.1 c19.2.2.2.1 c19.2.2.2.2.1 s0.2.2.2.2.2.2) fun ZE=>
            some (ZE.1,ZE.2.1,ZE.2.2.1,ZE.2.2.2.1)
           else
            some (c19.2.1,c19.2.2.1,c19.2.2.2.1,c19.2.2.2.2.1)) fun s53=>
          some (s53.1,s53.2.1,s53.2.2.1,s53.2.2.2)) fun s54=>
        some (s54.1,s54.2.1,s54.2.2.1,s54.2.2.2)
       else
        some (c19.2.1,c19.2.2.1,c19.2.2.2.1,c19.2.2.2.2.1)) fun ZB=>
      some (ZB.1,ZB.2.1,ZB.2.2.1,ZB.2.2.2,s0.2.2.2.2.2.2)) fun s56=>
    OB (ahm n3.then' s56.1 s56.2.1 s56.2.2.1 s56.2.2.2.1 s56.2.2.2.2) fun c57=>
    OB (ahm n3.else' c57.1 c57.2.1 c57.2.2.1 c57.2.2.2.1 c57.2.2.2.2.2) fun X7=>
    let n59:=[(eX.mk n3.kind n3.line n3.name s18.2.2.2.2 c57.2.2.2.2.1 X7.2.2.2.2.1)]
    ck (bV s0.2.2.2.2.2.1.length n59.length 104) <|
    some (.inl ((b_ (s0.1+1)),X7.1,X7.2.1,X7.2.2.1,X7.2.2.2.1,(s0.2.2.2.2.2.1++n59),X7.2.2.2.2.2))
   else
    some (.inr (s0.2.1,s0.2.2.1,s0.2.2.2.1,s0.2.2.2.2.1,s0.2.2.2.2.2.1,s0.2.2.2.2.2.2))) ((0:Int),p1,p2,p3,p4,je,p5)) fun s62=>
 some (s62.1,s62.2.1,s62.2.2.1,s62.2.2.2.1,s62.2.2.2.2.1,s62.2.2.2.2.2)
def VO:Nat→T58
 |0=>(fun _ _ _ _ _ _=>none)
 |n+1=>(ai5 (VO n))
def ai6 (n:Nat):T58:=(VO n)
def S_ (n:Nat):aZ:=⟨ak1,u6 (VO n)⟩
theorem acP (n:Nat) (h58:ay Try.prog 58 (S_ n)):ay Try.prog 58 (S_ (n+1)):=
 ts [(68,alq),(69,afv),(70,alD),(71,acz),(58,S_ n)] ety [.tmp 4] apB Try.func58 rfl ⟨afu,PD,afH,Ho,h58,trivial⟩
theorem Gp :∀n,ay Try.prog 58 (S_ n)
 |0=>dR Try.func58 rfl rfl (show ak1.er.ok=true by decide +kernel) fun x=>rfl
 |n+1=>by
  have ih:=Gp n
  exact acP n (ih)
def f58:T58:=ai6 1048576
def alL:aZ:=S_ 1048576
theorem af2:ay Try.prog 58 alL:=(Gp 1048576)
def f66 (p0:eF) (p1:(List aF)) (p2:Int) (p3:Int) (p4:iQ) (p5:Int) (p6:Int) (p7:mD) (p8:Int) (p9:Int) (p10:Int) (p11:Int) (p12:Int) (p13:Int) (p14:eY):Option Int:=
 OB (
  bif (decide (p8<1)) then
   some true
  else
   bif (decide (14<p8)) then
    some true
   else
    bif (decide (p8=3)) then
     bif (!(decide (p9=1))) then
      bif (!(decide (p9=2))) then
       some true
      else
       bif (decide (p8=4)) then
        bif (decide (p9<3)) then
         some true
        else
         some (decide (11<p9))
       else
        some false
     else
      bif false then
       some true
      else
       bif (decide (p8=4)) then
        bif (decide (p9<3)) then
         some true
        else
         some (decide (11<p9))
       else
        some false
    else
     bif false then
      some true
     else
      bif (decide (p8=4)) then
       bif (decide (p9<3)) then
        some true
       else
        some (decide (11<p9))
      else
       some false) fun rO=>
 bif rO then
  some (17:Int)
 else
  OB (f75 p8 p9 p10 p11 p12 p13 p14) fun c39=>
  OB (f76 p8 p9 p10 p11 p12 p13 p14) fun c40=>
  OB (
   bif c40.2 then
    let n41:=[c40.1]
    ck (bV c39.length n41.length 8) <|
    some (c39++n41)
   else
    some c39) fun s43=>
  dP (
   bD (fun (s44:Int)=>
    bif (decide (s44<(s43.length:Int))) then
     OB (
      ck (inB s44 s43.length) <|
      bif (decide ((List.getD s43 s44.toNat 0)<0)) then
       some true
      else
       ck (inB s44 s43.length) <|
       some (decide (p6≤(List.getD s43 s44.toNat 0)))) fun s52=>
     bif s52 then
      some (.inr (.inr (14:Int)))
     else
      some (.inl (b_ (s44+1)))
    else
     some (.inr (.inl ()))) (0:Int)) fun s54=>
  OB (
   bif (decide (p8=5)) then
    some true
   else
    some (decide (p8=6))) fun s57=>
  dP (
   bif s57 then
    OB (f77 p0 p1 p2 p3 p13 false) fun X7=>
    bif (!X7) then
     some (.inr (16:Int))
    else
     some (.inl ())
   else
    OB (
     bif (decide (p8=7)) then
      some true
     else
      some (decide (p8=8))) fun s62=>
    dP (
     bif s62 then
      OB (f77 p0 p1 p2 p3 p13 true) fun c63=>
      bif (!c63) then
       some (.inr (.inr (16:Int)))
      else
       some (.inl ())
     else
      dP (
       bif (decide (p8=11)) then
        OB (
         bif (decide (p13<0)) then
          some true
         else
          some (decide ((p1.length:Int)≤p13))) fun s70=>
        bif s70 then
         some (.inr (.inr (.inr (15:Int))))
        else
         ck (inB p13 p1.length) <|
         bif (!(decide ((List.getD p1 p13.toNat ak).params=(p14.length:Int)))) then
          some (.inr (.inr (.inr (11:Int))))
         else
          some (.inl ())
       else
        dP (
         bif (decide (p8=12)) then
          bif (decide (250<(p14.length:Int))) then
           some (.inr (.inr (.inr (.inr (11:Int)))))
          else
           some (.inl ())
         else
          dP (
           bif (decide (p8=14)) then
            OB (
             bif (decide (p13<0)) then
              some true
             else
              some (decide (p2≤p13))) fun s81=>
            bif s81 then
             some (.inr (.inr (.inr (.inr (.inr (15:Int))))))
            else
             some (.inl ())
           else
            dP (
             bif (decide (p8=13)) then
              OB (
               bif (decide (p13<0)) then
                some true
               else
                some (decide (p3≤p13))) fun s86=>
              bif s86 then
               some (.inr (.inr (.inr (.inr (.inr (.inr (1:Int)))))))
              else
               some (.inl ())
             else
              some (.inl ())) fun s87=>
            some (.inl ())) fun s88=>
          some (.inl ())) fun s89=>
        some (.inl ())) fun s90=>
      some (.inl ())) fun s91=>
    some (.inl ())) fun s92=>
  some (0:Int)
def alM:aZ:=⟨apC,u15 f66⟩
theorem af4:ay Try.prog 66 alM:=
 ts [(75,alv),(76,alx),(77,aly)] ety [.tmp 6] apD Try.func66 rfl ⟨afz,afA,afB,trivial⟩
def ai7 (p0:Int) (p1:eY) (p2:Int) (p3:eF) (p4:(List aB)) (p5:bG):Option (iQ×Bool×Int×eY×Int×eF×(List aB)×bG):=
 OB (
  OB (f87) fun c0=>
  dP (
   bD (fun (s1:Int)=>
    bif (decide (s1<(c0.length:Int))) then
     OB (
      bD (fun (s4:(Bool×Int))=>
       bif (decide (s4.2<(p5.length:Int))) then
        OB (
         bif s4.1 then
          some true
         else
          ck (inB s4.2 p5.length) <|
          ck (inB s1 c0.length) <|
          some ((List.getD p5 s4.2.toNat dX)==(List.getD c0 s1.toNat dX))) fun s11=>
        some (.inl (s11,(b_ (s4.2+1))))
       else
        some (.inr s4.1)) (false,(0:Int))) fun s13=>
     bif (!s13) then
      ck (inB s1 c0.length) <|
      some (.inr (.inr ((List.getD c0 s1.toNat dX),true,p0,p1,p2,p3,p4,p5)))
     else
      some (.inl (b_ (s1+1)))
    else
     some (.inr (.inl ()))) (0:Int)) fun pG=>
  some (dX,false,p0,p1,p2,p3,p4,p5)) fun s18=>
 ck (decide (p3.length=s18.2.2.2.2.2.1.length)) <|
 ck (decide (p4.length=s18.2.2.2.2.2.2.1.length)) <|
 ck (decide (p5.length=s18.2.2.2.2.2.2.2.length)) <|
 some s18
def f81 (p0:Int) (p1:eY) (p2:Int) (p3:eF) (p4:(List aB)) (p5:bG):Option (iQ×Bool×Int×eY×Int×eF×(List aB)×bG):=OB (ai7 p0 p1 p2 p3 p4 p5) fun (y:(iQ×Bool×Int×eY×Int×eF×(List aB)×bG))=>yA y.2.2.2.2.2.1 p3 <| yA y.2.2.2.2.2.2.1 p4 <| yA y.2.2.2.2.2.2.2 p5 <| some y
def alN:aZ:=⟨apE,u6 ai7⟩
theorem af5:ay Try.prog 81 alN:=
 ts [(87,alE)] ety [.tmp 2,.tmp 3] apF Try.func81 rfl ⟨afJ,trivial⟩
def ZF (yR:T83) (aho:T86) (p0:Int) (p1:Int) (p2:eY) (p3:Int) (p4:eF) (p5:(List aB)) (p6:bG):Option (Int×Int×Int×Int×iQ×mY×Int×eY×Int×eF×(List aB)×bG):=
 OB (
  OB (
   bif (decide (p0<1)) then
    some (true,p2,p3)
   else
    OB (f11 3 p2 p3) fun c1=>
    some ((decide (c1.1=0)),c1.2.1,c1.2.2)) fun s4=>
  bif s4.1 then
   OB (f88 p1 s4.2.1 s4.2.2 p4 p5 p6) fun c5=>
   some (c5.1,c5.2.1,c5.2.2.1,c5.2.2.2.1,c5.2.2.2.2.1,pW,c5.2.2.2.2.2.1,c5.2.2.2.2.2.2.1,c5.2.2.2.2.2.2.2.1,p4,p5,p6)
  else
   OB (f11 9 s4.2.1 s4.2.2) fun c6=>
   bif (decide (c6.1=0)) then
    OB (f11 2 c6.2.1 c6.2.2) fun c8=>
    OB (yR (b_ (p0-1)) p1 c8.2.1 c8.2.2 p4 p5 p6) fun c11=>
    OB (f89 5 (b_ (1+c8.1)) [(bK.mk c11.1 c11.2.1 c11.2.2.1 c11.2.2.2.1 c11.2.2.2.2.1 c11.2.2.2.2.2.1)]) fun c13=>
    some (c13.1,c13.2.1,c13.2.2.1,c13.2.2.2.1,c13.2.2.2.2.1,c13.2.2.2.2.2,c11.2.2.2.2.2.2.1,c11.2.2.2.2.2.2.2.1,c11.2.2.2.2.2.2.2.2.1,p4,p5,p6)
   else
    bif (decide (c6.1=1)) then
     OB (yR (b_ (p0-1)) p1 c6.2.1 c6.2.2 p4 p5 p6) fun c16=>
     OB (yR (b_ (p0-1)) c16.2.2.2.2.2.2.1 c16.2.2.2.2.2.2.2.1 c16.2.2.2.2.2.2.2.2.1 p4 p5 p6) fun c18=>
     OB (f89 7 0 [(bK.mk c16.1 c16.2.1 c16.2.2.1 c16.2.2.2.1 c16.2.2.2.2.1 c16.2.2.2.2.2.1),(bK.mk c18.1 c18.2.1 c18.2.2.1 c18.2.2.2.1 c18.2.2.2.2.1 c18.2.2.2.2.2.1)]) fun c20=>
     some (c20.1,c20.2.1,c20.2.2.1,c20.2.2.2.1,c20.2.2.2.2.1,c20.2.2.2.2.2,c18.2.2.2.2.2.2.1,c18.2.2.2.2.2.2.2.1,c18.2.2.2.2.2.2.2.2.1,p4,p5,p6)
    else
     bif (decide (c6.1=2)) then
      OB (yR (b_ (p0-1)) p1 c6.2.1 c6.2.2 p4 p5 p6) fun c23=>
      OB (yR (b_ (p0-1)) c23.2.2.2.2.2.2.1 c23.2.2.2.2.2.2.2.1 c23.2.2.2.2.2.2.2.2.1 p4 p5 p6) fun c25=>
      OB (f89 8 0 [(bK.mk c23.1 c23.2.1 c23.2.2.1 c23.2.2.2.1 c23.2.2.2.2.1 c23.2.2.2.2.2.1),(bK.mk c25.1 c25.2.1 c25.2.2.1 c25.2.2.2.1 c25.2.2.2.2.1 c25.2.2.2.2.2.1)]) fun GU=>
      some (GU.1,GU.2.1,GU.2.2.1,GU.2.2.2.1,GU.2.2.2.2.1,GU.2.2.2.2.2,c25.2.2.2.2.2.2.1,c25.2.2.2.2.2.2.2.1,c25.2.2.2.2.2.2.2.2.1,p4,p5,p6)
     else
      OB (
       bif (decide (c6.1=3)) then
        some true
       else
        some (decide (c6.1=4))) fun t_=>
      bif t_ then
       OB (aho p0 p1 c6.2.1 c6.2.2 p4 p5 p6) fun c31=>
       some (c31.1,c31.2.1,c31.2.2.1,c31.2.2.2.1,c31.2.2.2.2.1,c31.2.2.2.2.2.2.2.2.2.2.2,c31.2.2.2.2.2.1,c31.2.2.2.2.2.2.1,c31.2.2.2.2.2.2.2.1,p4,p5,p6)
      else
       dP (
        bif (decide (c6.1=5)) then
         OB (f84 true p1 c6.2.1 c6.2.2 p4 p5 p6) fun Nc=>
         bif Nc.2.1 then
          OB (yR (b_ (p0-1)) Nc.2.2.1 Nc.2.2.2.1 Nc.2.2.2.2.1 p4 p5 p6) fun GV=>
          some (.inr ((4:Int),(0:Int),(0:Int),(0:Int),Nc.1,[(bK.mk GV.1 GV.2.1 GV.2.2.1 GV.2.2.2.1 GV.2.2.2.2.1 GV.2.2.2.2.2.1)],GV.2.2.2.2.2.2.1,GV.2.2.2.2.2.2.2.1,GV.2.2.2.2.2.2.2.2.1,p4,p5,p6))
         else
          some (.inl (Nc.2.2.1,Nc.2.2.2.1,Nc.2.2.2.2.1))
        else
         some (.inl (p1,c6.2.1,c6.2.2))) fun BA=>
       OB (f11 9 BA.2.1 BA.2.2) fun c38=>
       OB (yR (b_ (p0-1)) BA.1 c38.2.1 c38.2.2 p4 p5 p6) fun VP=>
       OB (yR (b_ (p0-1)) VP.2.2.2.2.2.2.1 VP.2.2.2.2.2.2.2.1 VP.2.2.2.2.2.2.2.2.1 p4 p5 p6) fun c43=>
       OB (f89 6 (b_ (3+c38.1)) [(bK.mk VP.1 VP.2.1 VP.2.2.1 VP.2.2.2.1 VP.2.2.2.2.1 VP.2.2.2.2.2.1),(bK.mk c43.1 c43.2.1 c43.2.2.1 c43.2.2.2.1 c43.2.2.2.2.1 c43.2.2.2.2.2.1)]) fun Ls=>
       some (Ls.1,Ls.2.1,Ls.2.2.1,Ls.2.2.2.1,Ls.2.2.2.2.1,Ls.2.2.2.2.2,c43.2.2.2.2.2.2.1,c43.2.2.2.2.2.2.2.1,c43.2.2.2.2.2.2.2.2.1,p4,p5,p6)) fun s46=>
 ck (decide (p4.length=s46.2.2.2.2.2.2.2.2.2.1.length)) <|
 ck (decide (p5.length=s46.2.2.2.2.2.2.2.2.2.2.1.length)) <|
 ck (decide (p6.length=s46.2.2.2.2.2.2.2.2.2.2.2.length)) <|
 some s46
def k83 (p0:Int) (p1:Int) (p2:eY) (p3:Int) (p4:eF) (p5:(List aB)) (p6:bG) (r:Option (Int×Int×Int×Int×iQ×mY×Int×eY×Int×eF×(List aB)×bG)):Option (Int×Int×Int×Int×iQ×mY×Int×eY×Int×eF×(List aB)×bG):=OB r fun (y:(Int×Int×Int×Int×iQ×mY×Int×eY×Int×eF×(List aB)×bG))=>yA y.2.2.2.2.2.2.2.2.2.1 p4 <| yA y.2.2.2.2.2.2.2.2.2.2.1 p5 <| yA y.2.2.2.2.2.2.2.2.2.2.2 p6 <| some y
def af7 (yR:T83) (aho:T86) (p0:Int) (p1:Int) (p2:eY) (p3:Int) (p4:eF) (p5:(List aB)) (p6:bG):Option (Int×Int×Int×Int×iQ×Int×eY×Int×eF×(List aB)×bG×mY):=
 OB (
  OB (f11 (p5.length:Int) p2 p3) fun c1=>
  ck (inB c1.1 p5.length) <|
  let n2:=(List.getD p5 c1.1.toNat h_)
  OB (f11 3 c1.2.1 c1.2.2) fun c4=>
  let n5:=(decide (c4.1=2))
  OB (
   bif n5 then
    OB (f11 8 c4.2.1 c4.2.2) fun c6=>
    some ((decide (c6.1=7)),c6.2.1,c6.2.2)
   else
    some (false,c4.2.1,c4.2.2)) fun s9=>
  OB (
   bif s9.1 then
    OB (f11 3 s9.2.1 s9.2.2) fun c10=>
    some (c10.1,c10.2.1,c10.2.2)
   else
    some (((List.length n2.params):Int),s9.2.1,s9.2.2)) fun s11=>
  OB (
   bD (fun (s12:(Int×Int×eY×Int×mY))=>
    bif (decide (s12.1<s11.1)) then
     OB (yR (b_ (p0-1)) s12.2.1 s12.2.2.1 s12.2.2.2.1 p4 p5 p6) fun c15=>
     let n16:=[(bK.mk c15.1 c15.2.1 c15.2.2.1 c15.2.2.2.1 c15.2.2.2.2.1 c15.2.2.2.2.2.1)]
     ck (bV s12.2.2.2.2.length n16.length 72) <|
     some (.inl ((b_ (s12.1+1)),c15.2.2.2.2.2.2.1,c15.2.2.2.2.2.2.2.1,c15.2.2.2.2.2.2.2.2.1,(s12.2.2.2.2++n16)))
    else
     some (.inr (s12.2.1,s12.2.2.1,s12.2.2.2.1,s12.2.2.2.2))) ((0:Int),p1,s11.2.1,s11.2.2,pW)) fun jE=>
  bif (!n5) then
   some ((9:Int),(0:Int),(0:Int),(0:Int),n2.name,jE.1,jE.2.1,jE.2.2.1,p4,p5,p6,jE.2.2.2)
  else
   OB (f11 4 jE.2.1 jE.2.2.1) fun c21=>
   OB (
    bif (decide (c21.1=3)) then
     OB (yR (b_ (p0-1)) jE.1 c21.2.1 c21.2.2 p4 p5 p6) fun c24=>
     some (c24.2.2.2.2.2.2.1,c24.2.2.2.2.2.2.2.1,c24.2.2.2.2.2.2.2.2.1,c24.1,c24.2.1,c24.2.2.1,c24.2.2.2.1,c24.2.2.2.2.1,c24.2.2.2.2.2.1)
    else
     some (jE.1,c21.2.1,c21.2.2,(11:Int),(0:Int),(0:Int),(0:Int),n2.name,pW)) fun yP=>
   bif (decide (yP.2.2.2.1=13)) then
    some ((9:Int),(0:Int),(0:Int),(0:Int),yP.2.2.2.2.2.2.2.1,yP.1,yP.2.1,yP.2.2.1,p4,p5,p6,jE.2.2.2)
   else
    let n27:=[(bK.mk yP.2.2.2.1 yP.2.2.2.2.1 yP.2.2.2.2.2.1 yP.2.2.2.2.2.2.1 yP.2.2.2.2.2.2.2.1 yP.2.2.2.2.2.2.2.2)]
    ck (bV n27.length jE.2.2.2.length 72) <|
    some ((10:Int),(0:Int),(0:Int),(0:Int),dX,yP.1,yP.2.1,yP.2.2.1,p4,p5,p6,(n27++jE.2.2.2))) fun s29=>
 ck (decide (p4.length=s29.2.2.2.2.2.2.2.2.1.length)) <|
 ck (decide (p5.length=s29.2.2.2.2.2.2.2.2.2.1.length)) <|
 ck (decide (p6.length=s29.2.2.2.2.2.2.2.2.2.2.1.length)) <|
 some s29
def k86 (p0:Int) (p1:Int) (p2:eY) (p3:Int) (p4:eF) (p5:(List aB)) (p6:bG) (r:Option (Int×Int×Int×Int×iQ×Int×eY×Int×eF×(List aB)×bG×mY)):Option (Int×Int×Int×Int×iQ×Int×eY×Int×eF×(List aB)×bG×mY):=OB r fun (y:(Int×Int×Int×Int×iQ×Int×eY×Int×eF×(List aB)×bG×mY))=>yA y.2.2.2.2.2.2.2.2.1 p4 <| yA y.2.2.2.2.2.2.2.2.2.1 p5 <| yA y.2.2.2.2.2.2.2.2.2.2.1 p6 <| some y
def ug:Nat→T83×T86
 |0=>(fun _ _ _ _ _ _ _=>none,fun _ _ _ _ _ _ _=>none)
 |n+1=>(ZF (fun p0 p1 p2 p3 p4 p5 p6=>k83 p0 p1 p2 p3 p4 p5 p6 ((ug n).1 p0 p1 p2 p3 p4 p5 p6)) (fun p0 p1 p2 p3 p4 p5 p6=>k86 p0 p1 p2 p3 p4 p5 p6 ((ug n).2 p0 p1 p2 p3 p4 p5 p6)),af7 (fun p0 p1 p2 p3 p4 p5 p6=>k83 p0 p1 p2 p3 p4 p5 p6 ((ug n).1 p0 p1 p2 p3 p4 p5 p6)) (fun p0 p1 p2 p3 p4 p5 p6=>k86 p0 p1 p2 p3 p4 p5 p6 ((ug n).2 p0 p1 p2 p3 p4 p5 p6)))
def af8 (n:Nat):T83:=(fun p0 p1 p2 p3 p4 p5 p6=>k83 p0 p1 p2 p3 p4 p5 p6 ((ug n).1 p0 p1 p2 p3 p4 p5 p6))
def J9 (n:Nat):aZ:=⟨ak2,u7 (ug n).1⟩
def af9 (n:Nat):T86:=(fun p0 p1 p2 p3 p4 p5 p6=>k86 p0 p1 p2 p3 p4 p5 p6 ((ug n).2 p0 p1 p2 p3 p4 p5 p6))
def J_ (n:Nat):aZ:=⟨ak3,u7 (ug n).2⟩
theorem acQ (n:Nat) (h83:ay Try.prog 83 (J9 n)) (h86:ay Try.prog 86 (J_ n)):ay Try.prog 83 (J9 (n+1)):=
 ts [(11,GR),(88,alF),(89,aiZ),(84,acJ),(83,J9 n),(86,J_ n)] ety [.cell 4 143] apG Try.func83 rfl ⟨nS,afL,XY,Hq,h83,h86,trivial⟩
theorem acR (n:Nat) (h83:ay Try.prog 83 (J9 n)) (h86:ay Try.prog 86 (J_ n)):ay Try.prog 86 (J_ (n+1)):=
 ts [(11,GR),(83,J9 n),(86,J_ n)] ety [.cell 4 143] apH Try.func86 rfl ⟨nS,h83,h86,trivial⟩
theorem yS :∀n,ay Try.prog 83 (J9 n)∧ay Try.prog 86 (J_ n)
 |0=>⟨dR Try.func83 rfl rfl (show ak2.er.ok=true by decide +kernel) fun x=>rfl,dR Try.func86 rfl rfl (show ak3.er.ok=true by decide +kernel) fun x=>rfl⟩
 |n+1=>by
  have ih:=yS n
  exact ⟨acQ n (ih.1) (ih.2),acR n (ih.1) (ih.2)⟩
def f83:T83:=af8 1048576
def ai8:aZ:=J9 1048576
theorem X8:ay Try.prog 83 ai8:=(yS 1048576).1
def f86:T86:=af9 1048576
def alP:aZ:=J_ 1048576
theorem af_:ay Try.prog 86 alP:=(yS 1048576).2
def aga (Nk:T59) (acS:T72) (acT:T85) (p0:Int) (p1:Int) (p2:Int) (p3:eY) (p4:Int) (p5:eF) (p6:(List aB)) (p7:bG):Option (Int×eY×Int×eF×(List aB)×qj×bG):=
 OB (
  OB (
   bD (fun (s0:(Int×Int×eY×Int×qj×bG))=>
    OB (
     bif (decide (s0.1<p1)) then
      some (decide (0<s0.2.1))
     else
      some false) fun s4=>
    bif s4 then
     OB (acS p0 (b_ (s0.2.1-1)) s0.2.2.1 s0.2.2.2.1 p5 p6 s0.2.2.2.2.2) fun c6=>
     let n7:=[(eX.mk c6.1 c6.2.1 c6.2.2.1 c6.2.2.2.2.2.2.2.2.1 c6.2.2.2.2.2.2.2.2.2.1 c6.2.2.2.2.2.2.2.2.2.2.1)]
     ck (bV s0.2.2.2.2.1.length n7.length 104) <|
     some (.inl ((b_ (s0.1+1)),c6.2.2.2.1,c6.2.2.2.2.1,c6.2.2.2.2.2.1,(s0.2.2.2.2.1++n7),c6.2.2.2.2.2.2.2.2.2.2.2))
    else
     some (.inr (s0.2.1,s0.2.2.1,s0.2.2.2.1,s0.2.2.2.2.1,s0.2.2.2.2.2))) ((0:Int),p2,p3,p4,je,p7)) fun s10=>
  some (s10.1,s10.2.1,s10.2.2.1,p5,p6,s10.2.2.2.1,s10.2.2.2.2)) fun s11=>
 ck (decide (p5.length=s11.2.2.2.1.length)) <|
 ck (decide (p6.length=s11.2.2.2.2.1.length)) <|
 some s11
def k59 (p0:Int) (p1:Int) (p2:Int) (p3:eY) (p4:Int) (p5:eF) (p6:(List aB)) (p7:bG) (r:Option (Int×eY×Int×eF×(List aB)×qj×bG)):Option (Int×eY×Int×eF×(List aB)×qj×bG):=OB r fun (y:(Int×eY×Int×eF×(List aB)×qj×bG))=>yA y.2.2.2.1 p5 <| yA y.2.2.2.2.1 p6 <| some y
def agb (Nk:T59) (acS:T72) (acT:T85) (p0:Int) (p1:Int) (p2:eY) (p3:Int) (p4:eF) (p5:(List aB)) (p6:bG):Option (Int×Int×iQ×Int×eY×Int×eF×(List aB)×mY×qj×qj×bG):=
 OB (
  OB (f11 10 p2 p3) fun c0=>
  OB (
   bif (decide (c0.1=0)) then
    some true
   else
    some (decide (c0.1=1))) fun s3=>
  dP (
   bif s3 then
    OB (f81 p1 c0.2.1 c0.2.2 p4 p5 p6) fun c4=>
    bif c4.2.1 then
     OB (f83 2 c4.2.2.1 c4.2.2.2.1 c4.2.2.2.2.1 p4 p5 p6) fun c5=>
     OB (f82 1 c4.1 c5.1 c5.2.1 c5.2.2.1 c5.2.2.2.1 c5.2.2.2.2.1 c5.2.2.2.2.2.1) fun c6=>
     let n7:=[c4.1]
     ck (bV p6.length n7.length 16) <|
     some (.inr (c6.1,c6.2.1,c6.2.2.1,c5.2.2.2.2.2.2.1,c5.2.2.2.2.2.2.2.1,c5.2.2.2.2.2.2.2.2.1,p4,p5,c6.2.2.2,je,je,(p6++n7)))
    else
     some (.inl (c4.2.2.1,c4.2.2.2.1,c4.2.2.2.2.1))
   else
    dP (
     bif (decide (c0.1=2)) then
      bif (decide (0<(p6.length:Int))) then
       OB (f11 (p6.length:Int) c0.2.1 c0.2.2) fun c13=>
       ck (inB c13.1 p6.length) <|
       OB (f83 2 p1 c13.2.1 c13.2.2 p4 p5 p6) fun c15=>
       OB (f82 2 (List.getD p6 c13.1.toNat dX) c15.1 c15.2.1 c15.2.2.1 c15.2.2.2.1 c15.2.2.2.2.1 c15.2.2.2.2.2.1) fun c16=>
       some (.inr (.inr (c16.1,c16.2.1,c16.2.2.1,c15.2.2.2.2.2.2.1,c15.2.2.2.2.2.2.2.1,c15.2.2.2.2.2.2.2.2.1,p4,p5,c16.2.2.2,je,je,p6)))
      else
       some (.inl (p1,c0.2.1,c0.2.2))
     else
      dP (
       bif (decide (c0.1=3)) then
        OB (f84 false p1 c0.2.1 c0.2.2 p4 p5 p6) fun c18=>
        bif c18.2.1 then
         OB (f83 2 c18.2.2.1 c18.2.2.2.1 c18.2.2.2.2.1 p4 p5 p6) fun c19=>
         OB (f82 2 c18.1 c19.1 c19.2.1 c19.2.2.1 c19.2.2.2.1 c19.2.2.2.2.1 c19.2.2.2.2.2.1) fun c20=>
         some (.inr (.inr (.inr (c20.1,c20.2.1,c20.2.2.1,c19.2.2.2.2.2.2.1,c19.2.2.2.2.2.2.2.1,c19.2.2.2.2.2.2.2.2.1,p4,p5,c20.2.2.2,je,je,p6))))
        else
         some (.inl (c18.2.2.1,c18.2.2.2.1,c18.2.2.2.2.1))
       else
        dP (
         bif (decide (c0.1=4)) then
          OB (f84 true p1 c0.2.1 c0.2.2 p4 p5 p6) fun KI=>
          bif KI.2.1 then
           OB (f83 1 KI.2.2.1 KI.2.2.2.1 KI.2.2.2.2.1 p4 p5 p6) fun c23=>
           OB (f83 2 c23.2.2.2.2.2.2.1 c23.2.2.2.2.2.2.2.1 c23.2.2.2.2.2.2.2.2.1 p4 p5 p6) fun c24=>
           some (.inr (.inr (.inr (.inr ((3:Int),(0:Int),KI.1,c24.2.2.2.2.2.2.1,c24.2.2.2.2.2.2.2.1,c24.2.2.2.2.2.2.2.2.1,p4,p5,[(bK.mk c23.1 c23.2.1 c23.2.2.1 c23.2.2.2.1 c23.2.2.2.2.1 c23.2.2.2.2.2.1),(bK.mk c24.1 c24.2.1 c24.2.2.1 c24.2.2.2.1 c24.2.2.2.2.1 c24.2.2.2.2.2.1)],je,je,p6)))))
          else
           some (.inl (KI.2.2.1,KI.2.2.2.1,KI.2.2.2.2.1))
         else
          OB (
           bif (decide (c0.1=5)) then
            some true
           else
            some (decide (c0.1=6))) fun Qb=>
          dP (
           bif Qb then
            bif (decide (0<p0)) then
             OB (f83 2 p1 c0.2.1 c0.2.2 p4 p5 p6) fun KH=>
             OB (f82 4 dX KH.1 KH.2.1 KH.2.2.1 KH.2.2.2.1 KH.2.2.2.2.1 KH.2.2.2.2.2.1) fun c31=>
             OB (f11 2 KH.2.2.2.2.2.2.2.1 KH.2.2.2.2.2.2.2.2.1) fun Nc=>
             OB (Nk (b_ (p0-1)) (b_ (1+Nc.1)) KH.2.2.2.2.2.2.1 Nc.2.1 Nc.2.2 p4 p5 p6) fun GV=>
             OB (f11 2 GV.2.1 GV.2.2.1) fun c36=>
             OB (
              bif (decide (c36.1=1)) then
               OB (f11 2 c36.2.1 c36.2.2) fun c39=>
               OB (Nk (b_ (p0-1)) (b_ (1+c39.1)) GV.1 c39.2.1 c39.2.2 p4 p5 GV.2.2.2.2.2.2) fun VP=>
               some (VP.1,VP.2.1,VP.2.2.1,c31.1,c31.2.1,c31.2.2.1,VP.2.2.2.2.2.2,VP.2.2.2.2.2.1)
              else
               some (GV.1,c36.2.1,c36.2.2,c31.1,c31.2.1,c31.2.2.1,GV.2.2.2.2.2.2,je)) fun rG=>
             some (.inr (.inr (.inr (.inr (.inr (rG.2.2.2.1,rG.2.2.2.2.1,rG.2.2.2.2.2.1,rG.1,rG.2.1,rG.2.2.1,p4,p5,c31.2.2.2,GV.2.2.2.2.2.1,rG.2.2.2.2.2.2.2,rG.2.2.2.2.2.2.1))))))
            else
             some (.inl ())
           else
            dP (
             bif (decide (c0.1=7)) then
              bif (decide (0<p0)) then
               OB (acT p0 p1 c0.2.1 c0.2.2 p4 p5 p6) fun Ls=>
               some (.inr (.inr (.inr (.inr (.inr (.inr (Ls.1,Ls.2.1,Ls.2.2.1,Ls.2.2.2.1,Ls.2.2.2.2.1,Ls.2.2.2.2.2.1,p4,p5,Ls.2.2.2.2.2.2.2.2.1,Ls.2.2.2.2.2.2.2.2.2.1,je,Ls.2.2.2.2.2.2.2.2.2.2)))))))
              else
               some (.inl ())
             else
              bif (decide (c0.1=8)) then
               OB (f11 3 c0.2.1 c0.2.2) fun c47=>
               bif (decide (c47.1=0)) then
                OB (f83 2 p1 c47.2.1 c47.2.2 p4 p5 p6) fun c49=>
                OB (f82 6 dX c49.1 c49.2.1 c49.2.2.1 c49.2.2.2.1 c49.2.2.2.2.1 c49.2.2.2.2.2.1) fun c50=>
                some (.inr (.inr (.inr (.inr (.inr (.inr (c50.1,c50.2.1,c50.2.2.1,c49.2.2.2.2.2.2.1,c49.2.2.2.2.2.2.2.1,c49.2.2.2.2.2.2.2.2.1,p4,p5,c50.2.2.2,je,je,p6)))))))
               else
                OB (f86 2 p1 c47.2.1 c47.2.2 p4 p5 p6) fun c51=>
                OB (f82 8 dX c51.1 c51.2.1 c51.2.2.1 c51.2.2.2.1 c51.2.2.2.2.1 c51.2.2.2.2.2.2.2.2.2.2.2) fun ZE=>
                some (.inr (.inr (.inr (.inr (.inr (.inr (ZE.1,ZE.2.1,ZE.2.2.1,c51.2.2.2.2.2.1,c51.2.2.2.2.2.2.1,c51.2.2.2.2.2.2.2.1,p4,p5,ZE.2.2.2,je,je,p6)))))))
              else
               some (.inl ())) fun s53=>
            some (.inl ())) fun s54=>
          some (.inl (p1,c0.2.1,c0.2.2))) fun ZB=>
        some (.inl (ZB.1,ZB.2.1,ZB.2.2))) fun s56=>
      some (.inl (s56.1,s56.2.1,s56.2.2))) fun s57=>
    some (.inl (s57.1,s57.2.1,s57.2.2))) fun s58=>
  OB (f83 2 s58.1 s58.2.1 s58.2.2 p4 p5 p6) fun c59=>
  OB (f82 7 dX c59.1 c59.2.1 c59.2.2.1 c59.2.2.2.1 c59.2.2.2.2.1 c59.2.2.2.2.2.1) fun c60=>
  some (c60.1,c60.2.1,c60.2.2.1,c59.2.2.2.2.2.2.1,c59.2.2.2.2.2.2.2.1,c59.2.2.2.2.2.2.2.2.1,p4,p5,c60.2.2.2,je,je,p6)) fun s61=>
 ck (decide (p4.length=s61.2.2.2.2.2.2.1.length)) <|
 ck (decide (p5.length=s61.2.2.2.2.2.2.2.1.length)) <|
 some s61
def k72 (p0:Int) (p1:Int) (p2:eY) (p3:Int) (p4:eF) (p5:(List aB)) (p6:bG) (r:Option (Int×Int×iQ×Int×eY×Int×eF×(List aB)×mY×qj×qj×bG)):Option (Int×Int×iQ×Int×eY×Int×eF×(List aB)×mY×qj×qj×bG):=OB r fun (y:(Int×Int×iQ×Int×eY×Int×eF×(List aB)×mY×qj×qj×bG))=>yA y.2.2.2.2.2.2.1 p4 <| yA y.2.2.2.2.2.2.2.1 p5 <| some y
def agc (Nk:T59) (acS:T72) (acT:T85) (p0:Int) (p1:Int) (p2:eY) (p3:Int) (p4:eF) (p5:(List aB)) (p6:bG):Option (Int×Int×iQ×Int×eY×Int×eF×(List aB)×mY×qj×bG):=
 OB (
  OB (f84 false p1 p2 p3 p4 p5 p6) fun c0=>
  OB (
   bif (decide (0<(p6.length:Int))) then
    OB (f11 3 c0.2.2.2.1 c0.2.2.2.2.1) fun c3=>
    some ((decide (0<c3.1)),c3.2.1,c3.2.2)
   else
    some (false,c0.2.2.2.1,c0.2.2.2.2.1)) fun s6=>
  OB (
   bif s6.1 then
    OB (f11 (p6.length:Int) s6.2.1 s6.2.2) fun c8=>
    ck (inB c8.1 p6.length) <|
    some ((List.getD p6 c8.1.toNat dX),true,c8.2.1,c8.2.2)
   else
    some (c0.1,c0.2.1,s6.2.1,s6.2.2)) fun s10=>
  OB (
   bif (!s10.2.1) then
    some (true,s10.2.2.1,s10.2.2.2)
   else
    OB (f11 8 s10.2.2.1 s10.2.2.2) fun c12=>
    some ((decide (c12.1=7)),c12.2.1,c12.2.2)) fun s15=>
  bif s15.1 then
   OB (f83 2 c0.2.2.1 s15.2.1 s15.2.2 p4 p5 p6) fun c16=>
   OB (f82 5 dX c16.1 c16.2.1 c16.2.2.1 c16.2.2.2.1 c16.2.2.2.2.1 c16.2.2.2.2.2.1) fun c17=>
   OB (f11 2 c16.2.2.2.2.2.2.2.1 c16.2.2.2.2.2.2.2.2.1) fun c19=>
   OB (Nk (b_ (p0-1)) (b_ (1+c19.1)) c16.2.2.2.2.2.2.1 c19.2.1 c19.2.2 p4 p5 p6) fun c21=>
   some (c17.1,c17.2.1,c17.2.2.1,c21.1,c21.2.1,c21.2.2.1,p4,p5,c17.2.2.2,c21.2.2.2.2.2.1,c21.2.2.2.2.2.2)
  else
   OB (f11 5 s15.2.1 s15.2.2) fun KI=>
   OB (f89 6 8 [(bK.mk 13 0 0 0 s10.1 pW),(bK.mk 1 0 (b_ (1+KI.1)) 0 dX pW)]) fun c25=>
   OB (f82 5 dX c25.1 c25.2.1 c25.2.2.1 c25.2.2.2.1 c25.2.2.2.2.1 c25.2.2.2.2.2) fun Qc=>
   OB (f11 3 KI.2.1 KI.2.2) fun c28=>
   OB (Nk (b_ (p0-1)) c28.1 c0.2.2.1 c28.2.1 c28.2.2 p4 p5 p6) fun c29=>
   OB (f89 6 3 [(bK.mk 13 0 0 0 s10.1 pW),(bK.mk 1 0 1 0 dX pW)]) fun c31=>
   OB (f82 2 s10.1 c31.1 c31.2.1 c31.2.2.1 c31.2.2.2.1 c31.2.2.2.2.1 c31.2.2.2.2.2) fun c32=>
   let n33:=[(eX.mk c32.1 c32.2.1 c32.2.2.1 c32.2.2.2 je je)]
   ck (bV c29.2.2.2.2.2.1.length n33.length 104) <|
   some (Qc.1,Qc.2.1,Qc.2.2.1,c29.1,c29.2.1,c29.2.2.1,p4,p5,Qc.2.2.2,(c29.2.2.2.2.2.1++n33),c29.2.2.2.2.2.2)) fun Ub=>
 ck (decide (p4.length=Ub.2.2.2.2.2.2.1.length)) <|
 ck (decide (p5.length=Ub.2.2.2.2.2.2.2.1.length)) <|
 some Ub
def k85 (p0:Int) (p1:Int) (p2:eY) (p3:Int) (p4:eF) (p5:(List aB)) (p6:bG) (r:Option (Int×Int×iQ×Int×eY×Int×eF×(List aB)×mY×qj×bG)):Option (Int×Int×iQ×Int×eY×Int×eF×(List aB)×mY×qj×bG):=OB r fun (y:(Int×Int×iQ×Int×eY×Int×eF×(List aB)×mY×qj×bG))=>yA y.2.2.2.2.2.2.1 p4 <| yA y.2.2.2.2.2.2.2.1 p5 <| some y
def kD:Nat→T59×T72×T85
 |0=>(fun _ _ _ _ _ _ _ _=>none,fun _ _ _ _ _ _ _=>none,fun _ _ _ _ _ _ _=>none)
 |n+1=>(aga (fun p0 p1 p2 p3 p4 p5 p6 p7=>k59 p0 p1 p2 p3 p4 p5 p6 p7 ((kD n).1 p0 p1 p2 p3 p4 p5 p6 p7)) (fun p0 p1 p2 p3 p4 p5 p6=>k72 p0 p1 p2 p3 p4 p5 p6 ((kD n).2.1 p0 p1 p2 p3 p4 p5 p6)) (fun p0 p1 p2 p3 p4 p5 p6=>k85 p0 p1 p2 p3 p4 p5 p6 ((kD n).2.2 p0 p1 p2 p3 p4 p5 p6)),agb (fun p0 p1 p2 p3 p4 p5 p6 p7=>k59 p0 p1 p2 p3 p4 p5 p6 p7 ((kD n).1 p0 p1 p2 p3 p4 p5 p6 p7)) (fun p0 p1 p2 p3 p4 p5 p6=>k72 p0 p1 p2 p3 p4 p5 p6 ((kD n).2.1 p0 p1 p2 p3 p4 p5 p6)) (fun p0 p1 p2 p3 p4 p5 p6=>k85 p0 p1 p2 p3 p4 p5 p6 ((kD n).2.2 p0 p1 p2 p3 p4 p5 p6)),agc (fun p0 p1 p2 p3 p4 p5 p6 p7=>k59 p0 p1 p2 p3 p4 p5 p6 p7 ((kD n).1 p0 p1 p2 p3 p4 p5 p6 p7)) (fun p0 p1 p2 p3 p4 p5 p6=>k72 p0 p1 p2 p3 p4 p5 p6 ((kD n).2.1 p0 p1 p2 p3 p4 p5 p6)) (fun p0 p1 p2 p3 p4 p5 p6=>k85 p0 p1 p2 p3 p4 p5 p6 ((kD n).2.2 p0 p1 p2 p3 p4 p5 p6)))
def acV (n:Nat):T59:=(fun p0 p1 p2 p3 p4 p5 p6 p7=>k59 p0 p1 p2 p3 p4 p5 p6 p7 ((kD n).1 p0 p1 p2 p3 p4 p5 p6 p7))
def Dx (n:Nat):aZ:=⟨ak4,u8 (kD n).1⟩
def agd (n:Nat):T72:=(fun p0 p1 p2 p3 p4 p5 p6=>k72 p0 p1 p2 p3 p4 p5 p6 ((kD n).2.1 p0 p1 p2 p3 p4 p5 p6))
def Gq (n:Nat):aZ:=⟨ak5,u7 (kD n).2.1⟩
def agf (n:Nat):T85:=(fun p0 p1 p2 p3 p4 p5 p6=>k85 p0 p1 p2 p3 p4 p5 p6 ((kD n).2.2 p0 p1 p2 p3 p4 p5 p6))
def Gs (n:Nat):aZ:=⟨ak6,u7 (kD n).2.2⟩
theorem acW (n:Nat) (h59:ay Try.prog 59 (Dx n)) (h72:ay Try.prog 72 (Gq n)) (h85:ay Try.prog 85 (Gs n)):ay Try.prog 59 (Dx (n+1)):=
 ts [(59,Dx n),(72,Gq n),(85,Gs n)] ety [.tmp 6] apI Try.func59 rfl ⟨h59,h72,h85,trivial⟩
theorem acX (n:Nat) (h59:ay Try.prog 59 (Dx n)) (h72:ay Try.prog 72 (Gq n)) (h85:ay Try.prog 85 (Gs n)):ay Try.prog 72 (Gq (n+1)):=
 ts [(11,GR),(81,alN),(83,ai8),(82,aiY),(84,acJ),(86,alP),(59,Dx n),(72,Gq n),(85,Gs n)] ety [.cell 4 126] apJ Try.func72 rfl ⟨nS,af5,X8,XW,Hq,af_,h59,h72,h85,trivial⟩
theorem acY (n:Nat) (h59:ay Try.prog 59 (Dx n)) (h72:ay Try.prog 72 (Gq n)) (h85:ay Try.prog 85 (Gs n)):ay Try.prog 85 (Gs (n+1)):=
 ts [(84,acJ),(11,GR),(83,ai8),(82,aiY),(89,aiZ),(59,Dx n),(72,Gq n),(85,Gs n)] ety [.cell 4 126] apK Try.func85 rfl ⟨Hq,nS,X8,XW,XY,h59,h72,h85,trivial⟩
theorem Gt :∀n,ay Try.prog 59 (Dx n)∧ay Try.prog 72 (Gq n)∧ay Try.prog 85 (Gs n)
 |0=>⟨dR Try.func59 rfl rfl (show ak4.er.ok=true by decide +kernel) fun x=>rfl,dR Try.func72 rfl rfl (show ak5.er.ok=true by decide +kernel) fun x=>rfl,dR Try.func85 rfl rfl (show ak6.er.ok=true by decide +kernel) fun x=>rfl⟩
 |n+1=>by
  have ih:=Gt n
  exact ⟨acW n (ih.1) (ih.2.1) (ih.2.2),acX n (ih.1) (ih.2.1) (ih.2.2),acY n (ih.1) (ih.2.1) (ih.2.2)⟩
def f59:T59:=acV 1048576
def alX:aZ:=Dx 1048576
theorem agh:ay Try.prog 59 alX:=(Gt 1048576).1
def f14 (p0:eF) (p1:(List aF)) (p2:Int) (p3:Int) (p4:Int) (p5:Int) (p6:Int) (p7:eY) (p8:LFu) (p9:Int) (p10:(List mX)) (p11:eY):Option Bool:=
 dP (
  bD (fun (s0:Int)=>
   bif (decide (s0<(p1.length:Int))) then
    ck (inB s0 p1.length) <|
    let n3:=(List.getD p1 s0.toNat ak)
    ck (inB s0 p8.length) <|
    let n4:=(List.getD p8 s0.toNat dS)
    ck (inB s0 p1.length) <|
    let n5:=(List.getD p1 s0.toNat ak)
    OB (f28 n5.name n5.params n5.regs n5.blocks s0 p10) fun c6=>
    OB (f27 n3.name n3.params n3.regs n3.blocks n4.entries n4.blocks n4.edges n4.sites c6) fun c7=>
    bif (!c7) then
     some (.inr (.inr false))
    else
     some (.inl (b_ (s0+1)))
   else
    some (.inr (.inl ()))) (0:Int)) fun s10=>
 some true
def alY:aZ:=⟨apL,u12 f14⟩
theorem agi:ay Try.prog 14 alY:=
 ts [(28,ale),(27,alJ)] ety [.tmp 4] apM Try.func14 rfl ⟨afj,afQ,trivial⟩
def f17 (p0:iQ) (p1:Int) (p2:Int) (p3:mD) (p4:Bool):Option LPr:=
 OB (f21 p0 p1 p2 p3) fun c0=>
 OB (f9 p0 p1 p2 p3) fun c1=>
 OB (
  bD (fun (s3:(Int×LPr))=>
   bif (decide (s3.1<(c1.length:Int))) then
    ck (inB s3.1 c1.length) <|
    let n5:=(List.getD c1 s3.1.toNat (aJ.mk 0 0 0))
    ck (inB s3.1 c0.length) <|
    OB (
     bif ((List.getD c0 s3.1.toNat false)==p4) then
      let n8:=[(aJ.mk n5.func n5.block n5.way)]
      ck (bV s3.2.length n8.length 24) <|
      some (s3.2++n8)
     else
      some s3.2) fun s10=>
    some (.inl ((b_ (s3.1+1)),s10))
   else
    some (.inr s3.2)) ((0:Int),([]:LPr))) fun s12=>
 some s12
def alZ:aZ:=⟨apN,u5 f17⟩
theorem agj:ay Try.prog 17 alZ:=
 ts [(21,afN),(9,sp9)] ety [.tmp 4] apO Try.func17 rfl ⟨PG,EG,trivial⟩
def zA (p0:eY):Option Bool:=
 OB (EH p0) fun c0=>
 some (decide (0≤c0))
def BD:aZ:=⟨VB,zA⟩
theorem Aa:ay Try.prog 18 BD:=
 ts [(40000034,J6),(39,aiF)] ety [.tmp 4] VD Try.func18 rfl ⟨Lm,XP,trivial⟩
def zB (p0:eY):Option Bool:=
 OB (EI p0) fun c0=>
 some (decide (0≤c0))
def BF:aZ:=⟨VE,zB⟩
theorem Ac:ay Try.prog 18 BF:=
 ts [(25000034,J7),(24,aiA)] ety [.tmp 4] VF Try.func18 rfl ⟨Lp,XJ,trivial⟩
def zC (p0:eY):Option Bool:=
 OB (EJ p0) fun c0=>
 some (decide (0≤c0))
def BG:aZ:=⟨VG,zC⟩
theorem Ad:ay Try.prog 18 BG:=
 ts [(20000034,J8),(19,ai0)] ety [.tmp 4] VH Try.func18 rfl ⟨Lr,XZ,trivial⟩
def f23 (p0:iQ) (p1:Int) (p2:Int) (p3:mD) (p4:eY):Option (Int×Bool×eY×(List (Int×Int))):=
 ck (inB (0:Int) p4.length) <|
 let n0:=(List.getD p4 (Int.toNat 0) (0:Int))
 let n1:=(p3.length:Int)
 ck (uJ (8:Nat) n1 n1) <|
 let n3:=(p3.length:Int)
 ck (uJ (16:Nat) n3 n3) <|
 OB (f36 p0 p1 p2 p3) fun c5=>
 OB (f9 p0 p1 p2 p3) fun c6=>
 OB (
  bD (fun (s8:(Bool×Int×eY×(List (Int×Int))))=>
   bif (decide (s8.2.1<(c6.length:Int))) then
    ck (inB s8.2.1 c6.length) <|
    let n10:=(List.getD c6 s8.2.1.toNat (aJ.mk 0 0 0))
    OB (
     bif s8.1 then
      ck (inB s8.2.1 p4.length) <|
      OB (f20 (List.getD p4 s8.2.1.toNat 0)) fun c12=>
      some c12
     else
      some false) fun s14=>
    ck (inB s8.2.1 c5.length) <|
    let n15:=(List.getD c5 s8.2.1.toNat (dn.mk 0 0))
    ck (inB n15.to s8.2.2.1.length) <|
    ck (inB s8.2.1 p4.length) <|
    ck (inB n15.to s8.2.2.1.length) <|
    OB (
     bif (decide (0<s8.2.1)) then
      OB (
       ck (inB s8.2.1 p4.length) <|
       let n21:=(List.getD p4 s8.2.1.toNat 0)
       ck (inB n10.block s8.2.2.2.length) <|
       bif (Z8 n10.way (0:Int)) then
        some (List.set s8.2.2.2 (Int.toNat n10.block) (n21,(List.getD s8.2.2.2 (Int.toNat n10.block) ((0:Int),0)).2))
       else
        ck (Z8 n10.way (1:Int)) <|
        some (List.set s8.2.2.2 (Int.toNat n10.block) ((List.getD s8.2.2.2 (Int.toNat n10.block) ((0:Int),0)).1,n21))) fun s24=>
      some s24
     else
      some s8.2.2.2) fun yP=>
    some (.inl (s14,(b_ (s8.2.1+1)),(List.set s8.2.2.1 (Int.toNat n15.to) (b_ ((List.getD s8.2.2.1 (Int.toNat n15.to) 0)+(List.getD p4 s8.2.1.toNat 0)))),yP))
   else
    some (.inr (s8.1,s8.2.2.1,s8.2.2.2))) (true,(0:Int),(List.replicate n1.toNat (0:Int)),(List.replicate n3.toNat ((0:Int),(0:Int))))) fun XM=>
 OB (
  bif XM.1 then
   OB (zA XM.2.1) fun c28=>
   some ((!c28),n0)
  else
   some (false,n0)) fun rP=>
 some (rP.2,rP.1,XM.2.1,XM.2.2)
def al0:aZ:=⟨apP,u5 f23⟩
theorem agk:ay Try.prog 23 al0:=
 ts [(36,afm),(9,sp9),(20,afh),(40000018,BD),(25000018,BF),(20000018,BG)] ety [.cell 4 65,.tmp 5] apQ Try.func23 rfl ⟨Pz,EG,Py,Aa,Ac,Ad,trivial⟩
def f33 (p0:iQ) (p1:Int) (p2:Int) (p3:mD):Option (iQ×Int×Int×mD):=
 OB (f49 p0 p1 p2 p3) fun c0=>
 let n1:=(c0.length:Int)
 ck (uJ (8:Nat) n1 n1) <|
 OB (
  bD (fun (s3:(Int×Int×eY))=>
   bif (decide (s3.2.1<(c0.length:Int))) then
    ck (inB s3.2.1 s3.2.2.length) <|
    ck (inB s3.2.1 c0.length) <|
    OB (
     bif (List.getD c0 s3.2.1.toNat false) then
      some (b_ (s3.1+1))
     else
      some s3.1) fun s9=>
    some (.inl (s9,(b_ (s3.2.1+1)),(List.set s3.2.2 s3.2.1.toNat s3.1)))
   else
    some (.inr s3.2.2)) ((0:Int),(0:Int),(List.replicate n1.toNat (0:Int)))) fun s11=>
 OB (
  bD (fun (s12:(Int×iQ×Int×Int×mD))=>
   bif (decide (s12.1<(c0.length:Int))) then
    OB (
     ck (inB s12.1 c0.length) <|
     bif (!(List.getD c0 s12.1.toNat false)) then
      some (s12.2.1,s12.2.2.1,s12.2.2.2.1,s12.2.2.2.2)
     else
      ck (inB s12.1 p3.length) <|
      let n17:=(List.getD p3 s12.1.toNat ah)
      OB (
       bif (!(decide (n17.aA=3))) then
        ck (inB n17.fO s11.length) <|
        some (n17.instrs,n17.aA,n17.Du,(List.getD s11 (Int.toNat n17.fO) 0),n17.dh,n17.line,n17.jU,n17.jm)
       else
        some (n17.instrs,n17.aA,n17.Du,n17.fO,n17.dh,n17.line,n17.jU,n17.jm)) fun s20=>
      OB (
       bif (decide (s20.2.1=2)) then
        ck (inB s20.2.2.2.2.1 s11.length) <|
        some (s20.1,s20.2.1,s20.2.2.1,s20.2.2.2.1,(List.getD s11 s20.2.2.2.2.1.toNat 0),s20.2.2.2.2.2.1,s20.2.2.2.2.2.2.1,s20.2.2.2.2.2.2.2)
       else
        some (s20.1,s20.2.1,s20.2.2.1,s20.2.2.2.1,s20.2.2.2.2.1,s20.2.2.2.2.2.1,s20.2.2.2.2.2.2.1,s20.2.2.2.2.2.2.2)) fun s23=>
      let n24:=[(aG.mk s23.1 s23.2.1 s23.2.2.1 s23.2.2.2.1 s23.2.2.2.2.1 s23.2.2.2.2.2.1 s23.2.2.2.2.2.2.1 s23.2.2.2.2.2.2.2)]
      ck (bV s12.2.2.2.2.length n24.length 80) <|
      some (s12.2.1,s12.2.2.1,s12.2.2.2.1,(s12.2.2.2.2++n24))) fun s26=>
    some (.inl ((b_ (s12.1+1)),s26.1,s26.2.1,s26.2.2.1,s26.2.2.2))
   else
    some (.inr (s12.2.1,s12.2.2.1,s12.2.2.2.1,s12.2.2.2.2))) ((0:Int),p0,p1,p2,([]:mD))) fun Qb=>
 some (Qb.1,Qb.2.1,Qb.2.2.1,Qb.2.2.2)
def al1:aZ:=⟨apR,u4 f33⟩
theorem agl:ay Try.prog 33 al1:=
 ts [(49,ai4)] ety [.cell 2 35] apS Try.func33 rfl ⟨X6,trivial⟩
def f47 (p0:eF) (p1:(List aB)):Option (Int×Int×eF×(List aB)):=
 OB (
  bif (decide (64<(p1.length:Int))) then
   some true
  else
   some (decide (32<(p0.length:Int)))) fun s5=>
 bif s5 then
  some ((0:Int),(5:Int),iU,wH)
 else
  OB (
   bif (decide ((p1.length:Int)=0)) then
    some true
   else
    ck (inB (0:Int) p1.length) <|
    bif (!((List.getD p1 (Int.toNat 0) h_).name==[(109:UInt8),(97:UInt8),(105:UInt8),(110:UInt8)])) then
     some true
    else
     ck (inB (0:Int) p1.length) <|
     some (decide (0<((List.length (List.getD p1 (Int.toNat 0) h_).params):Int)))) fun s15=>
  bif s15 then
   some ((0:Int),(12:Int),iU,wH)
  else
   dP (
    bD (fun (s16:Int)=>
     bif (decide (s16<(p0.length:Int))) then
      ck (inB s16 p0.length) <|
      OB (f53 p0 p1 (List.getD p0 s16.toNat (aW.mk dX 0)).name) fun c20=>
      bif (!(decide (c20=s16))) then
       some (.inr (.inr ((0:Int),(9:Int),iU,wH)))
      else
       some (.inl (b_ (s16+1)))
     else
      some (.inr (.inl ()))) (0:Int)) fun s23=>
   dP (
    bD (fun (s24:Int)=>
     bif (decide (s24<(p1.length:Int))) then
      OB (
       ck (inB s24 p1.length) <|
       OB (f53 p0 p1 (List.getD p1 s24.toNat h_).name) fun c28=>
       bif (decide (0≤c28)) then
        some true
       else
        ck (inB s24 p1.length) <|
        OB (f54 p0 p1 (List.getD p1 s24.toNat h_).name) fun c31=>
        some (!(decide (c31=s24)))) fun s34=>
      bif s34 then
       ck (inB s24 p1.length) <|
       some (.inr (.inr ((List.getD p1 s24.toNat h_).line,(9:Int),iU,wH)))
      else
       some (.inl (b_ (s24+1)))
     else
      some (.inr (.inl ()))) (0:Int)) fun BA=>
   ck (bV (List.length iU) p0.length 24) <|
   dP (
    bD (fun (qB:(Int×(List aB)))=>
     bif (decide (qB.1<(p1.length:Int))) then
      ck (inB qB.1 p1.length) <|
      let n42:=(List.getD p1 qB.1.toNat h_)
      OB (
       bif (decide (6<((List.length n42.params):Int))) then
        some true
       else
        OB (f41 n42.name n42.line n42.params n42.body) fun Ls=>
        bif (decide (32<(Ls.length:Int))) then
         some true
        else
         OB (f55 n42.body) fun c49=>
         some (decide (24<c49))) fun s52=>
      bif s52 then
       some (.inr (.inr (n42.line,(5:Int),iU,wH)))
      else
       dP (
        bD (fun (s53:Int)=>
         bif (decide (s53<((List.length n42.params):Int))) then
          OB (
           ck (zG (0:Int) s53 (List.length n42.params)) <|
           ck (inB s53 (List.length n42.params)) <|
           OB (f56 (List.drop (Int.toNat (0:Int)) (List.take s53.toNat n42.params)) (List.getD n42.params s53.toNat dX)) fun X7=>
           bif X7 then
            some true
           else
            ck (inB s53 (List.length n42.params)) <|
            OB (f57 p0 p1 (List.getD n42.params s53.toNat dX)) fun c60=>
            some (!(decide (c60=0)))) fun s63=>
          bif s63 then
           some (.inr (.inr (.inr (.inr (n42.line,(9:Int),iU,wH)))))
          else
           some (.inl (b_ (s53+1)))
         else
          some (.inr (.inl ()))) (0:Int)) fun s65=>
       ck (true&&(decide ((((List.length kH)+(List.length n42.params))*(16:Nat))≤(140737488355328:Nat)))) <|
       OB (f58 n42.body p0 p1 0 0 (kH++n42.params)) fun c67=>
       bif (!(decide (c67.2.2.2.1=0))) then
        some (.inr (.inr (c67.2.2.1,c67.2.2.2.1,iU,wH)))
       else
        ck (true&&(decide ((((List.length kH)+(List.length n42.params))*(16:Nat))≤(140737488355328:Nat)))) <|
        let n70:=[(aB.mk n42.name n42.line (kH++n42.params) c67.2.2.2.2.1)]
        ck (bV qB.2.length n70.length 72) <|
        some (.inl ((b_ (qB.1+1)),(qB.2++n70)))
     else
      some (.inr (.inl qB.2))) ((0:Int),wH)) fun s73=>
   some ((0:Int),(0:Int),(iU++p0),s73)
def al2:aZ:=⟨apT,u2 f47⟩
theorem agm:ay Try.prog 47 al2:=
 ts [(53,acu),(54,acv),(41,ai1),(55,alm),(56,aiK),(57,aiL),(58,alL)] ety [.cell 2 85,.tmp 3,.tmp 4] apU Try.func47 rfl ⟨Hg,Hl,X0,afr,XQ,XR,af2,trivial⟩
def f48 (p0:eY) (p1:Int):Option (eY×Int×eF×(List aB)):=
 OB (
  some ((0:Int),iU,wH,kH)) fun s0=>
 OB (f11 3 p0 p1) fun c1=>
 OB (
  bD (fun (s2:(Int×Int×eF))=>
   bif (decide (0<s2.1)) then
    OB (f31 (s2.2.2.length:Int)) fun c5=>
    ck (CU (List.length [(103:UInt8)]) c5.length) <|
    let n7:=[(aW.mk ([(103:UInt8)]++c5) 0)]
    ck (bV s2.2.2.length n7.length 24) <|
    some (.inl ((b_ (s2.1-1)),s2.2.1,(s2.2.2++n7)))
   else
    some (.inr (s2.2.1,s2.2.2))) (c1.1,s0.1,s0.2.1)) fun s10=>
 OB (f11 3 c1.2.1 c1.2.2) fun c11=>
 OB (
  bD (fun (s12:(Int×eY×Int×Int×eF))=>
   bif (decide (0<s12.1)) then
    OB (f31 (s12.2.2.2.2.length:Int)) fun c15=>
    ck (CU (List.length [(103:UInt8)]) c15.length) <|
    OB (f11 5 s12.2.1 s12.2.2.1) fun c17=>
    let n19:=[(aW.mk ([(103:UInt8)]++c15) (b_ (1+c17.1)))]
    ck (bV s12.2.2.2.2.length n19.length 24) <|
    some (.inl ((b_ (s12.1-1)),c17.2.1,c17.2.2,s12.2.2.2.1,(s12.2.2.2.2++n19)))
   else
    some (.inr (s12.2.1,s12.2.2.1,s12.2.2.2.1,s12.2.2.2.2))) (c11.1,c11.2.1,c11.2.2,s10.1,s10.2)) fun jF=>
 OB (f11 4 jF.1 jF.2.1) fun c24=>
 OB (
  bD (fun (yP:(Int×eY×Int×Int×(List aB)))=>
   bif (decide (0<yP.1)) then
    OB (f31 (yP.2.2.2.2.length:Int)) fun c28=>
    ck (CU (List.length [(102:UInt8)]) c28.length) <|
    OB (f11 3 yP.2.1 yP.2.2.1) fun KH=>
    OB (
     bD (fun (rP:(Int×iQ×Int×bG))=>
      bif (decide (0<rP.1)) then
       OB (f31 (rP.2.2.2.length:Int)) fun c34=>
       ck (CU (List.length [(112:UInt8)]) c34.length) <|
       let n36:=[([(112:UInt8)]++c34)]
       ck (bV rP.2.2.2.length n36.length 16) <|
       some (.inl ((b_ (rP.1-1)),rP.2.1,rP.2.2.1,(rP.2.2.2++n36)))
      else
       some (.inr (rP.2.1,rP.2.2.1,rP.2.2.2))) (KH.1,([(102:UInt8)]++c28),(0:Int),kH)) fun qB=>
    let n40:=[(aB.mk qB.1 qB.2.1 qB.2.2 je)]
    ck (bV yP.2.2.2.2.length n40.length 72) <|
    some (.inl ((b_ (yP.1-1)),KH.2.1,KH.2.2,yP.2.2.2.1,(yP.2.2.2.2++n40)))
   else
    some (.inr (yP.2.1,yP.2.2.1,yP.2.2.2.1,yP.2.2.2.2))) (c24.1,c24.2.1,c24.2.2,jF.2.2.1,[(aB.mk [(109:UInt8),(97:UInt8),(105:UInt8),(110:UInt8)] 0 kH je)])) fun s43=>
 OB (
  bD (fun (s44:(Int×eY×Int×Int×eF×(List aB)×bG))=>
   bif (decide (s44.1<(s44.2.2.2.2.2.1.length:Int))) then
    ck (inB s44.1 s44.2.2.2.2.2.1.length) <|
    let n47:=(List.getD s44.2.2.2.2.2.1 s44.1.toNat h_)
    ck (true&&(decide ((((List.length kH)+(List.length n47.params))*(16:Nat))≤(140737488355328:Nat)))) <|
    OB (f11 4 s44.2.1 s44.2.2.1) fun c49=>
    OB (f59 2 (b_ (1+c49.1)) 7 c49.2.1 c49.2.2 s44.2.2.2.2.1 s44.2.2.2.2.2.1 (kH++n47.params)) fun c51=>
    ck (inB s44.1 s44.2.2.2.2.2.1.length) <|
    some (.inl ((b_ (s44.1+1)),c51.2.1,c51.2.2.1,c51.1,s44.2.2.2.2.1,(List.set s44.2.2.2.2.2.1 s44.1.toNat (aB.mk (List.getD s44.2.2.2.2.2.1 s44.1.toNat h_).name (List.getD s44.2.2.2.2.2.1 s44.1.toNat h_).line (List.getD s44.2.2.2.2.2.1 s44.1.toNat h_).params c51.2.2.2.2.2.1)),c51.2.2.2.2.2.2))
   else
    some (.inr (s44.2.1,s44.2.2.1,s44.2.2.2.1,s44.2.2.2.2.1,s44.2.2.2.2.2.1,s44.2.2.2.2.2.2))) ((0:Int),s43.1,s43.2.1,s43.2.2.1,jF.2.2.2,s43.2.2.2,s0.2.2.2)) fun s54=>
 some (s54.1,s54.2.1,s54.2.2.2.1,s54.2.2.2.2.1)
def al3:aZ:=⟨apV,u2 f48⟩
theorem agn:ay Try.prog 48 al3:=
 ts [(11,GR),(31,aiD),(59,alX)] ety [.cell 2 85] apW Try.func48 rfl ⟨nS,XL,agh,trivial⟩
def f52 (p0:eF) (p1:(List aF)) (p2:Int) (p3:Int) (p4:iQ) (p5:Int) (p6:Int) (p7:mD):Option Int:=
 OB (
  bif (decide ((p7.length:Int)<1)) then
   some true
  else
   bif (decide (256<(p7.length:Int))) then
    some true
   else
    OB (f65 p4 p5 p6 p7) fun c5=>
    some (decide (2048<c5))) fun s8=>
 bif s8 then
  some (5:Int)
 else
  OB (
   bif (decide (p6<0)) then
    some true
   else
    bif (decide (250<p6)) then
     some true
    else
     bif (decide (p5<0)) then
      some true
     else
      some (decide (p6<p5))) fun s16=>
  bif s16 then
   some (14:Int)
  else
   dP (
    bD (fun (pG:Int)=>
     bif (decide (pG<(p7.length:Int))) then
      dP (
       bD (fun (s20:Int)=>
        ck (inB pG p7.length) <|
        bif (decide (s20<((List.length (List.getD p7 pG.toNat ah).instrs):Int))) then
         ck (inB pG p7.length) <|
         let n24:=(List.getD p7 pG.toNat ah)
         ck (inB s20 (List.length n24.instrs)) <|
         let n25:=(List.getD n24.instrs s20.toNat SK)
         OB (f66 p0 p1 p2 p3 p4 p5 p6 p7 n25.kind n25.op n25.dst n25.a n25.b n25.value n25.args) fun Qc=>
         bif (!(decide (Qc=0))) then
          some (.inr (.inr (.inr (.inr Qc))))
         else
          some (.inl (b_ (s20+1)))
        else
         some (.inr (.inl ()))) (0:Int)) fun s29=>
      ck (inB pG p7.length) <|
      let n30:=(List.getD p7 pG.toNat ah)
      OB (f67 p4 p5 p6 p7 n30.aA n30.Du n30.fO n30.dh) fun c31=>
      bif (!(decide (c31=0))) then
       some (.inr (.inr c31))
      else
       some (.inl (b_ (pG+1)))
     else
      some (.inr (.inl ()))) (0:Int)) fun s34=>
   OB (f49 p4 p5 p6 p7) fun GV=>
   dP (
    bD (fun (s36:Int)=>
     bif (decide (s36<(GV.length:Int))) then
      ck (inB s36 GV.length) <|
      bif (!(List.getD GV s36.toNat false)) then
       some (.inr (.inr (13:Int)))
      else
       some (.inl (b_ (s36+1)))
     else
      some (.inr (.inl ()))) (0:Int)) fun rG=>
   some (0:Int)
def al4:aZ:=⟨apX,u8 f52⟩
theorem agp:ay Try.prog 52 al4:=
 ts [(65,aln),(66,alM),(67,alo),(49,ai4)] ety [.tmp 4] apY Try.func52 rfl ⟨afs,af4,aft,X6,trivial⟩
def f8 (p0:eF) (p1:(List aF)) (p2:Int) (p3:Int):Option LPr:=
 OB (
  bD (fun (s1:(Int×LPr))=>
   bif (decide (s1.1<(p1.length:Int))) then
    ck (inB s1.1 p1.length) <|
    let n3:=(List.getD p1 s1.1.toNat ak)
    OB (f17 n3.name n3.params n3.regs n3.blocks false) fun c4=>
    OB (
     bD (fun (s6:(Int×LPr))=>
      bif (decide (s6.1<(c4.length:Int))) then
       ck (inB s6.1 c4.length) <|
       let n8:=(List.getD c4 s6.1.toNat (aJ.mk 0 0 0))
       let n9:=[(aJ.mk s1.1 n8.block n8.way)]
       ck (bV s6.2.length n9.length 24) <|
       some (.inl ((b_ (s6.1+1)),(s6.2++n9)))
      else
       some (.inr s6.2)) ((0:Int),s1.2)) fun s12=>
    some (.inl ((b_ (s1.1+1)),s12))
   else
    some (.inr s1.2)) ((0:Int),([]:LPr))) fun s14=>
 some s14
def sp8:aZ:=⟨sg8,u4 f8⟩
theorem VQ:ay Try.prog 8 sp8:=
 ts [(17,alZ)] ety [.tmp 2] an8 Try.func8 rfl ⟨agj,trivial⟩
def f10 (p0:iQ) (p1:Int) (p2:Int) (p3:mD):Option LPr:=
 OB (f17 p0 p1 p2 p3 true) fun c0=>
 some c0
def f12 (p0:eF) (p1:(List aF)) (p2:Int) (p3:Int) (p4:eY) (p5:(List mX)):Option (Int×LFu):=
 OB (
  OB (f8 p0 p1 p2 p3) fun c1=>
  bif (!(decide ((p4.length:Int)=(c1.length:Int)))) then
   some true
  else
   OB (zC p4) fun c4=>
   some c4) fun s6=>
 bif s6 then
  some ((21:Int),ql)
 else
  let n7:=(p1.length:Int)
  ck (uJ (24:Nat) n7 n7) <|
  OB (
   bD (fun (s10:(Int×(List eY)))=>
    bif (decide (s10.1<(p1.length:Int))) then
     ck (inB s10.1 p1.length) <|
     let n13:=((List.length (List.getD p1 s10.1.toNat ak).blocks):Int)
     ck (uJ (8:Nat) n13 n13) <|
     ck (inB s10.1 s10.2.length) <|
     some (.inl ((b_ (s10.1+1)),(List.set s10.2 s10.1.toNat (List.replicate n13.toNat (0:Int)))))
    else
     some (.inr s10.2)) ((0:Int),(List.replicate n7.toNat eInt))) fun pG=>
  dP (
   bD (fun (jE:(Int×(List eY)))=>
    bif (decide (jE.1<(p5.length:Int))) then
     ck (inB jE.1 p5.length) <|
     let n21:=(List.getD p5 jE.1.toNat (mX.mk 0 0))
     OB (
      bif (decide (n21.func<0)) then
       some true
      else
       bif (decide ((jE.2.length:Int)≤n21.func)) then
        some true
       else
        bif (decide (n21.block<0)) then
         some true
        else
         ck (inB n21.func jE.2.length) <|
         some (decide (((List.replicate (List.length (List.getD jE.2 (Int.toNat n21.func) eInt)) ()).length:Int)≤n21.block))) fun qC=>
     bif qC then
      some (.inr (.inr ((21:Int),ql)))
     else
      ck (inB n21.func jE.2.length) <|
      ck (inB n21.block (List.length (List.getD jE.2 (Int.toNat n21.func) eInt))) <|
      ck (inB n21.block (List.length (List.getD jE.2 (Int.toNat n21.func) eInt))) <|
      some (.inl ((b_ (jE.1+1)),(List.set jE.2 (Int.toNat n21.func) (List.set (List.getD jE.2 (Int.toNat n21.func) eInt) (Int.toNat n21.block) (b_ ((List.getD (List.getD jE.2 (Int.toNat n21.func) eInt) (Int.toNat n21.block) 0)+1))))))
    else
     some (.inr (.inl jE.2))) ((0:Int),pG)) fun BA=>
  dP (
   bD (fun (qB:(eY×(List eY)×Int×LFu))=>
    bif (decide (qB.2.2.1<(p1.length:Int))) then
     ck (inB qB.2.2.1 p1.length) <|
     let n41:=(List.getD p1 qB.2.2.1.toNat ak)
     OB (f9 n41.name n41.params n41.regs n41.blocks) fun c42=>
     let n43:=(c42.length:Int)
     ck (uJ (8:Nat) n43 n43) <|
     let n44:=(List.replicate n43.toNat (0:Int))
     OB (f21 n41.name n41.params n41.regs n41.blocks) fun Ls=>
     let n46:=(n44.length:Int)
     ck (zG (0:Int) n46 Ls.length) <|
     OB (
      bD (fun (Qd:(eY×Int×eY))=>
       bif (decide (Qd.2.1<(((n46.toNat-(Int.toNat (0:Int))):Nat):Int))) then
        ck (inB Qd.2.1 (n46.toNat-(Int.toNat (0:Int)))) <|
        OB (
         bif (!(List.getD Ls (Int.toNat ((((Int.toNat 0)+Qd.2.1.toNat):Nat):Int)) false)) then
          ck (inB (0:Int) Qd.1.length) <|
          ck (inB Qd.2.1 Qd.2.2.length) <|
          ck (zG (1:Int) (Qd.1.length:Int) Qd.1.length) <|
          some ((List.drop (Int.toNat (1:Int)) (List.take (Int.toNat (Qd.1.length:Int)) Qd.1)),(List.set Qd.2.2 Qd.2.1.toNat (List.getD Qd.1 (Int.toNat 0) (0:Int))))
         else
          some (Qd.1,Qd.2.2)) fun ZB=>
        some (.inl (ZB.1,(b_ (Qd.2.1+1)),ZB.2))
       else
        some (.inr (Qd.1,Qd.2.2))) (qB.1,(0:Int),n44)) fun s57=>
     ck (inB qB.2.2.1 qB.2.1.length) <|
     OB (f22 n41.name n41.params n41.regs n41.blocks s57.2 (List.getD qB.2.1 qB.2.2.1.toNat eInt)) fun c59=>
     let n60:=(s57.2.length:Int)
     ck (zG (0:Int) n60 c59.length) <|
     OB (f23 n41.name n41.params n41.regs n41.blocks (List.drop (Int.toNat (0:Int)) (List.take n60.toNat c59))) fun c61=>
     OB (
      bif (!c61.2.1) then
       some true
      else
       let n63:=(s57.2.length:Int)
       ck (zG n63 (c59.length:Int) c59.length) <|
       OB (zB (List.drop n63.toNat (List.take (Int.toNat (c59.length:Int)) c59))) fun c64=>
       some c64) fun s66=>
     bif s66 then
      some (.inr (.inr ((21:Int),ql)))
     else
      let n67:=[(dw.mk c61.1 c61.2.2.1 c61.2.2.2 ([]:(List nR)))]
      ck (bV qB.2.2.2.length n67.length 80) <|
      some (.inl (s57.1,qB.2.1,(b_ (qB.2.2.1+1)),(qB.2.2.2++n67)))
    else
     some (.inr (.inl qB.2.2.2))) (p4,BA,(0:Int),ql)) fun s70=>
  some ((0:Int),s70)
def al5:aZ:=⟨apZ,u6 f12⟩
theorem agq:ay Try.prog 12 al5:=
 ts [(8,sp8),(40000018,BD),(25000018,BF),(20000018,BG),(9,sp9),(21,afN),(22,alI),(23,al0)] ak7 [.cell 6 51,.tmp 7] ap0 Try.func12 rfl ⟨VQ,Aa,Ac,Ad,EG,PG,afP,agk,trivial⟩
def f16 (p0:eY) (p1:Int):Option (Int×Int×eY×Int×eF×(List aF)):=
 OB (f11 4 p0 p1) fun c0=>
 let n2:=[(aW.mk [(103:UInt8),(48:UInt8)] 0),(aW.mk [(103:UInt8),(49:UInt8)] (b_ (1+c0.1)))]
 OB (f11 3 c0.2.1 c0.2.2) fun c3=>
 let n4:=(b_ (1+c3.1))
 OB (
  bD (fun (s5:(Int×eY×Int×Int×Int×(List aF)))=>
   bif (decide (s5.1<n4)) then
    OB (f31 s5.1) fun c7=>
    ck (CU (List.length [(102:UInt8)]) c7.length) <|
    let n8:=([(102:UInt8)]++c7)
    OB (f11 4 s5.2.1 s5.2.2.1) fun c9=>
    let n10:=(b_ (1+c9.1))
    OB (
     bif (decide (0<s5.1)) then
      OB (f11 (b_ ((Y2 n10 (2:Int))+1)) c9.2.1 c9.2.2) fun c14=>
      some (c14.2.1,c14.2.2,n8,c14.1,n10)
     else
      some (c9.2.1,c9.2.2,n8,(0:Int),n10)) fun s15=>
    let n16:=[(aF.mk s15.2.2.1 s15.2.2.2.1 s15.2.2.2.2 ([]:mD))]
    ck (bV s5.2.2.2.2.2.length n16.length 56) <|
    some (.inl ((b_ (s5.1+1)),s15.1,s15.2.1,s5.2.2.2.1,s5.2.2.2.2.1,(s5.2.2.2.2.2++n16)))
   else
    some (.inr (s5.2.1,s5.2.2.1,s5.2.2.2.1,s5.2.2.2.2.1,s5.2.2.2.2.2))) ((0:Int),c3.2.1,c3.2.2,(0:Int),(0:Int),([]:(List aF)))) fun jE=>
 OB (f11 (b_ (n4+1)) jE.1 jE.2.1) fun c21=>
 OB (
  bD (fun (jF:(Int×eY×Int×(List aF)))=>
   bif (decide (jF.1<n4)) then
    ck (inB jF.1 jF.2.2.2.length) <|
    OB (f11 6 jF.2.1 jF.2.2.1) fun c24=>
    OB (
     bD (fun (s26:(Int×eY×Int×(List aF)))=>
      bif (decide (0<s26.1)) then
       OB (f11 20 s26.2.1 s26.2.2.1) fun c28=>
       OB (f11 4 c28.2.1 c28.2.2) fun c31=>
       OB (
        bD (fun (qC:(Int×eY×Int×(List aF)×Int×Int×Int×Int×Int×Int×Int×(List fM)))=>
         bif (decide (0<qC.1)) then
          OB (f32 n2 (List.set qC.2.2.2.1 jF.1.toNat (aF.mk (List.getD qC.2.2.2.1 jF.1.toNat ak).name (List.getD qC.2.2.2.1 jF.1.toNat ak).params (List.getD qC.2.2.2.1 jF.1.toNat ak).regs (List.getD qC.2.2.2.1 jF.1.toNat ak).blocks)) c21.1 jE.2.2.2.1 (List.getD qC.2.2.2.1 jF.1.toNat ak).name (List.getD qC.2.2.2.1 jF.1.toNat ak).params (List.getD qC.2.2.2.1 jF.1.toNat ak).regs (List.getD qC.2.2.2.1 jF.1.toNat ak).blocks qC.2.1 qC.2.2.1) fun c34=>
          let n35:=[(fM.mk c34.1 c34.2.1 c34.2.2.1 c34.2.2.2.1 c34.2.2.2.2.1 c34.2.2.2.2.2.1 c34.2.2.2.2.2.2.2.2)]
          ck (bV qC.2.2.2.2.2.2.2.2.2.2.2.length n35.length 72) <|
          some (.inl ((b_ (qC.1-1)),c34.2.2.2.2.2.2.1,c34.2.2.2.2.2.2.2.1,(List.set qC.2.2.2.1 jF.1.toNat (aF.mk (List.getD qC.2.2.2.1 jF.1.toNat ak).name (List.getD qC.2.2.2.1 jF.1.toNat ak).params (List.getD qC.2.2.2.1 jF.1.toNat ak).regs (List.getD qC.2.2.2.1 jF.1.toNat ak).blocks)),qC.2.2.2.2.1,qC.2.2.2.2.2.1,qC.2.2.2.2.2.2.1,qC.2.2.2.2.2.2.2.1,qC.2.2.2.2.2.2.2.2.1,qC.2.2.2.2.2.2.2.2.2.1,qC.2.2.2.2.2.2.2.2.2.2.1,(qC.2.2.2.2.2.2.2.2.2.2.2++n35)))
         else
          some (.inr (qC.2.1,qC.2.2.1,qC.2.2.2.1,qC.2.2.2.2.1,qC.2.2.2.2.2.1,qC.2.2.2.2.2.2.1,qC.2.2.2.2.2.2.2.1,qC.2.2.2.2.2.2.2.2.1,qC.2.2.2.2.2.2.2.2.2.1,qC.2.2.2.2.2.2.2.2.2.2.1,qC.2.2.2.2.2.2.2.2.2.2.2))) (c31.1,c31.2.1,c31.2.2,s26.2.2.2,(0:Int),(0:Int),(0:Int),(0:Int),c28.1,jF.1,((List.replicate (List.length (List.getD s26.2.2.2 jF.1.toNat ak).blocks) ()).length:Int),([]:(List fM)))) fun rO=>
       let n39:=[(aG.mk rO.2.2.2.2.2.2.2.2.2.2 rO.2.2.2.1 rO.2.2.2.2.1 rO.2.2.2.2.2.1 rO.2.2.2.2.2.2.1 rO.2.2.2.2.2.2.2.1 rO.2.2.2.2.2.2.2.2.1 rO.2.2.2.2.2.2.2.2.2.1)]
       ck (true&&(decide ((((List.length (List.getD rO.2.2.1 jF.1.toNat ak).blocks)+n39.length)*(80:Nat))≤(140737488355328:Nat)))) <|
       ck (Nat.beq jF.1.toNat jF.1.toNat) <|
       some (.inl ((b_ (s26.1-1)),rO.1,rO.2.1,(List.set rO.2.2.1 jF.1.toNat (aF.mk (List.getD rO.2.2.1 jF.1.toNat ak).name (List.getD rO.2.2.1 jF.1.toNat ak).params (List.getD rO.2.2.1 jF.1.toNat ak).regs ((List.getD rO.2.2.1 jF.1.toNat ak).blocks++n39)))))
      else
       some (.inr (s26.2.1,s26.2.2.1,s26.2.2.2))) ((b_ (1+c24.1)),c24.2.1,c24.2.2,jF.2.2.2)) fun s43=>
    OB (
     bD (fun (s44:(Int×eY×Int×(List aF)))=>
      bif (decide (s44.1<((List.replicate (List.length (List.getD s44.2.2.2 jF.1.toNat ak).blocks) ()).length:Int))) then
       let n48:=[(2:Int),(1:Int),(3:Int),(2:Int)]
       OB (f11 4 s44.2.1 s44.2.2.1) fun c49=>
       ck (inB c49.1 n48.length) <|
       OB (f11 (List.getD s44.2.2.2 jF.1.toNat ak).regs c49.2.1 c49.2.2) fun ZE=>
       OB (f11 ((List.replicate (List.length (List.getD s44.2.2.2 jF.1.toNat ak).blocks) ()).length:Int) ZE.2.1 ZE.2.2) fun c55=>
       OB (f11 ((List.replicate (List.length (List.getD s44.2.2.2 jF.1.toNat ak).blocks) ()).length:Int) c55.2.1 c55.2.2) fun X7=>
       ck (inB s44.1 (List.length (List.getD s44.2.2.2 jF.1.toNat ak).blocks)) <|
       some (.inl ((b_ (s44.1+1)),X7.2.1,X7.2.2,(List.set s44.2.2.2 jF.1.toNat (aF.mk (List.getD s44.2.2.2 jF.1.toNat ak).name (List.getD s44.2.2.2 jF.1.toNat ak).params (List.getD s44.2.2.2 jF.1.toNat ak).regs (List.set (List.getD s44.2.2.2 jF.1.toNat ak).blocks s44.1.toNat (aG.mk (List.getD (List.getD s44.2.2.2 jF.1.toNat ak).blocks s44.1.toNat ah).instrs (List.getD n48 c49.1.toNat 0) ZE.1 c55.1 X7.1 (List.getD (List.getD s44.2.2.2 jF.1.toNat ak).blocks s44.1.toNat ah).line (List.getD (List.getD s44.2.2.2 jF.1.toNat ak).blocks s44.1.toNat ah).jU (List.getD (List.getD s44.2.2.2 jF.1.toNat ak).blocks s44.1.toNat ah).jm))))))
      else
       some (.inr (s44.2.1,s44.2.2.1,s44.2.2.2))) ((0:Int),s43.1,s43.2.1,s43.2.2)) fun s61=>
    OB (f33 (List.getD s61.2.2 jF.1.toNat ak).name (List.getD s61.2.2 jF.1.toNat ak).params (List.getD s61.2.2 jF.1.toNat ak).regs (List.getD s61.2.2 jF.1.toNat ak).blocks) fun c62=>
    ck (Nat.beq jF.1.toNat jF.1.toNat) <|
    some (.inl ((b_ (jF.1+1)),s61.1,s61.2.1,(List.set s61.2.2 jF.1.toNat (aF.mk c62.1 c62.2.1 c62.2.2.1 c62.2.2.2))))
   else
    some (.inr (jF.2.1,jF.2.2.1,jF.2.2.2))) ((0:Int),c21.2.1,c21.2.2,jE.2.2.2.2)) fun s65=>
 some (c21.1,jE.2.2.2.1,s65.1,s65.2.1,n2,s65.2.2)
def al6:aZ:=⟨ap1,u2 f16⟩
theorem agr:ay Try.prog 16 al6:=
 ts [(11,GR),(31,aiD),(32,alg),(33,al1)] ak8 [.cell 2 27] ap2 Try.func16 rfl ⟨nS,XL,afl,agl,trivial⟩
def f30 (p0:eY) (p1:Int):Option (eY×Int×eF×(List aB)):=
 OB (f48 p0 p1) fun c0=>
 OB (f47 c0.2.2.1 c0.2.2.2) fun c1=>
 some (c0.1,c0.2.1,c1.2.2.1,c1.2.2.2)
def al7:aZ:=⟨ap3,u2 f30⟩
theorem ags:ay Try.prog 30 al7:=
 ts [(48,al3),(47,al2)] ety [.cell 2 85] ap4 Try.func30 rfl ⟨agn,agm,trivial⟩
def f46 (p0:eF) (p1:(List aF)) (p2:Int) (p3:Int):Option Int:=
 OB (
  bif (decide ((p1.length:Int)<1)) then
   some true
  else
   bif (decide (64<(p1.length:Int))) then
    some true
   else
    bif (decide (32<(p0.length:Int))) then
     some true
    else
     bif (decide (p3<0)) then
      some true
     else
      some (decide (4096<p3))) fun s12=>
 bif s12 then
  some (5:Int)
 else
  dP (
   bD (fun (s13:Int)=>
    bif (decide (s13<(p0.length:Int))) then
     OB (
      ck (inB s13 p0.length) <|
      bif (decide ((List.getD p0 s13.toNat (aW.mk dX 0)).size<0)) then
       some true
      else
       ck (inB s13 p0.length) <|
       some (decide (1024<(List.getD p0 s13.toNat (aW.mk dX 0)).size))) fun zy=>
     bif zy then
      some (.inr (.inr (16:Int)))
     else
      some (.inl (b_ (s13+1)))
    else
     some (.inr (.inl ()))) (0:Int)) fun s23=>
  OB (
   bif (decide (p2<0)) then
    some true
   else
    some (decide ((p1.length:Int)<p2))) fun Qb=>
  bif Qb then
   some (15:Int)
  else
   ck (inB (0:Int) p1.length) <|
   bif (!(decide ((List.getD p1 (Int.toNat 0) ak).params=0))) then
    some (12:Int)
   else
    dP (
     bD (fun (rP:Int)=>
      bif (decide (rP<(p1.length:Int))) then
       ck (inB rP p1.length) <|
       let n34:=(List.getD p1 rP.toNat ak)
       OB (f52 p0 p1 p2 p3 n34.name n34.params n34.regs n34.blocks) fun GV=>
       bif (!(decide (GV=0))) then
        some (.inr (.inr GV))
       else
        some (.inl (b_ (rP+1)))
      else
       some (.inr (.inl ()))) (0:Int)) fun rO=>
    some (0:Int)
def al8:aZ:=⟨ap5,u4 f46⟩
theorem agt:ay Try.prog 46 al8:=
 ts [(52,al4)] ety [.tmp 2] ap6 Try.func46 rfl ⟨agp,trivial⟩
def f5:Option Bool:=
 let n1:=[(aF.mk dX 0 1 [(aG.mk ([]:(List fM)) 3 0 0 0 0 0 0)])]
 OB (f8 iU n1 0 0) fun c2=>
 OB (
  bif (decide ((c2.length:Int)=1)) then
   ck (inB (0:Int) c2.length) <|
   bif (decide ((List.getD c2 (Int.toNat 0) (aJ.mk 0 0 0)).way=2)) then
    ck (inB (0:Int) n1.length) <|
    let n8:=(List.getD n1 (Int.toNat 0) ak)
    OB (f9 n8.name n8.params n8.regs n8.blocks) fun c9=>
    some (decide ((c9.length:Int)=1))
   else
    some false
  else
   some false) fun s13=>
 some s13
def sp5:aZ:=⟨sg5,fun x=>f5⟩
theorem ai9:ay Try.prog 5 sp5:=
 ts [(8,sp8),(9,sp9)] ety [.tmp 0] an5 Try.func5 rfl ⟨VQ,EG,trivial⟩
def f29 (p0:eF) (p1:(List aB)):Option (Int×Int×Int×eF×(List aF)):=
 ck (bV (List.length iU) p0.length 24) <|
 let n0:=(iU++p0)
 OB (
  bD (fun (s2:(Int×Int×Int×(List aF)))=>
   bif (decide (s2.1<(p1.length:Int))) then
    ck (inB s2.1 p1.length) <|
    let n5:=(List.getD p1 s2.1.toNat h_)
    OB (
     OB (f41 n5.name n5.line n5.params n5.body) fun c6=>
     some (p0,p1,c6,s2.1,(0:Int),(0:Int),([]:mD))) fun s7=>
    OB (f42 n5.line s7.1 s7.2.1 s7.2.2.1 s7.2.2.2.1 (s7.2.2.1.length:Int) s7.2.2.2.2.2.1 s7.2.2.2.2.2.2) fun c9=>
    OB (f43 n5.body c9.2.1 c9.2.2.1 c9.2.2.2.1 c9.2.2.2.2.1 c9.2.2.2.2.2.1 c9.2.2.2.2.2.2.1 c9.2.2.2.2.2.2.2) fun c10=>
    OB (
     bif c10.1 then
      let n11:=(c10.2.2.2.1.length:Int)
      OB (f44 1 0 n11 0 0 0 eInt c10.2.1 c10.2.2.1 c10.2.2.2.1 c10.2.2.2.2.1 (Rh c10.2.2.2.2.2.1 (b_ (n11+1))) c10.2.2.2.2.2.2.1 c10.2.2.2.2.2.2.2) fun c14=>
      OB (f45 c14.2.2.2.2.2.1 3 n11 0 0 c14.1 c14.2.1 c14.2.2.1 c14.2.2.2.1 c14.2.2.2.2.1 c14.2.2.2.2.2.1 c14.2.2.2.2.2.2) fun c15=>
      some (c15.1,c15.2.1,c15.2.2.1,c15.2.2.2.1,c15.2.2.2.2.1,c15.2.2.2.2.2.1,c15.2.2.2.2.2.2)
     else
      some (c10.2.1,c10.2.2.1,c10.2.2.2.1,c10.2.2.2.2.1,c10.2.2.2.2.2.1,c10.2.2.2.2.2.2.1,c10.2.2.2.2.2.2.2)) fun s16=>
    let n18:=[(aF.mk n5.name ((List.length n5.params):Int) s16.2.2.2.2.1 s16.2.2.2.2.2.2)]
    ck (bV s2.2.2.2.length n18.length 56) <|
    some (.inl ((b_ (s2.1+1)),s2.2.1,s2.2.2.1,(s2.2.2.2++n18)))
   else
    some (.inr (s2.2.1,s2.2.2.1,s2.2.2.2))) ((0:Int),(p1.length:Int),(0:Int),([]:(List aF)))) fun zy=>
 OB (f46 n0 zy.2.2 zy.1 zy.2.1) fun KI=>
 bif (!(decide (KI=0))) then
  some ((0:Int),(0:Int),(5:Int),iU,([]:(List aF)))
 else
  some (zy.1,zy.2.1,(0:Int),n0,zy.2.2)
def al9:aZ:=⟨ap7,u2 f29⟩
theorem agu:ay Try.prog 29 al9:=
 ts [(41,ai1),(42,acp),(43,alK),(44,acr),(45,ZA),(46,al8)] ak9 [.cell 2 27,.tmp 3] ap8 Try.func29 rfl ⟨X0,He,afY,Hf,Dv,agt,trivial⟩
def f15 (p0:eY) (p1:Int):Option (Int×Int×eY×Int×eF×(List aF)):=
 OB (f30 p0 p1) fun c0=>
 OB (f29 c0.2.2.1 c0.2.2.2) fun c1=>
 some (c1.1,c1.2.1,c0.1,c0.2.1,c1.2.2.2.1,c1.2.2.2.2)
def al_:aZ:=⟨ap9,u2 f15⟩
theorem agv:ay Try.prog 15 al_:=
 ts [(30,al7),(29,al9)] ety [.cell 2 27] ap_ Try.func15 rfl ⟨ags,agu,trivial⟩
def f7 (p0:eY) (p1:Int):Option ((List aF)×Int×Int×eY×Int×eF):=
 OB (f11 2 p0 p1) fun c0=>
 bif (decide (c0.1=0)) then
  OB (f15 c0.2.1 c0.2.2) fun c2=>
  some (c2.2.2.2.2.2,c2.1,c2.2.1,c2.2.2.1,c2.2.2.2.1,c2.2.2.2.2.1)
 else
  OB (f16 c0.2.1 c0.2.2) fun c3=>
  some (c3.2.2.2.2.2,c3.1,c3.2.1,c3.2.2.1,c3.2.2.2.1,c3.2.2.2.2.1)
def sp7:aZ:=⟨sg7,u2 f7⟩
theorem ai_:ay Try.prog 7 sp7:=
 ts [(11,GR),(15,al_),(16,al6)] ety [.cell 2 27] an7 Try.func7 rfl ⟨nS,agv,agr,trivial⟩
def f3 (p0:eY):Option Bool:=
 OB (f5) fun c0=>
 bif (!c0) then
  some false
 else
  OB (f6 p0 500) fun c2=>
  OB (f7 c2.1 c2.2) fun c3=>
  OB (f8 c3.2.2.2.2.2 c3.1 c3.2.1 c3.2.2.1) fun c4=>
  dP (
   bD (fun (s5:(Int×Int))=>
    bif (decide (s5.2<(c3.1.length:Int))) then
     ck (inB s5.2 c3.1.length) <|
     let n8:=(List.getD c3.1 s5.2.toNat ak)
     OB (f9 n8.name n8.params n8.regs n8.blocks) fun c9=>
     let n10:=(c9.length:Int)
     OB (f10 n8.name n8.params n8.regs n8.blocks) fun c11=>
     OB (
      bD (fun (s13:(Int×Int))=>
       bif (decide (s13.2<(c4.length:Int))) then
        ck (inB s13.2 c4.length) <|
        OB (
         bif (decide ((List.getD c4 s13.2.toNat (aJ.mk 0 0 0)).func=s5.2)) then
          some (b_ (s13.1+1))
         else
          some s13.1) fun jE=>
        some (.inl (jE,(b_ (s13.2+1))))
       else
        some (.inr s13.1)) ((0:Int),(0:Int))) fun zy=>
     OB (
      bD (fun (jF:(Int×Int))=>
       bif (decide (jF.2<((List.length n8.blocks):Int))) then
        ck (inB jF.2 (List.length n8.blocks)) <|
        OB (
         bif (decide ((List.getD n8.blocks jF.2.toNat ah).aA=3)) then
          some (b_ (jF.1+1))
         else
          some jF.1) fun Qb=>
        some (.inl (Qb,(b_ (jF.2+1))))
       else
        some (.inr jF.1)) ((0:Int),(0:Int))) fun t_=>
     OB (
      bif (!(decide ((b_ ((c11.length:Int)+zy))=n10))) then
       some true
      else
       some (!(decide (zy=(b_ ((b_ (n10+t_))-((List.length n8.blocks):Int))))))) fun rO=>
     bif rO then
      some (.inr (.inr false))
     else
      some (.inl ((b_ (s5.1+zy)),(b_ (s5.2+1))))
    else
     some (.inr (.inl s5.1))) ((0:Int),(0:Int))) fun F7=>
  some (decide (F7=(c4.length:Int)))
def f4 (p0:eY):Option Bool:=
 OB (f5) fun c0=>
 bif (!c0) then
  some false
 else
  OB (f6 p0 500) fun c2=>
  OB (f7 c2.1 c2.2) fun c3=>
  OB (f8 c3.2.2.2.2.2 c3.1 c3.2.1 c3.2.2.1) fun c4=>
  OB (
   bD (fun (s5:(Int×eY×Int×eY))=>
    bif (decide (s5.1<(c4.length:Int))) then
     OB (f11 6 s5.2.1 s5.2.2.1) fun c8=>
     let n9:=[c8.1]
     ck (bV s5.2.2.2.length n9.length 8) <|
     some (.inl ((b_ (s5.1+1)),c8.2.1,c8.2.2,(s5.2.2.2++n9)))
    else
     some (.inr s5.2.2.2)) ((0:Int),c3.2.2.2.1,c3.2.2.2.2.1,eInt)) fun s12=>
  ck (bV (List.length eInt) s12.length 8) <|
  let n13:=(eInt++s12)
  let n14:=[(0:Int)]
  ck (bV n13.length n14.length 8) <|
  OB (f12 c3.2.2.2.2.2 c3.1 c3.2.1 c3.2.2.1 (n13++n14) ([]:(List mX))) fun c16=>
  OB (f12 c3.2.2.2.2.2 c3.1 c3.2.1 c3.2.2.1 s12 ([]:(List mX))) fun c17=>
  bif (!(decide (c16.1=21))) then
   some false
  else
   bif (!(decide (c17.1=0))) then
    OB (
     bif (decide (c17.1=21)) then
      some (decide ((c17.2.length:Int)=0))
     else
      some false) fun s24=>
    some s24
   else
    OB (
     OB (f13 c3.2.2.2.2.2 c3.1 c3.2.1 c3.2.2.1 c17.2) fun c25=>
     bif (!c25) then
      some true
     else
      OB (f14 c3.2.2.2.2.2 c3.1 c3.2.1 c3.2.2.1 0 0 0 eInt c17.2 0 ([]:(List mX)) eInt) fun GU=>
      some (!GU)) fun t_=>
    bif t_ then
     some false
    else
     dP (
      bD (fun (rP:Int)=>
       bif (decide (rP<(c4.length:Int))) then
        ck (inB rP c4.length) <|
        let n34:=(List.getD c4 rP.toNat (aJ.mk 0 0 0))
        ck (inB n34.func c17.2.length) <|
        let n35:=(List.getD c17.2 (Int.toNat n34.func) dS)
        ck (inB rP c4.length) <|
        OB (
         bif (decide ((List.getD c4 rP.toNat (aJ.mk 0 0 0)).way<2)) then
          OB (
           ck (inB rP c4.length) <|
           let n38:=(List.getD c4 rP.toNat (aJ.mk 0 0 0))
           ck (inB rP c4.length) <|
           let n39:=(List.getD c4 rP.toNat (aJ.mk 0 0 0))
           ck (inB n38.block (List.length n35.edges)) <|
           let n40:=(List.getD n35.edges (Int.toNat n38.block) ((0:Int),0))
           bif (Z8 n39.way (0:Int)) then
            some n40.1
           else
            ck (Z8 n39.way (1:Int)) <|
            some n40.2) fun F7=>
          some F7
         else
          some n35.entries) fun rG=>
        ck (inB rP s12.length) <|
        bif (!(decide (rG=(List.getD s12 rP.toNat 0)))) then
         some (.inr (.inr false))
        else
         some (.inl (b_ (rP+1)))
       else
        some (.inr (.inl ()))) (0:Int)) fun s46=>
     some true
def sp4:aZ:=⟨sg4,f4⟩
theorem aja:ay Try.prog 4 sp4:=
 ts [(5,sp5),(6,sp6),(7,sp7),(8,sp8),(11,GR),(12,al5),(13,alG),(14,alY)] ety [.tmp 2] an4 Try.func4 rfl ⟨ai9,aiy,ai_,VQ,nS,agq,afM,agi,trivial⟩
end
end Go.Fg.Ytfklooeiipkijaa

