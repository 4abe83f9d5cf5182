/-
 What the functions of the seat compute, printed by a program (wip/gen).
-/
import Derived.Test.YtfklooeiipkijaaFgA
namespace Go.Fg.Ytfklooeiipkijaa
open Go.Fw Go.Proofs Go.Fw.Ytfklooeiipkijaa
noncomputable section
set_option linter.unusedVariables false
set_option maxRecDepth 100000
abbrev T11:=Int→(List Int)→Int→Option (Int×(List Int)×Int)
abbrev T31:=Int→Option (List UInt8)
abbrev T50:=(List aU)→(List (List UInt8))→Option (List (List UInt8))
abbrev T55:=(List aU)→Option Int
abbrev T68:=Int→Int→Int→Int→(List UInt8)→(List aI)→Option Int
abbrev Xj:=Int→Int→Int→Int→(List UInt8)→(List aI)→Int→(List ah)→(List au)→(List (List UInt8))→Int→Int→Int→(List ak)→Option ((List ah)×(List au)×(List (List UInt8))×Int×Int×Int×(List ak))
abbrev T73:=Int→Int→Int→Int→(List UInt8)→(List aI)→Int→(List ah)→(List au)→(List (List UInt8))→Int→Int→Int→(List ak)→Option ((List ah)×(List au)×(List (List UInt8))×Int×Int×Int×(List ak))
abbrev T74:=(List aI)→Int→(List ah)→(List au)→(List (List UInt8))→Int→Int→Int→(List ak)→Option ((List ah)×(List au)×(List (List UInt8))×Int×Int×Int×(List Int)×(List ak))
abbrev T70:=Int→Int→Int→Int→(List UInt8)→(List aI)→(List ah)→(List au)→Int→Int→(List (List UInt8))→Option (Int×Int×Int×Int×(List UInt8)×(List ah)×(List au)×Int×Int×(List (List UInt8))×(List aI))
abbrev T80:=(List aI)→(List ah)→(List au)→Int→Int→(List (List UInt8))→Option ((List ah)×(List au)×Int×Int×(List (List UInt8))×(List aI))
abbrev Xk:=(List aU)→(List ah)→(List au)→(List (List UInt8))→Int→Int→Int→(List ak)→Option (Bool×(List ah)×(List au)×(List (List UInt8))×Int×Int×Int×(List ak))
abbrev T51:=Int→Int→(List UInt8)→(List aI)→(List aU)→(List aU)→(List ah)→(List au)→(List (List UInt8))→Int→Int→Int→(List ak)→Option (Bool×(List ah)×(List au)×(List (List UInt8))×Int×Int×Int×(List ak))
abbrev T61:=Int→Int→(List UInt8)→(List aI)→(List aU)→(List aU)→Int→(List ah)→(List au)→(List (List UInt8))→Int→Int→Int→(List ak)→Option ((List ah)×(List au)×(List (List UInt8))×Int×Int×Int×(List ak))
abbrev T64:=Int→Int→(List UInt8)→(List aI)→(List aU)→(List aU)→Int→(List ah)→(List au)→(List (List UInt8))→Int→Int→Int→(List ak)→Option (Bool×(List ah)×(List au)×(List (List UInt8))×Int×Int×Int×(List ak))
abbrev T58:=(List aU)→(List ah)→(List au)→Int→Int→(List (List UInt8))→Option ((List ah)×(List au)×Int×Int×(List aU)×(List (List UInt8)))
abbrev T83:=Int→Int→(List Int)→Int→(List ah)→(List au)→(List (List UInt8))→Option (Int×Int×Int×Int×(List UInt8)×(List aI)×Int×(List Int)×Int×(List ah)×(List au)×(List (List UInt8)))
abbrev T86:=Int→Int→(List Int)→Int→(List ah)→(List au)→(List (List UInt8))→Option (Int×Int×Int×Int×(List UInt8)×Int×(List Int)×Int×(List ah)×(List au)×(List (List UInt8))×(List aI))
abbrev T59:=Int→Int→Int→(List Int)→Int→(List ah)→(List au)→(List (List UInt8))→Option (Int×(List Int)×Int×(List ah)×(List au)×(List aU)×(List (List UInt8)))
abbrev T72:=Int→Int→(List Int)→Int→(List ah)→(List au)→(List (List UInt8))→Option (Int×Int×(List UInt8)×Int×(List Int)×Int×(List ah)×(List au)×(List aI)×(List aU)×(List aU)×(List (List UInt8)))
abbrev T85:=Int→Int→(List Int)→Int→(List ah)→(List au)→(List (List UInt8))→Option (Int×Int×(List UInt8)×Int×(List Int)×Int×(List ah)×(List au)×(List aI)×(List aU)×(List (List UInt8)))
abbrev eInt:(List Int):=[]
abbrev dA:(List UInt8):=[]
abbrev nP:(List aI):=[]
abbrev jI:(List (List UInt8)):=[]
abbrev ig:(List aU):=[]
abbrev gY:(List ah):=[]
abbrev um:(List au):=[]
def bF (a b k:Nat):Bool:=true&&decide ((a+b)*k≤140737488355328)
def aA:aH:=aH.mk ([]:(List UInt8)) (0:Int) (0:Int) ([]:(List ak))
def fQ:au:=au.mk ([]:(List UInt8)) (0:Int) ([]:(List (List UInt8))) ([]:(List aU))
def gI:aI:=aI.mk (0:Int) (0:Int) (0:Int) (0:Int) ([]:(List UInt8)) ([]:(List aI))
def aj:ak:=ak.mk ([]:(List d_)) (0:Int) (0:Int) (0:Int) (0:Int) (0:Int) (0:Int) 0
def jJ:aU:=aU.mk (0:Int) (0:Int) ([]:(List UInt8)) ([]:(List aI)) ([]:(List aU)) ([]:(List aU))
def f6 (p0:(List Int)) (p1:Int):Option ((List Int)×Int):=
 let n0:=(p0.length:Int)
 let n1:=(decide (p1<n0))
 Option.bind (
  bif n1 then
   ck (Eh (0:Int) p1 p0.length) <|
   let n2:=(List.drop (Int.toNat (0:Int)) (List.take p1.toNat p0))
   some n2
  else
   some p0) fun s3=>
 some (s3,(0:Int))
def sp6:aV:=⟨sg6,fun x=>f6 x.1 x.2⟩
theorem afr:ay Try.prog 6 sp6:=
 aF (T:=bW.of []) (ety:=ety) [.tmp 4] an6 Try.func6 rfl rfl rfl (by decide +kernel) rfl (by decide +kernel) rfl (dQ.sound trivial) dX mixed fun x=>by kernel_rfl
def f9 (p0:(List UInt8)) (p1:Int) (p2:Int) (p3:(List ak)):Option (List aT):=
 let n0:=[(aT.mk 0 0 2)]
 let n1:=(p3.length:Int)
 Option.bind (
  bn (fun (s2:(Int×(List aT)))=>
   let n3:=(decide (s2.1<n1))
   bif n3 then
    ck (inB s2.1 p3.length) <|
    let n4:=(List.getD p3 s2.1.toNat aj)
    let n5:=(!(decide (n4.aQ=3)))
    Option.bind (
     bif n5 then
      let n6:=[(aT.mk 0 s2.1 0)]
      ck (bF s2.2.length n6.length 24) <|
      let n7:=(s2.2++n6)
      some n7
     else
      some s2.2) fun s8=>
    let n9:=(decide (n4.aQ=2))
    Option.bind (
     bif n9 then
      let n10:=[(aT.mk 0 s2.1 1)]
      ck (bF s8.length n10.length 24) <|
      let n11:=(s8++n10)
      some n11
     else
      some s8) fun s12=>
    let n13:=(dI (s2.1+1))
    some (.inl (n13,s12))
   else
    some (.inr s2.2)) ((0:Int),n0)) fun s14=>
 some s14
def sp9:aV:=⟨sg9,fun x=>f9 x.1 x.2.1 x.2.2.1 x.2.2.2⟩
theorem H_:ay Try.prog 9 sp9:=
 aF (T:=bW.of []) (ety:=ety) [.tmp 2] an9 Try.func9 rfl rfl rfl (by decide +kernel) rfl (by decide +kernel) rfl (dQ.sound trivial) dX mixed fun x=>by kernel_rfl
def acj (ahz:T11) (p0:Int) (p1:(List Int)) (p2:Int):Option (Int×(List Int)×Int):=
 Option.bind (
  let n0:=(p1.length:Int)
  let n1:=(decide (n0≤p2))
  bif n1 then
   some true
  else
   let n2:=(decide (p0<1))
   let n3:=n2
   some n3) fun s4=>
 bif s4 then
  some ((0:Int),p1,p2)
 else
  ck (inB p2 p1.length) <|
  let n5:=(List.getD p1 p2.toNat 0)
  let n6:=(dI n5)
  let n7:=(dI (p2+1))
  let n8:=(decide (256<p0))
  bif n8 then
   let n9:=(dI (256*n6))
   Option.bind (ahz 256 p1 n7) fun c10=>
   let n11:=(dI (n9+c10.1))
   ck (!(decide (p0=0))) <|
   let n12:=(Int.tmod n11 p0)
   some (n12,c10.2.1,c10.2.2)
  else
   ck (!(decide (p0=0))) <|
   let n13:=(Int.tmod n6 p0)
   some (n13,p1,n7)
def RX:Nat→T11
 |0=>(fun _ _ _=>none)
 |n+1=>(acj (RX n))
def acn (n:Nat):T11:=(RX n)
def Px (n:Nat):aV:=⟨abU,fun x=>(RX n) x.1 x.2.1 x.2.2⟩
theorem Zi (n:Nat) (h11:ay Try.prog 11 (Px n)):ay Try.prog 11 (Px (n+1)):=
 aF (T:=bW.of [(11,Px n)]) (ety:=ety) [.tmp 4] ajO Try.func11 rfl rfl rfl (show abU.er.ok=true by decide +kernel) rfl (show abU.nargs≤Try.f11.ntmps by decide +kernel) rfl (dQ.sound ⟨h11,trivial⟩) dX mixed fun x=>by kernel_rfl
theorem DK :∀n,ay Try.prog 11 (Px n)
 |0=>bZ Try.func11 rfl rfl (show abU.er.ok=true by decide +kernel) fun x=>rfl
 |n+1=>by
  have ih:=DK n
  exact Zi n (ih)
def f11:T11:=acn 1048576
def Ia:aV:=Px 1048576
theorem mZ:ay Try.prog 11 Ia:=(DK 1048576)
def afs (ahA:T31) (p0:Int):Option (List UInt8):=
 let n0:=(Int.tmod p0 (10:Int))
 let n1:=(dI (48+n0))
 let n2:=(Go.IntKind.wrap .u8 n1)
 let n3:=[n2]
 let n4:=(List.map (fun (b:Int)=>(UInt8.ofNat (Int.toNat b))) n3)
 let n5:=(decide (10≤p0))
 bif n5 then
  let n6:=(dI (Int.tdiv p0 (10:Int)))
  Option.bind (ahA n6) fun c7=>
  ck (z_ c7.length n4.length) <|
  let n8:=(c7++n4)
  some n8
 else
  some n4
def RY:Nat→T31
 |0=>(fun _=>none)
 |n+1=>(afs (RY n))
def aco (n:Nat):T31:=(RY n)
def Py (n:Nat):aV:=⟨abV,fun x=>(RY n) x⟩
theorem Zj (n:Nat) (h31:ay Try.prog 31 (Py n)):ay Try.prog 31 (Py (n+1)):=
 aF (T:=bW.of [(31,Py n)]) (ety:=ety) [.tmp 2] ajP Try.func31 rfl rfl rfl (show abV.er.ok=true by decide +kernel) rfl (show abV.nargs≤Try.f31.ntmps by decide +kernel) rfl (dQ.sound ⟨h31,trivial⟩) dX mixed fun x=>by kernel_rfl
theorem DL :∀n,ay Try.prog 31 (Py n)
 |0=>bZ Try.func31 rfl rfl (show abV.er.ok=true by decide +kernel) fun x=>rfl
 |n+1=>by
  have ih:=DL n
  exact Zj n (ih)
def f31:T31:=aco 1048576
def aft:aV:=Py 1048576
theorem UM:ay Try.prog 31 aft:=(DL 1048576)
def f32 (p0:(List ah)) (p1:(List aH)) (p2:Int) (p3:Int) (p4:(List UInt8)) (p5:Int) (p6:Int) (p7:(List ak)) (p8:(List Int)) (p9:Int):Option (Int×Int×Int×Int×Int×Int×(List Int)×Int×(List Int)):=
 Option.bind (f11 12 p8 p9) fun c0=>
 let n1:=(dI (1+c0.1))
 Option.bind (f11 p6 c0.2.1 c0.2.2) fun c2=>
 Option.bind (f11 p6 c2.2.1 c2.2.2) fun c3=>
 Option.bind (f11 p6 c3.2.1 c3.2.2) fun c4=>
 let n5:=(decide (n1=1))
 Option.bind (
  bif n5 then
   Option.bind (f11 6 c4.2.1 c4.2.2) fun c6=>
   let n7:=(dI (c6.1-1))
   some (c6.2.1,c6.2.2,n1,(0:Int),c2.1,c3.1,c4.1,n7,eInt)
  else
   let n8:=(decide (n1=3))
   Option.bind (
    bif n8 then
     Option.bind (f11 2 c4.2.1 c4.2.2) fun c9=>
     let n10:=(dI (1+c9.1))
     some (c9.2.1,c9.2.2,n1,n10,c2.1,c3.1,c4.1,(0:Int),eInt)
    else
     let n11:=(decide (n1=4))
     Option.bind (
      bif n11 then
       Option.bind (f11 9 c4.2.1 c4.2.2) fun c12=>
       let n13:=(dI (3+c12.1))
       some (c12.2.1,c12.2.2,n1,n13,c2.1,c3.1,c4.1,(0:Int),eInt)
      else
       let n14:=(decide (n1=7))
       Option.bind (
        bif n14 then
         some true
        else
         let n15:=(decide (n1=8))
         some n15) fun s16=>
       Option.bind (
        bif s16 then
         some (c4.2.1,c4.2.2,n1,(0:Int),c2.1,c3.1,c4.1,(1:Int),eInt)
        else
         let n17:=(decide (n1=11))
         Option.bind (
          bif n17 then
           let n18:=(p1.length:Int)
           Option.bind (f11 n18 c4.2.1 c4.2.2) fun c19=>
           Option.bind (
            bn (fun (s20:(Int×(List Int)×Int×Int×Int×Int×Int×Int×Int×(List Int)))=>
             ck (inB s20.2.2.2.2.2.2.2.2.1 p1.length) <|
             let n21:=(List.getD p1 s20.2.2.2.2.2.2.2.2.1.toNat aA)
             let n22:=(decide (s20.1<n21.params))
             bif n22 then
              Option.bind (f11 p6 s20.2.1 s20.2.2.1) fun c23=>
              let n24:=[c23.1]
              ck (bF s20.2.2.2.2.2.2.2.2.2.length n24.length 8) <|
              let n25:=(s20.2.2.2.2.2.2.2.2.2++n24)
              let n26:=(dI (s20.1+1))
              some (.inl (n26,c23.2.1,c23.2.2,s20.2.2.2.1,s20.2.2.2.2.1,s20.2.2.2.2.2.1,s20.2.2.2.2.2.2.1,s20.2.2.2.2.2.2.2.1,s20.2.2.2.2.2.2.2.2.1,n25))
             else
              some (.inr (s20.2.1,s20.2.2.1,s20.2.2.2.1,s20.2.2.2.2.1,s20.2.2.2.2.2.1,s20.2.2.2.2.2.2.1,s20.2.2.2.2.2.2.2.1,s20.2.2.2.2.2.2.2.2.1,s20.2.2.2.2.2.2.2.2.2))) ((0:Int),c19.2.1,c19.2.2,n1,(0:Int),c2.1,c3.1,c4.1,c19.1,eInt)) fun s27=>
           some (s27.1,s27.2.1,s27.2.2.1,s27.2.2.2.1,s27.2.2.2.2.1,s27.2.2.2.2.2.1,s27.2.2.2.2.2.2.1,s27.2.2.2.2.2.2.2.1,s27.2.2.2.2.2.2.2.2)
          else
           let n28:=(decide (n1=12))
           Option.bind (
            bif n28 then
             Option.bind (f11 3 c4.2.1 c4.2.2) fun c29=>
             Option.bind (
              bn (fun (rX:(Int×(List Int)×Int×Int×Int×Int×Int×Int×Int×(List Int)))=>
               let n31:=(decide (0<rX.1))
               bif n31 then
                Option.bind (f11 p6 rX.2.1 rX.2.2.1) fun c32=>
                let n33:=[c32.1]
                ck (bF rX.2.2.2.2.2.2.2.2.2.length n33.length 8) <|
                let n34:=(rX.2.2.2.2.2.2.2.2.2++n33)
                let n35:=(dI (rX.1-1))
                some (.inl (n35,c32.2.1,c32.2.2,rX.2.2.2.1,rX.2.2.2.2.1,rX.2.2.2.2.2.1,rX.2.2.2.2.2.2.1,rX.2.2.2.2.2.2.2.1,rX.2.2.2.2.2.2.2.2.1,n34))
               else
                some (.inr (rX.2.1,rX.2.2.1,rX.2.2.2.1,rX.2.2.2.2.1,rX.2.2.2.2.2.1,rX.2.2.2.2.2.2.1,rX.2.2.2.2.2.2.2.1,rX.2.2.2.2.2.2.2.2.1,rX.2.2.2.2.2.2.2.2.2))) (c29.1,c29.2.1,c29.2.2,n1,(0:Int),c2.1,c3.1,c4.1,(0:Int),eInt)) fun s36=>
             some (s36.1,s36.2.1,s36.2.2.1,s36.2.2.2.1,s36.2.2.2.2.1,s36.2.2.2.2.2.1,s36.2.2.2.2.2.2.1,s36.2.2.2.2.2.2.2.1,s36.2.2.2.2.2.2.2.2)
            else
             some (c4.2.1,c4.2.2,n1,(0:Int),c2.1,c3.1,c4.1,(0:Int),eInt)) fun Cc=>
           some (Cc.1,Cc.2.1,Cc.2.2.1,Cc.2.2.2.1,Cc.2.2.2.2.1,Cc.2.2.2.2.2.1,Cc.2.2.2.2.2.2.1,Cc.2.2.2.2.2.2.2.1,Cc.2.2.2.2.2.2.2.2)) fun pR=>
         some (pR.1,pR.2.1,pR.2.2.1,pR.2.2.2.1,pR.2.2.2.2.1,pR.2.2.2.2.2.1,pR.2.2.2.2.2.2.1,pR.2.2.2.2.2.2.2.1,pR.2.2.2.2.2.2.2.2)) fun xG=>
       some (xG.1,xG.2.1,xG.2.2.1,xG.2.2.2.1,xG.2.2.2.2.1,xG.2.2.2.2.2.1,xG.2.2.2.2.2.2.1,xG.2.2.2.2.2.2.2.1,xG.2.2.2.2.2.2.2.2)) fun Pz=>
     some (Pz.1,Pz.2.1,Pz.2.2.1,Pz.2.2.2.1,Pz.2.2.2.2.1,Pz.2.2.2.2.2.1,Pz.2.2.2.2.2.2.1,Pz.2.2.2.2.2.2.2.1,Pz.2.2.2.2.2.2.2.2)) fun Ip=>
   some (Ip.1,Ip.2.1,Ip.2.2.1,Ip.2.2.2.1,Ip.2.2.2.2.1,Ip.2.2.2.2.2.1,Ip.2.2.2.2.2.2.1,Ip.2.2.2.2.2.2.2.1,Ip.2.2.2.2.2.2.2.2)) fun xI=>
 Option.bind (
  let n43:=(decide (xI.2.2.1=1))
  bif n43 then
   let n44:=(decide (0<p2))
   let n45:=n44
   bif n45 then
    Option.bind (f11 3 xI.1 xI.2.1) fun c46=>
    let n47:=(decide (c46.1=0))
    let n48:=n47
    some (n48,c46.2.1,c46.2.2)
   else
    some (false,xI.1,xI.2.1)
  else
   some (false,xI.1,xI.2.1)) fun s49=>
 bif s49.1 then
  Option.bind (f11 p2 s49.2.1 s49.2.2) fun c50=>
  some ((14:Int),(0:Int),xI.2.2.2.2.1,(0:Int),(0:Int),c50.1,c50.2.1,c50.2.2,eInt)
 else
  some (xI.2.2.1,xI.2.2.2.1,xI.2.2.2.2.1,xI.2.2.2.2.2.1,xI.2.2.2.2.2.2.1,xI.2.2.2.2.2.2.2.1,s49.2.1,s49.2.2,xI.2.2.2.2.2.2.2.2)
def ahB:aV:=⟨ajQ,fun x=>f32 x.1 x.2.1 x.2.2.1 x.2.2.2.1 x.2.2.2.2.1 x.2.2.2.2.2.1 x.2.2.2.2.2.2.1 x.2.2.2.2.2.2.2.1 x.2.2.2.2.2.2.2.2.1 x.2.2.2.2.2.2.2.2.2⟩
theorem acr:ay Try.prog 32 ahB:=
 aF (T:=bW.of [(11,Ia)]) (ety:=ety) [.cell 6 92] ajR Try.func32 rfl rfl rfl (by decide +kernel) rfl (by decide +kernel) rfl (dQ.sound ⟨mZ,trivial⟩) dX mixed fun x=>by kernel_rfl
def f35 (p0:Int) (p1:(List Int)):Option (Int×(List Int)):=
 Option.bind (
  Option.bind (
   bn (fun (s0:(Int×(List Int)))=>
    ck (inB s0.1 s0.2.length) <|
    let n1:=(List.getD s0.2 s0.1.toNat 0)
    let n2:=(!(decide (n1=s0.1)))
    bif n2 then
     ck (inB s0.1 s0.2.length) <|
     let n3:=(List.getD s0.2 s0.1.toNat 0)
     ck (inB n3 s0.2.length) <|
     let n4:=(List.getD s0.2 n3.toNat 0)
     ck (inB s0.1 s0.2.length) <|
     let n5:=(List.set s0.2 s0.1.toNat n4)
     ck (inB s0.1 n5.length) <|
     let n6:=(List.getD n5 s0.1.toNat 0)
     some (.inl (n6,n5))
    else
     some (.inr (s0.1,s0.2))) (p0,p1)) fun s7=>
  some (s7.1,s7.2)) fun s8=>
 ck (decide (p1.length=s8.2.length)) <|
 some s8
def afu:aV:=⟨ajS,fun x=>f35 x.1 x.2⟩
theorem UN:ay Try.prog 35 afu:=
 aF (T:=bW.of []) (ety:=ety) [.tmp 3] ajT Try.func35 rfl rfl rfl (by decide +kernel) rfl (by decide +kernel) rfl (dQ.sound trivial) dX mixed fun x=>by kernel_rfl
def f36 (p0:(List UInt8)) (p1:Int) (p2:Int) (p3:(List ak)):Option (List bY):=
 let n0:=(p3.length:Int)
 Option.bind (f9 p0 p1 p2 p3) fun c1=>
 let n2:=(c1.length:Int)
 Option.bind (
  bn (fun (s3:(Int×(List bY)))=>
   let n4:=(decide (s3.1<n2))
   bif n4 then
    ck (inB s3.1 c1.length) <|
    let n5:=(List.getD c1 s3.1.toNat (aT.mk 0 0 0))
    ck (inB n5.block p3.length) <|
    let n6:=(List.getD p3 (Int.toNat n5.block) aj)
    let n7:=(decide (n5.way=0))
    Option.bind (
     bif n7 then
      let n8:=[(bY.mk n5.block n6.fE)]
      ck (bF s3.2.length n8.length 16) <|
      let n9:=(s3.2++n8)
      some n9
     else
      let n10:=(decide (n5.way=1))
      Option.bind (
       bif n10 then
        let n11:=[(bY.mk n5.block n6.bP)]
        ck (bF s3.2.length n11.length 16) <|
        let n12:=(s3.2++n11)
        some n12
       else
        let n13:=[(bY.mk n0 0)]
        ck (bF s3.2.length n13.length 16) <|
        let n14:=(s3.2++n13)
        some n14) fun s15=>
      some s15) fun s16=>
    let n17:=(dI (s3.1+1))
    some (.inl (n17,s16))
   else
    some (.inr s3.2)) ((0:Int),([]:(List bY)))) fun Xl=>
 let n19:=(p3.length:Int)
 Option.bind (
  bn (fun (s20:(Int×(List bY)))=>
   let n21:=(decide (s20.1<n19))
   bif n21 then
    ck (inB s20.1 p3.length) <|
    let n22:=(List.getD p3 s20.1.toNat aj)
    let n23:=(decide (n22.aQ=3))
    Option.bind (
     bif n23 then
      let n24:=[(bY.mk s20.1 n0)]
      ck (bF s20.2.length n24.length 16) <|
      let n25:=(s20.2++n24)
      some n25
     else
      some s20.2) fun s26=>
    let n27:=(dI (s20.1+1))
    some (.inl (n27,s26))
   else
    some (.inr s20.2)) ((0:Int),Xl)) fun Na=>
 some Na
def ahC:aV:=⟨ajU,fun x=>f36 x.1 x.2.1 x.2.2.1 x.2.2.2⟩
theorem acs:ay Try.prog 36 ahC:=
 aF (T:=bW.of [(9,sp9)]) (ety:=ety) [.tmp 2] ajV Try.func36 rfl rfl rfl (by decide +kernel) rfl (by decide +kernel) rfl (dQ.sound ⟨H_,trivial⟩) dX mixed fun x=>by kernel_rfl
def f37 (p0:Int) (p1:(List bY)) (p2:(List Int)) (p3:(List Bool)):Option ((List Int)×(List bY)×(List Bool)):=
 Option.bind (
  ck (inB p0 p1.length) <|
  let n0:=(List.getD p1 p0.toNat (bY.mk 0 0))
  Option.bind (f35 n0.from' p2) fun c1=>
  ck (inB p0 p1.length) <|
  let n2:=(List.getD p1 p0.toNat (bY.mk 0 0))
  Option.bind (f35 n2.to c1.2) fun c3=>
  let n4:=(!(decide (c1.1=c3.1)))
  ck (inB p0 p3.length) <|
  let n5:=(List.set p3 p0.toNat n4)
  ck (inB c1.1 c3.2.length) <|
  let n6:=(List.set c3.2 c1.1.toNat c3.1)
  some (n6,p1,n5)) fun s7=>
 ck (decide (p2.length=s7.1.length)) <|
 ck (decide (p3.length=s7.2.2.length)) <|
 some s7
def ahD:aV:=⟨ajW,fun x=>f37 x.1 x.2.1 x.2.2.1 x.2.2.2⟩
theorem acu:ay Try.prog 37 ahD:=
 aF (T:=bW.of [(35,afu)]) (ety:=ety) [] ajX Try.func37 rfl rfl rfl (by decide +kernel) rfl (by decide +kernel) rfl (dQ.sound ⟨UN,trivial⟩) dX mixed fun x=>by kernel_rfl
def f42 (p0:Int) (p1:(List ah)) (p2:(List au)) (p3:(List (List UInt8))) (p4:Int) (p5:Int) (p6:Int) (p7:(List ak)):Option (Int×(List ah)×(List au)×(List (List UInt8))×Int×Int×Int×(List ak)):=
 let n0:=(p7.length:Int)
 let n1:=[(ak.mk ([]:(List d_)) 0 0 0 0 p0 p4 n0)]
 ck (bF p7.length n1.length 80) <|
 let n2:=(p7++n1)
 some (n0,p1,p2,p3,p4,p5,n0,n2)
def Zk:aV:=⟨ajY,fun x=>f42 x.1 x.2.1 x.2.2.1 x.2.2.2.1 x.2.2.2.2.1 x.2.2.2.2.2.1 x.2.2.2.2.2.2.1 x.2.2.2.2.2.2.2⟩
theorem ED:ay Try.prog 42 Zk:=
 aF (T:=bW.of []) (ety:=ahl) [.tmp 4] ajZ Try.func42 rfl rfl rfl (by decide +kernel) rfl (by decide +kernel) rfl (dQ.sound trivial) dX mixed fun x=>by kernel_rfl
def f44 (p0:Int) (p1:Int) (p2:Int) (p3:Int) (p4:Int) (p5:Int) (p6:(List Int)) (p7:(List ah)) (p8:(List au)) (p9:(List (List UInt8))) (p10:Int) (p11:Int) (p12:Int) (p13:(List ak)):Option ((List ah)×(List au)×(List (List UInt8))×Int×Int×Int×(List ak)):=
 Option.bind (
  ck (inB p12 p13.length) <|
  let n0:=[(d_.mk p0 p1 p2 p3 p4 p5 p6)]
  ck (true&&(decide ((((List.length (List.getD p13 p12.toNat aj).instrs)+n0.length)*(72:Nat))≤(140737488355328:Nat)))) <|
  let n1:=((List.getD p13 p12.toNat aj).instrs++n0)
  ck (inB p12 p13.length) <|
  ck (Nat.beq p12.toNat p12.toNat) <|
  let n2:=(List.set p13 p12.toNat (ak.mk n1 (List.getD p13 p12.toNat aj).aQ (List.getD p13 p12.toNat aj).AA (List.getD p13 p12.toNat aj).fE (List.getD p13 p12.toNat aj).bP (List.getD p13 p12.toNat aj).line (List.getD p13 p12.toNat aj).jq (List.getD p13 p12.toNat aj).iG))
  some (p7,p8,p9,p10,p11,p12,n2)) fun s3=>
 ck (decide (p13.length=s3.2.2.2.2.2.2.length)) <|
 some s3
def Zl:aV:=⟨aj0,fun x=>f44 x.1 x.2.1 x.2.2.1 x.2.2.2.1 x.2.2.2.2.1 x.2.2.2.2.2.1 x.2.2.2.2.2.2.1 x.2.2.2.2.2.2.2.1 x.2.2.2.2.2.2.2.2.1 x.2.2.2.2.2.2.2.2.2.1 x.2.2.2.2.2.2.2.2.2.2.1 x.2.2.2.2.2.2.2.2.2.2.2.1 x.2.2.2.2.2.2.2.2.2.2.2.2.1 x.2.2.2.2.2.2.2.2.2.2.2.2.2⟩
theorem EF:ay Try.prog 44 Zl:=
 aF (T:=bW.of []) (ety:=ahm) [] aj1 Try.func44 rfl rfl rfl (by decide +kernel) rfl (by decide +kernel) rfl (dQ.sound trivial) dX mixed fun x=>by kernel_rfl
def f45 (p0:Int) (p1:Int) (p2:Int) (p3:Int) (p4:Int) (p5:(List ah)) (p6:(List au)) (p7:(List (List UInt8))) (p8:Int) (p9:Int) (p10:Int) (p11:(List ak)):Option ((List ah)×(List au)×(List (List UInt8))×Int×Int×Int×(List ak)):=
 Option.bind (
  ck (inB p0 p11.length) <|
  let n0:=(List.set p11 p0.toNat (ak.mk (List.getD p11 p0.toNat aj).instrs p1 p2 p3 p4 (List.getD p11 p0.toNat aj).line (List.getD p11 p0.toNat aj).jq (List.getD p11 p0.toNat aj).iG))
  some (p5,p6,p7,p8,p9,p10,n0)) fun s1=>
 ck (decide (p11.length=s1.2.2.2.2.2.2.length)) <|
 some s1
def WT:aV:=⟨aj2,fun x=>f45 x.1 x.2.1 x.2.2.1 x.2.2.2.1 x.2.2.2.2.1 x.2.2.2.2.2.1 x.2.2.2.2.2.2.1 x.2.2.2.2.2.2.2.1 x.2.2.2.2.2.2.2.2.1 x.2.2.2.2.2.2.2.2.2.1 x.2.2.2.2.2.2.2.2.2.2.1 x.2.2.2.2.2.2.2.2.2.2.2⟩
theorem AB:ay Try.prog 45 WT:=
 aF (T:=bW.of []) (ety:=ahn) [] aj3 Try.func45 rfl rfl rfl (by decide +kernel) rfl (by decide +kernel) rfl (dQ.sound trivial) dX mixed fun x=>by kernel_rfl
def afv (aeg:T50) (p0:(List aU)) (p1:(List (List UInt8))):Option (List (List UInt8)):=
 Option.bind (
  bn (fun (s0:(Int×(List (List UInt8))))=>
   let n1:=(p0.length:Int)
   let n2:=(decide (s0.1<n1))
   bif n2 then
    ck (inB s0.1 p0.length) <|
    let n3:=(List.getD p0 s0.1.toNat jJ)
    let n4:=(decide (n3.kind=1))
    Option.bind (
     bif n4 then
      ck (inB s0.1 p0.length) <|
      let n5:=(List.getD p0 s0.1.toNat jJ)
      let n6:=[n5.name]
      ck (bF s0.2.length n6.length 16) <|
      let n7:=(s0.2++n6)
      some n7
     else
      some s0.2) fun s8=>
    ck (inB s0.1 p0.length) <|
    let n9:=(List.getD p0 s0.1.toNat jJ)
    Option.bind (aeg n9.then' s8) fun c10=>
    ck (inB s0.1 p0.length) <|
    let n11:=(List.getD p0 s0.1.toNat jJ)
    Option.bind (aeg n11.else' c10) fun c12=>
    let n13:=(dI (s0.1+1))
    some (.inl (n13,c12))
   else
    some (.inr s0.2)) ((0:Int),p1)) fun s14=>
 some s14
def RZ:Nat→T50
 |0=>(fun _ _=>none)
 |n+1=>(afv (RZ n))
def afw (n:Nat):T50:=(RZ n)
def PD (n:Nat):aV:=⟨abW,fun x=>(RZ n) x.1 x.2⟩
theorem Zm (n:Nat) (h50:ay Try.prog 50 (PD n)):ay Try.prog 50 (PD (n+1)):=
 aF (T:=bW.of [(50,PD n)]) (ety:=ety) [.tmp 4] aj6 Try.func50 rfl rfl rfl (show abW.er.ok=true by decide +kernel) rfl (show abW.nargs≤Try.f50.ntmps by decide +kernel) rfl (dQ.sound ⟨h50,trivial⟩) dX mixed fun x=>by kernel_rfl
theorem DN :∀n,ay Try.prog 50 (PD n)
 |0=>bZ Try.func50 rfl rfl (show abW.er.ok=true by decide +kernel) fun x=>rfl
 |n+1=>by
  have ih:=DN n
  exact Zm n (ih)
def f50:T50:=afw 1048576
def ahE:aV:=PD 1048576
theorem acv:ay Try.prog 50 ahE:=(DN 1048576)
def f53 (p0:(List ah)) (p1:(List au)) (p2:(List UInt8)):Option Int:=
 dR (
  bn (fun (s0:Int)=>
   let n1:=(p0.length:Int)
   let n2:=(decide (s0<n1))
   bif n2 then
    ck (inB s0 p0.length) <|
    let n3:=(List.getD p0 s0.toNat (ah.mk dA 0))
    let n4:=(n3.name==p2)
    bif n4 then
     some (.inr (.inr s0))
    else
     let n5:=(dI (s0+1))
     some (.inl n5)
   else
    some (.inr (.inl ()))) (0:Int)) fun s6=>
 some (-1:Int)
def Zn:aV:=⟨aj7,fun x=>f53 x.1 x.2.1 x.2.2⟩
theorem EG:ay Try.prog 53 Zn:=
 aF (T:=bW.of []) (ety:=ety) [.tmp 4] aj8 Try.func53 rfl rfl rfl (by decide +kernel) rfl (by decide +kernel) rfl (dQ.sound trivial) dX mixed fun x=>by kernel_rfl
def f54 (p0:(List ah)) (p1:(List au)) (p2:(List UInt8)):Option Int:=
 dR (
  bn (fun (s0:Int)=>
   let n1:=(p1.length:Int)
   let n2:=(decide (s0<n1))
   bif n2 then
    ck (inB s0 p1.length) <|
    let n3:=(List.getD p1 s0.toNat fQ)
    let n4:=(n3.name==p2)
    bif n4 then
     some (.inr (.inr s0))
    else
     let n5:=(dI (s0+1))
     some (.inl n5)
   else
    some (.inr (.inl ()))) (0:Int)) fun s6=>
 some (-1:Int)
def Zo:aV:=⟨aj9,fun x=>f54 x.1 x.2.1 x.2.2⟩
theorem EH:ay Try.prog 54 Zo:=
 aF (T:=bW.of []) (ety:=ety) [.tmp 4] aj_ Try.func54 rfl rfl rfl (by decide +kernel) rfl (by decide +kernel) rfl (dQ.sound trivial) dX mixed fun x=>by kernel_rfl
def afx (aeh:T55) (p0:(List aU)):Option Int:=
 Option.bind (
  bn (fun (s0:(Int×Int))=>
   let n1:=(p0.length:Int)
   let n2:=(decide (s0.2<n1))
   bif n2 then
    ck (inB s0.2 p0.length) <|
    let n3:=(List.getD p0 s0.2.toNat jJ)
    Option.bind (aeh n3.then') fun c4=>
    let n5:=(dI (1+c4))
    ck (inB s0.2 p0.length) <|
    let n6:=(List.getD p0 s0.2.toNat jJ)
    Option.bind (aeh n6.else') fun c7=>
    let n8:=(dI (1+c7))
    let n9:=(Ou (Ou s0.1 n5) n8)
    let n10:=(dI (s0.2+1))
    some (.inl (n9,n10))
   else
    some (.inr s0.1)) ((0:Int),(0:Int))) fun s11=>
 some s11
def R_:Nat→T55
 |0=>(fun _=>none)
 |n+1=>(afx (R_ n))
def afy (n:Nat):T55:=(R_ n)
def PG (n:Nat):aV:=⟨abX,fun x=>(R_ n) x⟩
theorem Zp (n:Nat) (h55:ay Try.prog 55 (PG n)):ay Try.prog 55 (PG (n+1)):=
 aF (T:=bW.of [(55,PG n)]) (ety:=ety) [.tmp 2] akb Try.func55 rfl rfl rfl (show abX.er.ok=true by decide +kernel) rfl (show abX.nargs≤Try.f55.ntmps by decide +kernel) rfl (dQ.sound ⟨h55,trivial⟩) dX mixed fun x=>by kernel_rfl
theorem DR :∀n,ay Try.prog 55 (PG n)
 |0=>bZ Try.func55 rfl rfl (show abX.er.ok=true by decide +kernel) fun x=>rfl
 |n+1=>by
  have ih:=DR n
  exact Zp n (ih)
def f55:T55:=afy 1048576
def ahF:aV:=PG 1048576
theorem acw:ay Try.prog 55 ahF:=(DR 1048576)
def f56 (p0:(List (List UInt8))) (p1:(List UInt8)):Option Bool:=
 dR (
  bn (fun (s0:Int)=>
   let n1:=(p0.length:Int)
   let n2:=(decide (s0<n1))
   bif n2 then
    ck (inB s0 p0.length) <|
    let n3:=(List.getD p0 s0.toNat dA)
    let n4:=(n3==p1)
    bif n4 then
     some (.inr (.inr true))
    else
     let n5:=(dI (s0+1))
     some (.inl n5)
   else
    some (.inr (.inl ()))) (0:Int)) fun s6=>
 some false
def afz:aV:=⟨akc,fun x=>f56 x.1 x.2⟩
theorem UO:ay Try.prog 56 afz:=
 aF (T:=bW.of []) (ety:=ety) [.tmp 4] akd Try.func56 rfl rfl rfl (by decide +kernel) rfl (by decide +kernel) rfl (dQ.sound trivial) dX mixed fun x=>by kernel_rfl
def f57 (p0:(List ah)) (p1:(List au)) (p2:(List UInt8)):Option Int:=
 Option.bind (f53 p0 p1 p2) fun c0=>
 let n1:=(decide (0≤c0))
 bif n1 then
  ck (inB c0 p0.length) <|
  let n2:=(List.getD p0 c0.toNat (ah.mk dA 0))
  let n3:=(decide (0<n2.size))
  bif n3 then
   some (3:Int)
  else
   some (2:Int)
 else
  Option.bind (f54 p0 p1 p2) fun c4=>
  let n5:=(decide (0≤c4))
  bif n5 then
   some (4:Int)
  else
   some (0:Int)
def afA:aV:=⟨ake,fun x=>f57 x.1 x.2.1 x.2.2⟩
theorem UQ:ay Try.prog 57 afA:=
 aF (T:=bW.of [(53,Zn),(54,Zo)]) (ety:=ety) [.tmp 4] akf Try.func57 rfl rfl rfl (by decide +kernel) rfl (by decide +kernel) rfl (dQ.sound ⟨EG,EH,trivial⟩) dX mixed fun x=>by kernel_rfl
def f60 (p0:Int) (p1:Int) (p2:Int) (p3:Int):Option (List Int):=
 Option.bind (
  let n0:=(decide (p0=2))
  bif n0 then
   let n1:=(!(decide (p3=p2)))
   let n2:=n1
   some n2
  else
   some false) fun s3=>
 bif s3 then
  let n4:=[p2,p3]
  some n4
 else
  Option.bind (
   let n5:=(decide (p0=1))
   bif n5 then
    some true
   else
    let n6:=(decide (p0=2))
    let n7:=n6
    some n7) fun s8=>
  bif s8 then
   let n9:=[p2]
   some n9
  else
   some eInt
def afB:aV:=⟨akg,fun x=>f60 x.1 x.2.1 x.2.2.1 x.2.2.2⟩
theorem UR:ay Try.prog 60 afB:=
 aF (T:=bW.of []) (ety:=ety) [.tmp 2] akh Try.func60 rfl rfl rfl (by decide +kernel) rfl (by decide +kernel) rfl (dQ.sound trivial) dX mixed fun x=>by kernel_rfl
def afC (p0:(List UInt8)) (p1:(List ah)) (p2:(List au)) (p3:(List (List UInt8))) (p4:Int) (p5:Int) (p6:Int) (p7:(List ak)):Option (Int×(List ah)×(List au)×(List (List UInt8))×Int×Int×Int×(List ak)):=
 Option.bind (
  dR (
   bn (fun (s0:Int)=>
    let n1:=(p3.length:Int)
    let n2:=(decide (s0<n1))
    bif n2 then
     ck (inB s0 p3.length) <|
     let n3:=(List.getD p3 s0.toNat dA)
     let n4:=(n3==p0)
     bif n4 then
      some (.inr (.inr (s0,p1,p2,p3,p4,p5,p6,p7)))
     else
      let n5:=(dI (s0+1))
      some (.inl n5)
    else
     some (.inr (.inl ()))) (0:Int)) fun s6=>
  some ((-1:Int),p1,p2,p3,p4,p5,p6,p7)) fun s7=>
 ck (decide (p7.length=s7.2.2.2.2.2.2.2.length)) <|
 some s7
def f63 (p0:(List UInt8)) (p1:(List ah)) (p2:(List au)) (p3:(List (List UInt8))) (p4:Int) (p5:Int) (p6:Int) (p7:(List ak)):Option (Int×(List ah)×(List au)×(List (List UInt8))×Int×Int×Int×(List ak)):=Option.bind (afC p0 p1 p2 p3 p4 p5 p6 p7) fun (y:(Int×(List ah)×(List au)×(List (List UInt8))×Int×Int×Int×(List ak)))=>vZ y.2.2.2.2.2.2.2 p7 <| some y
def afD:aV:=⟨aki,fun x=>afC x.1 x.2.1 x.2.2.1 x.2.2.2.1 x.2.2.2.2.1 x.2.2.2.2.2.1 x.2.2.2.2.2.2.1 x.2.2.2.2.2.2.2⟩
theorem UU:ay Try.prog 63 afD:=
 aF (T:=bW.of []) (ety:=aho) [.tmp 4] akj Try.func63 rfl rfl rfl (by decide +kernel) rfl (by decide +kernel) rfl (dQ.sound trivial) dX mixed fun x=>by kernel_rfl
def f65 (p0:(List UInt8)) (p1:Int) (p2:Int) (p3:(List ak)):Option Int:=
 Option.bind (
  bn (fun (s0:(Int×Int))=>
   let n1:=(p3.length:Int)
   let n2:=(decide (s0.2<n1))
   bif n2 then
    ck (inB s0.2 p3.length) <|
    let n3:=(List.getD p3 s0.2.toNat aj)
    let n4:=((List.length n3.instrs):Int)
    let n5:=(dI (n4+1))
    let n6:=(dI (s0.1+n5))
    let n7:=(dI (s0.2+1))
    some (.inl (n6,n7))
   else
    some (.inr s0.1)) ((0:Int),(0:Int))) fun s8=>
 some s8
def ahG:aV:=⟨akk,fun x=>f65 x.1 x.2.1 x.2.2.1 x.2.2.2⟩
theorem acy:ay Try.prog 65 ahG:=
 aF (T:=bW.of []) (ety:=ety) [.tmp 2] akl Try.func65 rfl rfl rfl (by decide +kernel) rfl (by decide +kernel) rfl (dQ.sound trivial) dX mixed fun x=>by kernel_rfl
def f67 (p0:(List UInt8)) (p1:Int) (p2:Int) (p3:(List ak)) (p4:Int) (p5:Int) (p6:Int) (p7:Int):Option Int:=
 Option.bind (
  let n0:=(decide (p4<1))
  bif n0 then
   some true
  else
   let n1:=(decide (3<p4))
   let n2:=n1
   some n2) fun s3=>
 bif s3 then
  some (17:Int)
 else
  Option.bind (
   let n4:=(!(decide (p4=1)))
   bif n4 then
    let n5:=(decide (p5<0))
    bif n5 then
     let n6:=true
     some n6
    else
     let n7:=(decide (p2≤p5))
     let n8:=n7
     let n9:=n8
     some n9
   else
    some false) fun s10=>
  bif s10 then
   some (14:Int)
  else
   Option.bind (f60 p4 p5 p6 p7) fun c11=>
   dR (
    bn (fun (s12:Int)=>
     let n13:=(c11.length:Int)
     let n14:=(decide (s12<n13))
     bif n14 then
      Option.bind (
       ck (inB s12 c11.length) <|
       let n15:=(List.getD c11 s12.toNat 0)
       let n16:=(decide (n15<0))
       bif n16 then
        some true
       else
        ck (inB s12 c11.length) <|
        let n17:=(List.getD c11 s12.toNat 0)
        let n18:=(p3.length:Int)
        let n19:=(decide (n18≤n17))
        let n20:=n19
        some n20) fun zy=>
      bif zy then
       some (.inr (.inr (13:Int)))
      else
       let n22:=(dI (s12+1))
       some (.inl n22)
     else
      some (.inr (.inl ()))) (0:Int)) fun s23=>
   some (0:Int)
def ahH:aV:=⟨akm,fun x=>f67 x.1 x.2.1 x.2.2.1 x.2.2.2.1 x.2.2.2.2.1 x.2.2.2.2.2.1 x.2.2.2.2.2.2.1 x.2.2.2.2.2.2.2⟩
theorem acz:ay Try.prog 67 ahH:=
 aF (T:=bW.of [(60,afB)]) (ety:=ety) [.tmp 4] akn Try.func67 rfl rfl rfl (by decide +kernel) rfl (by decide +kernel) rfl (dQ.sound ⟨UR,trivial⟩) dX mixed fun x=>by kernel_rfl
def afE (ahI:T68) (p0:Int) (p1:Int) (p2:Int) (p3:Int) (p4:(List UInt8)) (p5:(List aI)):Option Int:=
 Option.bind (
  bn (fun (s0:(Int×Int))=>
   let n1:=(p5.length:Int)
   let n2:=(decide (s0.2<n1))
   bif n2 then
    ck (inB s0.2 p5.length) <|
    let n3:=(List.getD p5 s0.2.toNat gI)
    Option.bind (ahI n3.kind n3.op n3.value n3.line n3.name n3.args) fun c4=>
    let n5:=(Ou s0.1 c4)
    let n6:=(dI (s0.2+1))
    some (.inl (n5,n6))
   else
    some (.inr s0.1)) ((0:Int),(0:Int))) fun s7=>
 let n8:=(dI (s7+1))
 some n8
def Si:Nat→T68
 |0=>(fun _ _ _ _ _ _=>none)
 |n+1=>(afE (Si n))
def afF (n:Nat):T68:=(Si n)
def PI (n:Nat):aV:=⟨abY,fun x=>(Si n) x.1 x.2.1 x.2.2.1 x.2.2.2.1 x.2.2.2.2.1 x.2.2.2.2.2⟩
theorem Zq (n:Nat) (h68:ay Try.prog 68 (PI n)):ay Try.prog 68 (PI (n+1)):=
 aF (T:=bW.of [(68,PI n)]) (ety:=ety) [.tmp 2] ako Try.func68 rfl rfl rfl (show abY.er.ok=true by decide +kernel) rfl (show abY.nargs≤Try.f68.ntmps by decide +kernel) rfl (dQ.sound ⟨h68,trivial⟩) dX mixed fun x=>by kernel_rfl
theorem DT :∀n,ay Try.prog 68 (PI n)
 |0=>bZ Try.func68 rfl rfl (show abY.er.ok=true by decide +kernel) fun x=>rfl
 |n+1=>by
  have ih:=DT n
  exact Zq n (ih)
def f68:T68:=afF 1048576
def ahJ:aV:=PI 1048576
theorem acA:ay Try.prog 68 ahJ:=(DT 1048576)
def afG (p0:Int) (p1:Int) (p2:(List ah)) (p3:(List au)) (p4:Int) (p5:Int) (p6:(List (List UInt8))):Option ((List ah)×(List au)×Int×Int×(List (List UInt8))):=
 Option.bind (
  let n0:=(decide (p5=0))
  Option.bind (
   bif n0 then
    some (p2,p3,p0,p1)
   else
    some (p2,p3,p4,p5)) fun s1=>
  some (s1.1,s1.2.1,s1.2.2.1,s1.2.2.2,p6)) fun s2=>
 ck (decide (p6.length=s2.2.2.2.2.length)) <|
 some s2
def f69 (p0:Int) (p1:Int) (p2:(List ah)) (p3:(List au)) (p4:Int) (p5:Int) (p6:(List (List UInt8))):Option ((List ah)×(List au)×Int×Int×(List (List UInt8))):=Option.bind (afG p0 p1 p2 p3 p4 p5 p6) fun (y:((List ah)×(List au)×Int×Int×(List (List UInt8))))=>vZ y.2.2.2.2 p6 <| some y
def acB:aV:=⟨akp,fun x=>afG x.1 x.2.1 x.2.2.1 x.2.2.2.1 x.2.2.2.2.1 x.2.2.2.2.2.1 x.2.2.2.2.2.2⟩
theorem MI:ay Try.prog 69 acB:=
 aF (T:=bW.of []) (ety:=ety) [] akq Try.func69 rfl rfl rfl (by decide +kernel) rfl (by decide +kernel) rfl (dQ.sound trivial) dX mixed fun x=>by kernel_rfl
def afH (p0:(List UInt8)) (p1:(List ah)) (p2:(List au)) (p3:Int) (p4:Int) (p5:(List (List UInt8))):Option (Int×(List ah)×(List au)×Int×Int×(List (List UInt8))):=
 Option.bind (
  Option.bind (f56 p5 p0) fun c0=>
  bif c0 then
   some ((1:Int),p1,p2,p3,p4,p5)
  else
   Option.bind (f57 p1 p2 p0) fun c1=>
   some (c1,p1,p2,p3,p4,p5)) fun s2=>
 ck (decide (p5.length=s2.2.2.2.2.2.length)) <|
 some s2
def f71 (p0:(List UInt8)) (p1:(List ah)) (p2:(List au)) (p3:Int) (p4:Int) (p5:(List (List UInt8))):Option (Int×(List ah)×(List au)×Int×Int×(List (List UInt8))):=Option.bind (afH p0 p1 p2 p3 p4 p5) fun (y:(Int×(List ah)×(List au)×Int×Int×(List (List UInt8))))=>vZ y.2.2.2.2.2 p5 <| some y
def Zr:aV:=⟨akr,fun x=>afH x.1 x.2.1 x.2.2.1 x.2.2.2.1 x.2.2.2.2.1 x.2.2.2.2.2⟩
theorem EI:ay Try.prog 71 Zr:=
 aF (T:=bW.of [(56,afz),(57,afA)]) (ety:=ety) [.tmp 4] aks Try.func71 rfl rfl rfl (by decide +kernel) rfl (by decide +kernel) rfl (dQ.sound ⟨UO,UQ,trivial⟩) dX mixed fun x=>by kernel_rfl
def acC (PK:Xj) (Zt:T73) (Zu:T74) (p0:Int) (p1:Int) (p2:Int) (p3:Int) (p4:(List UInt8)) (p5:(List aI)) (p6:Int) (p7:(List ah)) (p8:(List au)) (p9:(List (List UInt8))) (p10:Int) (p11:Int) (p12:Int) (p13:(List ak)):Option ((List ah)×(List au)×(List (List UInt8))×Int×Int×Int×(List ak)):=
 let n0:=(dI (p6+1))
 let n1:=(Ou p11 n0)
 Option.bind (
  let n2:=(decide (p0=7))
  bif n2 then
   some true
  else
   let n3:=(decide (p0=8))
   let n4:=n3
   some n4) fun s5=>
 bif s5 then
  Option.bind (Zt p0 p1 p2 p3 p4 p5 p6 p7 p8 p9 p10 n1 p12 p13) fun c6=>
  some (c6.1,c6.2.1,c6.2.2.1,c6.2.2.2.1,c6.2.2.2.2.1,c6.2.2.2.2.2.1,c6.2.2.2.2.2.2)
 else
  Option.bind (Zu p5 p6 p7 p8 p9 p10 n1 p12 p13) fun c7=>
  let n8:=(decide (p0=1))
  Option.bind (
   bif n8 then
    Option.bind (f44 1 0 p6 0 0 p2 eInt c7.1 c7.2.1 c7.2.2.1 c7.2.2.2.1 c7.2.2.2.2.1 c7.2.2.2.2.2.1 c7.2.2.2.2.2.2.2) fun c9=>
    some (c9.1,c9.2.1,c9.2.2.1,c9.2.2.2.1,c9.2.2.2.2.1,c9.2.2.2.2.2.1,c9.2.2.2.2.2.2)
   else
    let n10:=(decide (p0=2))
    Option.bind (
     bif n10 then
      Option.bind (f63 p4 c7.1 c7.2.1 c7.2.2.1 c7.2.2.2.1 c7.2.2.2.2.1 c7.2.2.2.2.2.1 c7.2.2.2.2.2.2.2) fun c11=>
      Option.bind (f44 2 0 p6 c11.1 0 0 eInt c11.2.1 c11.2.2.1 c11.2.2.2.1 c11.2.2.2.2.1 c11.2.2.2.2.2.1 c11.2.2.2.2.2.2.1 c7.2.2.2.2.2.2.2) fun c12=>
      some (c12.1,c12.2.1,c12.2.2.1,c12.2.2.2.1,c12.2.2.2.2.1,c12.2.2.2.2.2.1,c12.2.2.2.2.2.2)
     else
      let n13:=(decide (p0=3))
      Option.bind (
       bif n13 then
        Option.bind (f53 c7.1 c7.2.1 p4) fun c14=>
        Option.bind (f44 5 0 p6 0 0 c14 eInt c7.1 c7.2.1 c7.2.2.1 c7.2.2.2.1 c7.2.2.2.2.1 c7.2.2.2.2.2.1 c7.2.2.2.2.2.2.2) fun c15=>
        some (c15.1,c15.2.1,c15.2.2.1,c15.2.2.2.1,c15.2.2.2.2.1,c15.2.2.2.2.2.1,c15.2.2.2.2.2.2)
       else
        let n16:=(decide (p0=4))
        Option.bind (
         bif n16 then
          Option.bind (f53 c7.1 c7.2.1 p4) fun c17=>
          Option.bind (f44 7 0 p6 p6 0 c17 eInt c7.1 c7.2.1 c7.2.2.1 c7.2.2.2.1 c7.2.2.2.2.1 c7.2.2.2.2.2.1 c7.2.2.2.2.2.2.2) fun c18=>
          some (c18.1,c18.2.1,c18.2.2.1,c18.2.2.2.1,c18.2.2.2.2.1,c18.2.2.2.2.2.1,c18.2.2.2.2.2.2)
         else
          let n19:=(decide (p0=5))
          Option.bind (
           bif n19 then
            Option.bind (f44 3 p1 p6 p6 0 0 eInt c7.1 c7.2.1 c7.2.2.1 c7.2.2.2.1 c7.2.2.2.2.1 c7.2.2.2.2.2.1 c7.2.2.2.2.2.2.2) fun c20=>
            some (c20.1,c20.2.1,c20.2.2.1,c20.2.2.2.1,c20.2.2.2.2.1,c20.2.2.2.2.2.1,c20.2.2.2.2.2.2)
           else
            let n21:=(decide (p0=6))
            Option.bind (
             bif n21 then
              let n22:=(dI (p6+1))
              Option.bind (f44 4 p1 p6 p6 n22 0 eInt c7.1 c7.2.1 c7.2.2.1 c7.2.2.2.1 c7.2.2.2.2.1 c7.2.2.2.2.2.1 c7.2.2.2.2.2.2.2) fun c23=>
              some (c23.1,c23.2.1,c23.2.2.1,c23.2.2.2.1,c23.2.2.2.2.1,c23.2.2.2.2.2.1,c23.2.2.2.2.2.2)
             else
              let n24:=(decide (p0=9))
              Option.bind (
               bif n24 then
                Option.bind (f54 c7.1 c7.2.1 p4) fun c25=>
                Option.bind (f44 11 0 p6 0 0 c25 c7.2.2.2.2.2.2.1 c7.1 c7.2.1 c7.2.2.1 c7.2.2.2.1 c7.2.2.2.2.1 c7.2.2.2.2.2.1 c7.2.2.2.2.2.2.2) fun Nb=>
                some (Nb.1,Nb.2.1,Nb.2.2.1,Nb.2.2.2.1,Nb.2.2.2.2.1,Nb.2.2.2.2.2.1,Nb.2.2.2.2.2.2)
               else
                let n27:=(decide (p0=10))
                Option.bind (
                 bif n27 then
                  ck (Eh (1:Int) (c7.2.2.2.2.2.2.1.length:Int) c7.2.2.2.2.2.2.1.length) <|
                  Option.bind (f44 12 0 p6 p6 0 0 (List.drop (Int.toNat (1:Int)) (List.take (Int.toNat (c7.2.2.2.2.2.2.1.length:Int)) c7.2.2.2.2.2.2.1)) c7.1 c7.2.1 c7.2.2.1 c7.2.2.2.1 c7.2.2.2.2.1 c7.2.2.2.2.2.1 c7.2.2.2.2.2.2.2) fun c28=>
                  some (c28.1,c28.2.1,c28.2.2.1,c28.2.2.2.1,c28.2.2.2.2.1,c28.2.2.2.2.2.1,c28.2.2.2.2.2.2)
                 else
                  let n29:=(decide (p0=11))
                  Option.bind (
                   bif n29 then
                    Option.bind (f54 c7.1 c7.2.1 p4) fun JR=>
                    Option.bind (f44 14 0 p6 0 0 JR eInt c7.1 c7.2.1 c7.2.2.1 c7.2.2.2.1 c7.2.2.2.2.1 c7.2.2.2.2.2.1 c7.2.2.2.2.2.2.2) fun c31=>
                    some (c31.1,c31.2.1,c31.2.2.1,c31.2.2.2.1,c31.2.2.2.2.1,c31.2.2.2.2.2.1,c31.2.2.2.2.2.2)
                   else
                    let n32:=(decide (p0=12))
                    Option.bind (
                     bif n32 then
                      Option.bind (f44 9 0 p6 0 0 0 eInt c7.1 c7.2.1 c7.2.2.1 c7.2.2.2.1 c7.2.2.2.2.1 c7.2.2.2.2.2.1 c7.2.2.2.2.2.2.2) fun JU=>
                      some (JU.1,JU.2.1,JU.2.2.1,JU.2.2.2.1,JU.2.2.2.2.1,JU.2.2.2.2.2.1,JU.2.2.2.2.2.2)
                     else
                      some (c7.1,c7.2.1,c7.2.2.1,c7.2.2.2.1,c7.2.2.2.2.1,c7.2.2.2.2.2.1,c7.2.2.2.2.2.2.2)) fun s34=>
                    some (s34.1,s34.2.1,s34.2.2.1,s34.2.2.2.1,s34.2.2.2.2.1,s34.2.2.2.2.2.1,s34.2.2.2.2.2.2)) fun Qm=>
                  some (Qm.1,Qm.2.1,Qm.2.2.1,Qm.2.2.2.1,Qm.2.2.2.2.1,Qm.2.2.2.2.2.1,Qm.2.2.2.2.2.2)) fun s36=>
                some (s36.1,s36.2.1,s36.2.2.1,s36.2.2.2.1,s36.2.2.2.2.1,s36.2.2.2.2.2.1,s36.2.2.2.2.2.2)) fun Cc=>
              some (Cc.1,Cc.2.1,Cc.2.2.1,Cc.2.2.2.1,Cc.2.2.2.2.1,Cc.2.2.2.2.2.1,Cc.2.2.2.2.2.2)) fun pR=>
            some (pR.1,pR.2.1,pR.2.2.1,pR.2.2.2.1,pR.2.2.2.2.1,pR.2.2.2.2.2.1,pR.2.2.2.2.2.2)) fun xG=>
          some (xG.1,xG.2.1,xG.2.2.1,xG.2.2.2.1,xG.2.2.2.2.1,xG.2.2.2.2.2.1,xG.2.2.2.2.2.2)) fun Pz=>
        some (Pz.1,Pz.2.1,Pz.2.2.1,Pz.2.2.2.1,Pz.2.2.2.2.1,Pz.2.2.2.2.2.1,Pz.2.2.2.2.2.2)) fun Ip=>
      some (Ip.1,Ip.2.1,Ip.2.2.1,Ip.2.2.2.1,Ip.2.2.2.2.1,Ip.2.2.2.2.2.1,Ip.2.2.2.2.2.2)) fun xI=>
    some (xI.1,xI.2.1,xI.2.2.1,xI.2.2.2.1,xI.2.2.2.2.1,xI.2.2.2.2.2.1,xI.2.2.2.2.2.2)) fun s43=>
  some (s43.1,s43.2.1,s43.2.2.1,s43.2.2.2.1,s43.2.2.2.2.1,s43.2.2.2.2.2.1,s43.2.2.2.2.2.2)
def acD (PK:Xj) (Zt:T73) (Zu:T74) (p0:Int) (p1:Int) (p2:Int) (p3:Int) (p4:(List UInt8)) (p5:(List aI)) (p6:Int) (p7:(List ah)) (p8:(List au)) (p9:(List (List UInt8))) (p10:Int) (p11:Int) (p12:Int) (p13:(List ak)):Option ((List ah)×(List au)×(List (List UInt8))×Int×Int×Int×(List ak)):=
 let n0:=(decide (p0=8))
 ck (inB (0:Int) p5.length) <|
 let n1:=(List.getD p5 (Int.toNat 0) gI)
 Option.bind (PK n1.kind n1.op n1.value n1.line n1.name n1.args p6 p7 p8 p9 p10 p11 p12 p13) fun c2=>
 Option.bind (f42 p3 c2.1 c2.2.1 c2.2.2.1 c2.2.2.2.1 c2.2.2.2.2.1 c2.2.2.2.2.2.1 c2.2.2.2.2.2.2) fun c3=>
 ck (inB (1:Int) p5.length) <|
 let n4:=(List.getD p5 (Int.toNat 1) gI)
 Option.bind (PK n4.kind n4.op n4.value n4.line n4.name n4.args p6 c3.2.1 c3.2.2.1 c3.2.2.2.1 c3.2.2.2.2.1 c3.2.2.2.2.2.1 c3.2.2.2.2.2.2.1 c3.2.2.2.2.2.2.2) fun c5=>
 Option.bind (f42 p3 c5.1 c5.2.1 c5.2.2.1 c5.2.2.2.1 c5.2.2.2.2.1 c5.2.2.2.2.2.1 c5.2.2.2.2.2.2) fun c6=>
 Option.bind (f44 1 0 p6 0 0 1 eInt c6.2.1 c6.2.2.1 c6.2.2.2.1 c6.2.2.2.2.1 c6.2.2.2.2.2.1 c6.2.2.2.2.2.2.1 c6.2.2.2.2.2.2.2) fun c7=>
 Option.bind (f42 p3 c7.1 c7.2.1 c7.2.2.1 c7.2.2.2.1 c7.2.2.2.2.1 c7.2.2.2.2.2.1 c7.2.2.2.2.2.2) fun c8=>
 Option.bind (f44 1 0 p6 0 0 0 eInt c8.2.1 c8.2.2.1 c8.2.2.2.1 c8.2.2.2.2.1 c8.2.2.2.2.2.1 c8.2.2.2.2.2.2.1 c8.2.2.2.2.2.2.2) fun c9=>
 Option.bind (f42 p3 c9.1 c9.2.1 c9.2.2.1 c9.2.2.2.1 c9.2.2.2.2.1 c9.2.2.2.2.2.1 c9.2.2.2.2.2.2) fun c10=>
 Option.bind (f45 c5.2.2.2.2.2.1 2 p6 c6.1 c8.1 c10.2.1 c10.2.2.1 c10.2.2.2.1 c10.2.2.2.2.1 c10.2.2.2.2.2.1 c10.2.2.2.2.2.2.1 c10.2.2.2.2.2.2.2) fun c11=>
 Option.bind (
  bif n0 then
   Option.bind (f45 c2.2.2.2.2.2.1 2 p6 c6.1 c3.1 c11.1 c11.2.1 c11.2.2.1 c11.2.2.2.1 c11.2.2.2.2.1 c11.2.2.2.2.2.1 c11.2.2.2.2.2.2) fun c12=>
   some (c12.1,c12.2.1,c12.2.2.1,c12.2.2.2.1,c12.2.2.2.2.1,c12.2.2.2.2.2.1,c12.2.2.2.2.2.2)
  else
   Option.bind (f45 c2.2.2.2.2.2.1 2 p6 c3.1 c8.1 c11.1 c11.2.1 c11.2.2.1 c11.2.2.2.1 c11.2.2.2.2.1 c11.2.2.2.2.2.1 c11.2.2.2.2.2.2) fun c13=>
   some (c13.1,c13.2.1,c13.2.2.1,c13.2.2.2.1,c13.2.2.2.2.1,c13.2.2.2.2.2.1,c13.2.2.2.2.2.2)) fun s14=>
 Option.bind (f45 c6.1 1 0 c10.1 0 s14.1 s14.2.1 s14.2.2.1 s14.2.2.2.1 s14.2.2.2.2.1 s14.2.2.2.2.2.1 s14.2.2.2.2.2.2) fun c15=>
 Option.bind (f45 c8.1 1 0 c10.1 0 c15.1 c15.2.1 c15.2.2.1 c15.2.2.2.1 c15.2.2.2.2.1 c15.2.2.2.2.2.1 c15.2.2.2.2.2.2) fun c16=>
 some (c16.1,c16.2.1,c16.2.2.1,c16.2.2.2.1,c16.2.2.2.2.1,c16.2.2.2.2.2.1,c16.2.2.2.2.2.2)
def acE (PK:Xj) (Zt:T73) (Zu:T74) (p0:(List aI)) (p1:Int) (p2:(List ah)) (p3:(List au)) (p4:(List (List UInt8))) (p5:Int) (p6:Int) (p7:Int) (p8:(List ak)):Option ((List ah)×(List au)×(List (List UInt8))×Int×Int×Int×(List Int)×(List ak)):=
 Option.bind (
  bn (fun (s0:(Int×(List ah)×(List au)×(List (List UInt8))×Int×Int×Int×(List Int)×(List ak)))=>
   let n1:=(p0.length:Int)
   let n2:=(decide (s0.1<n1))
   bif n2 then
    ck (inB s0.1 p0.length) <|
    let n3:=(List.getD p0 s0.1.toNat gI)
    let n4:=(dI (p1+s0.1))
    Option.bind (PK n3.kind n3.op n3.value n3.line n3.name n3.args n4 s0.2.1 s0.2.2.1 s0.2.2.2.1 s0.2.2.2.2.1 s0.2.2.2.2.2.1 s0.2.2.2.2.2.2.1 s0.2.2.2.2.2.2.2.2) fun c5=>
    let n6:=(dI (p1+s0.1))
    let n7:=[n6]
    ck (bF s0.2.2.2.2.2.2.2.1.length n7.length 8) <|
    let n8:=(s0.2.2.2.2.2.2.2.1++n7)
    let n9:=(dI (s0.1+1))
    some (.inl (n9,c5.1,c5.2.1,c5.2.2.1,c5.2.2.2.1,c5.2.2.2.2.1,c5.2.2.2.2.2.1,n8,c5.2.2.2.2.2.2))
   else
    some (.inr (s0.2.1,s0.2.2.1,s0.2.2.2.1,s0.2.2.2.2.1,s0.2.2.2.2.2.1,s0.2.2.2.2.2.2.1,s0.2.2.2.2.2.2.2.1,s0.2.2.2.2.2.2.2.2))) ((0:Int),p2,p3,p4,p5,p6,p7,eInt,p8)) fun s10=>
 some (s10.1,s10.2.1,s10.2.2.1,s10.2.2.2.1,s10.2.2.2.2.1,s10.2.2.2.2.2.1,s10.2.2.2.2.2.2.1,s10.2.2.2.2.2.2.2)
def iO:Nat→Xj×Xj×T74
 |0=>(fun _ _ _ _ _ _ _ _ _ _ _ _ _ _=>none,fun _ _ _ _ _ _ _ _ _ _ _ _ _ _=>none,fun _ _ _ _ _ _ _ _ _=>none)
 |n+1=>(acC (iO n).1 (iO n).2.1 (iO n).2.2,acD (iO n).1 (iO n).2.1 (iO n).2.2,acE (iO n).1 (iO n).2.1 (iO n).2.2)
def Zv (n:Nat):Xj:=(iO n).1
def AL (n:Nat):aV:=⟨abZ,fun x=>(iO n).1 x.1 x.2.1 x.2.2.1 x.2.2.2.1 x.2.2.2.2.1 x.2.2.2.2.2.1 x.2.2.2.2.2.2.1 x.2.2.2.2.2.2.2.1 x.2.2.2.2.2.2.2.2.1 x.2.2.2.2.2.2.2.2.2.1 x.2.2.2.2.2.2.2.2.2.2.1 x.2.2.2.2.2.2.2.2.2.2.2.1 x.2.2.2.2.2.2.2.2.2.2.2.2.1 x.2.2.2.2.2.2.2.2.2.2.2.2.2⟩
def afI (n:Nat):Xj:=(iO n).2.1
def DU (n:Nat):aV:=⟨ab1,fun x=>(iO n).2.1 x.1 x.2.1 x.2.2.1 x.2.2.2.1 x.2.2.2.2.1 x.2.2.2.2.2.1 x.2.2.2.2.2.2.1 x.2.2.2.2.2.2.2.1 x.2.2.2.2.2.2.2.2.1 x.2.2.2.2.2.2.2.2.2.1 x.2.2.2.2.2.2.2.2.2.2.1 x.2.2.2.2.2.2.2.2.2.2.2.1 x.2.2.2.2.2.2.2.2.2.2.2.2.1 x.2.2.2.2.2.2.2.2.2.2.2.2.2⟩
def afJ (n:Nat):T74:=(iO n).2.2
def DV (n:Nat):aV:=⟨ab2,fun x=>(iO n).2.2 x.1 x.2.1 x.2.2.1 x.2.2.2.1 x.2.2.2.2.1 x.2.2.2.2.2.1 x.2.2.2.2.2.2.1 x.2.2.2.2.2.2.2.1 x.2.2.2.2.2.2.2.2⟩
theorem Zw (n:Nat) (h62:ay Try.prog 62 (AL n)) (h73:ay Try.prog 73 (DU n)) (h74:ay Try.prog 74 (DV n)):ay Try.prog 62 (AL (n+1)):=
 aF (T:=bW.of [(44,Zl),(63,afD),(53,Zn),(54,Zo),(62,AL n),(73,DU n),(74,DV n)]) (ety:=ahp) [] akt Try.func62 rfl rfl rfl (show abZ.er.ok=true by decide +kernel) rfl (show abZ.nargs≤Try.f62.ntmps by decide +kernel) rfl (dQ.sound ⟨EF,UU,EG,EH,h62,h73,h74,trivial⟩) dX mixed fun x=>by kernel_rfl
theorem Zx (n:Nat) (h62:ay Try.prog 62 (AL n)) (h73:ay Try.prog 73 (DU n)) (h74:ay Try.prog 74 (DV n)):ay Try.prog 73 (DU (n+1)):=
 aF (T:=bW.of [(42,Zk),(44,Zl),(45,WT),(62,AL n),(73,DU n),(74,DV n)]) (ety:=ahq) [] aku Try.func73 rfl rfl rfl (show ab1.er.ok=true by decide +kernel) rfl (show ab1.nargs≤Try.f73.ntmps by decide +kernel) rfl (dQ.sound ⟨ED,EF,AB,h62,h73,h74,trivial⟩) dX mixed fun x=>by kernel_rfl
theorem Zy (n:Nat) (h62:ay Try.prog 62 (AL n)) (h73:ay Try.prog 73 (DU n)) (h74:ay Try.prog 74 (DV n)):ay Try.prog 74 (DV (n+1)):=
 aF (T:=bW.of [(62,AL n),(73,DU n),(74,DV n)]) (ety:=ahr) [.tmp 6] akv Try.func74 rfl rfl rfl (show ab2.er.ok=true by decide +kernel) rfl (show ab2.nargs≤Try.f74.ntmps by decide +kernel) rfl (dQ.sound ⟨h62,h73,h74,trivial⟩) dX mixed fun x=>by kernel_rfl
theorem DW :∀n,ay Try.prog 62 (AL n)∧ay Try.prog 73 (DU n)∧ay Try.prog 74 (DV n)
 |0=>⟨bZ Try.func62 rfl rfl (show abZ.er.ok=true by decide +kernel) fun x=>rfl,bZ Try.func73 rfl rfl (show ab1.er.ok=true by decide +kernel) fun x=>rfl,bZ Try.func74 rfl rfl (show ab2.er.ok=true by decide +kernel) fun x=>rfl⟩
 |n+1=>by
  have ih:=DW n
  exact ⟨Zw n (ih.1) (ih.2.1) (ih.2.2),Zx n (ih.1) (ih.2.1) (ih.2.2),Zy n (ih.1) (ih.2.1) (ih.2.2)⟩
def f62:Xj:=Zv 1048576
def afK:aV:=AL 1048576
theorem UW:ay Try.prog 62 afK:=(DW 1048576).1
def f75 (p0:Int) (p1:Int) (p2:Int) (p3:Int) (p4:Int) (p5:Int) (p6:(List Int)):Option (List Int):=
 let n0:=(decide (p0=2))
 Option.bind (
  bif n0 then
   some true
  else
   let n1:=(decide (p0=3))
   Option.bind (
    bif n1 then
     some true
    else
     let n2:=(decide (p0=6))
     Option.bind (
      bif n2 then
       some true
      else
       let n3:=(decide (p0=7))
       Option.bind (
        bif n3 then
         some true
        else
         let n4:=(decide (p0=10))
         some n4) fun s5=>
       some s5) fun s6=>
     some s6) fun s7=>
   some s7) fun s8=>
 bif s8 then
  let n9:=[p3]
  some n9
 else
  let n10:=(decide (p0=4))
  Option.bind (
   bif n10 then
    some true
   else
    let n11:=(decide (p0=8))
    some n11) fun s12=>
  bif s12 then
   let n13:=[p3,p4]
   some n13
  else
   let n14:=(decide (p0=11))
   bif n14 then
    ck (bF (List.length eInt) p6.length 8) <|
    let n15:=(eInt++p6)
    some n15
   else
    let n16:=(decide (p0=12))
    bif n16 then
     let n17:=[p3]
     ck (bF n17.length p6.length 8) <|
     let n18:=(n17++p6)
     some n18
    else
     some eInt
def ahN:aV:=⟨akw,fun x=>f75 x.1 x.2.1 x.2.2.1 x.2.2.2.1 x.2.2.2.2.1 x.2.2.2.2.2.1 x.2.2.2.2.2.2⟩
theorem acF:ay Try.prog 75 ahN:=
 aF (T:=bW.of []) (ety:=ety) [.tmp 2] akx Try.func75 rfl rfl rfl (by decide +kernel) rfl (by decide +kernel) rfl (dQ.sound trivial) dX mixed fun x=>by kernel_rfl
def f76 (p0:Int) (p1:Int) (p2:Int) (p3:Int) (p4:Int) (p5:Int) (p6:(List Int)):Option (Int×Bool):=
 let n0:=(decide (p0=6))
 Option.bind (
  bif n0 then
   some true
  else
   let n1:=(decide (p0=8))
   Option.bind (
    bif n1 then
     some true
    else
     let n2:=(decide (p0=10))
     Option.bind (
      bif n2 then
       some true
      else
       let n3:=(decide (p0=13))
       some n3) fun s4=>
     some s4) fun s5=>
   some s5) fun s6=>
 bif s6 then
  some ((0:Int),false)
 else
  Option.bind (
   let n7:=(decide (p0<1))
   bif n7 then
    some true
   else
    let n8:=(decide (14<p0))
    let n9:=n8
    some n9) fun s10=>
  bif s10 then
   some ((0:Int),false)
  else
   some (p2,true)
def ahO:aV:=⟨aky,fun x=>f76 x.1 x.2.1 x.2.2.1 x.2.2.2.1 x.2.2.2.2.1 x.2.2.2.2.2.1 x.2.2.2.2.2.2⟩
theorem acG:ay Try.prog 76 ahO:=
 aF (T:=bW.of []) (ety:=ety) [.tmp 2,.tmp 3] akz Try.func76 rfl rfl rfl (by decide +kernel) rfl (by decide +kernel) rfl (dQ.sound trivial) dX mixed fun x=>by kernel_rfl
def f77 (p0:(List ah)) (p1:(List aH)) (p2:Int) (p3:Int) (p4:Int) (p5:Bool):Option Bool:=
 Option.bind (
  let n0:=(decide (0≤p4))
  bif n0 then
   let n1:=(p0.length:Int)
   let n2:=(decide (p4<n1))
   let n3:=n2
   bif n3 then
    ck (inB p4 p0.length) <|
    let n4:=(List.getD p0 p4.toNat (ah.mk dA 0))
    let n5:=(decide (0<n4.size))
    let n6:=(n5==p5)
    let n7:=n6
    some n7
   else
    some false
  else
   some false) fun s8=>
 some s8
def ahP:aV:=⟨akA,fun x=>f77 x.1 x.2.1 x.2.2.1 x.2.2.2.1 x.2.2.2.2.1 x.2.2.2.2.2⟩
theorem acH:ay Try.prog 77 ahP:=
 aF (T:=bW.of []) (ety:=ety) [.tmp 6] akB Try.func77 rfl rfl rfl (by decide +kernel) rfl (by decide +kernel) rfl (dQ.sound trivial) dX mixed fun x=>by kernel_rfl
def afL (p0:Int) (p1:Int) (p2:Int) (p3:Int) (p4:(List UInt8)) (p5:(List aI)) (p6:Int) (p7:Int) (p8:(List ah)) (p9:(List au)) (p10:Int) (p11:Int) (p12:(List (List UInt8))):Option ((List ah)×(List au)×Int×Int×(List (List UInt8))):=
 Option.bind (
  Option.bind (f71 p4 p8 p9 p10 p11 p12) fun c0=>
  let n1:=(decide (c0.1=0))
  Option.bind (
   bif n1 then
    Option.bind (f69 p3 8 c0.2.1 c0.2.2.1 c0.2.2.2.1 c0.2.2.2.2.1 p12) fun c2=>
    some (c2.1,c2.2.1,c2.2.2.1,c2.2.2.2.1)
   else
    Option.bind (
     let n3:=(!(decide (c0.1=p6)))
     bif n3 then
      let n4:=(!(decide (c0.1=p7)))
      let n5:=n4
      some n5
     else
      some false) fun s6=>
    Option.bind (
     bif s6 then
      Option.bind (f69 p3 10 c0.2.1 c0.2.2.1 c0.2.2.2.1 c0.2.2.2.2.1 p12) fun c7=>
      some (c7.1,c7.2.1,c7.2.2.1,c7.2.2.2.1)
     else
      some (c0.2.1,c0.2.2.1,c0.2.2.2.1,c0.2.2.2.2.1)) fun s8=>
    some (s8.1,s8.2.1,s8.2.2.1,s8.2.2.2)) fun s9=>
  some (s9.1,s9.2.1,s9.2.2.1,s9.2.2.2,p12)) fun s10=>
 ck (decide (p12.length=s10.2.2.2.2.length)) <|
 some s10
def f78 (p0:Int) (p1:Int) (p2:Int) (p3:Int) (p4:(List UInt8)) (p5:(List aI)) (p6:Int) (p7:Int) (p8:(List ah)) (p9:(List au)) (p10:Int) (p11:Int) (p12:(List (List UInt8))):Option ((List ah)×(List au)×Int×Int×(List (List UInt8))):=Option.bind (afL p0 p1 p2 p3 p4 p5 p6 p7 p8 p9 p10 p11 p12) fun (y:((List ah)×(List au)×Int×Int×(List (List UInt8))))=>vZ y.2.2.2.2 p12 <| some y
def ahQ:aV:=⟨akC,fun x=>afL x.1 x.2.1 x.2.2.1 x.2.2.2.1 x.2.2.2.2.1 x.2.2.2.2.2.1 x.2.2.2.2.2.2.1 x.2.2.2.2.2.2.2.1 x.2.2.2.2.2.2.2.2.1 x.2.2.2.2.2.2.2.2.2.1 x.2.2.2.2.2.2.2.2.2.2.1 x.2.2.2.2.2.2.2.2.2.2.2.1 x.2.2.2.2.2.2.2.2.2.2.2.2⟩
theorem acI:ay Try.prog 78 ahQ:=
 aF (T:=bW.of [(71,Zr),(69,acB)]) (ety:=ety) [] akD Try.func78 rfl rfl rfl (by decide +kernel) rfl (by decide +kernel) rfl (dQ.sound ⟨EI,MI,trivial⟩) dX mixed fun x=>by kernel_rfl
def afM (p0:(List UInt8)) (p1:Int) (p2:(List ah)) (p3:(List au)) (p4:Int) (p5:Int) (p6:(List (List UInt8))):Option (Int×Int×Int×Int×(List UInt8)×(List ah)×(List au)×Int×Int×(List (List UInt8))):=
 Option.bind (
  Option.bind (f71 p0 p2 p3 p4 p5 p6) fun c0=>
  let n1:=(!(decide (c0.1=1)))
  Option.bind (
   bif n1 then
    some (3:Int)
   else
    some (2:Int)) fun s2=>
  some (s2,(0:Int),(0:Int),p1,p0,c0.2.1,c0.2.2.1,c0.2.2.2.1,c0.2.2.2.2.1,p6)) fun s3=>
 ck (decide (p6.length=s3.2.2.2.2.2.2.2.2.2.length)) <|
 some s3
def f79 (p0:(List UInt8)) (p1:Int) (p2:(List ah)) (p3:(List au)) (p4:Int) (p5:Int) (p6:(List (List UInt8))):Option (Int×Int×Int×Int×(List UInt8)×(List ah)×(List au)×Int×Int×(List (List UInt8))):=Option.bind (afM p0 p1 p2 p3 p4 p5 p6) fun (y:(Int×Int×Int×Int×(List UInt8)×(List ah)×(List au)×Int×Int×(List (List UInt8))))=>vZ y.2.2.2.2.2.2.2.2.2 p6 <| some y
def ahR:aV:=⟨akE,fun x=>afM x.1 x.2.1 x.2.2.1 x.2.2.2.1 x.2.2.2.2.1 x.2.2.2.2.2.1 x.2.2.2.2.2.2⟩
theorem acJ:ay Try.prog 79 ahR:=
 aF (T:=bW.of [(71,Zr)]) (ety:=ety) [.cell 6 143] akF Try.func79 rfl rfl rfl (by decide +kernel) rfl (by decide +kernel) rfl (dQ.sound ⟨EI,trivial⟩) dX mixed fun x=>by kernel_rfl
def acK (aei:T70) (Zz:T80) (p0:Int) (p1:Int) (p2:Int) (p3:Int) (p4:(List UInt8)) (p5:(List aI)) (p6:(List ah)) (p7:(List au)) (p8:Int) (p9:Int) (p10:(List (List UInt8))):Option (Int×Int×Int×Int×(List UInt8)×(List ah)×(List au)×Int×Int×(List (List UInt8))×(List aI)):=
 Option.bind (
  let n0:=(decide (p0=13))
  bif n0 then
   Option.bind (f78 p0 p1 p2 p3 p4 p5 1 2 p6 p7 p8 p9 p10) fun c1=>
   Option.bind (f79 p4 p3 c1.1 c1.2.1 c1.2.2.1 c1.2.2.2.1 p10) fun c2=>
   some (c2.1,c2.2.1,c2.2.2.1,c2.2.2.2.1,c2.2.2.2.2.1,c2.2.2.2.2.2.1,c2.2.2.2.2.2.2.1,c2.2.2.2.2.2.2.2.1,c2.2.2.2.2.2.2.2.2.1,p10,nP)
  else
   let n3:=(decide (p0=4))
   dR (
    bif n3 then
     Option.bind (f78 p0 p1 p2 p3 p4 p5 3 3 p6 p7 p8 p9 p10) fun c4=>
     some (.inl (c4.1,c4.2.1,c4.2.2.1,c4.2.2.2.1))
    else
     let n5:=(decide (p0=11))
     dR (
      bif n5 then
       Option.bind (f78 p0 p1 p2 p3 p4 p5 4 4 p6 p7 p8 p9 p10) fun c6=>
       some (.inl (c6.1,c6.2.1,c6.2.2.1,c6.2.2.2.1))
      else
       let n7:=(decide (p0=9))
       dR (
        bif n7 then
         Option.bind (f71 p4 p6 p7 p8 p9 p10) fun c8=>
         let n9:=(decide (c8.1=0))
         dR (
          bif n9 then
           Option.bind (f69 p3 8 c8.2.1 c8.2.2.1 c8.2.2.2.1 c8.2.2.2.2.1 p10) fun c10=>
           some (.inl (c10.1,c10.2.1,c10.2.2.1,c10.2.2.2.1))
          else
           let n11:=(decide (c8.1=3))
           dR (
            bif n11 then
             Option.bind (f69 p3 10 c8.2.1 c8.2.2.1 c8.2.2.2.1 c8.2.2.2.2.1 p10) fun c12=>
             some (.inl (c12.1,c12.2.1,c12.2.2.1,c12.2.2.2.1))
            else
             let n13:=(decide (c8.1=4))
             bif n13 then
              Option.bind (f54 c8.2.1 c8.2.2.1 p4) fun c14=>
              ck (inB c14 c8.2.2.1.length) <|
              let n15:=(List.getD c8.2.2.1 c14.toNat fQ)
              let n16:=((List.length n15.params):Int)
              let n17:=(p5.length:Int)
              let n18:=(!(decide (n16=n17)))
              Option.bind (
               bif n18 then
                Option.bind (f69 p3 11 c8.2.1 c8.2.2.1 c8.2.2.2.1 c8.2.2.2.2.1 p10) fun c19=>
                some (c19.1,c19.2.1,c19.2.2.1,c19.2.2.2.1)
               else
                some (c8.2.1,c8.2.2.1,c8.2.2.2.1,c8.2.2.2.2.1)) fun s20=>
              some (.inl (s20.1,s20.2.1,s20.2.2.1,s20.2.2.2))
             else
              let n21:=(p5.length:Int)
              let n22:=(decide (6<n21))
              Option.bind (
               bif n22 then
                Option.bind (f69 p3 5 c8.2.1 c8.2.2.1 c8.2.2.2.1 c8.2.2.2.2.1 p10) fun c23=>
                some (c23.1,c23.2.1,c23.2.2.1,c23.2.2.2.1)
               else
                some (c8.2.1,c8.2.2.1,c8.2.2.2.1,c8.2.2.2.2.1)) fun s24=>
              Option.bind (f79 p4 p3 s24.1 s24.2.1 s24.2.2.1 s24.2.2.2 p10) fun c25=>
              let n26:=[(aI.mk c25.1 c25.2.1 c25.2.2.1 c25.2.2.2.1 c25.2.2.2.2.1 nP)]
              Option.bind (Zz p5 c25.2.2.2.2.2.1 c25.2.2.2.2.2.2.1 c25.2.2.2.2.2.2.2.1 c25.2.2.2.2.2.2.2.2.1 p10) fun I5=>
              ck (bF n26.length I5.2.2.2.2.2.length 72) <|
              let n28:=(n26++I5.2.2.2.2.2)
              some (.inr (.inr (.inr (.inr (.inr ((10:Int),(0:Int),(0:Int),p3,dA,I5.1,I5.2.1,I5.2.2.1,I5.2.2.2.1,p10,n28))))))) fun s29=>
           some (.inl (s29.1,s29.2.1,s29.2.2.1,s29.2.2.2))) fun rX=>
         some (.inl (rX.1,rX.2.1,rX.2.2.1,rX.2.2.2))
        else
         let n31:=(decide (p0=10))
         Option.bind (
          bif n31 then
           let n32:=(p5.length:Int)
           let n33:=(decide (7<n32))
           Option.bind (
            bif n33 then
             Option.bind (f69 p3 5 p6 p7 p8 p9 p10) fun c34=>
             some (c34.1,c34.2.1,c34.2.2.1,c34.2.2.2.1)
            else
             some (p6,p7,p8,p9)) fun Qm=>
           some (Qm.1,Qm.2.1,Qm.2.2.1,Qm.2.2.2)
          else
           some (p6,p7,p8,p9)) fun s36=>
         some (.inl (s36.1,s36.2.1,s36.2.2.1,s36.2.2.2))) fun Cc=>
       some (.inl (Cc.1,Cc.2.1,Cc.2.2.1,Cc.2.2.2))) fun pR=>
     some (.inl (pR.1,pR.2.1,pR.2.2.1,pR.2.2.2))) fun xG=>
   Option.bind (Zz p5 xG.1 xG.2.1 xG.2.2.1 xG.2.2.2 p10) fun c40=>
   some (p0,p1,p2,p3,p4,c40.1,c40.2.1,c40.2.2.1,c40.2.2.2.1,p10,c40.2.2.2.2.2)) fun Ip=>
 ck (decide (p10.length=Ip.2.2.2.2.2.2.2.2.2.1.length)) <|
 some Ip
def k70 (p0:Int) (p1:Int) (p2:Int) (p3:Int) (p4:(List UInt8)) (p5:(List aI)) (p6:(List ah)) (p7:(List au)) (p8:Int) (p9:Int) (p10:(List (List UInt8))) (r:Option (Int×Int×Int×Int×(List UInt8)×(List ah)×(List au)×Int×Int×(List (List UInt8))×(List aI))):Option (Int×Int×Int×Int×(List UInt8)×(List ah)×(List au)×Int×Int×(List (List UInt8))×(List aI)):=Option.bind r fun (y:(Int×Int×Int×Int×(List UInt8)×(List ah)×(List au)×Int×Int×(List (List UInt8))×(List aI)))=>vZ y.2.2.2.2.2.2.2.2.2.1 p10 <| some y
def acL (aei:T70) (Zz:T80) (p0:(List aI)) (p1:(List ah)) (p2:(List au)) (p3:Int) (p4:Int) (p5:(List (List UInt8))):Option ((List ah)×(List au)×Int×Int×(List (List UInt8))×(List aI)):=
 Option.bind (
  Option.bind (
   bn (fun (s0:(Int×(List ah)×(List au)×Int×Int×(List aI)))=>
    let n1:=(p0.length:Int)
    let n2:=(decide (s0.1<n1))
    bif n2 then
     ck (inB s0.1 p0.length) <|
     let n3:=(List.getD p0 s0.1.toNat gI)
     Option.bind (aei n3.kind n3.op n3.value n3.line n3.name n3.args s0.2.1 s0.2.2.1 s0.2.2.2.1 s0.2.2.2.2.1 p5) fun c4=>
     let n5:=[(aI.mk c4.1 c4.2.1 c4.2.2.1 c4.2.2.2.1 c4.2.2.2.2.1 c4.2.2.2.2.2.2.2.2.2.2)]
     ck (bF s0.2.2.2.2.2.length n5.length 72) <|
     let n6:=(s0.2.2.2.2.2++n5)
     let n7:=(dI (s0.1+1))
     some (.inl (n7,c4.2.2.2.2.2.1,c4.2.2.2.2.2.2.1,c4.2.2.2.2.2.2.2.1,c4.2.2.2.2.2.2.2.2.1,n6))
    else
     some (.inr (s0.2.1,s0.2.2.1,s0.2.2.2.1,s0.2.2.2.2.1,s0.2.2.2.2.2))) ((0:Int),p1,p2,p3,p4,nP)) fun s8=>
  some (s8.1,s8.2.1,s8.2.2.1,s8.2.2.2.1,p5,s8.2.2.2.2)) fun s9=>
 ck (decide (p5.length=s9.2.2.2.2.1.length)) <|
 some s9
def k80 (p0:(List aI)) (p1:(List ah)) (p2:(List au)) (p3:Int) (p4:Int) (p5:(List (List UInt8))) (r:Option ((List ah)×(List au)×Int×Int×(List (List UInt8))×(List aI))):Option ((List ah)×(List au)×Int×Int×(List (List UInt8))×(List aI)):=Option.bind r fun (y:((List ah)×(List au)×Int×Int×(List (List UInt8))×(List aI)))=>vZ y.2.2.2.2.1 p5 <| some y
def qQ:Nat→T70×T80
 |0=>(fun _ _ _ _ _ _ _ _ _ _ _=>none,fun _ _ _ _ _ _=>none)
 |n+1=>(acK (fun p0 p1 p2 p3 p4 p5 p6 p7 p8 p9 p10=>k70 p0 p1 p2 p3 p4 p5 p6 p7 p8 p9 p10 ((qQ n).1 p0 p1 p2 p3 p4 p5 p6 p7 p8 p9 p10)) (fun p0 p1 p2 p3 p4 p5=>k80 p0 p1 p2 p3 p4 p5 ((qQ n).2 p0 p1 p2 p3 p4 p5)),acL (fun p0 p1 p2 p3 p4 p5 p6 p7 p8 p9 p10=>k70 p0 p1 p2 p3 p4 p5 p6 p7 p8 p9 p10 ((qQ n).1 p0 p1 p2 p3 p4 p5 p6 p7 p8 p9 p10)) (fun p0 p1 p2 p3 p4 p5=>k80 p0 p1 p2 p3 p4 p5 ((qQ n).2 p0 p1 p2 p3 p4 p5)))
def acM (n:Nat):T70:=(fun p0 p1 p2 p3 p4 p5 p6 p7 p8 p9 p10=>k70 p0 p1 p2 p3 p4 p5 p6 p7 p8 p9 p10 ((qQ n).1 p0 p1 p2 p3 p4 p5 p6 p7 p8 p9 p10))
def Ib (n:Nat):aV:=⟨ab3,fun x=>(qQ n).1 x.1 x.2.1 x.2.2.1 x.2.2.2.1 x.2.2.2.2.1 x.2.2.2.2.2.1 x.2.2.2.2.2.2.1 x.2.2.2.2.2.2.2.1 x.2.2.2.2.2.2.2.2.1 x.2.2.2.2.2.2.2.2.2.1 x.2.2.2.2.2.2.2.2.2.2⟩
def ahS (n:Nat):T80:=(fun p0 p1 p2 p3 p4 p5=>k80 p0 p1 p2 p3 p4 p5 ((qQ n).2 p0 p1 p2 p3 p4 p5))
def JV (n:Nat):aV:=⟨ab4,fun x=>(qQ n).2 x.1 x.2.1 x.2.2.1 x.2.2.2.1 x.2.2.2.2.1 x.2.2.2.2.2⟩
theorem ZA (n:Nat) (h70:ay Try.prog 70 (Ib n)) (h80:ay Try.prog 80 (JV n)):ay Try.prog 70 (Ib (n+1)):=
 aF (T:=bW.of [(78,ahQ),(79,ahR),(71,Zr),(69,acB),(54,Zo),(70,Ib n),(80,JV n)]) (ety:=ety) [.cell 4 143] akG Try.func70 rfl rfl rfl (show ab3.er.ok=true by decide +kernel) rfl (show ab3.nargs≤Try.f70.ntmps by decide +kernel) rfl (dQ.sound ⟨acI,acJ,EI,MI,EH,h70,h80,trivial⟩) dX mixed fun x=>by kernel_rfl
theorem ZB (n:Nat) (h70:ay Try.prog 70 (Ib n)) (h80:ay Try.prog 80 (JV n)):ay Try.prog 80 (JV (n+1)):=
 aF (T:=bW.of [(70,Ib n),(80,JV n)]) (ety:=ety) [.tmp 4] akH Try.func80 rfl rfl rfl (show ab4.er.ok=true by decide +kernel) rfl (show ab4.nargs≤Try.f80.ntmps by decide +kernel) rfl (dQ.sound ⟨h70,h80,trivial⟩) dX mixed fun x=>by kernel_rfl
theorem DX :∀n,ay Try.prog 70 (Ib n)∧ay Try.prog 80 (JV n)
 |0=>⟨bZ Try.func70 rfl rfl (show ab3.er.ok=true by decide +kernel) fun x=>rfl,bZ Try.func80 rfl rfl (show ab4.er.ok=true by decide +kernel) fun x=>rfl⟩
 |n+1=>by
  have ih:=DX n
  exact ⟨ZA n (ih.1) (ih.2),ZB n (ih.1) (ih.2)⟩
def f70:T70:=acM 1048576
def ahU:aV:=Ib 1048576
theorem acN:ay Try.prog 70 ahU:=(DX 1048576).1
def f82 (p0:Int) (p1:(List UInt8)) (p2:Int) (p3:Int) (p4:Int) (p5:Int) (p6:(List UInt8)) (p7:(List aI)):Option (Int×Int×(List UInt8)×(List aI)):=
 let n0:=[(aI.mk p2 p3 p4 p5 p6 p7)]
 some (p0,(0:Int),p1,n0)
def afN:aV:=⟨akI,fun x=>f82 x.1 x.2.1 x.2.2.1 x.2.2.2.1 x.2.2.2.2.1 x.2.2.2.2.2.1 x.2.2.2.2.2.2.1 x.2.2.2.2.2.2.2⟩
theorem UY:ay Try.prog 82 afN:=
 aF (T:=bW.of []) (ety:=ety) [.cell 6 126] akJ Try.func82 rfl rfl rfl (by decide +kernel) rfl (by decide +kernel) rfl (dQ.sound trivial) dX mixed fun x=>by kernel_rfl
def acO (p0:Bool) (p1:Int) (p2:(List Int)) (p3:Int) (p4:(List ah)) (p5:(List au)) (p6:(List (List UInt8))):Option ((List UInt8)×Bool×Int×(List Int)×Int×(List ah)×(List au)×(List (List UInt8))):=
 Option.bind (
  Option.bind (
   bn (fun (s0:(Int×(List (List UInt8))))=>
    let n1:=(p4.length:Int)
    let n2:=(decide (s0.1<n1))
    bif n2 then
     ck (inB s0.1 p4.length) <|
     let n3:=(List.getD p4 s0.1.toNat (ah.mk dA 0))
     let n4:=(decide (0<n3.size))
     let n5:=(n4==p0)
     Option.bind (
      bif n5 then
       ck (inB s0.1 p4.length) <|
       let n6:=(List.getD p4 s0.1.toNat (ah.mk dA 0))
       let n7:=[n6.name]
       ck (bF s0.2.length n7.length 16) <|
       let n8:=(s0.2++n7)
       some n8
      else
       some s0.2) fun s9=>
     let n10:=(dI (s0.1+1))
     some (.inl (n10,s9))
    else
     some (.inr s0.2)) ((0:Int),jI)) fun s11=>
  let n12:=(s11.length:Int)
  let n13:=(decide (n12=0))
  bif n13 then
   some (dA,false,p1,p2,p3,p4,p5,p6)
  else
   let n14:=(s11.length:Int)
   Option.bind (f11 n14 p2 p3) fun c15=>
   ck (inB c15.1 s11.length) <|
   let n16:=(List.getD s11 c15.1.toNat dA)
   some (n16,true,p1,c15.2.1,c15.2.2,p4,p5,p6)) fun oC=>
 ck (decide (p4.length=oC.2.2.2.2.2.1.length)) <|
 ck (decide (p5.length=oC.2.2.2.2.2.2.1.length)) <|
 ck (decide (p6.length=oC.2.2.2.2.2.2.2.length)) <|
 some oC
def f84 (p0:Bool) (p1:Int) (p2:(List Int)) (p3:Int) (p4:(List ah)) (p5:(List au)) (p6:(List (List UInt8))):Option ((List UInt8)×Bool×Int×(List Int)×Int×(List ah)×(List au)×(List (List UInt8))):=Option.bind (acO p0 p1 p2 p3 p4 p5 p6) fun (y:((List UInt8)×Bool×Int×(List Int)×Int×(List ah)×(List au)×(List (List UInt8))))=>vZ y.2.2.2.2.2.1 p4 <| vZ y.2.2.2.2.2.2.1 p5 <| vZ y.2.2.2.2.2.2.2 p6 <| some y
def ZC:aV:=⟨akK,fun x=>acO x.1 x.2.1 x.2.2.1 x.2.2.2.1 x.2.2.2.2.1 x.2.2.2.2.2.1 x.2.2.2.2.2.2⟩
theorem EJ:ay Try.prog 84 ZC:=
 aF (T:=bW.of [(11,Ia)]) (ety:=ety) [.tmp 4,.tmp 5] akL Try.func84 rfl rfl rfl (by decide +kernel) rfl (by decide +kernel) rfl (dQ.sound ⟨mZ,trivial⟩) dX mixed fun x=>by kernel_rfl
def f87:Option (List (List UInt8)):=
 let n0:=[[(97:UInt8)],[(98:UInt8)],[(99:UInt8)],[(100:UInt8)],[(101:UInt8)],[(102:UInt8)],[(105:UInt8)],[(107:UInt8)]]
 some n0
def ahV:aV:=⟨akM,fun x=>f87⟩
theorem acP:ay Try.prog 87 ahV:=
 aF (T:=bW.of []) (ety:=ety) [.tmp 0] akN Try.func87 rfl rfl rfl (by decide +kernel) rfl (by decide +kernel) rfl (dQ.sound trivial) dX mixed fun x=>by kernel_rfl
def acQ (p0:Int) (p1:(List Int)) (p2:Int) (p3:(List ah)) (p4:(List au)) (p5:(List (List UInt8))):Option (Int×Int×Int×Int×(List UInt8)×Int×(List Int)×Int×(List ah)×(List au)×(List (List UInt8))):=
 Option.bind (
  Option.bind (f11 6 p1 p2) fun c0=>
  let n1:=(decide (c0.1=0))
  bif n1 then
   some ((12:Int),(0:Int),(0:Int),(0:Int),dA,p0,c0.2.1,c0.2.2,p3,p4,p5)
  else
   let n2:=(decide (c0.1=1))
   dR (
    bif n2 then
     Option.bind (f84 false p0 c0.2.1 c0.2.2 p3 p4 p5) fun c3=>
     bif c3.2.1 then
      some (.inr ((13:Int),(0:Int),(0:Int),(0:Int),c3.1,c3.2.2.1,c3.2.2.2.1,c3.2.2.2.2.1,p3,p4,p5))
     else
      some (.inl (c3.2.2.1,c3.2.2.2.1,c3.2.2.2.2.1))
    else
     let n4:=(decide (c0.1=2))
     Option.bind (
      bif n4 then
       some true
      else
       let n5:=(decide (c0.1=3))
       some n5) fun s6=>
     dR (
      bif s6 then
       let n7:=(p5.length:Int)
       let n8:=(decide (0<n7))
       bif n8 then
        let n9:=(p5.length:Int)
        Option.bind (f11 n9 c0.2.1 c0.2.2) fun c10=>
        ck (inB c10.1 p5.length) <|
        let n11:=(List.getD p5 c10.1.toNat dA)
        some (.inr (.inr ((13:Int),(0:Int),(0:Int),(0:Int),n11,p0,c10.2.1,c10.2.2,p3,p4,p5)))
       else
        some (.inl ())
      else
       some (.inl ())) fun s12=>
     some (.inl (p0,c0.2.1,c0.2.2))) fun s13=>
   Option.bind (f11 5 s13.2.1 s13.2.2) fun c14=>
   Option.bind (f11 12 c14.2.1 c14.2.2) fun c15=>
   let n16:=(decide (c15.1=11))
   Option.bind (
    bif n16 then
     let n17:=[(9223372036854775807:Int),(2147483648:Int),(1000:Int),(64:Int)]
     Option.bind (f11 4 c15.2.1 c15.2.2) fun c18=>
     ck (inB c18.1 n17.length) <|
     let n19:=(List.getD n17 c18.1.toNat 0)
     some (n19,c18.2.1,c18.2.2)
    else
     some (c14.1,c15.2.1,c15.2.2)) fun s20=>
   some ((1:Int),(0:Int),s20.1,(0:Int),dA,s13.1,s20.2.1,s20.2.2,p3,p4,p5)) fun zy=>
 ck (decide (p3.length=zy.2.2.2.2.2.2.2.2.1.length)) <|
 ck (decide (p4.length=zy.2.2.2.2.2.2.2.2.2.1.length)) <|
 ck (decide (p5.length=zy.2.2.2.2.2.2.2.2.2.2.length)) <|
 some zy
def f88 (p0:Int) (p1:(List Int)) (p2:Int) (p3:(List ah)) (p4:(List au)) (p5:(List (List UInt8))):Option (Int×Int×Int×Int×(List UInt8)×Int×(List Int)×Int×(List ah)×(List au)×(List (List UInt8))):=Option.bind (acQ p0 p1 p2 p3 p4 p5) fun (y:(Int×Int×Int×Int×(List UInt8)×Int×(List Int)×Int×(List ah)×(List au)×(List (List UInt8))))=>vZ y.2.2.2.2.2.2.2.2.1 p3 <| vZ y.2.2.2.2.2.2.2.2.2.1 p4 <| vZ y.2.2.2.2.2.2.2.2.2.2 p5 <| some y
def ahW:aV:=⟨akO,fun x=>acQ x.1 x.2.1 x.2.2.1 x.2.2.2.1 x.2.2.2.2.1 x.2.2.2.2.2⟩
theorem acR:ay Try.prog 88 ahW:=
 aF (T:=bW.of [(11,Ia),(84,ZC)]) (ety:=ety) [.cell 2 143] akP Try.func88 rfl rfl rfl (by decide +kernel) rfl (by decide +kernel) rfl (dQ.sound ⟨mZ,EJ,trivial⟩) dX mixed fun x=>by kernel_rfl
def f89 (p0:Int) (p1:Int) (p2:(List aI)):Option (Int×Int×Int×Int×(List UInt8)×(List aI)):=
 some (p0,p1,(0:Int),(0:Int),dA,p2)
def afO:aV:=⟨akQ,fun x=>f89 x.1 x.2.1 x.2.2⟩
theorem UZ:ay Try.prog 89 afO:=
 aF (T:=bW.of []) (ety:=ety) [.cell 6 143] akR Try.func89 rfl rfl rfl (by decide +kernel) rfl (by decide +kernel) rfl (dQ.sound trivial) dX mixed fun x=>by kernel_rfl
def f21 (p0:(List UInt8)) (p1:Int) (p2:Int) (p3:(List ak)):Option (List Bool):=
 let n0:=(p3.length:Int)
 let n1:=(dI (n0+1))
 ck (Gn (8:Nat) n1 n1) <|
 let n2:=(List.replicate n1.toNat (0:Int))
 let n3:=(n2.length:Int)
 Option.bind (
  bn (fun (s4:(Int×(List Int)))=>
   let n5:=(decide (s4.1<n3))
   bif n5 then
    ck (inB s4.1 s4.2.length) <|
    let n6:=(List.set s4.2 s4.1.toNat s4.1)
    let n7:=(dI (s4.1+1))
    some (.inl (n7,n6))
   else
    some (.inr s4.2)) ((0:Int),n2)) fun s8=>
 Option.bind (
  Option.bind (f36 p0 p1 p2 p3) fun c9=>
  Option.bind (f9 p0 p1 p2 p3) fun c10=>
  let n11:=(c10.length:Int)
  some (n11,c9)) fun s12=>
 let n13:=(s12.2.length:Int)
 ck (Gn (1:Nat) n13 n13) <|
 let n14:=(List.replicate n13.toNat false)
 Option.bind (
  bn (fun (s15:(Int×(List bY)×(List Bool)×(List Int)))=>
   let n16:=(s15.2.1.length:Int)
   let n17:=(decide (s15.1<n16))
   bif n17 then
    Option.bind (f37 s15.1 s15.2.1 s15.2.2.2 s15.2.2.1) fun c18=>
    let n19:=(dI (s15.1+1))
    some (.inl (n19,c18.2.1,c18.2.2,c18.1))
   else
    some (.inr (s15.2.1,s15.2.2.1,s15.2.2.2))) (s12.1,s12.2,n14,s8)) fun s20=>
 Option.bind (
  bn (fun (zy:(Int×(List bY)×(List Bool)×(List Int)))=>
   let n22:=(decide (zy.1<s12.1))
   bif n22 then
    Option.bind (f37 zy.1 zy.2.1 zy.2.2.2 zy.2.2.1) fun c23=>
    let n24:=(dI (zy.1+1))
    some (.inl (n24,c23.2.1,c23.2.2,c23.1))
   else
    some (.inr (zy.2.1,zy.2.2.1,zy.2.2.2))) ((1:Int),s20.1,s20.2.1,s20.2.2)) fun xJ=>
 Option.bind (f37 0 xJ.1 xJ.2.2 xJ.2.1) fun Nb=>
 some Nb.2.2
def ahX:aV:=⟨akS,fun x=>f21 x.1 x.2.1 x.2.2.1 x.2.2.2⟩
theorem acS:ay Try.prog 21 ahX:=
 aF (T:=bW.of [(36,ahC),(9,sp9),(35,afu),(37,ahD)]) (ety:=ety) [.tmp 2] akT Try.func21 rfl rfl rfl (by decide +kernel) rfl (by decide +kernel) rfl (dQ.sound ⟨acs,H_,UN,acu,trivial⟩) dX mixed fun x=>by kernel_rfl
def f41 (p0:(List UInt8)) (p1:Int) (p2:(List (List UInt8))) (p3:(List aU)):Option (List (List UInt8)):=
 ck (true&&(decide ((((List.length jI)+p2.length)*(16:Nat))≤(140737488355328:Nat)))) <|
 let n0:=(jI++p2)
 Option.bind (f50 p3 n0) fun c1=>
 some c1
def afP:aV:=⟨akU,fun x=>f41 x.1 x.2.1 x.2.2.1 x.2.2.2⟩
theorem U0:ay Try.prog 41 afP:=
 aF (T:=bW.of [(50,ahE)]) (ety:=ety) [.tmp 2] akV Try.func41 rfl rfl rfl (by decide +kernel) rfl (by decide +kernel) rfl (dQ.sound ⟨acv,trivial⟩) dX mixed fun x=>by kernel_rfl
def acT (JW:Xk) (U1:T51) (U2:T61) (U3:T64) (p0:(List aU)) (p1:(List ah)) (p2:(List au)) (p3:(List (List UInt8))) (p4:Int) (p5:Int) (p6:Int) (p7:(List ak)):Option (Bool×(List ah)×(List au)×(List (List UInt8))×Int×Int×Int×(List ak)):=
 dR (
  bn (fun (s0:(Int×(List ah)×(List au)×(List (List UInt8))×Int×Int×Int×(List ak)))=>
   let n1:=(p0.length:Int)
   let n2:=(decide (s0.1<n1))
   bif n2 then
    ck (inB s0.1 p0.length) <|
    let n3:=(List.getD p0 s0.1.toNat jJ)
    Option.bind (U1 n3.kind n3.line n3.name n3.exprs n3.then' n3.else' s0.2.1 s0.2.2.1 s0.2.2.2.1 s0.2.2.2.2.1 s0.2.2.2.2.2.1 s0.2.2.2.2.2.2.1 s0.2.2.2.2.2.2.2) fun c4=>
    let n5:=(!c4.1)
    bif n5 then
     some (.inr (.inr (false,c4.2.1,c4.2.2.1,c4.2.2.2.1,c4.2.2.2.2.1,c4.2.2.2.2.2.1,c4.2.2.2.2.2.2.1,c4.2.2.2.2.2.2.2)))
    else
     let n6:=(dI (s0.1+1))
     some (.inl (n6,c4.2.1,c4.2.2.1,c4.2.2.2.1,c4.2.2.2.2.1,c4.2.2.2.2.2.1,c4.2.2.2.2.2.2.1,c4.2.2.2.2.2.2.2))
   else
    some (.inr (.inl (s0.2.1,s0.2.2.1,s0.2.2.2.1,s0.2.2.2.2.1,s0.2.2.2.2.2.1,s0.2.2.2.2.2.2.1,s0.2.2.2.2.2.2.2)))) ((0:Int),p1,p2,p3,p4,p5,p6,p7)) fun s7=>
 some (true,s7.1,s7.2.1,s7.2.2.1,s7.2.2.2.1,s7.2.2.2.2.1,s7.2.2.2.2.2.1,s7.2.2.2.2.2.2)
def acU (JW:Xk) (U1:T51) (U2:T61) (U3:T64) (p0:Int) (p1:Int) (p2:(List UInt8)) (p3:(List aI)) (p4:(List aU)) (p5:(List aU)) (p6:(List ah)) (p7:(List au)) (p8:(List (List UInt8))) (p9:Int) (p10:Int) (p11:Int) (p12:(List ak)):Option (Bool×(List ah)×(List au)×(List (List UInt8))×Int×Int×Int×(List ak)):=
 let n0:=(p8.length:Int)
 let n1:=(decide (p0=5))
 bif n1 then
  Option.bind (U2 p0 p1 p2 p3 p4 p5 n0 p6 p7 p8 p9 p10 p11 p12) fun c2=>
  some (true,c2.1,c2.2.1,c2.2.2.1,c2.2.2.2.1,c2.2.2.2.2.1,c2.2.2.2.2.2.1,c2.2.2.2.2.2.2)
 else
  Option.bind (
   bn (fun (s3:(Int×(List ah)×(List au)×(List (List UInt8))×Int×Int×Int×(List ak)))=>
    let n4:=(p3.length:Int)
    let n5:=(decide (s3.1<n4))
    bif n5 then
     ck (inB s3.1 p3.length) <|
     let n6:=(List.getD p3 s3.1.toNat gI)
     let n7:=(dI (n0+s3.1))
     Option.bind (f62 n6.kind n6.op n6.value n6.line n6.name n6.args n7 s3.2.1 s3.2.2.1 s3.2.2.2.1 s3.2.2.2.2.1 s3.2.2.2.2.2.1 s3.2.2.2.2.2.2.1 s3.2.2.2.2.2.2.2) fun c8=>
     let n9:=(dI (s3.1+1))
     some (.inl (n9,c8.1,c8.2.1,c8.2.2.1,c8.2.2.2.1,c8.2.2.2.2.1,c8.2.2.2.2.2.1,c8.2.2.2.2.2.2))
    else
     some (.inr (s3.2.1,s3.2.2.1,s3.2.2.2.1,s3.2.2.2.2.1,s3.2.2.2.2.2.1,s3.2.2.2.2.2.2.1,s3.2.2.2.2.2.2.2))) ((0:Int),p6,p7,p8,p9,p10,p11,p12)) fun s10=>
  let n11:=(decide (p0=1))
  Option.bind (
   bif n11 then
    some true
   else
    let n12:=(decide (p0=2))
    some n12) fun s13=>
  dR (
   bif s13 then
    Option.bind (f63 p2 s10.1 s10.2.1 s10.2.2.1 s10.2.2.2.1 s10.2.2.2.2.1 s10.2.2.2.2.2.1 s10.2.2.2.2.2.2) fun c14=>
    let n15:=(decide (0≤c14.1))
    Option.bind (
     bif n15 then
      Option.bind (f44 2 0 c14.1 n0 0 0 eInt c14.2.1 c14.2.2.1 c14.2.2.2.1 c14.2.2.2.2.1 c14.2.2.2.2.2.1 c14.2.2.2.2.2.2.1 s10.2.2.2.2.2.2) fun c16=>
      some (c16.1,c16.2.1,c16.2.2.1,c16.2.2.2.1,c16.2.2.2.2.1,c16.2.2.2.2.2.1,c16.2.2.2.2.2.2)
     else
      Option.bind (f53 c14.2.1 c14.2.2.1 p2) fun c17=>
      Option.bind (f44 6 0 0 n0 0 c17 eInt c14.2.1 c14.2.2.1 c14.2.2.2.1 c14.2.2.2.2.1 c14.2.2.2.2.2.1 c14.2.2.2.2.2.2.1 s10.2.2.2.2.2.2) fun c18=>
      some (c18.1,c18.2.1,c18.2.2.1,c18.2.2.2.1,c18.2.2.2.2.1,c18.2.2.2.2.2.1,c18.2.2.2.2.2.2)) fun wO=>
    some (.inl (wO.1,wO.2.1,wO.2.2.1,wO.2.2.2.1,wO.2.2.2.2.1,wO.2.2.2.2.2.1,wO.2.2.2.2.2.2))
   else
    let n20:=(decide (p0=3))
    dR (
     bif n20 then
      let n21:=(dI (n0+1))
      Option.bind (f53 s10.1 s10.2.1 p2) fun Iq=>
      Option.bind (f44 8 0 0 n0 n21 Iq eInt s10.1 s10.2.1 s10.2.2.1 s10.2.2.2.1 s10.2.2.2.2.1 s10.2.2.2.2.2.1 s10.2.2.2.2.2.2) fun c23=>
      some (.inl (c23.1,c23.2.1,c23.2.2.1,c23.2.2.2.1,c23.2.2.2.2.1,c23.2.2.2.2.2.1,c23.2.2.2.2.2.2))
     else
      let n24:=(decide (p0=6))
      bif n24 then
       Option.bind (f45 s10.2.2.2.2.2.1 3 n0 0 0 s10.1 s10.2.1 s10.2.2.1 s10.2.2.2.1 s10.2.2.2.2.1 s10.2.2.2.2.2.1 s10.2.2.2.2.2.2) fun c25=>
       some (.inr (.inr (false,c25.1,c25.2.1,c25.2.2.1,c25.2.2.2.1,c25.2.2.2.2.1,c25.2.2.2.2.2.1,c25.2.2.2.2.2.2)))
      else
       let n26:=(decide (p0=7))
       dR (
        bif n26 then
         Option.bind (f44 10 0 0 n0 0 0 eInt s10.1 s10.2.1 s10.2.2.1 s10.2.2.2.1 s10.2.2.2.2.1 s10.2.2.2.2.2.1 s10.2.2.2.2.2.2) fun I5=>
         some (.inl (I5.1,I5.2.1,I5.2.2.1,I5.2.2.2.1,I5.2.2.2.2.1,I5.2.2.2.2.2.1,I5.2.2.2.2.2.2))
        else
         let n28:=(decide (p0=4))
         bif n28 then
          Option.bind (U3 p0 p1 p2 p3 p4 p5 n0 s10.1 s10.2.1 s10.2.2.1 s10.2.2.2.1 s10.2.2.2.2.1 s10.2.2.2.2.2.1 s10.2.2.2.2.2.2) fun c29=>
          some (.inr (.inr (.inr (c29.1,c29.2.1,c29.2.2.1,c29.2.2.2.1,c29.2.2.2.2.1,c29.2.2.2.2.2.1,c29.2.2.2.2.2.2.1,c29.2.2.2.2.2.2.2))))
         else
          some (.inl (s10.1,s10.2.1,s10.2.2.1,s10.2.2.2.1,s10.2.2.2.2.1,s10.2.2.2.2.2.1,s10.2.2.2.2.2.2))) fun rX=>
       some (.inl (rX.1,rX.2.1,rX.2.2.1,rX.2.2.2.1,rX.2.2.2.2.1,rX.2.2.2.2.2.1,rX.2.2.2.2.2.2))) fun Em=>
    some (.inl (Em.1,Em.2.1,Em.2.2.1,Em.2.2.2.1,Em.2.2.2.2.1,Em.2.2.2.2.2.1,Em.2.2.2.2.2.2))) fun pI=>
  some (true,pI.1,pI.2.1,pI.2.2.1,pI.2.2.2.1,pI.2.2.2.2.1,pI.2.2.2.2.2.1,pI.2.2.2.2.2.2)
def acV (JW:Xk) (U1:T51) (U2:T61) (U3:T64) (p0:Int) (p1:Int) (p2:(List UInt8)) (p3:(List aI)) (p4:(List aU)) (p5:(List aU)) (p6:Int) (p7:(List ah)) (p8:(List au)) (p9:(List (List UInt8))) (p10:Int) (p11:Int) (p12:Int) (p13:(List ak)):Option ((List ah)×(List au)×(List (List UInt8))×Int×Int×Int×(List ak)):=
 Option.bind (f42 p1 p7 p8 p9 p10 p11 p12 p13) fun c0=>
 Option.bind (f45 p12 1 0 c0.1 0 c0.2.1 c0.2.2.1 c0.2.2.2.1 c0.2.2.2.2.1 c0.2.2.2.2.2.1 c0.2.2.2.2.2.2.1 c0.2.2.2.2.2.2.2) fun c1=>
 ck (inB (0:Int) p3.length) <|
 let n2:=(List.getD p3 (Int.toNat 0) gI)
 Option.bind (f62 n2.kind n2.op n2.value n2.line n2.name n2.args p6 c1.1 c1.2.1 c1.2.2.1 c1.2.2.2.1 c1.2.2.2.2.1 c1.2.2.2.2.2.1 c1.2.2.2.2.2.2) fun c3=>
 Option.bind (f42 p1 c3.1 c3.2.1 c3.2.2.1 c3.2.2.2.1 c3.2.2.2.2.1 c3.2.2.2.2.2.1 c3.2.2.2.2.2.2) fun c4=>
 Option.bind (JW p4 c4.2.1 c4.2.2.1 c4.2.2.2.1 c4.2.2.2.2.1 c4.2.2.2.2.2.1 c4.2.2.2.2.2.2.1 c4.2.2.2.2.2.2.2) fun c5=>
 Option.bind (
  bif c5.1 then
   Option.bind (f45 c5.2.2.2.2.2.2.1 1 0 c0.1 0 c5.2.1 c5.2.2.1 c5.2.2.2.1 c5.2.2.2.2.1 c5.2.2.2.2.2.1 c5.2.2.2.2.2.2.1 c5.2.2.2.2.2.2.2) fun c6=>
   some (c6.1,c6.2.1,c6.2.2.1,c6.2.2.2.1,c6.2.2.2.2.1,c6.2.2.2.2.2.1,c6.2.2.2.2.2.2)
  else
   some (c5.2.1,c5.2.2.1,c5.2.2.2.1,c5.2.2.2.2.1,c5.2.2.2.2.2.1,c5.2.2.2.2.2.2.1,c5.2.2.2.2.2.2.2)) fun s7=>
 Option.bind (f42 p1 s7.1 s7.2.1 s7.2.2.1 s7.2.2.2.1 s7.2.2.2.2.1 s7.2.2.2.2.2.1 s7.2.2.2.2.2.2) fun c8=>
 Option.bind (f45 c3.2.2.2.2.2.1 2 p6 c4.1 c8.1 c8.2.1 c8.2.2.1 c8.2.2.2.1 c8.2.2.2.2.1 c8.2.2.2.2.2.1 c8.2.2.2.2.2.2.1 c8.2.2.2.2.2.2.2) fun c9=>
 some (c9.1,c9.2.1,c9.2.2.1,c9.2.2.2.1,c9.2.2.2.2.1,c9.2.2.2.2.2.1,c9.2.2.2.2.2.2)
def acW (JW:Xk) (U1:T51) (U2:T61) (U3:T64) (p0:Int) (p1:Int) (p2:(List UInt8)) (p3:(List aI)) (p4:(List aU)) (p5:(List aU)) (p6:Int) (p7:(List ah)) (p8:(List au)) (p9:(List (List UInt8))) (p10:Int) (p11:Int) (p12:Int) (p13:(List ak)):Option (Bool×(List ah)×(List au)×(List (List UInt8))×Int×Int×Int×(List ak)):=
 Option.bind (f42 p1 p7 p8 p9 p10 p11 p12 p13) fun c0=>
 Option.bind (JW p4 c0.2.1 c0.2.2.1 c0.2.2.2.1 c0.2.2.2.2.1 c0.2.2.2.2.2.1 c0.2.2.2.2.2.2.1 c0.2.2.2.2.2.2.2) fun c1=>
 let n2:=(p5.length:Int)
 let n3:=(decide (n2=0))
 bif n3 then
  Option.bind (f42 p1 c1.2.1 c1.2.2.1 c1.2.2.2.1 c1.2.2.2.2.1 c1.2.2.2.2.2.1 c1.2.2.2.2.2.2.1 c1.2.2.2.2.2.2.2) fun c4=>
  Option.bind (f45 p12 2 p6 c0.1 c4.1 c4.2.1 c4.2.2.1 c4.2.2.2.1 c4.2.2.2.2.1 c4.2.2.2.2.2.1 c4.2.2.2.2.2.2.1 c4.2.2.2.2.2.2.2) fun c5=>
  Option.bind (
   bif c1.1 then
    Option.bind (f45 c1.2.2.2.2.2.2.1 1 0 c4.1 0 c5.1 c5.2.1 c5.2.2.1 c5.2.2.2.1 c5.2.2.2.2.1 c5.2.2.2.2.2.1 c5.2.2.2.2.2.2) fun c6=>
    some (c6.1,c6.2.1,c6.2.2.1,c6.2.2.2.1,c6.2.2.2.2.1,c6.2.2.2.2.2.1,c6.2.2.2.2.2.2)
   else
    some (c5.1,c5.2.1,c5.2.2.1,c5.2.2.2.1,c5.2.2.2.2.1,c5.2.2.2.2.2.1,c5.2.2.2.2.2.2)) fun s7=>
  some (true,s7.1,s7.2.1,s7.2.2.1,s7.2.2.2.1,s7.2.2.2.2.1,s7.2.2.2.2.2.1,s7.2.2.2.2.2.2)
 else
  Option.bind (f42 p1 c1.2.1 c1.2.2.1 c1.2.2.2.1 c1.2.2.2.2.1 c1.2.2.2.2.2.1 c1.2.2.2.2.2.2.1 c1.2.2.2.2.2.2.2) fun c8=>
  Option.bind (f45 p12 2 p6 c0.1 c8.1 c8.2.1 c8.2.2.1 c8.2.2.2.1 c8.2.2.2.2.1 c8.2.2.2.2.2.1 c8.2.2.2.2.2.2.1 c8.2.2.2.2.2.2.2) fun c9=>
  Option.bind (JW p5 c9.1 c9.2.1 c9.2.2.1 c9.2.2.2.1 c9.2.2.2.2.1 c9.2.2.2.2.2.1 c9.2.2.2.2.2.2) fun c10=>
  Option.bind (
   let n11:=(!c1.1)
   bif n11 then
    let n12:=(!c10.1)
    let n13:=n12
    some n13
   else
    some false) fun s14=>
  bif s14 then
   some (false,c10.2.1,c10.2.2.1,c10.2.2.2.1,c10.2.2.2.2.1,c10.2.2.2.2.2.1,c10.2.2.2.2.2.2.1,c10.2.2.2.2.2.2.2)
  else
   Option.bind (f42 p1 c10.2.1 c10.2.2.1 c10.2.2.2.1 c10.2.2.2.2.1 c10.2.2.2.2.2.1 c10.2.2.2.2.2.2.1 c10.2.2.2.2.2.2.2) fun c15=>
   Option.bind (
    bif c1.1 then
     Option.bind (f45 c1.2.2.2.2.2.2.1 1 0 c15.1 0 c15.2.1 c15.2.2.1 c15.2.2.2.1 c15.2.2.2.2.1 c15.2.2.2.2.2.1 c15.2.2.2.2.2.2.1 c15.2.2.2.2.2.2.2) fun c16=>
     some (c16.1,c16.2.1,c16.2.2.1,c16.2.2.2.1,c16.2.2.2.2.1,c16.2.2.2.2.2.1,c16.2.2.2.2.2.2)
    else
     some (c15.2.1,c15.2.2.1,c15.2.2.2.1,c15.2.2.2.2.1,c15.2.2.2.2.2.1,c15.2.2.2.2.2.2.1,c15.2.2.2.2.2.2.2)) fun oC=>
   Option.bind (
    bif c10.1 then
     Option.bind (f45 c10.2.2.2.2.2.2.1 1 0 c15.1 0 oC.1 oC.2.1 oC.2.2.1 oC.2.2.2.1 oC.2.2.2.2.1 oC.2.2.2.2.2.1 oC.2.2.2.2.2.2) fun c18=>
     some (c18.1,c18.2.1,c18.2.2.1,c18.2.2.2.1,c18.2.2.2.2.1,c18.2.2.2.2.2.1,c18.2.2.2.2.2.2)
    else
     some (oC.1,oC.2.1,oC.2.2.1,oC.2.2.2.1,oC.2.2.2.2.1,oC.2.2.2.2.2.1,oC.2.2.2.2.2.2)) fun wO=>
   some (true,wO.1,wO.2.1,wO.2.2.1,wO.2.2.2.1,wO.2.2.2.2.1,wO.2.2.2.2.2.1,wO.2.2.2.2.2.2)
def eF:Nat→Xk×T51×T61×T64
 |0=>(fun _ _ _ _ _ _ _ _=>none,fun _ _ _ _ _ _ _ _ _ _ _ _ _=>none,fun _ _ _ _ _ _ _ _ _ _ _ _ _ _=>none,fun _ _ _ _ _ _ _ _ _ _ _ _ _ _=>none)
 |n+1=>(acT (eF n).1 (eF n).2.1 (eF n).2.2.1 (eF n).2.2.2,acU (eF n).1 (eF n).2.1 (eF n).2.2.1 (eF n).2.2.2,acV (eF n).1 (eF n).2.1 (eF n).2.2.1 (eF n).2.2.2,acW (eF n).1 (eF n).2.1 (eF n).2.2.1 (eF n).2.2.2)
def WU (n:Nat):Xk:=(eF n).1
def wP (n:Nat):aV:=⟨ab5,fun x=>(eF n).1 x.1 x.2.1 x.2.2.1 x.2.2.2.1 x.2.2.2.2.1 x.2.2.2.2.2.1 x.2.2.2.2.2.2.1 x.2.2.2.2.2.2.2⟩
def acX (n:Nat):T51:=(eF n).2.1
def yh (n:Nat):aV:=⟨ab6,fun x=>(eF n).2.1 x.1 x.2.1 x.2.2.1 x.2.2.2.1 x.2.2.2.2.1 x.2.2.2.2.2.1 x.2.2.2.2.2.2.1 x.2.2.2.2.2.2.2.1 x.2.2.2.2.2.2.2.2.1 x.2.2.2.2.2.2.2.2.2.1 x.2.2.2.2.2.2.2.2.2.2.1 x.2.2.2.2.2.2.2.2.2.2.2.1 x.2.2.2.2.2.2.2.2.2.2.2.2⟩
def acY (n:Nat):T61:=(eF n).2.2.1
def yj (n:Nat):aV:=⟨ab7,fun x=>(eF n).2.2.1 x.1 x.2.1 x.2.2.1 x.2.2.2.1 x.2.2.2.2.1 x.2.2.2.2.2.1 x.2.2.2.2.2.2.1 x.2.2.2.2.2.2.2.1 x.2.2.2.2.2.2.2.2.1 x.2.2.2.2.2.2.2.2.2.1 x.2.2.2.2.2.2.2.2.2.2.1 x.2.2.2.2.2.2.2.2.2.2.2.1 x.2.2.2.2.2.2.2.2.2.2.2.2.1 x.2.2.2.2.2.2.2.2.2.2.2.2.2⟩
def acZ (n:Nat):T64:=(eF n).2.2.2
def yt (n:Nat):aV:=⟨ab8,fun x=>(eF n).2.2.2 x.1 x.2.1 x.2.2.1 x.2.2.2.1 x.2.2.2.2.1 x.2.2.2.2.2.1 x.2.2.2.2.2.2.1 x.2.2.2.2.2.2.2.1 x.2.2.2.2.2.2.2.2.1 x.2.2.2.2.2.2.2.2.2.1 x.2.2.2.2.2.2.2.2.2.2.1 x.2.2.2.2.2.2.2.2.2.2.2.1 x.2.2.2.2.2.2.2.2.2.2.2.2.1 x.2.2.2.2.2.2.2.2.2.2.2.2.2⟩
theorem ZE (n:Nat) (h43:ay Try.prog 43 (wP n)) (h51:ay Try.prog 51 (yh n)) (h61:ay Try.prog 61 (yj n)) (h64:ay Try.prog 64 (yt n)):ay Try.prog 43 (wP (n+1)):=
 aF (T:=bW.of [(43,wP n),(51,yh n),(61,yj n),(64,yt n)]) (ety:=ahs) [.tmp 4] akW Try.func43 rfl rfl rfl (show ab5.er.ok=true by decide +kernel) rfl (show ab5.nargs≤Try.f43.ntmps by decide +kernel) rfl (dQ.sound ⟨h43,h51,h61,h64,trivial⟩) dX mixed fun x=>by kernel_rfl
theorem ZF (n:Nat) (h43:ay Try.prog 43 (wP n)) (h51:ay Try.prog 51 (yh n)) (h61:ay Try.prog 61 (yj n)) (h64:ay Try.prog 64 (yt n)):ay Try.prog 51 (yh (n+1)):=
 aF (T:=bW.of [(62,afK),(63,afD),(44,Zl),(53,Zn),(45,WT),(43,wP n),(51,yh n),(61,yj n),(64,yt n)]) (ety:=aht) [.tmp 4] akX Try.func51 rfl rfl rfl (show ab6.er.ok=true by decide +kernel) rfl (show ab6.nargs≤Try.f51.ntmps by decide +kernel) rfl (dQ.sound ⟨UW,UU,EF,EG,AB,h43,h51,h61,h64,trivial⟩) dX mixed fun x=>by kernel_rfl
theorem ZG (n:Nat) (h43:ay Try.prog 43 (wP n)) (h51:ay Try.prog 51 (yh n)) (h61:ay Try.prog 61 (yj n)) (h64:ay Try.prog 64 (yt n)):ay Try.prog 61 (yj (n+1)):=
 aF (T:=bW.of [(42,Zk),(45,WT),(62,afK),(43,wP n),(51,yh n),(61,yj n),(64,yt n)]) (ety:=ahu) [] akY Try.func61 rfl rfl rfl (show ab7.er.ok=true by decide +kernel) rfl (show ab7.nargs≤Try.f61.ntmps by decide +kernel) rfl (dQ.sound ⟨ED,AB,UW,h43,h51,h61,h64,trivial⟩) dX mixed fun x=>by kernel_rfl
theorem ZH (n:Nat) (h43:ay Try.prog 43 (wP n)) (h51:ay Try.prog 51 (yh n)) (h61:ay Try.prog 61 (yj n)) (h64:ay Try.prog 64 (yt n)):ay Try.prog 64 (yt (n+1)):=
 aF (T:=bW.of [(42,Zk),(45,WT),(43,wP n),(51,yh n),(61,yj n),(64,yt n)]) (ety:=ahv) [.tmp 6] akZ Try.func64 rfl rfl rfl (show ab8.er.ok=true by decide +kernel) rfl (show ab8.nargs≤Try.f64.ntmps by decide +kernel) rfl (dQ.sound ⟨ED,AB,h43,h51,h61,h64,trivial⟩) dX mixed fun x=>by kernel_rfl
theorem DY :∀n,ay Try.prog 43 (wP n)∧ay Try.prog 51 (yh n)∧ay Try.prog 61 (yj n)∧ay Try.prog 64 (yt n)
 |0=>⟨bZ Try.func43 rfl rfl (show ab5.er.ok=true by decide +kernel) fun x=>rfl,bZ Try.func51 rfl rfl (show ab6.er.ok=true by decide +kernel) fun x=>rfl,bZ Try.func61 rfl rfl (show ab7.er.ok=true by decide +kernel) fun x=>rfl,bZ Try.func64 rfl rfl (show ab8.er.ok=true by decide +kernel) fun x=>rfl⟩
 |n+1=>by
  have ih:=DY n
  exact ⟨ZE n (ih.1) (ih.2.1) (ih.2.2.1) (ih.2.2.2),ZF n (ih.1) (ih.2.1) (ih.2.2.1) (ih.2.2.2),ZG n (ih.1) (ih.2.1) (ih.2.2.1) (ih.2.2.2),ZH n (ih.1) (ih.2.1) (ih.2.2.1) (ih.2.2.2)⟩
def f43:Xk:=WU 1048576
def ahY:aV:=wP 1048576
theorem ac0:ay Try.prog 43 ahY:=(DY 1048576).1
def f49 (p0:(List UInt8)) (p1:Int) (p2:Int) (p3:(List ak)):Option (List Bool):=
 let n0:=(p3.length:Int)
 ck (Gn (1:Nat) n0 n0) <|
 let n1:=(List.replicate n0.toNat false)
 let n2:=(n1.length:Int)
 let n3:=(decide (n2=0))
 bif n3 then
  some n1
 else
  ck (inB (0:Int) n1.length) <|
  let n4:=(List.set n1 (Int.toNat (0:Int)) true)
  let n5:=[(0:Int)]
  Option.bind (
   bn (fun (s6:((List Bool)×(List Int)))=>
    let n7:=(s6.2.length:Int)
    let n8:=(decide (0<n7))
    bif n8 then
     let n9:=(s6.2.length:Int)
     let n10:=(dI (n9-1))
     ck (inB n10 s6.2.length) <|
     let n11:=(List.getD s6.2 n10.toNat 0)
     let n12:=(s6.2.length:Int)
     let n13:=(dI (n12-1))
     ck ((decide (0≤n13))&&(decide (n13≤(s6.2.length:Int)))) <|
     let n14:=(List.take n13.toNat s6.2)
     ck (inB n11 p3.length) <|
     let n15:=(List.getD p3 n11.toNat aj)
     Option.bind (f60 n15.aQ n15.AA n15.fE n15.bP) fun c16=>
     Option.bind (
      bn (fun (oC:(Int×(List Bool)×(List Int)))=>
       let n18:=(c16.length:Int)
       let n19:=(decide (oC.1<n18))
       bif n19 then
        ck (inB oC.1 c16.length) <|
        let n20:=(List.getD c16 oC.1.toNat 0)
        ck (inB n20 oC.2.1.length) <|
        let n21:=(List.getD oC.2.1 n20.toNat false)
        let n22:=(!n21)
        Option.bind (
         bif n22 then
          ck (inB oC.1 c16.length) <|
          let n23:=(List.getD c16 oC.1.toNat 0)
          ck (inB n23 oC.2.1.length) <|
          let n24:=(List.set oC.2.1 n23.toNat true)
          ck (inB oC.1 c16.length) <|
          let n25:=(List.getD c16 oC.1.toNat 0)
          let n26:=[n25]
          ck (bF oC.2.2.length n26.length 8) <|
          let n27:=(oC.2.2++n26)
          some (n24,n27)
         else
          some (oC.2.1,oC.2.2)) fun Na=>
        let n29:=(dI (oC.1+1))
        some (.inl (n29,Na.1,Na.2))
       else
        some (.inr (oC.2.1,oC.2.2))) ((0:Int),s6.1,n14)) fun rX=>
     some (.inl (rX.1,rX.2))
    else
     some (.inr s6.1)) (n4,n5)) fun Em=>
  some Em
def afS:aV:=⟨ak0,fun x=>f49 x.1 x.2.1 x.2.2.1 x.2.2.2⟩
theorem U4:ay Try.prog 49 afS:=
 aF (T:=bW.of [(60,afB)]) (ety:=ahw) [.tmp 2] ak1 Try.func49 rfl rfl rfl (by decide +kernel) rfl (by decide +kernel) rfl (dQ.sound ⟨UR,trivial⟩) dX mixed fun x=>by kernel_rfl
def afT (aej:T58) (p0:(List aU)) (p1:(List ah)) (p2:(List au)) (p3:Int) (p4:Int) (p5:(List (List UInt8))):Option ((List ah)×(List au)×Int×Int×(List aU)×(List (List UInt8))):=
 Option.bind (
  bn (fun (s0:(Int×(List ah)×(List au)×Int×Int×(List aU)×(List (List UInt8))))=>
   let n1:=(p0.length:Int)
   let n2:=(decide (s0.1<n1))
   bif n2 then
    ck (inB s0.1 p0.length) <|
    let n3:=(List.getD p0 s0.1.toNat jJ)
    Option.bind (
     bn (fun (s4:(Int×(List ah)×(List au)×Int×Int×(List aI)))=>
      let n5:=((List.length n3.exprs):Int)
      let n6:=(decide (s4.1<n5))
      bif n6 then
       ck (inB s4.1 (List.length n3.exprs)) <|
       let n7:=(List.getD n3.exprs s4.1.toNat gI)
       Option.bind (f68 n7.kind n7.op n7.value n7.line n7.name n7.args) fun c8=>
       let n9:=(decide (64<c8))
       Option.bind (
        bif n9 then
         ck (inB s4.1 (List.length n3.exprs)) <|
         let n10:=(List.getD n3.exprs s4.1.toNat gI)
         Option.bind (f69 n10.line 5 s4.2.1 s4.2.2.1 s4.2.2.2.1 s4.2.2.2.2.1 s0.2.2.2.2.2.2) fun c11=>
         some (c11.1,c11.2.1,c11.2.2.1,c11.2.2.2.1)
        else
         some (s4.2.1,s4.2.2.1,s4.2.2.2.1,s4.2.2.2.2.1)) fun s12=>
       ck (inB s4.1 (List.length n3.exprs)) <|
       let n13:=(List.getD n3.exprs s4.1.toNat gI)
       Option.bind (f70 n13.kind n13.op n13.value n13.line n13.name n13.args s12.1 s12.2.1 s12.2.2.1 s12.2.2.2 s0.2.2.2.2.2.2) fun c14=>
       let n15:=[(aI.mk c14.1 c14.2.1 c14.2.2.1 c14.2.2.2.1 c14.2.2.2.2.1 c14.2.2.2.2.2.2.2.2.2.2)]
       ck (bF s4.2.2.2.2.2.length n15.length 72) <|
       let n16:=(s4.2.2.2.2.2++n15)
       let n17:=(dI (s4.1+1))
       some (.inl (n17,c14.2.2.2.2.2.1,c14.2.2.2.2.2.2.1,c14.2.2.2.2.2.2.2.1,c14.2.2.2.2.2.2.2.2.1,n16))
      else
       some (.inr (s4.2.1,s4.2.2.1,s4.2.2.2.1,s4.2.2.2.2.1,s4.2.2.2.2.2))) ((0:Int),s0.2.1,s0.2.2.1,s0.2.2.2.1,s0.2.2.2.2.1,nP)) fun Xl=>
    Option.bind (f71 n3.name Xl.1 Xl.2.1 Xl.2.2.1 Xl.2.2.2.1 s0.2.2.2.2.2.2) fun c19=>
    let n20:=(decide (n3.kind=1))
    Option.bind (
     bif n20 then
      let n21:=(!(decide (c19.1=0)))
      Option.bind (
       bif n21 then
        Option.bind (f69 n3.line 9 c19.2.1 c19.2.2.1 c19.2.2.2.1 c19.2.2.2.2.1 s0.2.2.2.2.2.2) fun Iq=>
        some (Iq.1,Iq.2.1,Iq.2.2.1,Iq.2.2.2.1)
       else
        some (c19.2.1,c19.2.2.1,c19.2.2.2.1,c19.2.2.2.2.1)) fun s23=>
      let n24:=[n3.name]
      ck (bF s0.2.2.2.2.2.2.length n24.length 16) <|
      let n25:=(s0.2.2.2.2.2.2++n24)
      some (s23.1,s23.2.1,s23.2.2.1,s23.2.2.2,n25)
     else
      let n26:=(decide (n3.kind=2))
      Option.bind (
       bif n26 then
        some true
       else
        let n27:=(decide (n3.kind=3))
        some n27) fun Na=>
      Option.bind (
       bif Na then
        let n29:=(decide (c19.1=0))
        Option.bind (
         bif n29 then
          Option.bind (f69 n3.line 8 c19.2.1 c19.2.2.1 c19.2.2.2.1 c19.2.2.2.2.1 s0.2.2.2.2.2.2) fun JR=>
          some (JR.1,JR.2.1,JR.2.2.1,JR.2.2.2.1)
         else
          Option.bind (
           let n31:=(decide (n3.kind=2))
           bif n31 then
            let n32:=(!(decide (c19.1=1)))
            let n33:=n32
            bif n33 then
             let n34:=(!(decide (c19.1=2)))
             let n35:=n34
             bif n35 then
              some true
             else
              let n36:=(decide (n3.kind=3))
              bif n36 then
               let n37:=(!(decide (c19.1=3)))
               let n38:=n37
               let n39:=n38
               some n39
              else
               let n40:=false
               some n40
            else
             let n41:=(decide (n3.kind=3))
             bif n41 then
              let n42:=(!(decide (c19.1=3)))
              let n43:=n42
              let n44:=n43
              some n44
             else
              let n45:=false
              some n45
           else
            let n46:=(decide (n3.kind=3))
            bif n46 then
             let n47:=(!(decide (c19.1=3)))
             let n48:=n47
             let n49:=n48
             some n49
            else
             let n50:=false
             some n50) fun s51=>
          Option.bind (
           bif s51 then
            Option.bind (f69 n3.line 10 c19.2.1 c19.2.2.1 c19.2.2.2.1 c19.2.2.2.2.1 s0.2.2.2.2.2.2) fun WV=>
            some (WV.1,WV.2.1,WV.2.2.1,WV.2.2.2.1)
           else
            some (c19.2.1,c19.2.2.1,c19.2.2.2.1,c19.2.2.2.2.1)) fun s53=>
          some (s53.1,s53.2.1,s53.2.2.1,s53.2.2.2)) fun ZI=>
        some (ZI.1,ZI.2.1,ZI.2.2.1,ZI.2.2.2)
       else
        some (c19.2.1,c19.2.2.1,c19.2.2.2.1,c19.2.2.2.2.1)) fun s55=>
      some (s55.1,s55.2.1,s55.2.2.1,s55.2.2.2,s0.2.2.2.2.2.2)) fun s56=>
    Option.bind (aej n3.then' s56.1 s56.2.1 s56.2.2.1 s56.2.2.2.1 s56.2.2.2.2) fun c57=>
    Option.bind (aej n3.else' c57.1 c57.2.1 c57.2.2.1 c57.2.2.2.1 c57.2.2.2.2.2) fun U5=>
    let n59:=[(aU.mk n3.kind n3.line n3.name Xl.2.2.2.2 c57.2.2.2.2.1 U5.2.2.2.2.1)]
    ck (bF s0.2.2.2.2.2.1.length n59.length 104) <|
    let n60:=(s0.2.2.2.2.2.1++n59)
    let n61:=(dI (s0.1+1))
    some (.inl (n61,U5.1,U5.2.1,U5.2.2.1,U5.2.2.2.1,n60,U5.2.2.2.2.2))
   else
    some (.inr (s0.2.1,s0.2.2.1,s0.2.2.2.1,s0.2.2.2.2.1,s0.2.2.2.2.2.1,s0.2.2.2.2.2.2))) ((0:Int),p1,p2,p3,p4,ig,p5)) fun s62=>
 some (s62.1,s62.2.1,s62.2.2.1,s62.2.2.2.1,s62.2.2.2.2.1,s62.2.2.2.2.2)
def Sj:Nat→T58
 |0=>(fun _ _ _ _ _ _=>none)
 |n+1=>(afT (Sj n))
def afU (n:Nat):T58:=(Sj n)
def PN (n:Nat):aV:=⟨ab9,fun x=>(Sj n) x.1 x.2.1 x.2.2.1 x.2.2.2.1 x.2.2.2.2.1 x.2.2.2.2.2⟩
theorem ZJ (n:Nat) (h58:ay Try.prog 58 (PN n)):ay Try.prog 58 (PN (n+1)):=
 aF (T:=bW.of [(68,ahJ),(69,acB),(70,ahU),(71,Zr),(58,PN n)]) (ety:=ety) [.tmp 4] ak2 Try.func58 rfl rfl rfl (show ab9.er.ok=true by decide +kernel) rfl (show ab9.nargs≤Try.f58.ntmps by decide +kernel) rfl (dQ.sound ⟨acA,MI,acN,EI,h58,trivial⟩) dX mixed fun x=>by kernel_rfl
theorem DZ :∀n,ay Try.prog 58 (PN n)
 |0=>bZ Try.func58 rfl rfl (show ab9.er.ok=true by decide +kernel) fun x=>rfl
 |n+1=>by
  have ih:=DZ n
  exact ZJ n (ih)
def f58:T58:=afU 1048576
def ahZ:aV:=PN 1048576
theorem ac3:ay Try.prog 58 ahZ:=(DZ 1048576)
def f66 (p0:(List ah)) (p1:(List aH)) (p2:Int) (p3:Int) (p4:(List UInt8)) (p5:Int) (p6:Int) (p7:(List ak)) (p8:Int) (p9:Int) (p10:Int) (p11:Int) (p12:Int) (p13:Int) (p14:(List Int)):Option Int:=
 Option.bind (
  let n0:=(decide (p8<1))
  bif n0 then
   some true
  else
   let n1:=(decide (14<p8))
   let n2:=n1
   bif n2 then
    some true
   else
    let n3:=(decide (p8=3))
    bif n3 then
     let n4:=(!(decide (p9=1)))
     let n5:=n4
     bif n5 then
      let n6:=(!(decide (p9=2)))
      let n7:=n6
      let n8:=n7
      bif n8 then
       some true
      else
       let n9:=(decide (p8=4))
       bif n9 then
        let n10:=(decide (p9<3))
        bif n10 then
         let n11:=true
         let n12:=n11
         some n12
        else
         let n13:=(decide (11<p9))
         let n14:=n13
         let n15:=n14
         let n16:=n15
         some n16
       else
        let n17:=false
        some n17
     else
      let n18:=false
      bif n18 then
       some true
      else
       let n19:=(decide (p8=4))
       bif n19 then
        let n20:=(decide (p9<3))
        bif n20 then
         let n21:=true
         let n22:=n21
         some n22
        else
         let n23:=(decide (11<p9))
         let n24:=n23
         let n25:=n24
         let n26:=n25
         some n26
       else
        let n27:=false
        some n27
    else
     let n28:=false
     bif n28 then
      some true
     else
      let n29:=(decide (p8=4))
      bif n29 then
       let n30:=(decide (p9<3))
       bif n30 then
        let n31:=true
        let n32:=n31
        some n32
       else
        let n33:=(decide (11<p9))
        let n34:=n33
        let n35:=n34
        let n36:=n35
        some n36
      else
       let n37:=false
       some n37) fun pR=>
 bif pR then
  some (17:Int)
 else
  Option.bind (f75 p8 p9 p10 p11 p12 p13 p14) fun c39=>
  Option.bind (f76 p8 p9 p10 p11 p12 p13 p14) fun c40=>
  Option.bind (
   bif c40.2 then
    let n41:=[c40.1]
    ck (bF c39.length n41.length 8) <|
    let n42:=(c39++n41)
    some n42
   else
    some c39) fun s43=>
  dR (
   bn (fun (s44:Int)=>
    let n45:=(s43.length:Int)
    let n46:=(decide (s44<n45))
    bif n46 then
     Option.bind (
      ck (inB s44 s43.length) <|
      let n47:=(List.getD s43 s44.toNat 0)
      let n48:=(decide (n47<0))
      bif n48 then
       some true
      else
       ck (inB s44 s43.length) <|
       let n49:=(List.getD s43 s44.toNat 0)
       let n50:=(decide (p6≤n49))
       let n51:=n50
       some n51) fun s52=>
     bif s52 then
      some (.inr (.inr (14:Int)))
     else
      let n53:=(dI (s44+1))
      some (.inl n53)
    else
     some (.inr (.inl ()))) (0:Int)) fun ZI=>
  let n55:=(decide (p8=5))
  Option.bind (
   bif n55 then
    some true
   else
    let n56:=(decide (p8=6))
    some n56) fun s57=>
  dR (
   bif s57 then
    Option.bind (f77 p0 p1 p2 p3 p13 false) fun U5=>
    let n59:=(!U5)
    bif n59 then
     some (.inr (16:Int))
    else
     some (.inl ())
   else
    let n60:=(decide (p8=7))
    Option.bind (
     bif n60 then
      some true
     else
      let n61:=(decide (p8=8))
      some n61) fun s62=>
    dR (
     bif s62 then
      Option.bind (f77 p0 p1 p2 p3 p13 true) fun c63=>
      let n64:=(!c63)
      bif n64 then
       some (.inr (.inr (16:Int)))
      else
       some (.inl ())
     else
      let n65:=(decide (p8=11))
      dR (
       bif n65 then
        Option.bind (
         let n66:=(decide (p13<0))
         bif n66 then
          some true
         else
          let n67:=(p1.length:Int)
          let n68:=(decide (n67≤p13))
          let n69:=n68
          some n69) fun s70=>
        bif s70 then
         some (.inr (.inr (.inr (15:Int))))
        else
         ck (inB p13 p1.length) <|
         let n71:=(List.getD p1 p13.toNat aA)
         let n72:=(p14.length:Int)
         let n73:=(!(decide (n71.params=n72)))
         bif n73 then
          some (.inr (.inr (.inr (11:Int))))
         else
          some (.inl ())
       else
        let n74:=(decide (p8=12))
        dR (
         bif n74 then
          let n75:=(p14.length:Int)
          let n76:=(decide (250<n75))
          bif n76 then
           some (.inr (.inr (.inr (.inr (11:Int)))))
          else
           some (.inl ())
         else
          let n77:=(decide (p8=14))
          dR (
           bif n77 then
            Option.bind (
             let n78:=(decide (p13<0))
             bif n78 then
              some true
             else
              let n79:=(decide (p2≤p13))
              let n80:=n79
              some n80) fun s81=>
            bif s81 then
             some (.inr (.inr (.inr (.inr (.inr (15:Int))))))
            else
             some (.inl ())
           else
            let n82:=(decide (p8=13))
            dR (
             bif n82 then
              Option.bind (
               let n83:=(decide (p13<0))
               bif n83 then
                some true
               else
                let n84:=(decide (p3≤p13))
                let n85:=n84
                some n85) fun s86=>
              bif s86 then
               some (.inr (.inr (.inr (.inr (.inr (.inr (1:Int)))))))
              else
               some (.inl ())
             else
              some (.inl ())) fun s87=>
            some (.inl ())) fun s88=>
          some (.inl ())) fun s89=>
        some (.inl ())) fun s90=>
      some (.inl ())) fun s91=>
    some (.inl ())) fun s92=>
  some (0:Int)
def ah0:aV:=⟨ak3,fun x=>f66 x.1 x.2.1 x.2.2.1 x.2.2.2.1 x.2.2.2.2.1 x.2.2.2.2.2.1 x.2.2.2.2.2.2.1 x.2.2.2.2.2.2.2.1 x.2.2.2.2.2.2.2.2.1 x.2.2.2.2.2.2.2.2.2.1 x.2.2.2.2.2.2.2.2.2.2.1 x.2.2.2.2.2.2.2.2.2.2.2.1 x.2.2.2.2.2.2.2.2.2.2.2.2.1 x.2.2.2.2.2.2.2.2.2.2.2.2.2.1 x.2.2.2.2.2.2.2.2.2.2.2.2.2.2⟩
theorem ac4:ay Try.prog 66 ah0:=
 aF (T:=bW.of [(75,ahN),(76,ahO),(77,ahP)]) (ety:=ety) [.tmp 6] ak4 Try.func66 rfl rfl rfl (by decide +kernel) rfl (by decide +kernel) rfl (dQ.sound ⟨acF,acG,acH,trivial⟩) dX mixed fun x=>by kernel_rfl
def afV (p0:Int) (p1:(List Int)) (p2:Int) (p3:(List ah)) (p4:(List au)) (p5:(List (List UInt8))):Option ((List UInt8)×Bool×Int×(List Int)×Int×(List ah)×(List au)×(List (List UInt8))):=
 Option.bind (
  Option.bind (f87) fun c0=>
  dR (
   bn (fun (s1:Int)=>
    let n2:=(c0.length:Int)
    let n3:=(decide (s1<n2))
    bif n3 then
     Option.bind (
      bn (fun (s4:(Bool×Int))=>
       let n5:=(p5.length:Int)
       let n6:=(decide (s4.2<n5))
       bif n6 then
        Option.bind (
         bif s4.1 then
          some true
         else
          ck (inB s4.2 p5.length) <|
          let n7:=(List.getD p5 s4.2.toNat dA)
          ck (inB s1 c0.length) <|
          let n8:=(List.getD c0 s1.toNat dA)
          let n9:=(n7==n8)
          let n10:=n9
          some n10) fun s11=>
        let n12:=(dI (s4.2+1))
        some (.inl (s11,n12))
       else
        some (.inr s4.1)) (false,(0:Int))) fun s13=>
     let n14:=(!s13)
     bif n14 then
      ck (inB s1 c0.length) <|
      let n15:=(List.getD c0 s1.toNat dA)
      some (.inr (.inr (n15,true,p0,p1,p2,p3,p4,p5)))
     else
      let n16:=(dI (s1+1))
      some (.inl n16)
    else
     some (.inr (.inl ()))) (0:Int)) fun oC=>
  some (dA,false,p0,p1,p2,p3,p4,p5)) fun Xl=>
 ck (decide (p3.length=Xl.2.2.2.2.2.1.length)) <|
 ck (decide (p4.length=Xl.2.2.2.2.2.2.1.length)) <|
 ck (decide (p5.length=Xl.2.2.2.2.2.2.2.length)) <|
 some Xl
def f81 (p0:Int) (p1:(List Int)) (p2:Int) (p3:(List ah)) (p4:(List au)) (p5:(List (List UInt8))):Option ((List UInt8)×Bool×Int×(List Int)×Int×(List ah)×(List au)×(List (List UInt8))):=Option.bind (afV p0 p1 p2 p3 p4 p5) fun (y:((List UInt8)×Bool×Int×(List Int)×Int×(List ah)×(List au)×(List (List UInt8))))=>vZ y.2.2.2.2.2.1 p3 <| vZ y.2.2.2.2.2.2.1 p4 <| vZ y.2.2.2.2.2.2.2 p5 <| some y
def ah1:aV:=⟨ak5,fun x=>afV x.1 x.2.1 x.2.2.1 x.2.2.2.1 x.2.2.2.2.1 x.2.2.2.2.2⟩
theorem ac5:ay Try.prog 81 ah1:=
 aF (T:=bW.of [(87,ahV)]) (ety:=ety) [.tmp 2,.tmp 3] ak6 Try.func81 rfl rfl rfl (by decide +kernel) rfl (by decide +kernel) rfl (dQ.sound ⟨acP,trivial⟩) dX mixed fun x=>by kernel_rfl
def WW (wQ:T83) (aem:T86) (p0:Int) (p1:Int) (p2:(List Int)) (p3:Int) (p4:(List ah)) (p5:(List au)) (p6:(List (List UInt8))):Option (Int×Int×Int×Int×(List UInt8)×(List aI)×Int×(List Int)×Int×(List ah)×(List au)×(List (List UInt8))):=
 Option.bind (
  Option.bind (
   let n0:=(decide (p0<1))
   bif n0 then
    some (true,p2,p3)
   else
    Option.bind (f11 3 p2 p3) fun c1=>
    let n2:=(decide (c1.1=0))
    let n3:=n2
    some (n3,c1.2.1,c1.2.2)) fun s4=>
  bif s4.1 then
   Option.bind (f88 p1 s4.2.1 s4.2.2 p4 p5 p6) fun c5=>
   some (c5.1,c5.2.1,c5.2.2.1,c5.2.2.2.1,c5.2.2.2.2.1,nP,c5.2.2.2.2.2.1,c5.2.2.2.2.2.2.1,c5.2.2.2.2.2.2.2.1,p4,p5,p6)
  else
   Option.bind (f11 9 s4.2.1 s4.2.2) fun c6=>
   let n7:=(decide (c6.1=0))
   bif n7 then
    Option.bind (f11 2 c6.2.1 c6.2.2) fun c8=>
    let n9:=(dI (1+c8.1))
    let n10:=(dI (p0-1))
    Option.bind (wQ n10 p1 c8.2.1 c8.2.2 p4 p5 p6) fun c11=>
    let n12:=[(aI.mk c11.1 c11.2.1 c11.2.2.1 c11.2.2.2.1 c11.2.2.2.2.1 c11.2.2.2.2.2.1)]
    Option.bind (f89 5 n9 n12) fun c13=>
    some (c13.1,c13.2.1,c13.2.2.1,c13.2.2.2.1,c13.2.2.2.2.1,c13.2.2.2.2.2,c11.2.2.2.2.2.2.1,c11.2.2.2.2.2.2.2.1,c11.2.2.2.2.2.2.2.2.1,p4,p5,p6)
   else
    let n14:=(decide (c6.1=1))
    bif n14 then
     let n15:=(dI (p0-1))
     Option.bind (wQ n15 p1 c6.2.1 c6.2.2 p4 p5 p6) fun c16=>
     let n17:=(dI (p0-1))
     Option.bind (wQ n17 c16.2.2.2.2.2.2.1 c16.2.2.2.2.2.2.2.1 c16.2.2.2.2.2.2.2.2.1 p4 p5 p6) fun c18=>
     let n19:=[(aI.mk c16.1 c16.2.1 c16.2.2.1 c16.2.2.2.1 c16.2.2.2.2.1 c16.2.2.2.2.2.1),(aI.mk c18.1 c18.2.1 c18.2.2.1 c18.2.2.2.1 c18.2.2.2.2.1 c18.2.2.2.2.2.1)]
     Option.bind (f89 7 0 n19) fun c20=>
     some (c20.1,c20.2.1,c20.2.2.1,c20.2.2.2.1,c20.2.2.2.2.1,c20.2.2.2.2.2,c18.2.2.2.2.2.2.1,c18.2.2.2.2.2.2.2.1,c18.2.2.2.2.2.2.2.2.1,p4,p5,p6)
    else
     let n21:=(decide (c6.1=2))
     bif n21 then
      let n22:=(dI (p0-1))
      Option.bind (wQ n22 p1 c6.2.1 c6.2.2 p4 p5 p6) fun c23=>
      let n24:=(dI (p0-1))
      Option.bind (wQ n24 c23.2.2.2.2.2.2.1 c23.2.2.2.2.2.2.2.1 c23.2.2.2.2.2.2.2.2.1 p4 p5 p6) fun c25=>
      let n26:=[(aI.mk c23.1 c23.2.1 c23.2.2.1 c23.2.2.2.1 c23.2.2.2.2.1 c23.2.2.2.2.2.1),(aI.mk c25.1 c25.2.1 c25.2.2.1 c25.2.2.2.1 c25.2.2.2.2.1 c25.2.2.2.2.2.1)]
      Option.bind (f89 8 0 n26) fun I5=>
      some (I5.1,I5.2.1,I5.2.2.1,I5.2.2.2.1,I5.2.2.2.2.1,I5.2.2.2.2.2,c25.2.2.2.2.2.2.1,c25.2.2.2.2.2.2.2.1,c25.2.2.2.2.2.2.2.2.1,p4,p5,p6)
     else
      let n28:=(decide (c6.1=3))
      Option.bind (
       bif n28 then
        some true
       else
        let n29:=(decide (c6.1=4))
        some n29) fun rX=>
      bif rX then
       Option.bind (aem p0 p1 c6.2.1 c6.2.2 p4 p5 p6) fun c31=>
       some (c31.1,c31.2.1,c31.2.2.1,c31.2.2.2.1,c31.2.2.2.2.1,c31.2.2.2.2.2.2.2.2.2.2.2,c31.2.2.2.2.2.1,c31.2.2.2.2.2.2.1,c31.2.2.2.2.2.2.2.1,p4,p5,p6)
      else
       let n32:=(decide (c6.1=5))
       dR (
        bif n32 then
         Option.bind (f84 true p1 c6.2.1 c6.2.2 p4 p5 p6) fun JU=>
         bif JU.2.1 then
          let n34:=(dI (p0-1))
          Option.bind (wQ n34 JU.2.2.1 JU.2.2.2.1 JU.2.2.2.2.1 p4 p5 p6) fun En=>
          let n36:=[(aI.mk En.1 En.2.1 En.2.2.1 En.2.2.2.1 En.2.2.2.2.1 En.2.2.2.2.2.1)]
          some (.inr ((4:Int),(0:Int),(0:Int),(0:Int),JU.1,n36,En.2.2.2.2.2.2.1,En.2.2.2.2.2.2.2.1,En.2.2.2.2.2.2.2.2.1,p4,p5,p6))
         else
          some (.inl (JU.2.2.1,JU.2.2.2.1,JU.2.2.2.2.1))
        else
         some (.inl (p1,c6.2.1,c6.2.2))) fun Cc=>
       Option.bind (f11 9 Cc.2.1 Cc.2.2) fun c38=>
       let n39:=(dI (3+c38.1))
       let n40:=(dI (p0-1))
       Option.bind (wQ n40 Cc.1 c38.2.1 c38.2.2 p4 p5 p6) fun Sl=>
       let n42:=(dI (p0-1))
       Option.bind (wQ n42 Sl.2.2.2.2.2.2.1 Sl.2.2.2.2.2.2.2.1 Sl.2.2.2.2.2.2.2.2.1 p4 p5 p6) fun c43=>
       let n44:=[(aI.mk Sl.1 Sl.2.1 Sl.2.2.1 Sl.2.2.2.1 Sl.2.2.2.2.1 Sl.2.2.2.2.2.1),(aI.mk c43.1 c43.2.1 c43.2.2.1 c43.2.2.2.1 c43.2.2.2.2.1 c43.2.2.2.2.2.1)]
       Option.bind (f89 6 n39 n44) fun Nc=>
       some (Nc.1,Nc.2.1,Nc.2.2.1,Nc.2.2.2.1,Nc.2.2.2.2.1,Nc.2.2.2.2.2,c43.2.2.2.2.2.2.1,c43.2.2.2.2.2.2.2.1,c43.2.2.2.2.2.2.2.2.1,p4,p5,p6)) fun s46=>
 ck (decide (p4.length=s46.2.2.2.2.2.2.2.2.2.1.length)) <|
 ck (decide (p5.length=s46.2.2.2.2.2.2.2.2.2.2.1.length)) <|
 ck (decide (p6.length=s46.2.2.2.2.2.2.2.2.2.2.2.length)) <|
 some s46
def k83 (p0:Int) (p1:Int) (p2:(List Int)) (p3:Int) (p4:(List ah)) (p5:(List au)) (p6:(List (List UInt8))) (r:Option (Int×Int×Int×Int×(List UInt8)×(List aI)×Int×(List Int)×Int×(List ah)×(List au)×(List (List UInt8)))):Option (Int×Int×Int×Int×(List UInt8)×(List aI)×Int×(List Int)×Int×(List ah)×(List au)×(List (List UInt8))):=Option.bind r fun (y:(Int×Int×Int×Int×(List UInt8)×(List aI)×Int×(List Int)×Int×(List ah)×(List au)×(List (List UInt8))))=>vZ y.2.2.2.2.2.2.2.2.2.1 p4 <| vZ y.2.2.2.2.2.2.2.2.2.2.1 p5 <| vZ y.2.2.2.2.2.2.2.2.2.2.2 p6 <| some y
def ac7 (wQ:T83) (aem:T86) (p0:Int) (p1:Int) (p2:(List Int)) (p3:Int) (p4:(List ah)) (p5:(List au)) (p6:(List (List UInt8))):Option (Int×Int×Int×Int×(List UInt8)×Int×(List Int)×Int×(List ah)×(List au)×(List (List UInt8))×(List aI)):=
 Option.bind (
  let n0:=(p5.length:Int)
  Option.bind (f11 n0 p2 p3) fun c1=>
  ck (inB c1.1 p5.length) <|
  let n2:=(List.getD p5 c1.1.toNat fQ)
  let n3:=((List.length n2.params):Int)
  Option.bind (f11 3 c1.2.1 c1.2.2) fun c4=>
  let n5:=(decide (c4.1=2))
  Option.bind (
   bif n5 then
    Option.bind (f11 8 c4.2.1 c4.2.2) fun c6=>
    let n7:=(decide (c6.1=7))
    let n8:=n7
    some (n8,c6.2.1,c6.2.2)
   else
    some (false,c4.2.1,c4.2.2)) fun s9=>
  Option.bind (
   bif s9.1 then
    Option.bind (f11 3 s9.2.1 s9.2.2) fun c10=>
    some (c10.1,c10.2.1,c10.2.2)
   else
    some (n3,s9.2.1,s9.2.2)) fun s11=>
  Option.bind (
   bn (fun (s12:(Int×Int×(List Int)×Int×(List aI)))=>
    let n13:=(decide (s12.1<s11.1))
    bif n13 then
     let n14:=(dI (p0-1))
     Option.bind (wQ n14 s12.2.1 s12.2.2.1 s12.2.2.2.1 p4 p5 p6) fun c15=>
     let n16:=[(aI.mk c15.1 c15.2.1 c15.2.2.1 c15.2.2.2.1 c15.2.2.2.2.1 c15.2.2.2.2.2.1)]
     ck (bF s12.2.2.2.2.length n16.length 72) <|
     let n17:=(s12.2.2.2.2++n16)
     let n18:=(dI (s12.1+1))
     some (.inl (n18,c15.2.2.2.2.2.2.1,c15.2.2.2.2.2.2.2.1,c15.2.2.2.2.2.2.2.2.1,n17))
    else
     some (.inr (s12.2.1,s12.2.2.1,s12.2.2.2.1,s12.2.2.2.2))) ((0:Int),p1,s11.2.1,s11.2.2,nP)) fun wO=>
  let n20:=(!n5)
  bif n20 then
   some ((9:Int),(0:Int),(0:Int),(0:Int),n2.name,wO.1,wO.2.1,wO.2.2.1,p4,p5,p6,wO.2.2.2)
  else
   Option.bind (f11 4 wO.2.1 wO.2.2.1) fun c21=>
   let n22:=(decide (c21.1=3))
   Option.bind (
    bif n22 then
     let n23:=(dI (p0-1))
     Option.bind (wQ n23 wO.1 c21.2.1 c21.2.2 p4 p5 p6) fun c24=>
     some (c24.2.2.2.2.2.2.1,c24.2.2.2.2.2.2.2.1,c24.2.2.2.2.2.2.2.2.1,c24.1,c24.2.1,c24.2.2.1,c24.2.2.2.1,c24.2.2.2.2.1,c24.2.2.2.2.2.1)
    else
     some (wO.1,c21.2.1,c21.2.2,(11:Int),(0:Int),(0:Int),(0:Int),n2.name,nP)) fun xJ=>
   let n26:=(decide (xJ.2.2.2.1=13))
   bif n26 then
    some ((9:Int),(0:Int),(0:Int),(0:Int),xJ.2.2.2.2.2.2.2.1,xJ.1,xJ.2.1,xJ.2.2.1,p4,p5,p6,wO.2.2.2)
   else
    let n27:=[(aI.mk xJ.2.2.2.1 xJ.2.2.2.2.1 xJ.2.2.2.2.2.1 xJ.2.2.2.2.2.2.1 xJ.2.2.2.2.2.2.2.1 xJ.2.2.2.2.2.2.2.2)]
    ck (bF n27.length wO.2.2.2.length 72) <|
    let n28:=(n27++wO.2.2.2)
    some ((10:Int),(0:Int),(0:Int),(0:Int),dA,xJ.1,xJ.2.1,xJ.2.2.1,p4,p5,p6,n28)) fun s29=>
 ck (decide (p4.length=s29.2.2.2.2.2.2.2.2.1.length)) <|
 ck (decide (p5.length=s29.2.2.2.2.2.2.2.2.2.1.length)) <|
 ck (decide (p6.length=s29.2.2.2.2.2.2.2.2.2.2.1.length)) <|
 some s29
def k86 (p0:Int) (p1:Int) (p2:(List Int)) (p3:Int) (p4:(List ah)) (p5:(List au)) (p6:(List (List UInt8))) (r:Option (Int×Int×Int×Int×(List UInt8)×Int×(List Int)×Int×(List ah)×(List au)×(List (List UInt8))×(List aI))):Option (Int×Int×Int×Int×(List UInt8)×Int×(List Int)×Int×(List ah)×(List au)×(List (List UInt8))×(List aI)):=Option.bind r fun (y:(Int×Int×Int×Int×(List UInt8)×Int×(List Int)×Int×(List ah)×(List au)×(List (List UInt8))×(List aI)))=>vZ y.2.2.2.2.2.2.2.2.1 p4 <| vZ y.2.2.2.2.2.2.2.2.2.1 p5 <| vZ y.2.2.2.2.2.2.2.2.2.2.1 p6 <| some y
def qR:Nat→T83×T86
 |0=>(fun _ _ _ _ _ _ _=>none,fun _ _ _ _ _ _ _=>none)
 |n+1=>(WW (fun p0 p1 p2 p3 p4 p5 p6=>k83 p0 p1 p2 p3 p4 p5 p6 ((qR n).1 p0 p1 p2 p3 p4 p5 p6)) (fun p0 p1 p2 p3 p4 p5 p6=>k86 p0 p1 p2 p3 p4 p5 p6 ((qR n).2 p0 p1 p2 p3 p4 p5 p6)),ac7 (fun p0 p1 p2 p3 p4 p5 p6=>k83 p0 p1 p2 p3 p4 p5 p6 ((qR n).1 p0 p1 p2 p3 p4 p5 p6)) (fun p0 p1 p2 p3 p4 p5 p6=>k86 p0 p1 p2 p3 p4 p5 p6 ((qR n).2 p0 p1 p2 p3 p4 p5 p6)))
def ac8 (n:Nat):T83:=(fun p0 p1 p2 p3 p4 p5 p6=>k83 p0 p1 p2 p3 p4 p5 p6 ((qR n).1 p0 p1 p2 p3 p4 p5 p6))
def Ic (n:Nat):aV:=⟨ab_,fun x=>(qR n).1 x.1 x.2.1 x.2.2.1 x.2.2.2.1 x.2.2.2.2.1 x.2.2.2.2.2.1 x.2.2.2.2.2.2⟩
def ac9 (n:Nat):T86:=(fun p0 p1 p2 p3 p4 p5 p6=>k86 p0 p1 p2 p3 p4 p5 p6 ((qR n).2 p0 p1 p2 p3 p4 p5 p6))
def Ie (n:Nat):aV:=⟨acd,fun x=>(qR n).2 x.1 x.2.1 x.2.2.1 x.2.2.2.1 x.2.2.2.2.1 x.2.2.2.2.2.1 x.2.2.2.2.2.2⟩
theorem ZK (n:Nat) (h83:ay Try.prog 83 (Ic n)) (h86:ay Try.prog 86 (Ie n)):ay Try.prog 83 (Ic (n+1)):=
 aF (T:=bW.of [(11,Ia),(88,ahW),(89,afO),(84,ZC),(83,Ic n),(86,Ie n)]) (ety:=ety) [.cell 4 143] ak7 Try.func83 rfl rfl rfl (show ab_.er.ok=true by decide +kernel) rfl (show ab_.nargs≤Try.f83.ntmps by decide +kernel) rfl (dQ.sound ⟨mZ,acR,UZ,EJ,h83,h86,trivial⟩) dX mixed fun x=>by kernel_rfl
theorem ZL (n:Nat) (h83:ay Try.prog 83 (Ic n)) (h86:ay Try.prog 86 (Ie n)):ay Try.prog 86 (Ie (n+1)):=
 aF (T:=bW.of [(11,Ia),(83,Ic n),(86,Ie n)]) (ety:=ety) [.cell 4 143] ak8 Try.func86 rfl rfl rfl (show acd.er.ok=true by decide +kernel) rfl (show acd.nargs≤Try.f86.ntmps by decide +kernel) rfl (dQ.sound ⟨mZ,h83,h86,trivial⟩) dX mixed fun x=>by kernel_rfl
theorem wR :∀n,ay Try.prog 83 (Ic n)∧ay Try.prog 86 (Ie n)
 |0=>⟨bZ Try.func83 rfl rfl (show ab_.er.ok=true by decide +kernel) fun x=>rfl,bZ Try.func86 rfl rfl (show acd.er.ok=true by decide +kernel) fun x=>rfl⟩
 |n+1=>by
  have ih:=wR n
  exact ⟨ZK n (ih.1) (ih.2),ZL n (ih.1) (ih.2)⟩
def f83:T83:=ac8 1048576
def afW:aV:=Ic 1048576
theorem U6:ay Try.prog 83 afW:=(wR 1048576).1
def f86:T86:=ac9 1048576
def ah2:aV:=Ie 1048576
theorem ac_:ay Try.prog 86 ah2:=(wR 1048576).2
def ada (JX:T59) (ZM:T72) (ZN:T85) (p0:Int) (p1:Int) (p2:Int) (p3:(List Int)) (p4:Int) (p5:(List ah)) (p6:(List au)) (p7:(List (List UInt8))):Option (Int×(List Int)×Int×(List ah)×(List au)×(List aU)×(List (List UInt8))):=
 Option.bind (
  Option.bind (
   bn (fun (s0:(Int×Int×(List Int)×Int×(List aU)×(List (List UInt8))))=>
    Option.bind (
     let n1:=(decide (s0.1<p1))
     bif n1 then
      let n2:=(decide (0<s0.2.1))
      let n3:=n2
      some n3
     else
      some false) fun s4=>
    bif s4 then
     let n5:=(dI (s0.2.1-1))
     Option.bind (ZM p0 n5 s0.2.2.1 s0.2.2.2.1 p5 p6 s0.2.2.2.2.2) fun c6=>
     let n7:=[(aU.mk c6.1 c6.2.1 c6.2.2.1 c6.2.2.2.2.2.2.2.2.1 c6.2.2.2.2.2.2.2.2.2.1 c6.2.2.2.2.2.2.2.2.2.2.1)]
     ck (bF s0.2.2.2.2.1.length n7.length 104) <|
     let n8:=(s0.2.2.2.2.1++n7)
     let n9:=(dI (s0.1+1))
     some (.inl (n9,c6.2.2.2.1,c6.2.2.2.2.1,c6.2.2.2.2.2.1,n8,c6.2.2.2.2.2.2.2.2.2.2.2))
    else
     some (.inr (s0.2.1,s0.2.2.1,s0.2.2.2.1,s0.2.2.2.2.1,s0.2.2.2.2.2))) ((0:Int),p2,p3,p4,ig,p7)) fun s10=>
  some (s10.1,s10.2.1,s10.2.2.1,p5,p6,s10.2.2.2.1,s10.2.2.2.2)) fun s11=>
 ck (decide (p5.length=s11.2.2.2.1.length)) <|
 ck (decide (p6.length=s11.2.2.2.2.1.length)) <|
 some s11
def k59 (p0:Int) (p1:Int) (p2:Int) (p3:(List Int)) (p4:Int) (p5:(List ah)) (p6:(List au)) (p7:(List (List UInt8))) (r:Option (Int×(List Int)×Int×(List ah)×(List au)×(List aU)×(List (List UInt8)))):Option (Int×(List Int)×Int×(List ah)×(List au)×(List aU)×(List (List UInt8))):=Option.bind r fun (y:(Int×(List Int)×Int×(List ah)×(List au)×(List aU)×(List (List UInt8))))=>vZ y.2.2.2.1 p5 <| vZ y.2.2.2.2.1 p6 <| some y
def adb (JX:T59) (ZM:T72) (ZN:T85) (p0:Int) (p1:Int) (p2:(List Int)) (p3:Int) (p4:(List ah)) (p5:(List au)) (p6:(List (List UInt8))):Option (Int×Int×(List UInt8)×Int×(List Int)×Int×(List ah)×(List au)×(List aI)×(List aU)×(List aU)×(List (List UInt8))):=
 Option.bind (
  Option.bind (f11 10 p2 p3) fun c0=>
  let n1:=(decide (c0.1=0))
  Option.bind (
   bif n1 then
    some true
   else
    let n2:=(decide (c0.1=1))
    some n2) fun s3=>
  dR (
   bif s3 then
    Option.bind (f81 p1 c0.2.1 c0.2.2 p4 p5 p6) fun c4=>
    bif c4.2.1 then
     Option.bind (f83 2 c4.2.2.1 c4.2.2.2.1 c4.2.2.2.2.1 p4 p5 p6) fun c5=>
     Option.bind (f82 1 c4.1 c5.1 c5.2.1 c5.2.2.1 c5.2.2.2.1 c5.2.2.2.2.1 c5.2.2.2.2.2.1) fun c6=>
     let n7:=[c4.1]
     ck (bF p6.length n7.length 16) <|
     let n8:=(p6++n7)
     some (.inr (c6.1,c6.2.1,c6.2.2.1,c5.2.2.2.2.2.2.1,c5.2.2.2.2.2.2.2.1,c5.2.2.2.2.2.2.2.2.1,p4,p5,c6.2.2.2,ig,ig,n8))
    else
     some (.inl (c4.2.2.1,c4.2.2.2.1,c4.2.2.2.2.1))
   else
    let n9:=(decide (c0.1=2))
    dR (
     bif n9 then
      let n10:=(p6.length:Int)
      let n11:=(decide (0<n10))
      bif n11 then
       let n12:=(p6.length:Int)
       Option.bind (f11 n12 c0.2.1 c0.2.2) fun c13=>
       ck (inB c13.1 p6.length) <|
       let n14:=(List.getD p6 c13.1.toNat dA)
       Option.bind (f83 2 p1 c13.2.1 c13.2.2 p4 p5 p6) fun c15=>
       Option.bind (f82 2 n14 c15.1 c15.2.1 c15.2.2.1 c15.2.2.2.1 c15.2.2.2.2.1 c15.2.2.2.2.2.1) fun c16=>
       some (.inr (.inr (c16.1,c16.2.1,c16.2.2.1,c15.2.2.2.2.2.2.1,c15.2.2.2.2.2.2.2.1,c15.2.2.2.2.2.2.2.2.1,p4,p5,c16.2.2.2,ig,ig,p6)))
      else
       some (.inl (p1,c0.2.1,c0.2.2))
     else
      let n17:=(decide (c0.1=3))
      dR (
       bif n17 then
        Option.bind (f84 false p1 c0.2.1 c0.2.2 p4 p5 p6) fun c18=>
        bif c18.2.1 then
         Option.bind (f83 2 c18.2.2.1 c18.2.2.2.1 c18.2.2.2.2.1 p4 p5 p6) fun c19=>
         Option.bind (f82 2 c18.1 c19.1 c19.2.1 c19.2.2.1 c19.2.2.2.1 c19.2.2.2.2.1 c19.2.2.2.2.2.1) fun c20=>
         some (.inr (.inr (.inr (c20.1,c20.2.1,c20.2.2.1,c19.2.2.2.2.2.2.1,c19.2.2.2.2.2.2.2.1,c19.2.2.2.2.2.2.2.2.1,p4,p5,c20.2.2.2,ig,ig,p6))))
        else
         some (.inl (c18.2.2.1,c18.2.2.2.1,c18.2.2.2.2.1))
       else
        let n21:=(decide (c0.1=4))
        dR (
         bif n21 then
          Option.bind (f84 true p1 c0.2.1 c0.2.2 p4 p5 p6) fun Iq=>
          bif Iq.2.1 then
           Option.bind (f83 1 Iq.2.2.1 Iq.2.2.2.1 Iq.2.2.2.2.1 p4 p5 p6) fun c23=>
           Option.bind (f83 2 c23.2.2.2.2.2.2.1 c23.2.2.2.2.2.2.2.1 c23.2.2.2.2.2.2.2.2.1 p4 p5 p6) fun c24=>
           let n25:=[(aI.mk c23.1 c23.2.1 c23.2.2.1 c23.2.2.2.1 c23.2.2.2.2.1 c23.2.2.2.2.2.1),(aI.mk c24.1 c24.2.1 c24.2.2.1 c24.2.2.2.1 c24.2.2.2.2.1 c24.2.2.2.2.2.1)]
           some (.inr (.inr (.inr (.inr ((3:Int),(0:Int),Iq.1,c24.2.2.2.2.2.2.1,c24.2.2.2.2.2.2.2.1,c24.2.2.2.2.2.2.2.2.1,p4,p5,n25,ig,ig,p6)))))
          else
           some (.inl (Iq.2.2.1,Iq.2.2.2.1,Iq.2.2.2.2.1))
         else
          let n26:=(decide (c0.1=5))
          Option.bind (
           bif n26 then
            some true
           else
            let n27:=(decide (c0.1=6))
            some n27) fun Na=>
          dR (
           bif Na then
            let n29:=(decide (0<p0))
            bif n29 then
             Option.bind (f83 2 p1 c0.2.1 c0.2.2 p4 p5 p6) fun JR=>
             Option.bind (f82 4 dA JR.1 JR.2.1 JR.2.2.1 JR.2.2.2.1 JR.2.2.2.2.1 JR.2.2.2.2.2.1) fun c31=>
             let n32:=(dI (p0-1))
             Option.bind (f11 2 JR.2.2.2.2.2.2.2.1 JR.2.2.2.2.2.2.2.2.1) fun JU=>
             let n34:=(dI (1+JU.1))
             Option.bind (JX n32 n34 JR.2.2.2.2.2.2.1 JU.2.1 JU.2.2 p4 p5 p6) fun En=>
             Option.bind (f11 2 En.2.1 En.2.2.1) fun c36=>
             let n37:=(decide (c36.1=1))
             Option.bind (
              bif n37 then
               let n38:=(dI (p0-1))
               Option.bind (f11 2 c36.2.1 c36.2.2) fun c39=>
               let n40:=(dI (1+c39.1))
               Option.bind (JX n38 n40 En.1 c39.2.1 c39.2.2 p4 p5 En.2.2.2.2.2.2) fun Sl=>
               some (Sl.1,Sl.2.1,Sl.2.2.1,c31.1,c31.2.1,c31.2.2.1,Sl.2.2.2.2.2.2,Sl.2.2.2.2.2.1)
              else
               some (En.1,c36.2.1,c36.2.2,c31.1,c31.2.1,c31.2.2.1,En.2.2.2.2.2.2,ig)) fun xI=>
             some (.inr (.inr (.inr (.inr (.inr (xI.2.2.2.1,xI.2.2.2.2.1,xI.2.2.2.2.2.1,xI.1,xI.2.1,xI.2.2.1,p4,p5,c31.2.2.2,En.2.2.2.2.2.1,xI.2.2.2.2.2.2.2,xI.2.2.2.2.2.2.1))))))
            else
             some (.inl ())
           else
            let n43:=(decide (c0.1=7))
            dR (
             bif n43 then
              let n44:=(decide (0<p0))
              bif n44 then
               Option.bind (ZN p0 p1 c0.2.1 c0.2.2 p4 p5 p6) fun Nc=>
               some (.inr (.inr (.inr (.inr (.inr (.inr (Nc.1,Nc.2.1,Nc.2.2.1,Nc.2.2.2.1,Nc.2.2.2.2.1,Nc.2.2.2.2.2.1,p4,p5,Nc.2.2.2.2.2.2.2.2.1,Nc.2.2.2.2.2.2.2.2.2.1,ig,Nc.2.2.2.2.2.2.2.2.2.2)))))))
              else
               some (.inl ())
             else
              let n46:=(decide (c0.1=8))
              bif n46 then
               Option.bind (f11 3 c0.2.1 c0.2.2) fun c47=>
               let n48:=(decide (c47.1=0))
               bif n48 then
                Option.bind (f83 2 p1 c47.2.1 c47.2.2 p4 p5 p6) fun c49=>
                Option.bind (f82 6 dA c49.1 c49.2.1 c49.2.2.1 c49.2.2.2.1 c49.2.2.2.2.1 c49.2.2.2.2.2.1) fun c50=>
                some (.inr (.inr (.inr (.inr (.inr (.inr (c50.1,c50.2.1,c50.2.2.1,c49.2.2.2.2.2.2.1,c49.2.2.2.2.2.2.2.1,c49.2.2.2.2.2.2.2.2.1,p4,p5,c50.2.2.2,ig,ig,p6)))))))
               else
                Option.bind (f86 2 p1 c47.2.1 c47.2.2 p4 p5 p6) fun c51=>
                Option.bind (f82 8 dA c51.1 c51.2.1 c51.2.2.1 c51.2.2.2.1 c51.2.2.2.2.1 c51.2.2.2.2.2.2.2.2.2.2.2) fun WV=>
                some (.inr (.inr (.inr (.inr (.inr (.inr (WV.1,WV.2.1,WV.2.2.1,c51.2.2.2.2.2.1,c51.2.2.2.2.2.2.1,c51.2.2.2.2.2.2.2.1,p4,p5,WV.2.2.2,ig,ig,p6)))))))
              else
               some (.inl ())) fun s53=>
            some (.inl ())) fun ZI=>
          some (.inl (p1,c0.2.1,c0.2.2))) fun s55=>
        some (.inl (s55.1,s55.2.1,s55.2.2))) fun s56=>
      some (.inl (s56.1,s56.2.1,s56.2.2))) fun s57=>
    some (.inl (s57.1,s57.2.1,s57.2.2))) fun s58=>
  Option.bind (f83 2 s58.1 s58.2.1 s58.2.2 p4 p5 p6) fun c59=>
  Option.bind (f82 7 dA c59.1 c59.2.1 c59.2.2.1 c59.2.2.2.1 c59.2.2.2.2.1 c59.2.2.2.2.2.1) fun c60=>
  some (c60.1,c60.2.1,c60.2.2.1,c59.2.2.2.2.2.2.1,c59.2.2.2.2.2.2.2.1,c59.2.2.2.2.2.2.2.2.1,p4,p5,c60.2.2.2,ig,ig,p6)) fun ZO=>
 ck (decide (p4.length=ZO.2.2.2.2.2.2.1.length)) <|
 ck (decide (p5.length=ZO.2.2.2.2.2.2.2.1.length)) <|
 some ZO
def k72 (p0:Int) (p1:Int) (p2:(List Int)) (p3:Int) (p4:(List ah)) (p5:(List au)) (p6:(List (List UInt8))) (r:Option (Int×Int×(List UInt8)×Int×(List Int)×Int×(List ah)×(List au)×(List aI)×(List aU)×(List aU)×(List (List UInt8)))):Option (Int×Int×(List UInt8)×Int×(List Int)×Int×(List ah)×(List au)×(List aI)×(List aU)×(List aU)×(List (List UInt8))):=Option.bind r fun (y:(Int×Int×(List UInt8)×Int×(List Int)×Int×(List ah)×(List au)×(List aI)×(List aU)×(List aU)×(List (List UInt8))))=>vZ y.2.2.2.2.2.2.1 p4 <| vZ y.2.2.2.2.2.2.2.1 p5 <| some y
def ade (JX:T59) (ZM:T72) (ZN:T85) (p0:Int) (p1:Int) (p2:(List Int)) (p3:Int) (p4:(List ah)) (p5:(List au)) (p6:(List (List UInt8))):Option (Int×Int×(List UInt8)×Int×(List Int)×Int×(List ah)×(List au)×(List aI)×(List aU)×(List (List UInt8))):=
 Option.bind (
  Option.bind (f84 false p1 p2 p3 p4 p5 p6) fun c0=>
  Option.bind (
   let n1:=(p6.length:Int)
   let n2:=(decide (0<n1))
   bif n2 then
    Option.bind (f11 3 c0.2.2.2.1 c0.2.2.2.2.1) fun c3=>
    let n4:=(decide (0<c3.1))
    let n5:=n4
    some (n5,c3.2.1,c3.2.2)
   else
    some (false,c0.2.2.2.1,c0.2.2.2.2.1)) fun s6=>
  Option.bind (
   bif s6.1 then
    let n7:=(p6.length:Int)
    Option.bind (f11 n7 s6.2.1 s6.2.2) fun c8=>
    ck (inB c8.1 p6.length) <|
    let n9:=(List.getD p6 c8.1.toNat dA)
    some (n9,true,c8.2.1,c8.2.2)
   else
    some (c0.1,c0.2.1,s6.2.1,s6.2.2)) fun s10=>
  Option.bind (
   let n11:=(!s10.2.1)
   bif n11 then
    some (true,s10.2.2.1,s10.2.2.2)
   else
    Option.bind (f11 8 s10.2.2.1 s10.2.2.2) fun c12=>
    let n13:=(decide (c12.1=7))
    let n14:=n13
    some (n14,c12.2.1,c12.2.2)) fun s15=>
  bif s15.1 then
   Option.bind (f83 2 c0.2.2.1 s15.2.1 s15.2.2 p4 p5 p6) fun c16=>
   Option.bind (f82 5 dA c16.1 c16.2.1 c16.2.2.1 c16.2.2.2.1 c16.2.2.2.2.1 c16.2.2.2.2.2.1) fun c17=>
   let n18:=(dI (p0-1))
   Option.bind (f11 2 c16.2.2.2.2.2.2.2.1 c16.2.2.2.2.2.2.2.2.1) fun c19=>
   let n20:=(dI (1+c19.1))
   Option.bind (JX n18 n20 c16.2.2.2.2.2.2.1 c19.2.1 c19.2.2 p4 p5 p6) fun c21=>
   some (c17.1,c17.2.1,c17.2.2.1,c21.1,c21.2.1,c21.2.2.1,p4,p5,c17.2.2.2,c21.2.2.2.2.2.1,c21.2.2.2.2.2.2)
  else
   Option.bind (f11 5 s15.2.1 s15.2.2) fun Iq=>
   let n23:=(dI (1+Iq.1))
   let n24:=[(aI.mk 13 0 0 0 s10.1 nP),(aI.mk 1 0 n23 0 dA nP)]
   Option.bind (f89 6 8 n24) fun c25=>
   Option.bind (f82 5 dA c25.1 c25.2.1 c25.2.2.1 c25.2.2.2.1 c25.2.2.2.2.1 c25.2.2.2.2.2) fun Nb=>
   let n27:=(dI (p0-1))
   Option.bind (f11 3 Iq.2.1 Iq.2.2) fun c28=>
   Option.bind (JX n27 c28.1 c0.2.2.1 c28.2.1 c28.2.2 p4 p5 p6) fun c29=>
   let n30:=[(aI.mk 13 0 0 0 s10.1 nP),(aI.mk 1 0 1 0 dA nP)]
   Option.bind (f89 6 3 n30) fun c31=>
   Option.bind (f82 2 s10.1 c31.1 c31.2.1 c31.2.2.1 c31.2.2.2.1 c31.2.2.2.2.1 c31.2.2.2.2.2) fun c32=>
   let n33:=[(aU.mk c32.1 c32.2.1 c32.2.2.1 c32.2.2.2 ig ig)]
   ck (bF c29.2.2.2.2.2.1.length n33.length 104) <|
   let n34:=(c29.2.2.2.2.2.1++n33)
   some (Nb.1,Nb.2.1,Nb.2.2.1,c29.1,c29.2.1,c29.2.2.1,p4,p5,Nb.2.2.2,n34,c29.2.2.2.2.2.2)) fun Qm=>
 ck (decide (p4.length=Qm.2.2.2.2.2.2.1.length)) <|
 ck (decide (p5.length=Qm.2.2.2.2.2.2.2.1.length)) <|
 some Qm
def k85 (p0:Int) (p1:Int) (p2:(List Int)) (p3:Int) (p4:(List ah)) (p5:(List au)) (p6:(List (List UInt8))) (r:Option (Int×Int×(List UInt8)×Int×(List Int)×Int×(List ah)×(List au)×(List aI)×(List aU)×(List (List UInt8)))):Option (Int×Int×(List UInt8)×Int×(List Int)×Int×(List ah)×(List au)×(List aI)×(List aU)×(List (List UInt8))):=Option.bind r fun (y:(Int×Int×(List UInt8)×Int×(List Int)×Int×(List ah)×(List au)×(List aI)×(List aU)×(List (List UInt8))))=>vZ y.2.2.2.2.2.2.1 p4 <| vZ y.2.2.2.2.2.2.2.1 p5 <| some y
def jE:Nat→T59×T72×T85
 |0=>(fun _ _ _ _ _ _ _ _=>none,fun _ _ _ _ _ _ _=>none,fun _ _ _ _ _ _ _=>none)
 |n+1=>(ada (fun p0 p1 p2 p3 p4 p5 p6 p7=>k59 p0 p1 p2 p3 p4 p5 p6 p7 ((jE n).1 p0 p1 p2 p3 p4 p5 p6 p7)) (fun p0 p1 p2 p3 p4 p5 p6=>k72 p0 p1 p2 p3 p4 p5 p6 ((jE n).2.1 p0 p1 p2 p3 p4 p5 p6)) (fun p0 p1 p2 p3 p4 p5 p6=>k85 p0 p1 p2 p3 p4 p5 p6 ((jE n).2.2 p0 p1 p2 p3 p4 p5 p6)),adb (fun p0 p1 p2 p3 p4 p5 p6 p7=>k59 p0 p1 p2 p3 p4 p5 p6 p7 ((jE n).1 p0 p1 p2 p3 p4 p5 p6 p7)) (fun p0 p1 p2 p3 p4 p5 p6=>k72 p0 p1 p2 p3 p4 p5 p6 ((jE n).2.1 p0 p1 p2 p3 p4 p5 p6)) (fun p0 p1 p2 p3 p4 p5 p6=>k85 p0 p1 p2 p3 p4 p5 p6 ((jE n).2.2 p0 p1 p2 p3 p4 p5 p6)),ade (fun p0 p1 p2 p3 p4 p5 p6 p7=>k59 p0 p1 p2 p3 p4 p5 p6 p7 ((jE n).1 p0 p1 p2 p3 p4 p5 p6 p7)) (fun p0 p1 p2 p3 p4 p5 p6=>k72 p0 p1 p2 p3 p4 p5 p6 ((jE n).2.1 p0 p1 p2 p3 p4 p5 p6)) (fun p0 p1 p2 p3 p4 p5 p6=>k85 p0 p1 p2 p3 p4 p5 p6 ((jE n).2.2 p0 p1 p2 p3 p4 p5 p6)))
def ZP (n:Nat):T59:=(fun p0 p1 p2 p3 p4 p5 p6 p7=>k59 p0 p1 p2 p3 p4 p5 p6 p7 ((jE n).1 p0 p1 p2 p3 p4 p5 p6 p7))
def AO (n:Nat):aV:=⟨ace,fun x=>(jE n).1 x.1 x.2.1 x.2.2.1 x.2.2.2.1 x.2.2.2.2.1 x.2.2.2.2.2.1 x.2.2.2.2.2.2.1 x.2.2.2.2.2.2.2⟩
def adf (n:Nat):T72:=(fun p0 p1 p2 p3 p4 p5 p6=>k72 p0 p1 p2 p3 p4 p5 p6 ((jE n).2.1 p0 p1 p2 p3 p4 p5 p6))
def D5 (n:Nat):aV:=⟨acf,fun x=>(jE n).2.1 x.1 x.2.1 x.2.2.1 x.2.2.2.1 x.2.2.2.2.1 x.2.2.2.2.2.1 x.2.2.2.2.2.2⟩
def adg (n:Nat):T85:=(fun p0 p1 p2 p3 p4 p5 p6=>k85 p0 p1 p2 p3 p4 p5 p6 ((jE n).2.2 p0 p1 p2 p3 p4 p5 p6))
def D6 (n:Nat):aV:=⟨acg,fun x=>(jE n).2.2 x.1 x.2.1 x.2.2.1 x.2.2.2.1 x.2.2.2.2.1 x.2.2.2.2.2.1 x.2.2.2.2.2.2⟩
theorem ZQ (n:Nat) (h59:ay Try.prog 59 (AO n)) (h72:ay Try.prog 72 (D5 n)) (h85:ay Try.prog 85 (D6 n)):ay Try.prog 59 (AO (n+1)):=
 aF (T:=bW.of [(59,AO n),(72,D5 n),(85,D6 n)]) (ety:=ety) [.tmp 6] ak9 Try.func59 rfl rfl rfl (show ace.er.ok=true by decide +kernel) rfl (show ace.nargs≤Try.f59.ntmps by decide +kernel) rfl (dQ.sound ⟨h59,h72,h85,trivial⟩) dX mixed fun x=>by kernel_rfl
theorem ZR (n:Nat) (h59:ay Try.prog 59 (AO n)) (h72:ay Try.prog 72 (D5 n)) (h85:ay Try.prog 85 (D6 n)):ay Try.prog 72 (D5 (n+1)):=
 aF (T:=bW.of [(11,Ia),(81,ah1),(83,afW),(82,afN),(84,ZC),(86,ah2),(59,AO n),(72,D5 n),(85,D6 n)]) (ety:=ety) [.cell 4 126] ak_ Try.func72 rfl rfl rfl (show acf.er.ok=true by decide +kernel) rfl (show acf.nargs≤Try.f72.ntmps by decide +kernel) rfl (dQ.sound ⟨mZ,ac5,U6,UY,EJ,ac_,h59,h72,h85,trivial⟩) dX mixed fun x=>by kernel_rfl
theorem ZT (n:Nat) (h59:ay Try.prog 59 (AO n)) (h72:ay Try.prog 72 (D5 n)) (h85:ay Try.prog 85 (D6 n)):ay Try.prog 85 (D6 (n+1)):=
 aF (T:=bW.of [(84,ZC),(11,Ia),(83,afW),(82,afN),(89,afO),(59,AO n),(72,D5 n),(85,D6 n)]) (ety:=ety) [.cell 4 126] ala Try.func85 rfl rfl rfl (show acg.er.ok=true by decide +kernel) rfl (show acg.nargs≤Try.f85.ntmps by decide +kernel) rfl (dQ.sound ⟨EJ,mZ,U6,UY,UZ,h59,h72,h85,trivial⟩) dX mixed fun x=>by kernel_rfl
theorem D7 :∀n,ay Try.prog 59 (AO n)∧ay Try.prog 72 (D5 n)∧ay Try.prog 85 (D6 n)
 |0=>⟨bZ Try.func59 rfl rfl (show ace.er.ok=true by decide +kernel) fun x=>rfl,bZ Try.func72 rfl rfl (show acf.er.ok=true by decide +kernel) fun x=>rfl,bZ Try.func85 rfl rfl (show acg.er.ok=true by decide +kernel) fun x=>rfl⟩
 |n+1=>by
  have ih:=D7 n
  exact ⟨ZQ n (ih.1) (ih.2.1) (ih.2.2),ZR n (ih.1) (ih.2.1) (ih.2.2),ZT n (ih.1) (ih.2.1) (ih.2.2)⟩
def f59:T59:=ZP 1048576
def ah_:aV:=AO 1048576
theorem adh:ay Try.prog 59 ah_:=(D7 1048576).1
def f17 (p0:(List UInt8)) (p1:Int) (p2:Int) (p3:(List ak)) (p4:Bool):Option (List aT):=
 Option.bind (f21 p0 p1 p2 p3) fun c0=>
 Option.bind (f9 p0 p1 p2 p3) fun c1=>
 let n2:=(c1.length:Int)
 Option.bind (
  bn (fun (s3:(Int×(List aT)))=>
   let n4:=(decide (s3.1<n2))
   bif n4 then
    ck (inB s3.1 c1.length) <|
    let n5:=(List.getD c1 s3.1.toNat (aT.mk 0 0 0))
    ck (inB s3.1 c0.length) <|
    let n6:=(List.getD c0 s3.1.toNat false)
    let n7:=(n6==p4)
    Option.bind (
     bif n7 then
      let n8:=[(aT.mk n5.func n5.block n5.way)]
      ck (bF s3.2.length n8.length 24) <|
      let n9:=(s3.2++n8)
      some n9
     else
      some s3.2) fun s10=>
    let n11:=(dI (s3.1+1))
    some (.inl (n11,s10))
   else
    some (.inr s3.2)) ((0:Int),([]:(List aT)))) fun s12=>
 some s12
def afX:aV:=⟨alb,fun x=>f17 x.1 x.2.1 x.2.2.1 x.2.2.2.1 x.2.2.2.2⟩
theorem U7:ay Try.prog 17 afX:=
 aF (T:=bW.of [(21,ahX),(9,sp9)]) (ety:=ety) [.tmp 4] alc Try.func17 rfl rfl rfl (by decide +kernel) rfl (by decide +kernel) rfl (dQ.sound ⟨acS,H_,trivial⟩) dX mixed fun x=>by kernel_rfl
def f33 (p0:(List UInt8)) (p1:Int) (p2:Int) (p3:(List ak)):Option ((List UInt8)×Int×Int×(List ak)):=
 Option.bind (f49 p0 p1 p2 p3) fun c0=>
 let n1:=(c0.length:Int)
 ck (Gn (8:Nat) n1 n1) <|
 let n2:=(List.replicate n1.toNat (0:Int))
 Option.bind (
  bn (fun (s3:(Int×Int×(List Int)))=>
   let n4:=(c0.length:Int)
   let n5:=(decide (s3.2.1<n4))
   bif n5 then
    ck (inB s3.2.1 s3.2.2.length) <|
    let n6:=(List.set s3.2.2 s3.2.1.toNat s3.1)
    ck (inB s3.2.1 c0.length) <|
    let n7:=(List.getD c0 s3.2.1.toNat false)
    Option.bind (
     bif n7 then
      let n8:=(dI (s3.1+1))
      some n8
     else
      some s3.1) fun s9=>
    let n10:=(dI (s3.2.1+1))
    some (.inl (s9,n10,n6))
   else
    some (.inr s3.2.2)) ((0:Int),(0:Int),n2)) fun s11=>
 Option.bind (
  bn (fun (s12:(Int×(List UInt8)×Int×Int×(List ak)))=>
   let n13:=(c0.length:Int)
   let n14:=(decide (s12.1<n13))
   bif n14 then
    Option.bind (
     ck (inB s12.1 c0.length) <|
     let n15:=(List.getD c0 s12.1.toNat false)
     let n16:=(!n15)
     bif n16 then
      some (s12.2.1,s12.2.2.1,s12.2.2.2.1,s12.2.2.2.2)
     else
      ck (inB s12.1 p3.length) <|
      let n17:=(List.getD p3 s12.1.toNat aj)
      let n18:=(!(decide (n17.aQ=3)))
      Option.bind (
       bif n18 then
        ck (inB n17.fE s11.length) <|
        let n19:=(List.getD s11 (Int.toNat n17.fE) 0)
        some (n17.instrs,n17.aQ,n17.AA,n19,n17.bP,n17.line,n17.jq,n17.iG)
       else
        some (n17.instrs,n17.aQ,n17.AA,n17.fE,n17.bP,n17.line,n17.jq,n17.iG)) fun s20=>
      let n21:=(decide (s20.2.1=2))
      Option.bind (
       bif n21 then
        ck (inB s20.2.2.2.2.1 s11.length) <|
        let n22:=(List.getD s11 s20.2.2.2.2.1.toNat 0)
        some (s20.1,s20.2.1,s20.2.2.1,s20.2.2.2.1,n22,s20.2.2.2.2.2.1,s20.2.2.2.2.2.2.1,s20.2.2.2.2.2.2.2)
       else
        some (s20.1,s20.2.1,s20.2.2.1,s20.2.2.2.1,s20.2.2.2.2.1,s20.2.2.2.2.2.1,s20.2.2.2.2.2.2.1,s20.2.2.2.2.2.2.2)) fun s23=>
      let n24:=[(ak.mk s23.1 s23.2.1 s23.2.2.1 s23.2.2.2.1 s23.2.2.2.2.1 s23.2.2.2.2.2.1 s23.2.2.2.2.2.2.1 s23.2.2.2.2.2.2.2)]
      ck (bF s12.2.2.2.2.length n24.length 80) <|
      let n25:=(s12.2.2.2.2++n24)
      some (s12.2.1,s12.2.2.1,s12.2.2.2.1,n25)) fun s26=>
    let n27:=(dI (s12.1+1))
    some (.inl (n27,s26.1,s26.2.1,s26.2.2.1,s26.2.2.2))
   else
    some (.inr (s12.2.1,s12.2.2.1,s12.2.2.2.1,s12.2.2.2.2))) ((0:Int),p0,p1,p2,([]:(List ak)))) fun Na=>
 some (Na.1,Na.2.1,Na.2.2.1,Na.2.2.2)
def aia:aV:=⟨ald,fun x=>f33 x.1 x.2.1 x.2.2.1 x.2.2.2⟩
theorem adi:ay Try.prog 33 aia:=
 aF (T:=bW.of [(49,afS)]) (ety:=ety) [.cell 2 35] ale Try.func33 rfl rfl rfl (by decide +kernel) rfl (by decide +kernel) rfl (dQ.sound ⟨U4,trivial⟩) dX mixed fun x=>by kernel_rfl
def f47 (p0:(List ah)) (p1:(List au)):Option (Int×Int×(List ah)×(List au)):=
 Option.bind (
  let n0:=(p1.length:Int)
  let n1:=(decide (64<n0))
  bif n1 then
   some true
  else
   let n2:=(p0.length:Int)
   let n3:=(decide (32<n2))
   let n4:=n3
   some n4) fun s5=>
 bif s5 then
  some ((0:Int),(5:Int),gY,um)
 else
  Option.bind (
   let n6:=(p1.length:Int)
   let n7:=(decide (n6=0))
   bif n7 then
    some true
   else
    ck (inB (0:Int) p1.length) <|
    let n8:=(List.getD p1 (Int.toNat 0) fQ)
    let n9:=(!(n8.name==[(109:UInt8),(97:UInt8),(105:UInt8),(110:UInt8)]))
    let n10:=n9
    bif n10 then
     some true
    else
     ck (inB (0:Int) p1.length) <|
     let n11:=(List.getD p1 (Int.toNat 0) fQ)
     let n12:=((List.length n11.params):Int)
     let n13:=(decide (0<n12))
     let n14:=n13
     some n14) fun s15=>
  bif s15 then
   some ((0:Int),(12:Int),gY,um)
  else
   dR (
    bn (fun (s16:Int)=>
     let n17:=(p0.length:Int)
     let n18:=(decide (s16<n17))
     bif n18 then
      ck (inB s16 p0.length) <|
      let n19:=(List.getD p0 s16.toNat (ah.mk dA 0))
      Option.bind (f53 p0 p1 n19.name) fun c20=>
      let n21:=(!(decide (c20=s16)))
      bif n21 then
       some (.inr (.inr ((0:Int),(9:Int),gY,um)))
      else
       let n22:=(dI (s16+1))
       some (.inl n22)
     else
      some (.inr (.inl ()))) (0:Int)) fun s23=>
   dR (
    bn (fun (s24:Int)=>
     let n25:=(p1.length:Int)
     let n26:=(decide (s24<n25))
     bif n26 then
      Option.bind (
       ck (inB s24 p1.length) <|
       let n27:=(List.getD p1 s24.toNat fQ)
       Option.bind (f53 p0 p1 n27.name) fun c28=>
       let n29:=(decide (0≤c28))
       bif n29 then
        some true
       else
        ck (inB s24 p1.length) <|
        let n30:=(List.getD p1 s24.toNat fQ)
        Option.bind (f54 p0 p1 n30.name) fun c31=>
        let n32:=(!(decide (c31=s24)))
        let n33:=n32
        some n33) fun s34=>
      bif s34 then
       ck (inB s24 p1.length) <|
       let n35:=(List.getD p1 s24.toNat fQ)
       some (.inr (.inr (n35.line,(9:Int),gY,um)))
      else
       let n36:=(dI (s24+1))
       some (.inl n36)
     else
      some (.inr (.inl ()))) (0:Int)) fun Cc=>
   ck (bF (List.length gY) p0.length 24) <|
   let n38:=(gY++p0)
   dR (
    bn (fun (xG:(Int×(List au)))=>
     let n40:=(p1.length:Int)
     let n41:=(decide (xG.1<n40))
     bif n41 then
      ck (inB xG.1 p1.length) <|
      let n42:=(List.getD p1 xG.1.toNat fQ)
      Option.bind (
       let n43:=((List.length n42.params):Int)
       let n44:=(decide (6<n43))
       bif n44 then
        some true
       else
        Option.bind (f41 n42.name n42.line n42.params n42.body) fun Nc=>
        let n46:=(Nc.length:Int)
        let n47:=(decide (32<n46))
        let n48:=n47
        bif n48 then
         some true
        else
         Option.bind (f55 n42.body) fun c49=>
         let n50:=(decide (24<c49))
         let n51:=n50
         some n51) fun s52=>
      bif s52 then
       some (.inr (.inr (n42.line,(5:Int),gY,um)))
      else
       dR (
        bn (fun (s53:Int)=>
         let n54:=((List.length n42.params):Int)
         let n55:=(decide (s53<n54))
         bif n55 then
          Option.bind (
           ck (Eh (0:Int) s53 (List.length n42.params)) <|
           let n56:=(List.drop (Int.toNat (0:Int)) (List.take s53.toNat n42.params))
           ck (inB s53 (List.length n42.params)) <|
           let n57:=(List.getD n42.params s53.toNat dA)
           Option.bind (f56 n56 n57) fun U5=>
           bif U5 then
            some true
           else
            ck (inB s53 (List.length n42.params)) <|
            let n59:=(List.getD n42.params s53.toNat dA)
            Option.bind (f57 p0 p1 n59) fun c60=>
            let n61:=(!(decide (c60=0)))
            let n62:=n61
            some n62) fun s63=>
          bif s63 then
           some (.inr (.inr (.inr (.inr (n42.line,(9:Int),gY,um)))))
          else
           let n64:=(dI (s53+1))
           some (.inl n64)
         else
          some (.inr (.inl ()))) (0:Int)) fun s65=>
       ck (true&&(decide ((((List.length jI)+(List.length n42.params))*(16:Nat))≤(140737488355328:Nat)))) <|
       let n66:=(jI++n42.params)
       Option.bind (f58 n42.body p0 p1 0 0 n66) fun c67=>
       let n68:=(!(decide (c67.2.2.2.1=0)))
       bif n68 then
        some (.inr (.inr (c67.2.2.1,c67.2.2.2.1,gY,um)))
       else
        ck (true&&(decide ((((List.length jI)+(List.length n42.params))*(16:Nat))≤(140737488355328:Nat)))) <|
        let n69:=(jI++n42.params)
        let n70:=[(au.mk n42.name n42.line n69 c67.2.2.2.2.1)]
        ck (bF xG.2.length n70.length 72) <|
        let n71:=(xG.2++n70)
        let n72:=(dI (xG.1+1))
        some (.inl (n72,n71))
     else
      some (.inr (.inl xG.2))) ((0:Int),um)) fun s73=>
   some ((0:Int),(0:Int),n38,s73)
def aib:aV:=⟨alf,fun x=>f47 x.1 x.2⟩
theorem adk:ay Try.prog 47 aib:=
 aF (T:=bW.of [(53,Zn),(54,Zo),(41,afP),(55,ahF),(56,afz),(57,afA),(58,ahZ)]) (ety:=ety) [.cell 2 85,.tmp 3,.tmp 4] alg Try.func47 rfl rfl rfl (by decide +kernel) rfl (by decide +kernel) rfl (dQ.sound ⟨EG,EH,U0,acw,UO,UQ,ac3,trivial⟩) dX mixed fun x=>by kernel_rfl
def f48 (p0:(List Int)) (p1:Int):Option ((List Int)×Int×(List ah)×(List au)):=
 Option.bind (
  some ((0:Int),gY,um,jI)) fun s0=>
 Option.bind (f11 3 p0 p1) fun c1=>
 Option.bind (
  bn (fun (s2:(Int×Int×(List ah)))=>
   let n3:=(decide (0<s2.1))
   bif n3 then
    let n4:=(s2.2.2.length:Int)
    Option.bind (f31 n4) fun c5=>
    ck (z_ (List.length [(103:UInt8)]) c5.length) <|
    let n6:=([(103:UInt8)]++c5)
    let n7:=[(ah.mk n6 0)]
    ck (bF s2.2.2.length n7.length 24) <|
    let n8:=(s2.2.2++n7)
    let n9:=(dI (s2.1-1))
    some (.inl (n9,s2.2.1,n8))
   else
    some (.inr (s2.2.1,s2.2.2))) (c1.1,s0.1,s0.2.1)) fun s10=>
 Option.bind (f11 3 c1.2.1 c1.2.2) fun c11=>
 Option.bind (
  bn (fun (s12:(Int×(List Int)×Int×Int×(List ah)))=>
   let n13:=(decide (0<s12.1))
   bif n13 then
    let n14:=(s12.2.2.2.2.length:Int)
    Option.bind (f31 n14) fun c15=>
    ck (z_ (List.length [(103:UInt8)]) c15.length) <|
    let n16:=([(103:UInt8)]++c15)
    Option.bind (f11 5 s12.2.1 s12.2.2.1) fun c17=>
    let n18:=(dI (1+c17.1))
    let n19:=[(ah.mk n16 n18)]
    ck (bF s12.2.2.2.2.length n19.length 24) <|
    let n20:=(s12.2.2.2.2++n19)
    let n21:=(dI (s12.1-1))
    some (.inl (n21,c17.2.1,c17.2.2,s12.2.2.2.1,n20))
   else
    some (.inr (s12.2.1,s12.2.2.1,s12.2.2.2.1,s12.2.2.2.2))) (c11.1,c11.2.1,c11.2.2,s10.1,s10.2)) fun kC=>
 let n23:=[(au.mk [(109:UInt8),(97:UInt8),(105:UInt8),(110:UInt8)] 0 jI ig)]
 Option.bind (f11 4 kC.1 kC.2.1) fun c24=>
 Option.bind (
  bn (fun (xJ:(Int×(List Int)×Int×Int×(List au)))=>
   let n26:=(decide (0<xJ.1))
   bif n26 then
    let n27:=(xJ.2.2.2.2.length:Int)
    Option.bind (f31 n27) fun c28=>
    ck (z_ (List.length [(102:UInt8)]) c28.length) <|
    let n29:=([(102:UInt8)]++c28)
    Option.bind (f11 3 xJ.2.1 xJ.2.2.1) fun JR=>
    Option.bind (
     bn (fun (Em:(Int×(List UInt8)×Int×(List (List UInt8))))=>
      let n32:=(decide (0<Em.1))
      bif n32 then
       let n33:=(Em.2.2.2.length:Int)
       Option.bind (f31 n33) fun c34=>
       ck (z_ (List.length [(112:UInt8)]) c34.length) <|
       let n35:=([(112:UInt8)]++c34)
       let n36:=[n35]
       ck (bF Em.2.2.2.length n36.length 16) <|
       let n37:=(Em.2.2.2++n36)
       let n38:=(dI (Em.1-1))
       some (.inl (n38,Em.2.1,Em.2.2.1,n37))
      else
       some (.inr (Em.2.1,Em.2.2.1,Em.2.2.2))) (JR.1,n29,(0:Int),jI)) fun xG=>
    let n40:=[(au.mk xG.1 xG.2.1 xG.2.2 ig)]
    ck (bF xJ.2.2.2.2.length n40.length 72) <|
    let n41:=(xJ.2.2.2.2++n40)
    let n42:=(dI (xJ.1-1))
    some (.inl (n42,JR.2.1,JR.2.2,xJ.2.2.2.1,n41))
   else
    some (.inr (xJ.2.1,xJ.2.2.1,xJ.2.2.2.1,xJ.2.2.2.2))) (c24.1,c24.2.1,c24.2.2,kC.2.2.1,n23)) fun s43=>
 Option.bind (
  bn (fun (s44:(Int×(List Int)×Int×Int×(List ah)×(List au)×(List (List UInt8))))=>
   let n45:=(s44.2.2.2.2.2.1.length:Int)
   let n46:=(decide (s44.1<n45))
   bif n46 then
    ck (inB s44.1 s44.2.2.2.2.2.1.length) <|
    let n47:=(List.getD s44.2.2.2.2.2.1 s44.1.toNat fQ)
    ck (true&&(decide ((((List.length jI)+(List.length n47.params))*(16:Nat))≤(140737488355328:Nat)))) <|
    let n48:=(jI++n47.params)
    Option.bind (f11 4 s44.2.1 s44.2.2.1) fun c49=>
    let n50:=(dI (1+c49.1))
    Option.bind (f59 2 n50 7 c49.2.1 c49.2.2 s44.2.2.2.2.1 s44.2.2.2.2.2.1 n48) fun c51=>
    ck (inB s44.1 s44.2.2.2.2.2.1.length) <|
    let n52:=(List.set s44.2.2.2.2.2.1 s44.1.toNat (au.mk (List.getD s44.2.2.2.2.2.1 s44.1.toNat fQ).name (List.getD s44.2.2.2.2.2.1 s44.1.toNat fQ).line (List.getD s44.2.2.2.2.2.1 s44.1.toNat fQ).params c51.2.2.2.2.2.1))
    let n53:=(dI (s44.1+1))
    some (.inl (n53,c51.2.1,c51.2.2.1,c51.1,s44.2.2.2.2.1,n52,c51.2.2.2.2.2.2))
   else
    some (.inr (s44.2.1,s44.2.2.1,s44.2.2.2.1,s44.2.2.2.2.1,s44.2.2.2.2.2.1,s44.2.2.2.2.2.2))) ((0:Int),s43.1,s43.2.1,s43.2.2.1,kC.2.2.2,s43.2.2.2,s0.2.2.2)) fun ZI=>
 some (ZI.1,ZI.2.1,ZI.2.2.2.1,ZI.2.2.2.2.1)
def aic:aV:=⟨alh,fun x=>f48 x.1 x.2⟩
theorem adl:ay Try.prog 48 aic:=
 aF (T:=bW.of [(11,Ia),(31,aft),(59,ah_)]) (ety:=ety) [.cell 2 85] ali Try.func48 rfl rfl rfl (by decide +kernel) rfl (by decide +kernel) rfl (dQ.sound ⟨mZ,UM,adh,trivial⟩) dX mixed fun x=>by kernel_rfl
def f52 (p0:(List ah)) (p1:(List aH)) (p2:Int) (p3:Int) (p4:(List UInt8)) (p5:Int) (p6:Int) (p7:(List ak)):Option Int:=
 Option.bind (
  let n0:=(p7.length:Int)
  let n1:=(decide (n0<1))
  bif n1 then
   some true
  else
   let n2:=(p7.length:Int)
   let n3:=(decide (256<n2))
   let n4:=n3
   bif n4 then
    some true
   else
    Option.bind (f65 p4 p5 p6 p7) fun c5=>
    let n6:=(decide (2048<c5))
    let n7:=n6
    some n7) fun s8=>
 bif s8 then
  some (5:Int)
 else
  Option.bind (
   let n9:=(decide (p6<0))
   bif n9 then
    some true
   else
    let n10:=(decide (250<p6))
    let n11:=n10
    bif n11 then
     some true
    else
     let n12:=(decide (p5<0))
     let n13:=n12
     bif n13 then
      some true
     else
      let n14:=(decide (p6<p5))
      let n15:=n14
      some n15) fun s16=>
  bif s16 then
   some (14:Int)
  else
   dR (
    bn (fun (oC:Int)=>
     let n18:=(p7.length:Int)
     let n19:=(decide (oC<n18))
     bif n19 then
      dR (
       bn (fun (s20:Int)=>
        ck (inB oC p7.length) <|
        let n21:=(List.getD p7 oC.toNat aj)
        let n22:=((List.length n21.instrs):Int)
        let n23:=(decide (s20<n22))
        bif n23 then
         ck (inB oC p7.length) <|
         let n24:=(List.getD p7 oC.toNat aj)
         ck (inB s20 (List.length n24.instrs)) <|
         let n25:=(List.getD n24.instrs s20.toNat (d_.mk 0 0 0 0 0 0 eInt))
         Option.bind (f66 p0 p1 p2 p3 p4 p5 p6 p7 n25.kind n25.op n25.dst n25.a n25.b n25.value n25.args) fun Nb=>
         let n27:=(!(decide (Nb=0)))
         bif n27 then
          some (.inr (.inr (.inr (.inr Nb))))
         else
          let n28:=(dI (s20+1))
          some (.inl n28)
        else
         some (.inr (.inl ()))) (0:Int)) fun s29=>
      ck (inB oC p7.length) <|
      let n30:=(List.getD p7 oC.toNat aj)
      Option.bind (f67 p4 p5 p6 p7 n30.aQ n30.AA n30.fE n30.bP) fun c31=>
      let n32:=(!(decide (c31=0)))
      bif n32 then
       some (.inr (.inr c31))
      else
       let n33:=(dI (oC+1))
       some (.inl n33)
     else
      some (.inr (.inl ()))) (0:Int)) fun s34=>
   Option.bind (f49 p4 p5 p6 p7) fun En=>
   dR (
    bn (fun (s36:Int)=>
     let n37:=(En.length:Int)
     let n38:=(decide (s36<n37))
     bif n38 then
      ck (inB s36 En.length) <|
      let n39:=(List.getD En s36.toNat false)
      let n40:=(!n39)
      bif n40 then
       some (.inr (.inr (13:Int)))
      else
       let n41:=(dI (s36+1))
       some (.inl n41)
     else
      some (.inr (.inl ()))) (0:Int)) fun xI=>
   some (0:Int)
def aie:aV:=⟨alj,fun x=>f52 x.1 x.2.1 x.2.2.1 x.2.2.2.1 x.2.2.2.2.1 x.2.2.2.2.2.1 x.2.2.2.2.2.2.1 x.2.2.2.2.2.2.2⟩
theorem adn:ay Try.prog 52 aie:=
 aF (T:=bW.of [(65,ahG),(66,ah0),(67,ahH),(49,afS)]) (ety:=ety) [.tmp 4] alk Try.func52 rfl rfl rfl (by decide +kernel) rfl (by decide +kernel) rfl (dQ.sound ⟨acy,ac4,acz,U4,trivial⟩) dX mixed fun x=>by kernel_rfl
def f8 (p0:(List ah)) (p1:(List aH)) (p2:Int) (p3:Int):Option (List aT):=
 let n0:=(p1.length:Int)
 Option.bind (
  bn (fun (s1:(Int×(List aT)))=>
   let n2:=(decide (s1.1<n0))
   bif n2 then
    ck (inB s1.1 p1.length) <|
    let n3:=(List.getD p1 s1.1.toNat aA)
    Option.bind (f17 n3.name n3.params n3.regs n3.blocks false) fun c4=>
    let n5:=(c4.length:Int)
    Option.bind (
     bn (fun (s6:(Int×(List aT)))=>
      let n7:=(decide (s6.1<n5))
      bif n7 then
       ck (inB s6.1 c4.length) <|
       let n8:=(List.getD c4 s6.1.toNat (aT.mk 0 0 0))
       let n9:=[(aT.mk s1.1 n8.block n8.way)]
       ck (bF s6.2.length n9.length 24) <|
       let n10:=(s6.2++n9)
       let n11:=(dI (s6.1+1))
       some (.inl (n11,n10))
      else
       some (.inr s6.2)) ((0:Int),s1.2)) fun s12=>
    let n13:=(dI (s1.1+1))
    some (.inl (n13,s12))
   else
    some (.inr s1.2)) ((0:Int),([]:(List aT)))) fun s14=>
 some s14
def sp8:aV:=⟨sg8,fun x=>f8 x.1 x.2.1 x.2.2.1 x.2.2.2⟩
theorem ZU:ay Try.prog 8 sp8:=
 aF (T:=bW.of [(17,afX)]) (ety:=ety) [.tmp 2] an8 Try.func8 rfl rfl rfl (by decide +kernel) rfl (by decide +kernel) rfl (dQ.sound ⟨U7,trivial⟩) dX mixed fun x=>by kernel_rfl
def f10 (p0:(List UInt8)) (p1:Int) (p2:Int) (p3:(List ak)):Option (List aT):=
 Option.bind (f17 p0 p1 p2 p3 true) fun c0=>
 some c0
def aif:aV:=⟨alm,fun x=>f10 x.1 x.2.1 x.2.2.1 x.2.2.2⟩
theorem ado:ay Try.prog 10 aif:=
 aF (T:=bW.of [(17,afX)]) (ety:=ety) [.tmp 2] aln Try.func10 rfl rfl rfl (by decide +kernel) rfl (by decide +kernel) rfl (dQ.sound ⟨U7,trivial⟩) dX mixed fun x=>by kernel_rfl
def f16 (p0:(List Int)) (p1:Int):Option (Int×Int×(List Int)×Int×(List ah)×(List aH)):=
 Option.bind (f11 4 p0 p1) fun c0=>
 let n1:=(dI (1+c0.1))
 let n2:=[(ah.mk [(103:UInt8),(48:UInt8)] 0),(ah.mk [(103:UInt8),(49:UInt8)] n1)]
 Option.bind (f11 3 c0.2.1 c0.2.2) fun c3=>
 let n4:=(dI (1+c3.1))
 Option.bind (
  bn (fun (s5:(Int×(List Int)×Int×Int×Int×(List aH)))=>
   let n6:=(decide (s5.1<n4))
   bif n6 then
    Option.bind (f31 s5.1) fun c7=>
    ck (z_ (List.length [(102:UInt8)]) c7.length) <|
    let n8:=([(102:UInt8)]++c7)
    Option.bind (f11 4 s5.2.1 s5.2.2.1) fun c9=>
    let n10:=(dI (1+c9.1))
    let n11:=(decide (0<s5.1))
    Option.bind (
     bif n11 then
      let n12:=(V4 n10 (2:Int))
      let n13:=(dI (n12+1))
      Option.bind (f11 n13 c9.2.1 c9.2.2) fun c14=>
      some (c14.2.1,c14.2.2,n8,c14.1,n10)
     else
      some (c9.2.1,c9.2.2,n8,(0:Int),n10)) fun s15=>
    let n16:=[(aH.mk s15.2.2.1 s15.2.2.2.1 s15.2.2.2.2 ([]:(List ak)))]
    ck (bF s5.2.2.2.2.2.length n16.length 56) <|
    let n17:=(s5.2.2.2.2.2++n16)
    let n18:=(dI (s5.1+1))
    some (.inl (n18,s15.1,s15.2.1,s5.2.2.2.1,s5.2.2.2.2.1,n17))
   else
    some (.inr (s5.2.1,s5.2.2.1,s5.2.2.2.1,s5.2.2.2.2.1,s5.2.2.2.2.2))) ((0:Int),c3.2.1,c3.2.2,(0:Int),(0:Int),([]:(List aH)))) fun wO=>
 let n20:=(dI (n4+1))
 Option.bind (f11 n20 wO.1 wO.2.1) fun c21=>
 Option.bind (
  bn (fun (kC:(Int×(List Int)×Int×(List aH)))=>
   let n23:=(decide (kC.1<n4))
   bif n23 then
    ck (inB kC.1 kC.2.2.2.length) <|
    Option.bind (f11 6 kC.2.1 kC.2.2.1) fun c24=>
    let n25:=(dI (1+c24.1))
    Option.bind (
     bn (fun (s26:(Int×(List Int)×Int×(List aH)))=>
      let n27:=(decide (0<s26.1))
      bif n27 then
       Option.bind (f11 20 s26.2.1 s26.2.2.1) fun c28=>
       let n29:=(List.replicate (List.length (List.getD s26.2.2.2 kC.1.toNat aA).blocks) ())
       let n30:=(n29.length:Int)
       Option.bind (f11 4 c28.2.1 c28.2.2) fun c31=>
       Option.bind (
        bn (fun (pI:(Int×(List Int)×Int×(List aH)×Int×Int×Int×Int×Int×Int×Int×(List d_)))=>
         let n33:=(decide (0<pI.1))
         bif n33 then
          Option.bind (f32 n2 (List.set pI.2.2.2.1 kC.1.toNat (aH.mk (List.getD pI.2.2.2.1 kC.1.toNat aA).name (List.getD pI.2.2.2.1 kC.1.toNat aA).params (List.getD pI.2.2.2.1 kC.1.toNat aA).regs (List.getD pI.2.2.2.1 kC.1.toNat aA).blocks)) c21.1 wO.2.2.2.1 (List.getD pI.2.2.2.1 kC.1.toNat aA).name (List.getD pI.2.2.2.1 kC.1.toNat aA).params (List.getD pI.2.2.2.1 kC.1.toNat aA).regs (List.getD pI.2.2.2.1 kC.1.toNat aA).blocks pI.2.1 pI.2.2.1) fun c34=>
          let n35:=[(d_.mk c34.1 c34.2.1 c34.2.2.1 c34.2.2.2.1 c34.2.2.2.2.1 c34.2.2.2.2.2.1 c34.2.2.2.2.2.2.2.2)]
          ck (bF pI.2.2.2.2.2.2.2.2.2.2.2.length n35.length 72) <|
          let n36:=(pI.2.2.2.2.2.2.2.2.2.2.2++n35)
          let n37:=(dI (pI.1-1))
          some (.inl (n37,c34.2.2.2.2.2.2.1,c34.2.2.2.2.2.2.2.1,(List.set pI.2.2.2.1 kC.1.toNat (aH.mk (List.getD pI.2.2.2.1 kC.1.toNat aA).name (List.getD pI.2.2.2.1 kC.1.toNat aA).params (List.getD pI.2.2.2.1 kC.1.toNat aA).regs (List.getD pI.2.2.2.1 kC.1.toNat aA).blocks)),pI.2.2.2.2.1,pI.2.2.2.2.2.1,pI.2.2.2.2.2.2.1,pI.2.2.2.2.2.2.2.1,pI.2.2.2.2.2.2.2.2.1,pI.2.2.2.2.2.2.2.2.2.1,pI.2.2.2.2.2.2.2.2.2.2.1,n36))
         else
          some (.inr (pI.2.1,pI.2.2.1,pI.2.2.2.1,pI.2.2.2.2.1,pI.2.2.2.2.2.1,pI.2.2.2.2.2.2.1,pI.2.2.2.2.2.2.2.1,pI.2.2.2.2.2.2.2.2.1,pI.2.2.2.2.2.2.2.2.2.1,pI.2.2.2.2.2.2.2.2.2.2.1,pI.2.2.2.2.2.2.2.2.2.2.2))) (c31.1,c31.2.1,c31.2.2,s26.2.2.2,(0:Int),(0:Int),(0:Int),(0:Int),c28.1,kC.1,n30,([]:(List d_)))) fun pR=>
       let n39:=[(ak.mk pR.2.2.2.2.2.2.2.2.2.2 pR.2.2.2.1 pR.2.2.2.2.1 pR.2.2.2.2.2.1 pR.2.2.2.2.2.2.1 pR.2.2.2.2.2.2.2.1 pR.2.2.2.2.2.2.2.2.1 pR.2.2.2.2.2.2.2.2.2.1)]
       ck (true&&(decide ((((List.length (List.getD pR.2.2.1 kC.1.toNat aA).blocks)+n39.length)*(80:Nat))≤(140737488355328:Nat)))) <|
       let n40:=((List.getD pR.2.2.1 kC.1.toNat aA).blocks++n39)
       ck (Nat.beq kC.1.toNat kC.1.toNat) <|
       let n41:=(List.set pR.2.2.1 kC.1.toNat (aH.mk (List.getD pR.2.2.1 kC.1.toNat aA).name (List.getD pR.2.2.1 kC.1.toNat aA).params (List.getD pR.2.2.1 kC.1.toNat aA).regs n40))
       let n42:=(dI (s26.1-1))
       some (.inl (n42,pR.1,pR.2.1,n41))
      else
       some (.inr (s26.2.1,s26.2.2.1,s26.2.2.2))) (n25,c24.2.1,c24.2.2,kC.2.2.2)) fun s43=>
    Option.bind (
     bn (fun (s44:(Int×(List Int)×Int×(List aH)))=>
      let n45:=(List.replicate (List.length (List.getD s44.2.2.2 kC.1.toNat aA).blocks) ())
      let n46:=(n45.length:Int)
      let n47:=(decide (s44.1<n46))
      bif n47 then
       let n48:=[(2:Int),(1:Int),(3:Int),(2:Int)]
       Option.bind (f11 4 s44.2.1 s44.2.2.1) fun c49=>
       ck (inB c49.1 n48.length) <|
       let n50:=(List.getD n48 c49.1.toNat 0)
       let n51:=(List.getD s44.2.2.2 kC.1.toNat aA)
       Option.bind (f11 n51.regs c49.2.1 c49.2.2) fun WV=>
       let n53:=(List.replicate (List.length (List.getD s44.2.2.2 kC.1.toNat aA).blocks) ())
       let n54:=(n53.length:Int)
       Option.bind (f11 n54 WV.2.1 WV.2.2) fun c55=>
       let n56:=(List.replicate (List.length (List.getD s44.2.2.2 kC.1.toNat aA).blocks) ())
       let n57:=(n56.length:Int)
       Option.bind (f11 n57 c55.2.1 c55.2.2) fun U5=>
       ck (inB s44.1 (List.length (List.getD s44.2.2.2 kC.1.toNat aA).blocks)) <|
       let n59:=(List.set (List.getD s44.2.2.2 kC.1.toNat aA).blocks s44.1.toNat (ak.mk (List.getD (List.getD s44.2.2.2 kC.1.toNat aA).blocks s44.1.toNat aj).instrs n50 WV.1 c55.1 U5.1 (List.getD (List.getD s44.2.2.2 kC.1.toNat aA).blocks s44.1.toNat aj).line (List.getD (List.getD s44.2.2.2 kC.1.toNat aA).blocks s44.1.toNat aj).jq (List.getD (List.getD s44.2.2.2 kC.1.toNat aA).blocks s44.1.toNat aj).iG))
       let n60:=(dI (s44.1+1))
       some (.inl (n60,U5.2.1,U5.2.2,(List.set s44.2.2.2 kC.1.toNat (aH.mk (List.getD s44.2.2.2 kC.1.toNat aA).name (List.getD s44.2.2.2 kC.1.toNat aA).params (List.getD s44.2.2.2 kC.1.toNat aA).regs n59))))
      else
       some (.inr (s44.2.1,s44.2.2.1,s44.2.2.2))) ((0:Int),s43.1,s43.2.1,s43.2.2)) fun ZO=>
    Option.bind (f33 (List.getD ZO.2.2 kC.1.toNat aA).name (List.getD ZO.2.2 kC.1.toNat aA).params (List.getD ZO.2.2 kC.1.toNat aA).regs (List.getD ZO.2.2 kC.1.toNat aA).blocks) fun c62=>
    ck (Nat.beq kC.1.toNat kC.1.toNat) <|
    let n63:=(List.set ZO.2.2 kC.1.toNat (aH.mk c62.1 c62.2.1 c62.2.2.1 c62.2.2.2))
    let n64:=(dI (kC.1+1))
    some (.inl (n64,ZO.1,ZO.2.1,n63))
   else
    some (.inr (kC.2.1,kC.2.2.1,kC.2.2.2))) ((0:Int),c21.2.1,c21.2.2,wO.2.2.2.2)) fun s65=>
 some (c21.1,wO.2.2.2.1,s65.1,s65.2.1,n2,s65.2.2)
def aii:aV:=⟨alo,fun x=>f16 x.1 x.2⟩
theorem adp:ay Try.prog 16 aii:=
 aF (T:=bW.of [(11,Ia),(31,aft),(32,ahB),(33,aia)]) (ety:=ahx) [.cell 2 27] alp Try.func16 rfl rfl rfl (by decide +kernel) rfl (by decide +kernel) rfl (dQ.sound ⟨mZ,UM,acr,adi,trivial⟩) dX mixed fun x=>by kernel_rfl
def f30 (p0:(List Int)) (p1:Int):Option ((List Int)×Int×(List ah)×(List au)):=
 Option.bind (f48 p0 p1) fun c0=>
 Option.bind (f47 c0.2.2.1 c0.2.2.2) fun c1=>
 some (c0.1,c0.2.1,c1.2.2.1,c1.2.2.2)
def aij:aV:=⟨alq,fun x=>f30 x.1 x.2⟩
theorem adq:ay Try.prog 30 aij:=
 aF (T:=bW.of [(48,aic),(47,aib)]) (ety:=ety) [.cell 2 85] alr Try.func30 rfl rfl rfl (by decide +kernel) rfl (by decide +kernel) rfl (dQ.sound ⟨adl,adk,trivial⟩) dX mixed fun x=>by kernel_rfl
def f46 (p0:(List ah)) (p1:(List aH)) (p2:Int) (p3:Int):Option Int:=
 Option.bind (
  let n0:=(p1.length:Int)
  let n1:=(decide (n0<1))
  bif n1 then
   some true
  else
   let n2:=(p1.length:Int)
   let n3:=(decide (64<n2))
   let n4:=n3
   bif n4 then
    some true
   else
    let n5:=(p0.length:Int)
    let n6:=(decide (32<n5))
    let n7:=n6
    bif n7 then
     some true
    else
     let n8:=(decide (p3<0))
     let n9:=n8
     bif n9 then
      some true
     else
      let n10:=(decide (4096<p3))
      let n11:=n10
      some n11) fun s12=>
 bif s12 then
  some (5:Int)
 else
  dR (
   bn (fun (s13:Int)=>
    let n14:=(p0.length:Int)
    let n15:=(decide (s13<n14))
    bif n15 then
     Option.bind (
      ck (inB s13 p0.length) <|
      let n16:=(List.getD p0 s13.toNat (ah.mk dA 0))
      let n17:=(decide (n16.size<0))
      bif n17 then
       some true
      else
       ck (inB s13 p0.length) <|
       let n18:=(List.getD p0 s13.toNat (ah.mk dA 0))
       let n19:=(decide (1024<n18.size))
       let n20:=n19
       some n20) fun zy=>
     bif zy then
      some (.inr (.inr (16:Int)))
     else
      let n22:=(dI (s13+1))
      some (.inl n22)
    else
     some (.inr (.inl ()))) (0:Int)) fun s23=>
  Option.bind (
   let n24:=(decide (p2<0))
   bif n24 then
    some true
   else
    let n25:=(p1.length:Int)
    let n26:=(decide (n25<p2))
    let n27:=n26
    some n27) fun Na=>
  bif Na then
   some (15:Int)
  else
   ck (inB (0:Int) p1.length) <|
   let n29:=(List.getD p1 (Int.toNat 0) aA)
   let n30:=(!(decide (n29.params=0)))
   bif n30 then
    some (12:Int)
   else
    dR (
     bn (fun (Em:Int)=>
      let n32:=(p1.length:Int)
      let n33:=(decide (Em<n32))
      bif n33 then
       ck (inB Em p1.length) <|
       let n34:=(List.getD p1 Em.toNat aA)
       Option.bind (f52 p0 p1 p2 p3 n34.name n34.params n34.regs n34.blocks) fun En=>
       let n36:=(!(decide (En=0)))
       bif n36 then
        some (.inr (.inr En))
       else
        let n37:=(dI (Em+1))
        some (.inl n37)
      else
       some (.inr (.inl ()))) (0:Int)) fun pR=>
    some (0:Int)
def aik:aV:=⟨als,fun x=>f46 x.1 x.2.1 x.2.2.1 x.2.2.2⟩
theorem adr:ay Try.prog 46 aik:=
 aF (T:=bW.of [(52,aie)]) (ety:=ety) [.tmp 2] alu Try.func46 rfl rfl rfl (by decide +kernel) rfl (by decide +kernel) rfl (dQ.sound ⟨adn,trivial⟩) dX mixed fun x=>by kernel_rfl
def f5:Option Bool:=
 let n0:=[(ak.mk ([]:(List d_)) 3 0 0 0 0 0 0)]
 let n1:=[(aH.mk dA 0 1 n0)]
 Option.bind (f8 gY n1 0 0) fun c2=>
 Option.bind (
  let n3:=(c2.length:Int)
  let n4:=(decide (n3=1))
  bif n4 then
   ck (inB (0:Int) c2.length) <|
   let n5:=(List.getD c2 (Int.toNat 0) (aT.mk 0 0 0))
   let n6:=(decide (n5.way=2))
   let n7:=n6
   bif n7 then
    ck (inB (0:Int) n1.length) <|
    let n8:=(List.getD n1 (Int.toNat 0) aA)
    Option.bind (f9 n8.name n8.params n8.regs n8.blocks) fun c9=>
    let n10:=(c9.length:Int)
    let n11:=(decide (n10=1))
    let n12:=n11
    some n12
   else
    some false
  else
   some false) fun s13=>
 some s13
def sp5:aV:=⟨sg5,fun x=>f5⟩
theorem afY:ay Try.prog 5 sp5:=
 aF (T:=bW.of [(8,sp8),(9,sp9)]) (ety:=ety) [.tmp 0] an5 Try.func5 rfl rfl rfl (by decide +kernel) rfl (by decide +kernel) rfl (dQ.sound ⟨ZU,H_,trivial⟩) dX mixed fun x=>by kernel_rfl
def f29 (p0:(List ah)) (p1:(List au)):Option (Int×Int×Int×(List ah)×(List aH)):=
 ck (bF (List.length gY) p0.length 24) <|
 let n0:=(gY++p0)
 let n1:=(p1.length:Int)
 Option.bind (
  bn (fun (s2:(Int×Int×Int×(List aH)))=>
   let n3:=(p1.length:Int)
   let n4:=(decide (s2.1<n3))
   bif n4 then
    ck (inB s2.1 p1.length) <|
    let n5:=(List.getD p1 s2.1.toNat fQ)
    Option.bind (
     Option.bind (f41 n5.name n5.line n5.params n5.body) fun c6=>
     some (p0,p1,c6,s2.1,(0:Int),(0:Int),([]:(List ak)))) fun s7=>
    let n8:=(s7.2.2.1.length:Int)
    Option.bind (f42 n5.line s7.1 s7.2.1 s7.2.2.1 s7.2.2.2.1 n8 s7.2.2.2.2.2.1 s7.2.2.2.2.2.2) fun c9=>
    Option.bind (f43 n5.body c9.2.1 c9.2.2.1 c9.2.2.2.1 c9.2.2.2.2.1 c9.2.2.2.2.2.1 c9.2.2.2.2.2.2.1 c9.2.2.2.2.2.2.2) fun c10=>
    Option.bind (
     bif c10.1 then
      let n11:=(c10.2.2.2.1.length:Int)
      let n12:=(dI (n11+1))
      let n13:=(Ou c10.2.2.2.2.2.1 n12)
      Option.bind (f44 1 0 n11 0 0 0 eInt c10.2.1 c10.2.2.1 c10.2.2.2.1 c10.2.2.2.2.1 n13 c10.2.2.2.2.2.2.1 c10.2.2.2.2.2.2.2) fun c14=>
      Option.bind (f45 c14.2.2.2.2.2.1 3 n11 0 0 c14.1 c14.2.1 c14.2.2.1 c14.2.2.2.1 c14.2.2.2.2.1 c14.2.2.2.2.2.1 c14.2.2.2.2.2.2) fun c15=>
      some (c15.1,c15.2.1,c15.2.2.1,c15.2.2.2.1,c15.2.2.2.2.1,c15.2.2.2.2.2.1,c15.2.2.2.2.2.2)
     else
      some (c10.2.1,c10.2.2.1,c10.2.2.2.1,c10.2.2.2.2.1,c10.2.2.2.2.2.1,c10.2.2.2.2.2.2.1,c10.2.2.2.2.2.2.2)) fun s16=>
    let n17:=((List.length n5.params):Int)
    let n18:=[(aH.mk n5.name n17 s16.2.2.2.2.1 s16.2.2.2.2.2.2)]
    ck (bF s2.2.2.2.length n18.length 56) <|
    let n19:=(s2.2.2.2++n18)
    let n20:=(dI (s2.1+1))
    some (.inl (n20,s2.2.1,s2.2.2.1,n19))
   else
    some (.inr (s2.2.1,s2.2.2.1,s2.2.2.2))) ((0:Int),n1,(0:Int),([]:(List aH)))) fun zy=>
 Option.bind (f46 n0 zy.2.2 zy.1 zy.2.1) fun Iq=>
 let n23:=(!(decide (Iq=0)))
 bif n23 then
  some ((0:Int),(0:Int),(5:Int),gY,([]:(List aH)))
 else
  some (zy.1,zy.2.1,(0:Int),n0,zy.2.2)
def ail:aV:=⟨alv,fun x=>f29 x.1 x.2⟩
theorem ads:ay Try.prog 29 ail:=
 aF (T:=bW.of [(41,afP),(42,Zk),(43,ahY),(44,Zl),(45,WT),(46,aik)]) (ety:=ahy) [.cell 2 27,.tmp 3] alx Try.func29 rfl rfl rfl (by decide +kernel) rfl (by decide +kernel) rfl (dQ.sound ⟨U0,ED,ac0,EF,AB,adr,trivial⟩) dX mixed fun x=>by kernel_rfl
def f15 (p0:(List Int)) (p1:Int):Option (Int×Int×(List Int)×Int×(List ah)×(List aH)):=
 Option.bind (f30 p0 p1) fun c0=>
 Option.bind (f29 c0.2.2.1 c0.2.2.2) fun c1=>
 some (c1.1,c1.2.1,c0.1,c0.2.1,c1.2.2.2.1,c1.2.2.2.2)
def ain:aV:=⟨aly,fun x=>f15 x.1 x.2⟩
theorem adt:ay Try.prog 15 ain:=
 aF (T:=bW.of [(30,aij),(29,ail)]) (ety:=ety) [.cell 2 27] alz Try.func15 rfl rfl rfl (by decide +kernel) rfl (by decide +kernel) rfl (dQ.sound ⟨adq,ads,trivial⟩) dX mixed fun x=>by kernel_rfl
def f7 (p0:(List Int)) (p1:Int):Option ((List aH)×Int×Int×(List Int)×Int×(List ah)):=
 Option.bind (f11 2 p0 p1) fun c0=>
 let n1:=(decide (c0.1=0))
 bif n1 then
  Option.bind (f15 c0.2.1 c0.2.2) fun c2=>
  some (c2.2.2.2.2.2,c2.1,c2.2.1,c2.2.2.1,c2.2.2.2.1,c2.2.2.2.2.1)
 else
  Option.bind (f16 c0.2.1 c0.2.2) fun c3=>
  some (c3.2.2.2.2.2,c3.1,c3.2.1,c3.2.2.1,c3.2.2.2.1,c3.2.2.2.2.1)
def sp7:aV:=⟨sg7,fun x=>f7 x.1 x.2⟩
theorem afZ:ay Try.prog 7 sp7:=
 aF (T:=bW.of [(11,Ia),(15,ain),(16,aii)]) (ety:=ety) [.cell 2 27] an7 Try.func7 rfl rfl rfl (by decide +kernel) rfl (by decide +kernel) rfl (dQ.sound ⟨mZ,adt,adp,trivial⟩) dX mixed fun x=>by kernel_rfl
def f3 (p0:(List Int)):Option Bool:=
 Option.bind (f5) fun c0=>
 let n1:=(!c0)
 bif n1 then
  some false
 else
  Option.bind (f6 p0 500) fun c2=>
  Option.bind (f7 c2.1 c2.2) fun c3=>
  Option.bind (f8 c3.2.2.2.2.2 c3.1 c3.2.1 c3.2.2.1) fun c4=>
  dR (
   bn (fun (s5:(Int×Int))=>
    let n6:=(c3.1.length:Int)
    let n7:=(decide (s5.2<n6))
    bif n7 then
     ck (inB s5.2 c3.1.length) <|
     let n8:=(List.getD c3.1 s5.2.toNat aA)
     Option.bind (f9 n8.name n8.params n8.regs n8.blocks) fun c9=>
     let n10:=(c9.length:Int)
     Option.bind (f10 n8.name n8.params n8.regs n8.blocks) fun c11=>
     let n12:=(c11.length:Int)
     Option.bind (
      bn (fun (s13:(Int×Int))=>
       let n14:=(c4.length:Int)
       let n15:=(decide (s13.2<n14))
       bif n15 then
        ck (inB s13.2 c4.length) <|
        let n16:=(List.getD c4 s13.2.toNat (aT.mk 0 0 0))
        let n17:=(decide (n16.func=s5.2))
        Option.bind (
         bif n17 then
          let n18:=(dI (s13.1+1))
          some n18
         else
          some s13.1) fun wO=>
        let n20:=(dI (s13.2+1))
        some (.inl (wO,n20))
       else
        some (.inr s13.1)) ((0:Int),(0:Int))) fun zy=>
     Option.bind (
      bn (fun (kC:(Int×Int))=>
       let n23:=((List.length n8.blocks):Int)
       let n24:=(decide (kC.2<n23))
       bif n24 then
        ck (inB kC.2 (List.length n8.blocks)) <|
        let n25:=(List.getD n8.blocks kC.2.toNat aj)
        let n26:=(decide (n25.aQ=3))
        Option.bind (
         bif n26 then
          let n27:=(dI (kC.1+1))
          some n27
         else
          some kC.1) fun Na=>
        let n29:=(dI (kC.2+1))
        some (.inl (Na,n29))
       else
        some (.inr kC.1)) ((0:Int),(0:Int))) fun rX=>
     Option.bind (
      let n31:=(dI (n12+zy))
      let n32:=(!(decide (n31=n10)))
      bif n32 then
       some true
      else
       let n33:=(dI (n10+rX))
       let n34:=((List.length n8.blocks):Int)
       let n35:=(dI (n33-n34))
       let n36:=(!(decide (zy=n35)))
       let n37:=n36
       some n37) fun pR=>
     bif pR then
      some (.inr (.inr false))
     else
      let n39:=(dI (s5.1+zy))
      let n40:=(dI (s5.2+1))
      some (.inl (n39,n40))
    else
     some (.inr (.inl s5.1))) ((0:Int),(0:Int))) fun Ip=>
  let n42:=(c4.length:Int)
  let n43:=(decide (Ip=n42))
  some n43
def sp3:aV:=⟨sg3,fun x=>f3 x⟩
theorem af0:ay Try.prog 3 sp3:=
 aF (T:=bW.of [(5,sp5),(6,sp6),(7,sp7),(8,sp8),(9,sp9),(10,aif)]) (ety:=ety) [.tmp 2] an3 Try.func3 rfl rfl rfl (by decide +kernel) rfl (by decide +kernel) rfl (dQ.sound ⟨afY,afr,afZ,ZU,H_,ado,trivial⟩) dX mixed fun x=>by kernel_rfl
end
end Go.Fg.Ytfklooeiipkijaa

