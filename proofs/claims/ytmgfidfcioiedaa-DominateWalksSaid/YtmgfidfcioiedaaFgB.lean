/-
 What the functions of the seat compute, printed by a program (wip/gen).
-/
import Derived.Test.YtmgfidfcioiedaaFgA
import Derived.Test.YtmgfidfcioiedaaFgL
namespace Go.Fg.Ytmgfidfcioiedaa
open Go.Fw Go.Proofs Go.Fw.Ytmgfidfcioiedaa
noncomputable section
set_option linter.unusedVariables false
set_option maxRecDepth 100000
abbrev aQ:Type:=List (List UInt8)
abbrev ZQ:Type:=List (List Int)
abbrev Nz:Type:=List aN
abbrev dF:Type:=List aI
abbrev kF:Type:=List aG
abbrev gK:Type:=List UInt8
abbrev oq:Type:=List dH
abbrev lD:Type:=List aU
abbrev LEd:Type:=List gJ
abbrev XM:Type:=List Bool
abbrev dW:Type:=List Int
def f33:List Int→Option dW:=Xl
def aiS:aP:=Vb
theorem acG:ak Try.prog 33 aiS:=ZM
abbrev OB {A B:Type}:Option A→(A→Option B)→Option B:=Option.bind
theorem ts (l:List (Nat×aP)) (e:TypeId→Option Ty) {f:FuncId} {fn:Func} {c:Code} {sp:aP} (r:List ResultVar) (a:fP) (hf:Try.prog.funcs[f]?=some fn) (hb:fn.body=some c) (hT:Xj Try.prog l) (h1:(fn.name == "runtime.NumGoroutine")=false:=by rfl) (h2:fn.results=r.toArray:=by rfl) (h3:sp.sig.er.ok=true:=by kernel_rfl) (h4:(sp.sig.aK.all fun g=>sp.sig.pin.er.nms.contains g)=true:=by rfl) (h5:sp.sig.nargs≤fn.ntmps:=by exact of_decide_eq_true (by kernel_rfl)) (h6:r.length=sp.sig.bP:=by rfl)
 (h :∀x,(Zi (lZ.of l) tt e fn.ntmps sp.sig r c a x).run=sp.f x:=by intro x;kernel_rfl):ak Try.prog f sp:=Xk (T:=lZ.of l) (ety:=e) r a hf hb h1 h2 h3 h4 h5 h6 (Xj.sound hT) alb mixed h
def u2 {A0 A1 R:Type} (f:A0→A1→R) (x:A0×A1):R:=f x.1 x.2
def u3 {A0 A1 A2 R:Type} (f:A0→A1→A2→R) (x:A0×A1×A2):R:=f x.1 x.2.1 x.2.2
def u4 {A0 A1 A2 A3 R:Type} (f:A0→A1→A2→A3→R) (x:A0×A1×A2×A3):R:=f x.1 x.2.1 x.2.2.1 x.2.2.2
def u5 {A0 A1 A2 A3 A4 R:Type} (f:A0→A1→A2→A3→A4→R) (x:A0×A1×A2×A3×A4):R:=f x.1 x.2.1 x.2.2.1 x.2.2.2.1 x.2.2.2.2
def u6 {A0 A1 A2 A3 A4 A5 R:Type} (f:A0→A1→A2→A3→A4→A5→R) (x:A0×A1×A2×A3×A4×A5):R:=f x.1 x.2.1 x.2.2.1 x.2.2.2.1 x.2.2.2.2.1 x.2.2.2.2.2
def u7 {A0 A1 A2 A3 A4 A5 A6 R:Type} (f:A0→A1→A2→A3→A4→A5→A6→R) (x:A0×A1×A2×A3×A4×A5×A6):R:=f x.1 x.2.1 x.2.2.1 x.2.2.2.1 x.2.2.2.2.1 x.2.2.2.2.2.1 x.2.2.2.2.2.2
def u8 {A0 A1 A2 A3 A4 A5 A6 A7 R:Type} (f:A0→A1→A2→A3→A4→A5→A6→A7→R) (x:A0×A1×A2×A3×A4×A5×A6×A7):R:=f x.1 x.2.1 x.2.2.1 x.2.2.2.1 x.2.2.2.2.1 x.2.2.2.2.2.1 x.2.2.2.2.2.2.1 x.2.2.2.2.2.2.2
def u9 {A0 A1 A2 A3 A4 A5 A6 A7 A8 R:Type} (f:A0→A1→A2→A3→A4→A5→A6→A7→A8→R) (x:A0×A1×A2×A3×A4×A5×A6×A7×A8):R:=f x.1 x.2.1 x.2.2.1 x.2.2.2.1 x.2.2.2.2.1 x.2.2.2.2.2.1 x.2.2.2.2.2.2.1 x.2.2.2.2.2.2.2.1 x.2.2.2.2.2.2.2.2
def u10 {A0 A1 A2 A3 A4 A5 A6 A7 A8 A9 R:Type} (f:A0→A1→A2→A3→A4→A5→A6→A7→A8→A9→R) (x:A0×A1×A2×A3×A4×A5×A6×A7×A8×A9):R:=f x.1 x.2.1 x.2.2.1 x.2.2.2.1 x.2.2.2.2.1 x.2.2.2.2.2.1 x.2.2.2.2.2.2.1 x.2.2.2.2.2.2.2.1 x.2.2.2.2.2.2.2.2.1 x.2.2.2.2.2.2.2.2.2
def u11 {A0 A1 A2 A3 A4 A5 A6 A7 A8 A9 Vh R:Type} (f:A0→A1→A2→A3→A4→A5→A6→A7→A8→A9→Vh→R) (x:A0×A1×A2×A3×A4×A5×A6×A7×A8×A9×Vh):R:=f x.1 x.2.1 x.2.2.1 x.2.2.2.1 x.2.2.2.2.1 x.2.2.2.2.2.1 x.2.2.2.2.2.2.1 x.2.2.2.2.2.2.2.1 x.2.2.2.2.2.2.2.2.1 x.2.2.2.2.2.2.2.2.2.1 x.2.2.2.2.2.2.2.2.2.2
def u12 {A0 A1 A2 A3 A4 A5 A6 A7 A8 A9 Vh ZR R:Type} (f:A0→A1→A2→A3→A4→A5→A6→A7→A8→A9→Vh→ZR→R) (x:A0×A1×A2×A3×A4×A5×A6×A7×A8×A9×Vh×ZR):R:=f x.1 x.2.1 x.2.2.1 x.2.2.2.1 x.2.2.2.2.1 x.2.2.2.2.2.1 x.2.2.2.2.2.2.1 x.2.2.2.2.2.2.2.1 x.2.2.2.2.2.2.2.2.1 x.2.2.2.2.2.2.2.2.2.1 x.2.2.2.2.2.2.2.2.2.2.1 x.2.2.2.2.2.2.2.2.2.2.2
def u13 {A0 A1 A2 A3 A4 A5 A6 A7 A8 A9 Vh ZR A12 R:Type} (f:A0→A1→A2→A3→A4→A5→A6→A7→A8→A9→Vh→ZR→A12→R) (x:A0×A1×A2×A3×A4×A5×A6×A7×A8×A9×Vh×ZR×A12):R:=f x.1 x.2.1 x.2.2.1 x.2.2.2.1 x.2.2.2.2.1 x.2.2.2.2.2.1 x.2.2.2.2.2.2.1 x.2.2.2.2.2.2.2.1 x.2.2.2.2.2.2.2.2.1 x.2.2.2.2.2.2.2.2.2.1 x.2.2.2.2.2.2.2.2.2.2.1 x.2.2.2.2.2.2.2.2.2.2.2.1 x.2.2.2.2.2.2.2.2.2.2.2.2
def u14 {A0 A1 A2 A3 A4 A5 A6 A7 A8 A9 Vh ZR A12 A13 R:Type} (f:A0→A1→A2→A3→A4→A5→A6→A7→A8→A9→Vh→ZR→A12→A13→R) (x:A0×A1×A2×A3×A4×A5×A6×A7×A8×A9×Vh×ZR×A12×A13):R:=f x.1 x.2.1 x.2.2.1 x.2.2.2.1 x.2.2.2.2.1 x.2.2.2.2.2.1 x.2.2.2.2.2.2.1 x.2.2.2.2.2.2.2.1 x.2.2.2.2.2.2.2.2.1 x.2.2.2.2.2.2.2.2.2.1 x.2.2.2.2.2.2.2.2.2.2.1 x.2.2.2.2.2.2.2.2.2.2.2.1 x.2.2.2.2.2.2.2.2.2.2.2.2.1 x.2.2.2.2.2.2.2.2.2.2.2.2.2
def u15 {A0 A1 A2 A3 A4 A5 A6 A7 A8 A9 Vh ZR A12 A13 A14 R:Type} (f:A0→A1→A2→A3→A4→A5→A6→A7→A8→A9→Vh→ZR→A12→A13→A14→R) (x:A0×A1×A2×A3×A4×A5×A6×A7×A8×A9×Vh×ZR×A12×A13×A14):R:=f x.1 x.2.1 x.2.2.1 x.2.2.2.1 x.2.2.2.2.1 x.2.2.2.2.2.1 x.2.2.2.2.2.2.1 x.2.2.2.2.2.2.2.1 x.2.2.2.2.2.2.2.2.1 x.2.2.2.2.2.2.2.2.2.1 x.2.2.2.2.2.2.2.2.2.2.1 x.2.2.2.2.2.2.2.2.2.2.2.1 x.2.2.2.2.2.2.2.2.2.2.2.2.1 x.2.2.2.2.2.2.2.2.2.2.2.2.2.1 x.2.2.2.2.2.2.2.2.2.2.2.2.2.2
abbrev T16:=Int→dW→Int→Option (Int×dW×Int)
abbrev T30:=Int→Option gK
abbrev T46:=oq→aQ→Option aQ
abbrev T51:=oq→Option Int
abbrev T74:=Int→Int→Int→Int→gK→lD→Option Int
abbrev XO:=Int→Int→Int→Int→gK→lD→Int→dF→(List aj)→aQ→Int→Int→Int→kF→Option (dF×(List aj)×aQ×Int×Int×Int×kF)
abbrev T85:=Int→Int→Int→Int→gK→lD→Int→dF→(List aj)→aQ→Int→Int→Int→kF→Option (dF×(List aj)×aQ×Int×Int×Int×kF)
abbrev T86:=lD→Int→dF→(List aj)→aQ→Int→Int→Int→kF→Option (dF×(List aj)×aQ×Int×Int×Int×dW×kF)
abbrev T76:=Int→Int→Int→Int→gK→lD→dF→(List aj)→Int→Int→aQ→Option (Int×Int×Int×Int×gK×dF×(List aj)×Int×Int×aQ×lD)
abbrev T92:=lD→dF→(List aj)→Int→Int→aQ→Option (dF×(List aj)×Int×Int×aQ×lD)
abbrev T24:=Int→gK→Int→Int→kF→XM→dW→Option (XM×gK×Int×Int×kF×dW)
abbrev XP:=oq→dF→(List aj)→aQ→Int→Int→Int→kF→Option (Bool×dF×(List aj)×aQ×Int×Int×Int×kF)
abbrev T47:=Int→Int→gK→lD→oq→oq→dF→(List aj)→aQ→Int→Int→Int→kF→Option (Bool×dF×(List aj)×aQ×Int×Int×Int×kF)
abbrev T67:=Int→Int→gK→lD→oq→oq→Int→dF→(List aj)→aQ→Int→Int→Int→kF→Option (dF×(List aj)×aQ×Int×Int×Int×kF)
abbrev T70:=Int→Int→gK→lD→oq→oq→Int→dF→(List aj)→aQ→Int→Int→Int→kF→Option (Bool×dF×(List aj)×aQ×Int×Int×Int×kF)
abbrev T54:=oq→dF→(List aj)→Int→Int→aQ→Option (dF×(List aj)×Int×Int×oq×aQ)
abbrev T95:=Int→Int→dW→Int→dF→(List aj)→aQ→Option (Int×Int×Int×Int×gK×lD×Int×dW×Int×dF×(List aj)×aQ)
abbrev T98:=Int→Int→dW→Int→dF→(List aj)→aQ→Option (Int×Int×Int×Int×gK×Int×dW×Int×dF×(List aj)×aQ×lD)
abbrev T55:=Int→Int→Int→dW→Int→dF→(List aj)→aQ→Option (Int×dW×Int×dF×(List aj)×oq×aQ)
abbrev T78:=Int→Int→dW→Int→dF→(List aj)→aQ→Option (Int×Int×gK×Int×dW×Int×dF×(List aj)×lD×oq×oq×aQ)
abbrev T97:=Int→Int→dW→Int→dF→(List aj)→aQ→Option (Int×Int×gK×Int×dW×Int×dF×(List aj)×lD×oq×aQ)
abbrev eInt:dW:=[]
abbrev qF:(List fA):=[]
abbrev cu:gK:=[]
abbrev nV:lD:=[]
abbrev jG:aQ:=[]
abbrev gZ:oq:=[]
abbrev jd:dF:=[]
abbrev uD:(List aj):=[]
def bG (a b k:Nat):Bool:=true&&decide ((a+b)*k≤140737488355328)
def aB:aN:=aN.mk ([]:gK) (0:Int) (0:Int) ([]:kF)
def fJ:aj:=aj.mk ([]:gK) (0:Int) ([]:aQ) ([]:oq)
def gB:aU:=aU.mk (0:Int) (0:Int) (0:Int) (0:Int) ([]:gK) ([]:lD)
def ah:aG:=aG.mk ([]:(List fA)) (0:Int) (0:Int) (0:Int) (0:Int) (0:Int) (0:Int) 0
def jH:dH:=dH.mk (0:Int) (0:Int) ([]:gK) ([]:lD) ([]:oq) ([]:oq)
def f7 (p0:dW) (p1:Int):Option (dW×Int):=
 OB (
  bif (decide (p1<(p0.length:Int))) then
   ck (BN (0:Int) p1 p0.length) <|
   some (List.drop (Int.toNat (0:Int)) (List.take p1.toNat p0))
  else
   some p0) fun s3=>
 some (s3,(0:Int))
def sp7:aP:=⟨sg7,u2 f7⟩
theorem af5:ak Try.prog 7 sp7:=
 ts [] ety [.tmp 4] an7 Try.func7 rfl trivial
def f10 (p0:Int) (p1:Int) (p2:Int) (p3:Int):Option dW:=
 OB (
  bif (decide (p0=2)) then
   some (!(decide (p3=p2)))
  else
   some false) fun s3=>
 bif s3 then
  some [p2,p3]
 else
  OB (
   bif (decide (p0=1)) then
    some true
   else
    some (decide (p0=2))) fun s8=>
  bif s8 then
   some [p2]
  else
   some eInt
def acJ:aP:=⟨alk,u4 f10⟩
theorem Nh:ak Try.prog 10 acJ:=
 ts [] ety [.tmp 2] alm Try.func10 rfl trivial
def f13 (p0:dW) (p1:Int):Option Bool:=
 dh (
  aX (fun (s0:Int)=>
   bif (decide (s0<(p0.length:Int))) then
    ck (inB s0 p0.length) <|
    bif (decide ((List.getD p0 s0.toNat 0)=p1)) then
     some (.inr (.inr true))
    else
     some (.inl (bW (s0+1)))
   else
    some (.inr (.inl ()))) (0:Int)) fun s6=>
 some false
def acK (aiU:T16) (p0:Int) (p1:dW) (p2:Int):Option (Int×dW×Int):=
 OB (
  bif (decide ((p1.length:Int)≤p2)) then
   some true
  else
   some (decide (p0<1))) fun s4=>
 bif s4 then
  some ((0:Int),p1,p2)
 else
  ck (inB p2 p1.length) <|
  let n6:=(bW (List.getD p1 p2.toNat 0))
  let n7:=(bW (p2+1))
  bif (decide (256<p0)) then
   OB (aiU 256 p1 n7) fun c10=>
   ck (!(decide (p0=0))) <|
   some ((Int.tmod (bW ((bW (256*n6))+c10.1)) p0),c10.2.1,c10.2.2)
  else
   ck (!(decide (p0=0))) <|
   some ((Int.tmod n6 p0),p1,n7)
def SV:Nat→T16
 |0=>(fun _ _ _=>none)
 |n+1=>(acK (SV n))
def acL (n:Nat):T16:=(SV n)
def P8 (n:Nat):aP:=⟨ah7,u3 (SV n)⟩
theorem ZT (n:Nat) (h16:ak Try.prog 16 (P8 n)):ak Try.prog 16 (P8 (n+1)):=
 ts [(16,P8 n)] ety [.tmp 4] aln Try.func16 rfl ⟨h16,trivial⟩
theorem Ea :∀n,ak Try.prog 16 (P8 n)
 |0=>bK Try.func16 rfl rfl (show ah7.er.ok=true by decide +kernel) fun x=>rfl
 |n+1=>by
  have ih:=Ea n
  exact ZT n (ih)
def f16:T16:=acL 1048576
def Iy:aP:=P8 1048576
theorem ny:ak Try.prog 16 Iy:=(Ea 1048576)
def af6 (p0:Int) (p1:Int) (p2:dW) (p3:dW):Option (Int×dW×dW):=
 OB (
  OB (
   aX (fun (s0:(Int×Int))=>
    bif (!(decide (s0.1=s0.2))) then
     ck (inB s0.1 p2.length) <|
     ck (inB s0.2 p2.length) <|
     OB (
      bif (decide ((List.getD p2 s0.2.toNat 0)<(List.getD p2 s0.1.toNat 0))) then
       ck (inB s0.1 p3.length) <|
       some ((List.getD p3 s0.1.toNat 0),s0.2)
      else
       ck (inB s0.2 p3.length) <|
       some (s0.1,(List.getD p3 s0.2.toNat 0))) fun s7=>
     some (.inl (s7.1,s7.2))
    else
     some (.inr s0.1)) (p0,p1)) fun s8=>
  some (s8,p2,p3)) fun s9=>
 ck (decide (p2.length=s9.2.1.length)) <|
 ck (decide (p3.length=s9.2.2.length)) <|
 some s9
def f20 (p0:Int) (p1:Int) (p2:dW) (p3:dW):Option (Int×dW×dW):=OB (af6 p0 p1 p2 p3) fun (y:(Int×dW×dW))=>uV y.2.1 p2 <| uV y.2.2 p3 <| some y
def aiV:aP:=⟨alo,u4 af6⟩
theorem acM:ak Try.prog 20 aiV:=
 ts [] ety [.tmp 6] alp Try.func20 rfl trivial
def f23 (p0:dW) (p1:Int) (p2:Int):Option Bool:=
 OB (
  aX (fun (s0:Int)=>
   OB (
    bif (decide (0≤s0)) then
     some (!(decide (p1=s0)))
    else
     some false) fun s4=>
   bif s4 then
    ck (inB s0 p0.length) <|
    some (.inl (List.getD p0 s0.toNat 0))
   else
    some (.inr s0)) p2) fun s6=>
 some (decide (0≤s6))
def af7:aP:=⟨alq,u3 f23⟩
theorem Vj:ak Try.prog 23 af7:=
 ts [] ety [.tmp 6] alr Try.func23 rfl trivial
def f25 (p0:Int) (p1:Int) (p2:Int) (p3:Int):Option dW:=
 OB (
  bif (decide (p0=1)) then
   some true
  else
   OB (
    bif (decide (p0=2)) then
     some (decide (p2=p3))
    else
     some false) fun s4=>
   some s4) fun s5=>
 bif s5 then
  some [p2]
 else
  bif (decide (p0=2)) then
   some [p2,p3]
  else
   some eInt
def acN:aP:=⟨als,u4 f25⟩
theorem Nj:ak Try.prog 25 acN:=
 ts [] ety [.tmp 2] alu Try.func25 rfl trivial
def f26 (p0:dW):Option dW:=
 OB (
  OB (
   aX (fun (s2:(Int×Int×dW))=>
    bif (decide (s2.1<s2.2.1)) then
     ck (inB s2.2.1 s2.2.2.length) <|
     ck (inB s2.1 s2.2.2.length) <|
     ck (inB s2.1 s2.2.2.length) <|
     let n6:=(List.set s2.2.2 s2.1.toNat (List.getD s2.2.2 s2.2.1.toNat 0))
     ck (inB s2.2.1 n6.length) <|
     some (.inl ((bW (s2.1+1)),(bW (s2.2.1-1)),(List.set n6 s2.2.1.toNat (List.getD s2.2.2 s2.1.toNat 0))))
    else
     some (.inr s2.2.2)) ((0:Int),(bW ((p0.length:Int)-1)),p0)) fun s10=>
  some s10) fun s11=>
 ck (decide (p0.length=s11.length)) <|
 some s11
def aiW:aP:=⟨alv,f26⟩
theorem acO:ak Try.prog 26 aiW:=
 ts [] ety [] alx Try.func26 rfl trivial
def af8 (aiX:T30) (p0:Int):Option gK:=
 let n4:=(List.map (fun (b:Int)=>(UInt8.ofNat (Int.toNat b))) [(Go.IntKind.wrap .u8 (bW (48+(Int.tmod p0 (10:Int)))))])
 bif (decide (10≤p0)) then
  OB (aiX (bW (Int.tdiv p0 (10:Int)))) fun c7=>
  ck (Ai c7.length n4.length) <|
  some (c7++n4)
 else
  some n4
def SX:Nat→T30
 |0=>(fun _=>none)
 |n+1=>(af8 (SX n))
def acP (n:Nat):T30:=(SX n)
def P9 (n:Nat):aP:=⟨ah8,(SX n)⟩
theorem ZU (n:Nat) (h30:ak Try.prog 30 (P9 n)):ak Try.prog 30 (P9 (n+1)):=
 ts [(30,P9 n)] ety [.tmp 2] aly Try.func30 rfl ⟨h30,trivial⟩
theorem Eb :∀n,ak Try.prog 30 (P9 n)
 |0=>bK Try.func30 rfl rfl (show ah8.er.ok=true by decide +kernel) fun x=>rfl
 |n+1=>by
  have ih:=Eb n
  exact ZU n (ih)
def f30:T30:=acP 1048576
def af9:aP:=P9 1048576
theorem Vk:ak Try.prog 30 af9:=(Eb 1048576)
def f31 (p0:dF) (p1:Nz) (p2:Int) (p3:Int) (p4:gK) (p5:Int) (p6:Int) (p7:kF) (p8:dW) (p9:Int):Option (Int×Int×Int×Int×Int×Int×dW×Int×dW):=
 OB (f16 12 p8 p9) fun c0=>
 let n1:=(bW (1+c0.1))
 OB (f16 p6 c0.2.1 c0.2.2) fun c2=>
 OB (f16 p6 c2.2.1 c2.2.2) fun c3=>
 OB (f16 p6 c3.2.1 c3.2.2) fun c4=>
 OB (
  bif (decide (n1=1)) then
   OB (f16 6 c4.2.1 c4.2.2) fun c6=>
   some (c6.2.1,c6.2.2,n1,(0:Int),c2.1,c3.1,c4.1,(bW (c6.1-1)),eInt)
  else
   OB (
    bif (decide (n1=3)) then
     OB (f16 2 c4.2.1 c4.2.2) fun c9=>
     some (c9.2.1,c9.2.2,n1,(bW (1+c9.1)),c2.1,c3.1,c4.1,(0:Int),eInt)
    else
     OB (
      bif (decide (n1=4)) then
       OB (f16 9 c4.2.1 c4.2.2) fun c12=>
       some (c12.2.1,c12.2.2,n1,(bW (3+c12.1)),c2.1,c3.1,c4.1,(0:Int),eInt)
      else
       OB (
        bif (decide (n1=7)) then
         some true
        else
         some (decide (n1=8))) fun s16=>
       OB (
        bif s16 then
         some (c4.2.1,c4.2.2,n1,(0:Int),c2.1,c3.1,c4.1,(1:Int),eInt)
        else
         OB (
          bif (decide (n1=11)) then
           OB (f16 (p1.length:Int) c4.2.1 c4.2.2) fun c19=>
           OB (
            aX (fun (s20:(Int×dW×Int×Int×Int×Int×Int×Int×Int×dW))=>
             ck (inB s20.2.2.2.2.2.2.2.2.1 p1.length) <|
             bif (decide (s20.1<(List.getD p1 s20.2.2.2.2.2.2.2.2.1.toNat aB).params)) then
              OB (f16 p6 s20.2.1 s20.2.2.1) fun c23=>
              let n24:=[c23.1]
              ck (bG s20.2.2.2.2.2.2.2.2.2.length n24.length 8) <|
              some (.inl ((bW (s20.1+1)),c23.2.1,c23.2.2,s20.2.2.2.1,s20.2.2.2.2.1,s20.2.2.2.2.2.1,s20.2.2.2.2.2.2.1,s20.2.2.2.2.2.2.2.1,s20.2.2.2.2.2.2.2.2.1,(s20.2.2.2.2.2.2.2.2.2++n24)))
             else
              some (.inr (s20.2.1,s20.2.2.1,s20.2.2.2.1,s20.2.2.2.2.1,s20.2.2.2.2.2.1,s20.2.2.2.2.2.2.1,s20.2.2.2.2.2.2.2.1,s20.2.2.2.2.2.2.2.2.1,s20.2.2.2.2.2.2.2.2.2))) ((0:Int),c19.2.1,c19.2.2,n1,(0:Int),c2.1,c3.1,c4.1,c19.1,eInt)) fun Xq=>
           some (Xq.1,Xq.2.1,Xq.2.2.1,Xq.2.2.2.1,Xq.2.2.2.2.1,Xq.2.2.2.2.2.1,Xq.2.2.2.2.2.2.1,Xq.2.2.2.2.2.2.2.1,Xq.2.2.2.2.2.2.2.2)
          else
           OB (
            bif (decide (n1=12)) then
             OB (f16 3 c4.2.1 c4.2.2) fun c29=>
             OB (
              aX (fun (uF:(Int×dW×Int×Int×Int×Int×Int×Int×Int×dW))=>
               bif (decide (0<uF.1)) then
                OB (f16 p6 uF.2.1 uF.2.2.1) fun c32=>
                let n33:=[c32.1]
                ck (bG uF.2.2.2.2.2.2.2.2.2.length n33.length 8) <|
                some (.inl ((bW (uF.1-1)),c32.2.1,c32.2.2,uF.2.2.2.1,uF.2.2.2.2.1,uF.2.2.2.2.2.1,uF.2.2.2.2.2.2.1,uF.2.2.2.2.2.2.2.1,uF.2.2.2.2.2.2.2.2.1,(uF.2.2.2.2.2.2.2.2.2++n33)))
               else
                some (.inr (uF.2.1,uF.2.2.1,uF.2.2.2.1,uF.2.2.2.2.1,uF.2.2.2.2.2.1,uF.2.2.2.2.2.2.1,uF.2.2.2.2.2.2.2.1,uF.2.2.2.2.2.2.2.2.1,uF.2.2.2.2.2.2.2.2.2))) (c29.1,c29.2.1,c29.2.2,n1,(0:Int),c2.1,c3.1,c4.1,(0:Int),eInt)) fun s36=>
             some (s36.1,s36.2.1,s36.2.2.1,s36.2.2.2.1,s36.2.2.2.2.1,s36.2.2.2.2.2.1,s36.2.2.2.2.2.2.1,s36.2.2.2.2.2.2.2.1,s36.2.2.2.2.2.2.2.2)
            else
             some (c4.2.1,c4.2.2,n1,(0:Int),c2.1,c3.1,c4.1,(0:Int),eInt)) fun AV=>
           some (AV.1,AV.2.1,AV.2.2.1,AV.2.2.2.1,AV.2.2.2.2.1,AV.2.2.2.2.2.1,AV.2.2.2.2.2.2.1,AV.2.2.2.2.2.2.2.1,AV.2.2.2.2.2.2.2.2)) fun qG=>
         some (qG.1,qG.2.1,qG.2.2.1,qG.2.2.2.1,qG.2.2.2.2.1,qG.2.2.2.2.2.1,qG.2.2.2.2.2.2.1,qG.2.2.2.2.2.2.2.1,qG.2.2.2.2.2.2.2.2)) fun uY=>
       some (uY.1,uY.2.1,uY.2.2.1,uY.2.2.2.1,uY.2.2.2.2.1,uY.2.2.2.2.2.1,uY.2.2.2.2.2.2.1,uY.2.2.2.2.2.2.2.1,uY.2.2.2.2.2.2.2.2)) fun NC=>
     some (NC.1,NC.2.1,NC.2.2.1,NC.2.2.2.1,NC.2.2.2.2.1,NC.2.2.2.2.2.1,NC.2.2.2.2.2.2.1,NC.2.2.2.2.2.2.2.1,NC.2.2.2.2.2.2.2.2)) fun Ec=>
   some (Ec.1,Ec.2.1,Ec.2.2.1,Ec.2.2.2.1,Ec.2.2.2.2.1,Ec.2.2.2.2.2.1,Ec.2.2.2.2.2.2.1,Ec.2.2.2.2.2.2.2.1,Ec.2.2.2.2.2.2.2.2)) fun xU=>
 OB (
  bif (decide (xU.2.2.1=1)) then
   bif (decide (0<p2)) then
    OB (f16 3 xU.1 xU.2.1) fun c46=>
    some ((decide (c46.1=0)),c46.2.1,c46.2.2)
   else
    some (false,xU.1,xU.2.1)
  else
   some (false,xU.1,xU.2.1)) fun s49=>
 bif s49.1 then
  OB (f16 p2 s49.2.1 s49.2.2) fun c50=>
  some ((14:Int),(0:Int),xU.2.2.2.2.1,(0:Int),(0:Int),c50.1,c50.2.1,c50.2.2,eInt)
 else
  some (xU.2.2.1,xU.2.2.2.1,xU.2.2.2.2.1,xU.2.2.2.2.2.1,xU.2.2.2.2.2.2.1,xU.2.2.2.2.2.2.2.1,s49.2.1,s49.2.2,xU.2.2.2.2.2.2.2.2)
def aiY:aP:=⟨alz,u10 f31⟩
theorem acQ:ak Try.prog 31 aiY:=
 ts [(16,Iy)] ety [.cell 6 78] alA Try.func31 rfl ⟨ny,trivial⟩
def f36 (p0:Int) (p1:dF) (p2:(List aj)) (p3:aQ) (p4:Int) (p5:Int) (p6:Int) (p7:kF):Option (Int×dF×(List aj)×aQ×Int×Int×Int×kF):=
 let n0:=(p7.length:Int)
 let n1:=[(aG.mk qF 0 0 0 0 p0 p4 n0)]
 ck (bG p7.length n1.length 80) <|
 some (n0,p1,p2,p3,p4,p5,n0,(p7++n1))
def ZV:aP:=⟨alB,u8 f36⟩
theorem E5:ak Try.prog 36 ZV:=
 ts [] ah9 [.tmp 4] alC Try.func36 rfl trivial
def f38 (p0:Int) (p1:Int) (p2:Int) (p3:Int) (p4:Int) (p5:Int) (p6:dW) (p7:dF) (p8:(List aj)) (p9:aQ) (p10:Int) (p11:Int) (p12:Int) (p13:kF):Option (dF×(List aj)×aQ×Int×Int×Int×kF):=
 OB (
  ck (inB p12 p13.length) <|
  let n0:=[(fA.mk p0 p1 p2 p3 p4 p5 p6)]
  ck (true&&(decide ((((List.length (List.getD p13 p12.toNat ah).instrs)+n0.length)*(72:Nat))≤(140737488355328:Nat)))) <|
  ck (inB p12 p13.length) <|
  ck (Nat.beq p12.toNat p12.toNat) <|
  some (p7,p8,p9,p10,p11,p12,(List.set p13 p12.toNat (aG.mk ((List.getD p13 p12.toNat ah).instrs++n0) (List.getD p13 p12.toNat ah).aT (List.getD p13 p12.toNat ah).qE (List.getD p13 p12.toNat ah).dP (List.getD p13 p12.toNat ah).bn (List.getD p13 p12.toNat ah).line (List.getD p13 p12.toNat ah).jk (List.getD p13 p12.toNat ah).iD)))) fun s3=>
 ck (decide (p13.length=s3.2.2.2.2.2.2.length)) <|
 some s3
def ZW:aP:=⟨alD,u14 f38⟩
theorem E8:ak Try.prog 38 ZW:=
 ts [] ah_ [] alE Try.func38 rfl trivial
def f39 (p0:Int) (p1:Int) (p2:Int) (p3:Int) (p4:Int) (p5:dF) (p6:(List aj)) (p7:aQ) (p8:Int) (p9:Int) (p10:Int) (p11:kF):Option (dF×(List aj)×aQ×Int×Int×Int×kF):=
 OB (
  ck (inB p0 p11.length) <|
  some (p5,p6,p7,p8,p9,p10,(List.set p11 p0.toNat (aG.mk (List.getD p11 p0.toNat ah).instrs p1 p2 p3 p4 (List.getD p11 p0.toNat ah).line (List.getD p11 p0.toNat ah).jk (List.getD p11 p0.toNat ah).iD)))) fun s1=>
 ck (decide (p11.length=s1.2.2.2.2.2.2.length)) <|
 some s1
def Xr:aP:=⟨alF,u12 f39⟩
theorem AX:ak Try.prog 39 Xr:=
 ts [] aia [] alG Try.func39 rfl trivial
def f43 (p0:gK) (p1:Int) (p2:Int) (p3:kF):Option XM:=
 let n0:=(p3.length:Int)
 ck (yZ (1:Nat) n0 n0) <|
 let n1:=(List.replicate n0.toNat false)
 bif (decide ((n1.length:Int)=0)) then
  some n1
 else
  ck (inB (0:Int) n1.length) <|
  OB (
   aX (fun (s6:(XM×dW))=>
    bif (decide (0<(s6.2.length:Int))) then
     let n10:=(bW ((s6.2.length:Int)-1))
     ck (inB n10 s6.2.length) <|
     let n11:=(List.getD s6.2 n10.toNat 0)
     let n13:=(bW ((s6.2.length:Int)-1))
     ck ((decide (0≤n13))&&(decide (n13≤(s6.2.length:Int)))) <|
     ck (inB n11 p3.length) <|
     let n15:=(List.getD p3 n11.toNat ah)
     OB (f10 n15.aT n15.qE n15.dP n15.bn) fun c16=>
     OB (
      aX (fun (nX:(Int×XM×dW))=>
       bif (decide (nX.1<(c16.length:Int))) then
        ck (inB nX.1 c16.length) <|
        let n20:=(List.getD c16 nX.1.toNat 0)
        ck (inB n20 nX.2.1.length) <|
        OB (
         bif (!(List.getD nX.2.1 n20.toNat false)) then
          ck (inB nX.1 c16.length) <|
          let n23:=(List.getD c16 nX.1.toNat 0)
          ck (inB n23 nX.2.1.length) <|
          ck (inB nX.1 c16.length) <|
          let n26:=[(List.getD c16 nX.1.toNat 0)]
          ck (bG nX.2.2.length n26.length 8) <|
          some ((List.set nX.2.1 n23.toNat true),(nX.2.2++n26))
         else
          some (nX.2.1,nX.2.2)) fun CW=>
        some (.inl ((bW (nX.1+1)),CW.1,CW.2))
       else
        some (.inr (nX.2.1,nX.2.2))) ((0:Int),s6.1,(List.take n13.toNat s6.2))) fun uF=>
     some (.inl (uF.1,uF.2))
    else
     some (.inr s6.1)) ((List.set n1 (Int.toNat (0:Int)) true),[(0:Int)])) fun EO=>
  some EO
def af_:aP:=⟨alH,u4 f43⟩
theorem Vl:ak Try.prog 43 af_:=
 ts [(10,acJ)] aib [.tmp 2] alI Try.func43 rfl ⟨Nh,trivial⟩
def aga (aeQ:T46) (p0:oq) (p1:aQ):Option aQ:=
 OB (
  aX (fun (s0:(Int×aQ))=>
   bif (decide (s0.1<(p0.length:Int))) then
    ck (inB s0.1 p0.length) <|
    OB (
     bif (decide ((List.getD p0 s0.1.toNat jH).kind=1)) then
      ck (inB s0.1 p0.length) <|
      let n6:=[(List.getD p0 s0.1.toNat jH).name]
      ck (bG s0.2.length n6.length 16) <|
      some (s0.2++n6)
     else
      some s0.2) fun s8=>
    ck (inB s0.1 p0.length) <|
    OB (aeQ (List.getD p0 s0.1.toNat jH).then' s8) fun c10=>
    ck (inB s0.1 p0.length) <|
    OB (aeQ (List.getD p0 s0.1.toNat jH).else' c10) fun c12=>
    some (.inl ((bW (s0.1+1)),c12))
   else
    some (.inr s0.2)) ((0:Int),p1)) fun s14=>
 some s14
def SY:Nat→T46
 |0=>(fun _ _=>none)
 |n+1=>(aga (SY n))
def agb (n:Nat):T46:=(SY n)
def P_ (n:Nat):aP:=⟨aic,u2 (SY n)⟩
theorem ZX (n:Nat) (h46:ak Try.prog 46 (P_ n)):ak Try.prog 46 (P_ (n+1)):=
 ts [(46,P_ n)] ety [.tmp 4] alJ Try.func46 rfl ⟨h46,trivial⟩
theorem Ee :∀n,ak Try.prog 46 (P_ n)
 |0=>bK Try.func46 rfl rfl (show aic.er.ok=true by decide +kernel) fun x=>rfl
 |n+1=>by
  have ih:=Ee n
  exact ZX n (ih)
def f46:T46:=agb 1048576
def aiZ:aP:=P_ 1048576
theorem acR:ak Try.prog 46 aiZ:=(Ee 1048576)
def f49 (p0:dF) (p1:(List aj)) (p2:gK):Option Int:=
 dh (
  aX (fun (s0:Int)=>
   bif (decide (s0<(p0.length:Int))) then
    ck (inB s0 p0.length) <|
    bif ((List.getD p0 s0.toNat (aI.mk cu 0)).name==p2) then
     some (.inr (.inr s0))
    else
     some (.inl (bW (s0+1)))
   else
    some (.inr (.inl ()))) (0:Int)) fun s6=>
 some (-1:Int)
def ZY:aP:=⟨alK,u3 f49⟩
theorem E_:ak Try.prog 49 ZY:=
 ts [] ety [.tmp 4] alL Try.func49 rfl trivial
def f50 (p0:dF) (p1:(List aj)) (p2:gK):Option Int:=
 dh (
  aX (fun (s0:Int)=>
   bif (decide (s0<(p1.length:Int))) then
    ck (inB s0 p1.length) <|
    bif ((List.getD p1 s0.toNat fJ).name==p2) then
     some (.inr (.inr s0))
    else
     some (.inl (bW (s0+1)))
   else
    some (.inr (.inl ()))) (0:Int)) fun s6=>
 some (-1:Int)
def Z4:aP:=⟨alM,u3 f50⟩
theorem Fa:ak Try.prog 50 Z4:=
 ts [] ety [.tmp 4] alN Try.func50 rfl trivial
def agc (aeR:T51) (p0:oq):Option Int:=
 OB (
  aX (fun (s0:(Int×Int))=>
   bif (decide (s0.2<(p0.length:Int))) then
    ck (inB s0.2 p0.length) <|
    OB (aeR (List.getD p0 s0.2.toNat jH).then') fun c4=>
    ck (inB s0.2 p0.length) <|
    OB (aeR (List.getD p0 s0.2.toNat jH).else') fun c7=>
    some (.inl ((OM (OM s0.1 (bW (1+c4))) (bW (1+c7))),(bW (s0.2+1))))
   else
    some (.inr s0.1)) ((0:Int),(0:Int))) fun s11=>
 some s11
def S9:Nat→T51
 |0=>(fun _=>none)
 |n+1=>(agc (S9 n))
def agd (n:Nat):T51:=(S9 n)
def Qa (n:Nat):aP:=⟨aie,(S9 n)⟩
theorem Z5 (n:Nat) (h51:ak Try.prog 51 (Qa n)):ak Try.prog 51 (Qa (n+1)):=
 ts [(51,Qa n)] ety [.tmp 2] alO Try.func51 rfl ⟨h51,trivial⟩
theorem Ef :∀n,ak Try.prog 51 (Qa n)
 |0=>bK Try.func51 rfl rfl (show aie.er.ok=true by decide +kernel) fun x=>rfl
 |n+1=>by
  have ih:=Ef n
  exact Z5 n (ih)
def f51:T51:=agd 1048576
def ai0:aP:=Qa 1048576
theorem acS:ak Try.prog 51 ai0:=(Ef 1048576)
def f52 (p0:aQ) (p1:gK):Option Bool:=
 dh (
  aX (fun (s0:Int)=>
   bif (decide (s0<(p0.length:Int))) then
    ck (inB s0 p0.length) <|
    bif ((List.getD p0 s0.toNat cu)==p1) then
     some (.inr (.inr true))
    else
     some (.inl (bW (s0+1)))
   else
    some (.inr (.inl ()))) (0:Int)) fun s6=>
 some false
def agf:aP:=⟨alP,u2 f52⟩
theorem Vm:ak Try.prog 52 agf:=
 ts [] ety [.tmp 4] alQ Try.func52 rfl trivial
def f53 (p0:dF) (p1:(List aj)) (p2:gK):Option Int:=
 OB (f49 p0 p1 p2) fun c0=>
 bif (decide (0≤c0)) then
  ck (inB c0 p0.length) <|
  bif (decide (0<(List.getD p0 c0.toNat (aI.mk cu 0)).size)) then
   some (3:Int)
  else
   some (2:Int)
 else
  OB (f50 p0 p1 p2) fun c4=>
  bif (decide (0≤c4)) then
   some (4:Int)
  else
   some (0:Int)
def agh:aP:=⟨alR,u3 f53⟩
theorem Vo:ak Try.prog 53 agh:=
 ts [(49,ZY),(50,Z4)] ety [.tmp 4] alS Try.func53 rfl ⟨E_,Fa,trivial⟩
def agi (p0:gK) (p1:dF) (p2:(List aj)) (p3:aQ) (p4:Int) (p5:Int) (p6:Int) (p7:kF):Option (Int×dF×(List aj)×aQ×Int×Int×Int×kF):=
 OB (
  dh (
   aX (fun (s0:Int)=>
    bif (decide (s0<(p3.length:Int))) then
     ck (inB s0 p3.length) <|
     bif ((List.getD p3 s0.toNat cu)==p0) then
      some (.inr (.inr (s0,p1,p2,p3,p4,p5,p6,p7)))
     else
      some (.inl (bW (s0+1)))
    else
     some (.inr (.inl ()))) (0:Int)) fun s6=>
  some ((-1:Int),p1,p2,p3,p4,p5,p6,p7)) fun s7=>
 ck (decide (p7.length=s7.2.2.2.2.2.2.2.length)) <|
 some s7
def f69 (p0:gK) (p1:dF) (p2:(List aj)) (p3:aQ) (p4:Int) (p5:Int) (p6:Int) (p7:kF):Option (Int×dF×(List aj)×aQ×Int×Int×Int×kF):=OB (agi p0 p1 p2 p3 p4 p5 p6 p7) fun (y:(Int×dF×(List aj)×aQ×Int×Int×Int×kF))=>uV y.2.2.2.2.2.2.2 p7 <| some y
def agj:aP:=⟨alT,u8 agi⟩
theorem Vp:ak Try.prog 69 agj:=
 ts [] aif [.tmp 4] alU Try.func69 rfl trivial
def f71 (p0:gK) (p1:Int) (p2:Int) (p3:kF):Option Int:=
 OB (
  aX (fun (s0:(Int×Int))=>
   bif (decide (s0.2<(p3.length:Int))) then
    ck (inB s0.2 p3.length) <|
    some (.inl ((bW (s0.1+(bW (((List.length (List.getD p3 s0.2.toNat ah).instrs):Int)+1)))),(bW (s0.2+1))))
   else
    some (.inr s0.1)) ((0:Int),(0:Int))) fun s8=>
 some s8
def ai1:aP:=⟨alV,u4 f71⟩
theorem acT:ak Try.prog 71 ai1:=
 ts [] ety [.tmp 2] alW Try.func71 rfl trivial
def f73 (p0:gK) (p1:Int) (p2:Int) (p3:kF) (p4:Int) (p5:Int) (p6:Int) (p7:Int):Option Int:=
 OB (
  bif (decide (p4<1)) then
   some true
  else
   some (decide (3<p4))) fun s3=>
 bif s3 then
  some (17:Int)
 else
  OB (
   bif (!(decide (p4=1))) then
    bif (decide (p5<0)) then
     some true
    else
     some (decide (p2≤p5))
   else
    some false) fun s10=>
  bif s10 then
   some (14:Int)
  else
   OB (f10 p4 p5 p6 p7) fun c11=>
   dh (
    aX (fun (s12:Int)=>
     bif (decide (s12<(c11.length:Int))) then
      OB (
       ck (inB s12 c11.length) <|
       bif (decide ((List.getD c11 s12.toNat 0)<0)) then
        some true
       else
        ck (inB s12 c11.length) <|
        some (decide ((p3.length:Int)≤(List.getD c11 s12.toNat 0)))) fun xQ=>
      bif xQ then
       some (.inr (.inr (13:Int)))
      else
       some (.inl (bW (s12+1)))
     else
      some (.inr (.inl ()))) (0:Int)) fun s23=>
   some (0:Int)
def ai2:aP:=⟨alX,u8 f73⟩
theorem acU:ak Try.prog 73 ai2:=
 ts [(10,acJ)] ety [.tmp 4] alY Try.func73 rfl ⟨Nh,trivial⟩
def agk (ai3:T74) (p0:Int) (p1:Int) (p2:Int) (p3:Int) (p4:gK) (p5:lD):Option Int:=
 OB (
  aX (fun (s0:(Int×Int))=>
   bif (decide (s0.2<(p5.length:Int))) then
    ck (inB s0.2 p5.length) <|
    let n3:=(List.getD p5 s0.2.toNat gB)
    OB (ai3 n3.kind n3.op n3.value n3.line n3.name n3.args) fun c4=>
    some (.inl ((OM s0.1 c4),(bW (s0.2+1))))
   else
    some (.inr s0.1)) ((0:Int),(0:Int))) fun s7=>
 some (bW (s7+1))
def S_:Nat→T74
 |0=>(fun _ _ _ _ _ _=>none)
 |n+1=>(agk (S_ n))
def agl (n:Nat):T74:=(S_ n)
def Qb (n:Nat):aP:=⟨aii,u6 (S_ n)⟩
theorem Z7 (n:Nat) (h74:ak Try.prog 74 (Qb n)):ak Try.prog 74 (Qb (n+1)):=
 ts [(74,Qb n)] ety [.tmp 2] alZ Try.func74 rfl ⟨h74,trivial⟩
theorem Eh :∀n,ak Try.prog 74 (Qb n)
 |0=>bK Try.func74 rfl rfl (show aii.er.ok=true by decide +kernel) fun x=>rfl
 |n+1=>by
  have ih:=Eh n
  exact Z7 n (ih)
def f74:T74:=agl 1048576
def ai4:aP:=Qb 1048576
theorem acV:ak Try.prog 74 ai4:=(Eh 1048576)
def agm (p0:Int) (p1:Int) (p2:dF) (p3:(List aj)) (p4:Int) (p5:Int) (p6:aQ):Option (dF×(List aj)×Int×Int×aQ):=
 OB (
  OB (
   bif (decide (p5=0)) then
    some (p2,p3,p0,p1)
   else
    some (p2,p3,p4,p5)) fun s1=>
  some (s1.1,s1.2.1,s1.2.2.1,s1.2.2.2,p6)) fun s2=>
 ck (decide (p6.length=s2.2.2.2.2.length)) <|
 some s2
def f75 (p0:Int) (p1:Int) (p2:dF) (p3:(List aj)) (p4:Int) (p5:Int) (p6:aQ):Option (dF×(List aj)×Int×Int×aQ):=OB (agm p0 p1 p2 p3 p4 p5 p6) fun (y:(dF×(List aj)×Int×Int×aQ))=>uV y.2.2.2.2 p6 <| some y
def acW:aP:=⟨al0,u7 agm⟩
theorem Nk:ak Try.prog 75 acW:=
 ts [] ety [] al1 Try.func75 rfl trivial
def agn (p0:gK) (p1:dF) (p2:(List aj)) (p3:Int) (p4:Int) (p5:aQ):Option (Int×dF×(List aj)×Int×Int×aQ):=
 OB (
  OB (f52 p5 p0) fun c0=>
  bif c0 then
   some ((1:Int),p1,p2,p3,p4,p5)
  else
   OB (f53 p1 p2 p0) fun c1=>
   some (c1,p1,p2,p3,p4,p5)) fun s2=>
 ck (decide (p5.length=s2.2.2.2.2.2.length)) <|
 some s2
def f77 (p0:gK) (p1:dF) (p2:(List aj)) (p3:Int) (p4:Int) (p5:aQ):Option (Int×dF×(List aj)×Int×Int×aQ):=OB (agn p0 p1 p2 p3 p4 p5) fun (y:(Int×dF×(List aj)×Int×Int×aQ))=>uV y.2.2.2.2.2 p5 <| some y
def Z8:aP:=⟨al2,u6 agn⟩
theorem Fb:ak Try.prog 77 Z8:=
 ts [(52,agf),(53,agh)] ety [.tmp 4] al3 Try.func77 rfl ⟨Vm,Vo,trivial⟩
def acX (Qc:XO) (Z9:T85) (Z_:T86) (p0:Int) (p1:Int) (p2:Int) (p3:Int) (p4:gK) (p5:lD) (p6:Int) (p7:dF) (p8:(List aj)) (p9:aQ) (p10:Int) (p11:Int) (p12:Int) (p13:kF):Option (dF×(List aj)×aQ×Int×Int×Int×kF):=
 let n1:=(OM p11 (bW (p6+1)))
 OB (
  bif (decide (p0=7)) then
   some true
  else
   some (decide (p0=8))) fun s5=>
 bif s5 then
  OB (Z9 p0 p1 p2 p3 p4 p5 p6 p7 p8 p9 p10 n1 p12 p13) fun c6=>
  some (c6.1,c6.2.1,c6.2.2.1,c6.2.2.2.1,c6.2.2.2.2.1,c6.2.2.2.2.2.1,c6.2.2.2.2.2.2)
 else
  OB (Z_ p5 p6 p7 p8 p9 p10 n1 p12 p13) fun c7=>
  OB (
   bif (decide (p0=1)) then
    OB (f38 1 0 p6 0 0 p2 eInt c7.1 c7.2.1 c7.2.2.1 c7.2.2.2.1 c7.2.2.2.2.1 c7.2.2.2.2.2.1 c7.2.2.2.2.2.2.2) fun c9=>
    some (c9.1,c9.2.1,c9.2.2.1,c9.2.2.2.1,c9.2.2.2.2.1,c9.2.2.2.2.2.1,c9.2.2.2.2.2.2)
   else
    OB (
     bif (decide (p0=2)) then
      OB (f69 p4 c7.1 c7.2.1 c7.2.2.1 c7.2.2.2.1 c7.2.2.2.2.1 c7.2.2.2.2.2.1 c7.2.2.2.2.2.2.2) fun c11=>
      OB (f38 2 0 p6 c11.1 0 0 eInt c11.2.1 c11.2.2.1 c11.2.2.2.1 c11.2.2.2.2.1 c11.2.2.2.2.2.1 c11.2.2.2.2.2.2.1 c7.2.2.2.2.2.2.2) fun c12=>
      some (c12.1,c12.2.1,c12.2.2.1,c12.2.2.2.1,c12.2.2.2.2.1,c12.2.2.2.2.2.1,c12.2.2.2.2.2.2)
     else
      OB (
       bif (decide (p0=3)) then
        OB (f49 c7.1 c7.2.1 p4) fun c14=>
        OB (f38 5 0 p6 0 0 c14 eInt c7.1 c7.2.1 c7.2.2.1 c7.2.2.2.1 c7.2.2.2.2.1 c7.2.2.2.2.2.1 c7.2.2.2.2.2.2.2) fun c15=>
        some (c15.1,c15.2.1,c15.2.2.1,c15.2.2.2.1,c15.2.2.2.2.1,c15.2.2.2.2.2.1,c15.2.2.2.2.2.2)
       else
        OB (
         bif (decide (p0=4)) then
          OB (f49 c7.1 c7.2.1 p4) fun c17=>
          OB (f38 7 0 p6 p6 0 c17 eInt c7.1 c7.2.1 c7.2.2.1 c7.2.2.2.1 c7.2.2.2.2.1 c7.2.2.2.2.2.1 c7.2.2.2.2.2.2.2) fun c18=>
          some (c18.1,c18.2.1,c18.2.2.1,c18.2.2.2.1,c18.2.2.2.2.1,c18.2.2.2.2.2.1,c18.2.2.2.2.2.2)
         else
          OB (
           bif (decide (p0=5)) then
            OB (f38 3 p1 p6 p6 0 0 eInt c7.1 c7.2.1 c7.2.2.1 c7.2.2.2.1 c7.2.2.2.2.1 c7.2.2.2.2.2.1 c7.2.2.2.2.2.2.2) fun c20=>
            some (c20.1,c20.2.1,c20.2.2.1,c20.2.2.2.1,c20.2.2.2.2.1,c20.2.2.2.2.2.1,c20.2.2.2.2.2.2)
           else
            OB (
             bif (decide (p0=6)) then
              OB (f38 4 p1 p6 p6 (bW (p6+1)) 0 eInt c7.1 c7.2.1 c7.2.2.1 c7.2.2.2.1 c7.2.2.2.2.1 c7.2.2.2.2.2.1 c7.2.2.2.2.2.2.2) fun c23=>
              some (c23.1,c23.2.1,c23.2.2.1,c23.2.2.2.1,c23.2.2.2.2.1,c23.2.2.2.2.2.1,c23.2.2.2.2.2.2)
             else
              OB (
               bif (decide (p0=9)) then
                OB (f50 c7.1 c7.2.1 p4) fun c25=>
                OB (f38 11 0 p6 0 0 c25 c7.2.2.2.2.2.2.1 c7.1 c7.2.1 c7.2.2.1 c7.2.2.2.1 c7.2.2.2.2.1 c7.2.2.2.2.2.1 c7.2.2.2.2.2.2.2) fun QC=>
                some (QC.1,QC.2.1,QC.2.2.1,QC.2.2.2.1,QC.2.2.2.2.1,QC.2.2.2.2.2.1,QC.2.2.2.2.2.2)
               else
                OB (
                 bif (decide (p0=10)) then
                  ck (BN (1:Int) (c7.2.2.2.2.2.2.1.length:Int) c7.2.2.2.2.2.2.1.length) <|
                  OB (f38 12 0 p6 p6 0 0 (List.drop (Int.toNat (1:Int)) (List.take (Int.toNat (c7.2.2.2.2.2.2.1.length:Int)) c7.2.2.2.2.2.2.1)) c7.1 c7.2.1 c7.2.2.1 c7.2.2.2.1 c7.2.2.2.2.1 c7.2.2.2.2.2.1 c7.2.2.2.2.2.2.2) fun c28=>
                  some (c28.1,c28.2.1,c28.2.2.1,c28.2.2.2.1,c28.2.2.2.2.1,c28.2.2.2.2.2.1,c28.2.2.2.2.2.2)
                 else
                  OB (
                   bif (decide (p0=11)) then
                    OB (f50 c7.1 c7.2.1 p4) fun Kv=>
                    OB (f38 14 0 p6 0 0 Kv eInt c7.1 c7.2.1 c7.2.2.1 c7.2.2.2.1 c7.2.2.2.2.1 c7.2.2.2.2.2.1 c7.2.2.2.2.2.2.2) fun c31=>
                    some (c31.1,c31.2.1,c31.2.2.1,c31.2.2.2.1,c31.2.2.2.2.1,c31.2.2.2.2.2.1,c31.2.2.2.2.2.2)
                   else
                    OB (
                     bif (decide (p0=12)) then
                      OB (f38 9 0 p6 0 0 0 eInt c7.1 c7.2.1 c7.2.2.1 c7.2.2.2.1 c7.2.2.2.2.1 c7.2.2.2.2.2.1 c7.2.2.2.2.2.2.2) fun Kw=>
                      some (Kw.1,Kw.2.1,Kw.2.2.1,Kw.2.2.2.1,Kw.2.2.2.2.1,Kw.2.2.2.2.2.1,Kw.2.2.2.2.2.2)
                     else
                      some (c7.1,c7.2.1,c7.2.2.1,c7.2.2.2.1,c7.2.2.2.2.1,c7.2.2.2.2.2.1,c7.2.2.2.2.2.2.2)) fun s34=>
                    some (s34.1,s34.2.1,s34.2.2.1,s34.2.2.2.1,s34.2.2.2.2.1,s34.2.2.2.2.2.1,s34.2.2.2.2.2.2)) fun QD=>
                  some (QD.1,QD.2.1,QD.2.2.1,QD.2.2.2.1,QD.2.2.2.2.1,QD.2.2.2.2.2.1,QD.2.2.2.2.2.2)) fun s36=>
                some (s36.1,s36.2.1,s36.2.2.1,s36.2.2.2.1,s36.2.2.2.2.1,s36.2.2.2.2.2.1,s36.2.2.2.2.2.2)) fun AV=>
              some (AV.1,AV.2.1,AV.2.2.1,AV.2.2.2.1,AV.2.2.2.2.1,AV.2.2.2.2.2.1,AV.2.2.2.2.2.2)) fun qG=>
            some (qG.1,qG.2.1,qG.2.2.1,qG.2.2.2.1,qG.2.2.2.2.1,qG.2.2.2.2.2.1,qG.2.2.2.2.2.2)) fun uY=>
          some (uY.1,uY.2.1,uY.2.2.1,uY.2.2.2.1,uY.2.2.2.2.1,uY.2.2.2.2.2.1,uY.2.2.2.2.2.2)) fun NC=>
        some (NC.1,NC.2.1,NC.2.2.1,NC.2.2.2.1,NC.2.2.2.2.1,NC.2.2.2.2.2.1,NC.2.2.2.2.2.2)) fun Ec=>
      some (Ec.1,Ec.2.1,Ec.2.2.1,Ec.2.2.2.1,Ec.2.2.2.2.1,Ec.2.2.2.2.2.1,Ec.2.2.2.2.2.2)) fun xU=>
    some (xU.1,xU.2.1,xU.2.2.1,xU.2.2.2.1,xU.2.2.2.2.1,xU.2.2.2.2.2.1,xU.2.2.2.2.2.2)) fun s43=>
  some (s43.1,s43.2.1,s43.2.2.1,s43.2.2.2.1,s43.2.2.2.2.1,s43.2.2.2.2.2.1,s43.2.2.2.2.2.2)
def acY (Qc:XO) (Z9:T85) (Z_:T86) (p0:Int) (p1:Int) (p2:Int) (p3:Int) (p4:gK) (p5:lD) (p6:Int) (p7:dF) (p8:(List aj)) (p9:aQ) (p10:Int) (p11:Int) (p12:Int) (p13:kF):Option (dF×(List aj)×aQ×Int×Int×Int×kF):=
 ck (inB (0:Int) p5.length) <|
 let n1:=(List.getD p5 (Int.toNat 0) gB)
 OB (Qc n1.kind n1.op n1.value n1.line n1.name n1.args p6 p7 p8 p9 p10 p11 p12 p13) fun c2=>
 OB (f36 p3 c2.1 c2.2.1 c2.2.2.1 c2.2.2.2.1 c2.2.2.2.2.1 c2.2.2.2.2.2.1 c2.2.2.2.2.2.2) fun c3=>
 ck (inB (1:Int) p5.length) <|
 let n4:=(List.getD p5 (Int.toNat 1) gB)
 OB (Qc n4.kind n4.op n4.value n4.line n4.name n4.args p6 c3.2.1 c3.2.2.1 c3.2.2.2.1 c3.2.2.2.2.1 c3.2.2.2.2.2.1 c3.2.2.2.2.2.2.1 c3.2.2.2.2.2.2.2) fun c5=>
 OB (f36 p3 c5.1 c5.2.1 c5.2.2.1 c5.2.2.2.1 c5.2.2.2.2.1 c5.2.2.2.2.2.1 c5.2.2.2.2.2.2) fun c6=>
 OB (f38 1 0 p6 0 0 1 eInt c6.2.1 c6.2.2.1 c6.2.2.2.1 c6.2.2.2.2.1 c6.2.2.2.2.2.1 c6.2.2.2.2.2.2.1 c6.2.2.2.2.2.2.2) fun c7=>
 OB (f36 p3 c7.1 c7.2.1 c7.2.2.1 c7.2.2.2.1 c7.2.2.2.2.1 c7.2.2.2.2.2.1 c7.2.2.2.2.2.2) fun c8=>
 OB (f38 1 0 p6 0 0 0 eInt c8.2.1 c8.2.2.1 c8.2.2.2.1 c8.2.2.2.2.1 c8.2.2.2.2.2.1 c8.2.2.2.2.2.2.1 c8.2.2.2.2.2.2.2) fun c9=>
 OB (f36 p3 c9.1 c9.2.1 c9.2.2.1 c9.2.2.2.1 c9.2.2.2.2.1 c9.2.2.2.2.2.1 c9.2.2.2.2.2.2) fun c10=>
 OB (f39 c5.2.2.2.2.2.1 2 p6 c6.1 c8.1 c10.2.1 c10.2.2.1 c10.2.2.2.1 c10.2.2.2.2.1 c10.2.2.2.2.2.1 c10.2.2.2.2.2.2.1 c10.2.2.2.2.2.2.2) fun c11=>
 OB (
  bif (decide (p0=8)) then
   OB (f39 c2.2.2.2.2.2.1 2 p6 c6.1 c3.1 c11.1 c11.2.1 c11.2.2.1 c11.2.2.2.1 c11.2.2.2.2.1 c11.2.2.2.2.2.1 c11.2.2.2.2.2.2) fun c12=>
   some (c12.1,c12.2.1,c12.2.2.1,c12.2.2.2.1,c12.2.2.2.2.1,c12.2.2.2.2.2.1,c12.2.2.2.2.2.2)
  else
   OB (f39 c2.2.2.2.2.2.1 2 p6 c3.1 c8.1 c11.1 c11.2.1 c11.2.2.1 c11.2.2.2.1 c11.2.2.2.2.1 c11.2.2.2.2.2.1 c11.2.2.2.2.2.2) fun c13=>
   some (c13.1,c13.2.1,c13.2.2.1,c13.2.2.2.1,c13.2.2.2.2.1,c13.2.2.2.2.2.1,c13.2.2.2.2.2.2)) fun s14=>
 OB (f39 c6.1 1 0 c10.1 0 s14.1 s14.2.1 s14.2.2.1 s14.2.2.2.1 s14.2.2.2.2.1 s14.2.2.2.2.2.1 s14.2.2.2.2.2.2) fun c15=>
 OB (f39 c8.1 1 0 c10.1 0 c15.1 c15.2.1 c15.2.2.1 c15.2.2.2.1 c15.2.2.2.2.1 c15.2.2.2.2.2.1 c15.2.2.2.2.2.2) fun c16=>
 some (c16.1,c16.2.1,c16.2.2.1,c16.2.2.2.1,c16.2.2.2.2.1,c16.2.2.2.2.2.1,c16.2.2.2.2.2.2)
def acZ (Qc:XO) (Z9:T85) (Z_:T86) (p0:lD) (p1:Int) (p2:dF) (p3:(List aj)) (p4:aQ) (p5:Int) (p6:Int) (p7:Int) (p8:kF):Option (dF×(List aj)×aQ×Int×Int×Int×dW×kF):=
 OB (
  aX (fun (s0:(Int×dF×(List aj)×aQ×Int×Int×Int×dW×kF))=>
   bif (decide (s0.1<(p0.length:Int))) then
    ck (inB s0.1 p0.length) <|
    let n3:=(List.getD p0 s0.1.toNat gB)
    OB (Qc n3.kind n3.op n3.value n3.line n3.name n3.args (bW (p1+s0.1)) s0.2.1 s0.2.2.1 s0.2.2.2.1 s0.2.2.2.2.1 s0.2.2.2.2.2.1 s0.2.2.2.2.2.2.1 s0.2.2.2.2.2.2.2.2) fun c5=>
    let n7:=[(bW (p1+s0.1))]
    ck (bG s0.2.2.2.2.2.2.2.1.length n7.length 8) <|
    some (.inl ((bW (s0.1+1)),c5.1,c5.2.1,c5.2.2.1,c5.2.2.2.1,c5.2.2.2.2.1,c5.2.2.2.2.2.1,(s0.2.2.2.2.2.2.2.1++n7),c5.2.2.2.2.2.2))
   else
    some (.inr (s0.2.1,s0.2.2.1,s0.2.2.2.1,s0.2.2.2.2.1,s0.2.2.2.2.2.1,s0.2.2.2.2.2.2.1,s0.2.2.2.2.2.2.2.1,s0.2.2.2.2.2.2.2.2))) ((0:Int),p2,p3,p4,p5,p6,p7,eInt,p8)) fun s10=>
 some (s10.1,s10.2.1,s10.2.2.1,s10.2.2.2.1,s10.2.2.2.2.1,s10.2.2.2.2.2.1,s10.2.2.2.2.2.2.1,s10.2.2.2.2.2.2.2)
def iL:Nat→XO×XO×T86
 |0=>(fun _ _ _ _ _ _ _ _ _ _ _ _ _ _=>none,fun _ _ _ _ _ _ _ _ _ _ _ _ _ _=>none,fun _ _ _ _ _ _ _ _ _=>none)
 |n+1=>(acX (iL n).1 (iL n).2.1 (iL n).2.2,acY (iL n).1 (iL n).2.1 (iL n).2.2,acZ (iL n).1 (iL n).2.1 (iL n).2.2)
def aac (n:Nat):XO:=(iL n).1
def AY (n:Nat):aP:=⟨aij,u14 (iL n).1⟩
def agp (n:Nat):XO:=(iL n).2.1
def Ei (n:Nat):aP:=⟨ail,u14 (iL n).2.1⟩
def agq (n:Nat):T86:=(iL n).2.2
def Ej (n:Nat):aP:=⟨aio,u9 (iL n).2.2⟩
theorem aad (n:Nat) (h68:ak Try.prog 68 (AY n)) (h85:ak Try.prog 85 (Ei n)) (h86:ak Try.prog 86 (Ej n)):ak Try.prog 68 (AY (n+1)):=
 ts [(38,ZW),(69,agj),(49,ZY),(50,Z4),(68,AY n),(85,Ei n),(86,Ej n)] aik [] al4 Try.func68 rfl ⟨E8,Vp,E_,Fa,h68,h85,h86,trivial⟩
theorem aae (n:Nat) (h68:ak Try.prog 68 (AY n)) (h85:ak Try.prog 85 (Ei n)) (h86:ak Try.prog 86 (Ej n)):ak Try.prog 85 (Ei (n+1)):=
 ts [(36,ZV),(38,ZW),(39,Xr),(68,AY n),(85,Ei n),(86,Ej n)] ain [] al5 Try.func85 rfl ⟨E5,E8,AX,h68,h85,h86,trivial⟩
theorem aaf (n:Nat) (h68:ak Try.prog 68 (AY n)) (h85:ak Try.prog 85 (Ei n)) (h86:ak Try.prog 86 (Ej n)):ak Try.prog 86 (Ej (n+1)):=
 ts [(68,AY n),(85,Ei n),(86,Ej n)] aip [.tmp 6] al6 Try.func86 rfl ⟨h68,h85,h86,trivial⟩
theorem Em :∀n,ak Try.prog 68 (AY n)∧ak Try.prog 85 (Ei n)∧ak Try.prog 86 (Ej n)
 |0=>⟨bK Try.func68 rfl rfl (show aij.er.ok=true by decide +kernel) fun x=>rfl,bK Try.func85 rfl rfl (show ail.er.ok=true by decide +kernel) fun x=>rfl,bK Try.func86 rfl rfl (show aio.er.ok=true by decide +kernel) fun x=>rfl⟩
 |n+1=>by
  have ih:=Em n
  exact ⟨aad n (ih.1) (ih.2.1) (ih.2.2),aae n (ih.1) (ih.2.1) (ih.2.2),aaf n (ih.1) (ih.2.1) (ih.2.2)⟩
def f68:XO:=aac 1048576
def agr:aP:=AY 1048576
theorem Vq:ak Try.prog 68 agr:=(Em 1048576).1
def f87 (p0:Int) (p1:Int) (p2:Int) (p3:Int) (p4:Int) (p5:Int) (p6:dW):Option dW:=
 OB (
  bif (decide (p0=2)) then
   some true
  else
   OB (
    bif (decide (p0=3)) then
     some true
    else
     OB (
      bif (decide (p0=6)) then
       some true
      else
       OB (
        bif (decide (p0=7)) then
         some true
        else
         some (decide (p0=10))) fun s5=>
       some s5) fun s6=>
     some s6) fun s7=>
   some s7) fun s8=>
 bif s8 then
  some [p3]
 else
  OB (
   bif (decide (p0=4)) then
    some true
   else
    some (decide (p0=8))) fun s12=>
  bif s12 then
   some [p3,p4]
  else
   bif (decide (p0=11)) then
    ck (bG (List.length eInt) p6.length 8) <|
    some (eInt++p6)
   else
    bif (decide (p0=12)) then
     let n17:=[p3]
     ck (bG n17.length p6.length 8) <|
     some (n17++p6)
    else
     some eInt
def ai7:aP:=⟨al7,u7 f87⟩
theorem ac0:ak Try.prog 87 ai7:=
 ts [] ety [.tmp 2] al8 Try.func87 rfl trivial
def f88 (p0:Int) (p1:Int) (p2:Int) (p3:Int) (p4:Int) (p5:Int) (p6:dW):Option (Int×Bool):=
 OB (
  bif (decide (p0=6)) then
   some true
  else
   OB (
    bif (decide (p0=8)) then
     some true
    else
     OB (
      bif (decide (p0=10)) then
       some true
      else
       some (decide (p0=13))) fun s4=>
     some s4) fun s5=>
   some s5) fun s6=>
 bif s6 then
  some ((0:Int),false)
 else
  OB (
   bif (decide (p0<1)) then
    some true
   else
    some (decide (14<p0))) fun s10=>
  bif s10 then
   some ((0:Int),false)
  else
   some (p2,true)
def ai8:aP:=⟨al9,u7 f88⟩
theorem ac1:ak Try.prog 88 ai8:=
 ts [] ety [.tmp 2,.tmp 3] al_ Try.func88 rfl trivial
def f89 (p0:dF) (p1:Nz) (p2:Int) (p3:Int) (p4:Int) (p5:Bool):Option Bool:=
 OB (
  bif (decide (0≤p4)) then
   bif (decide (p4<(p0.length:Int))) then
    ck (inB p4 p0.length) <|
    some ((decide (0<(List.getD p0 p4.toNat (aI.mk cu 0)).size))==p5)
   else
    some false
  else
   some false) fun s8=>
 some s8
def ai9:aP:=⟨ama,u6 f89⟩
theorem ac2:ak Try.prog 89 ai9:=
 ts [] ety [.tmp 6] amb Try.func89 rfl trivial
def ags (p0:Int) (p1:Int) (p2:Int) (p3:Int) (p4:gK) (p5:lD) (p6:Int) (p7:Int) (p8:dF) (p9:(List aj)) (p10:Int) (p11:Int) (p12:aQ):Option (dF×(List aj)×Int×Int×aQ):=
 OB (
  OB (f77 p4 p8 p9 p10 p11 p12) fun c0=>
  OB (
   bif (decide (c0.1=0)) then
    OB (f75 p3 8 c0.2.1 c0.2.2.1 c0.2.2.2.1 c0.2.2.2.2.1 p12) fun c2=>
    some (c2.1,c2.2.1,c2.2.2.1,c2.2.2.2.1)
   else
    OB (
     bif (!(decide (c0.1=p6))) then
      some (!(decide (c0.1=p7)))
     else
      some false) fun s6=>
    OB (
     bif s6 then
      OB (f75 p3 10 c0.2.1 c0.2.2.1 c0.2.2.2.1 c0.2.2.2.2.1 p12) fun c7=>
      some (c7.1,c7.2.1,c7.2.2.1,c7.2.2.2.1)
     else
      some (c0.2.1,c0.2.2.1,c0.2.2.2.1,c0.2.2.2.2.1)) fun s8=>
    some (s8.1,s8.2.1,s8.2.2.1,s8.2.2.2)) fun s9=>
  some (s9.1,s9.2.1,s9.2.2.1,s9.2.2.2,p12)) fun s10=>
 ck (decide (p12.length=s10.2.2.2.2.length)) <|
 some s10
def f90 (p0:Int) (p1:Int) (p2:Int) (p3:Int) (p4:gK) (p5:lD) (p6:Int) (p7:Int) (p8:dF) (p9:(List aj)) (p10:Int) (p11:Int) (p12:aQ):Option (dF×(List aj)×Int×Int×aQ):=OB (ags p0 p1 p2 p3 p4 p5 p6 p7 p8 p9 p10 p11 p12) fun (y:(dF×(List aj)×Int×Int×aQ))=>uV y.2.2.2.2 p12 <| some y
def ai_:aP:=⟨amc,u13 ags⟩
theorem ac3:ak Try.prog 90 ai_:=
 ts [(77,Z8),(75,acW)] ety [] amd Try.func90 rfl ⟨Fb,Nk,trivial⟩
def agt (p0:gK) (p1:Int) (p2:dF) (p3:(List aj)) (p4:Int) (p5:Int) (p6:aQ):Option (Int×Int×Int×Int×gK×dF×(List aj)×Int×Int×aQ):=
 OB (
  OB (f77 p0 p2 p3 p4 p5 p6) fun c0=>
  OB (
   bif (!(decide (c0.1=1))) then
    some (3:Int)
   else
    some (2:Int)) fun s2=>
  some (s2,(0:Int),(0:Int),p1,p0,c0.2.1,c0.2.2.1,c0.2.2.2.1,c0.2.2.2.2.1,p6)) fun s3=>
 ck (decide (p6.length=s3.2.2.2.2.2.2.2.2.2.length)) <|
 some s3
def f91 (p0:gK) (p1:Int) (p2:dF) (p3:(List aj)) (p4:Int) (p5:Int) (p6:aQ):Option (Int×Int×Int×Int×gK×dF×(List aj)×Int×Int×aQ):=OB (agt p0 p1 p2 p3 p4 p5 p6) fun (y:(Int×Int×Int×Int×gK×dF×(List aj)×Int×Int×aQ))=>uV y.2.2.2.2.2.2.2.2.2 p6 <| some y
def aja:aP:=⟨ame,u7 agt⟩
theorem ac4:ak Try.prog 91 aja:=
 ts [(77,Z8)] ety [.cell 6 132] amf Try.func91 rfl ⟨Fb,trivial⟩
def ac5 (aeS:T76) (aag:T92) (p0:Int) (p1:Int) (p2:Int) (p3:Int) (p4:gK) (p5:lD) (p6:dF) (p7:(List aj)) (p8:Int) (p9:Int) (p10:aQ):Option (Int×Int×Int×Int×gK×dF×(List aj)×Int×Int×aQ×lD):=
 OB (
  bif (decide (p0=13)) then
   OB (f90 p0 p1 p2 p3 p4 p5 1 2 p6 p7 p8 p9 p10) fun c1=>
   OB (f91 p4 p3 c1.1 c1.2.1 c1.2.2.1 c1.2.2.2.1 p10) fun c2=>
   some (c2.1,c2.2.1,c2.2.2.1,c2.2.2.2.1,c2.2.2.2.2.1,c2.2.2.2.2.2.1,c2.2.2.2.2.2.2.1,c2.2.2.2.2.2.2.2.1,c2.2.2.2.2.2.2.2.2.1,p10,nV)
  else
   dh (
    bif (decide (p0=4)) then
     OB (f90 p0 p1 p2 p3 p4 p5 3 3 p6 p7 p8 p9 p10) fun c4=>
     some (.inl (c4.1,c4.2.1,c4.2.2.1,c4.2.2.2.1))
    else
     dh (
      bif (decide (p0=11)) then
       OB (f90 p0 p1 p2 p3 p4 p5 4 4 p6 p7 p8 p9 p10) fun c6=>
       some (.inl (c6.1,c6.2.1,c6.2.2.1,c6.2.2.2.1))
      else
       dh (
        bif (decide (p0=9)) then
         OB (f77 p4 p6 p7 p8 p9 p10) fun c8=>
         dh (
          bif (decide (c8.1=0)) then
           OB (f75 p3 8 c8.2.1 c8.2.2.1 c8.2.2.2.1 c8.2.2.2.2.1 p10) fun c10=>
           some (.inl (c10.1,c10.2.1,c10.2.2.1,c10.2.2.2.1))
          else
           dh (
            bif (decide (c8.1=3)) then
             OB (f75 p3 10 c8.2.1 c8.2.2.1 c8.2.2.2.1 c8.2.2.2.2.1 p10) fun c12=>
             some (.inl (c12.1,c12.2.1,c12.2.2.1,c12.2.2.2.1))
            else
             bif (decide (c8.1=4)) then
              OB (f50 c8.2.1 c8.2.2.1 p4) fun c14=>
              ck (inB c14 c8.2.2.1.length) <|
              OB (
               bif (!(decide (((List.length (List.getD c8.2.2.1 c14.toNat fJ).params):Int)=(p5.length:Int)))) then
                OB (f75 p3 11 c8.2.1 c8.2.2.1 c8.2.2.2.1 c8.2.2.2.2.1 p10) fun c19=>
                some (c19.1,c19.2.1,c19.2.2.1,c19.2.2.2.1)
               else
                some (c8.2.1,c8.2.2.1,c8.2.2.2.1,c8.2.2.2.2.1)) fun s20=>
              some (.inl (s20.1,s20.2.1,s20.2.2.1,s20.2.2.2))
             else
              OB (
               bif (decide (6<(p5.length:Int))) then
                OB (f75 p3 5 c8.2.1 c8.2.2.1 c8.2.2.2.1 c8.2.2.2.2.1 p10) fun c23=>
                some (c23.1,c23.2.1,c23.2.2.1,c23.2.2.2.1)
               else
                some (c8.2.1,c8.2.2.1,c8.2.2.2.1,c8.2.2.2.2.1)) fun s24=>
              OB (f91 p4 p3 s24.1 s24.2.1 s24.2.2.1 s24.2.2.2 p10) fun c25=>
              let n26:=[(aU.mk c25.1 c25.2.1 c25.2.2.1 c25.2.2.2.1 c25.2.2.2.2.1 nV)]
              OB (aag p5 c25.2.2.2.2.2.1 c25.2.2.2.2.2.2.1 c25.2.2.2.2.2.2.2.1 c25.2.2.2.2.2.2.2.2.1 p10) fun Jo=>
              ck (bG n26.length Jo.2.2.2.2.2.length 72) <|
              some (.inr (.inr (.inr (.inr (.inr ((10:Int),(0:Int),(0:Int),p3,cu,Jo.1,Jo.2.1,Jo.2.2.1,Jo.2.2.2.1,p10,(n26++Jo.2.2.2.2.2)))))))) fun s29=>
           some (.inl (s29.1,s29.2.1,s29.2.2.1,s29.2.2.2))) fun uF=>
         some (.inl (uF.1,uF.2.1,uF.2.2.1,uF.2.2.2))
        else
         OB (
          bif (decide (p0=10)) then
           OB (
            bif (decide (7<(p5.length:Int))) then
             OB (f75 p3 5 p6 p7 p8 p9 p10) fun c34=>
             some (c34.1,c34.2.1,c34.2.2.1,c34.2.2.2.1)
            else
             some (p6,p7,p8,p9)) fun QD=>
           some (QD.1,QD.2.1,QD.2.2.1,QD.2.2.2)
          else
           some (p6,p7,p8,p9)) fun s36=>
         some (.inl (s36.1,s36.2.1,s36.2.2.1,s36.2.2.2))) fun AV=>
       some (.inl (AV.1,AV.2.1,AV.2.2.1,AV.2.2.2))) fun qG=>
     some (.inl (qG.1,qG.2.1,qG.2.2.1,qG.2.2.2))) fun uY=>
   OB (aag p5 uY.1 uY.2.1 uY.2.2.1 uY.2.2.2 p10) fun c40=>
   some (p0,p1,p2,p3,p4,c40.1,c40.2.1,c40.2.2.1,c40.2.2.2.1,p10,c40.2.2.2.2.2)) fun Ec=>
 ck (decide (p10.length=Ec.2.2.2.2.2.2.2.2.2.1.length)) <|
 some Ec
def k76 (p0:Int) (p1:Int) (p2:Int) (p3:Int) (p4:gK) (p5:lD) (p6:dF) (p7:(List aj)) (p8:Int) (p9:Int) (p10:aQ) (r:Option (Int×Int×Int×Int×gK×dF×(List aj)×Int×Int×aQ×lD)):Option (Int×Int×Int×Int×gK×dF×(List aj)×Int×Int×aQ×lD):=OB r fun (y:(Int×Int×Int×Int×gK×dF×(List aj)×Int×Int×aQ×lD))=>uV y.2.2.2.2.2.2.2.2.2.1 p10 <| some y
def ac6 (aeS:T76) (aag:T92) (p0:lD) (p1:dF) (p2:(List aj)) (p3:Int) (p4:Int) (p5:aQ):Option (dF×(List aj)×Int×Int×aQ×lD):=
 OB (
  OB (
   aX (fun (s0:(Int×dF×(List aj)×Int×Int×lD))=>
    bif (decide (s0.1<(p0.length:Int))) then
     ck (inB s0.1 p0.length) <|
     let n3:=(List.getD p0 s0.1.toNat gB)
     OB (aeS n3.kind n3.op n3.value n3.line n3.name n3.args s0.2.1 s0.2.2.1 s0.2.2.2.1 s0.2.2.2.2.1 p5) fun c4=>
     let n5:=[(aU.mk c4.1 c4.2.1 c4.2.2.1 c4.2.2.2.1 c4.2.2.2.2.1 c4.2.2.2.2.2.2.2.2.2.2)]
     ck (bG s0.2.2.2.2.2.length n5.length 72) <|
     some (.inl ((bW (s0.1+1)),c4.2.2.2.2.2.1,c4.2.2.2.2.2.2.1,c4.2.2.2.2.2.2.2.1,c4.2.2.2.2.2.2.2.2.1,(s0.2.2.2.2.2++n5)))
    else
     some (.inr (s0.2.1,s0.2.2.1,s0.2.2.2.1,s0.2.2.2.2.1,s0.2.2.2.2.2))) ((0:Int),p1,p2,p3,p4,nV)) fun s8=>
  some (s8.1,s8.2.1,s8.2.2.1,s8.2.2.2.1,p5,s8.2.2.2.2)) fun s9=>
 ck (decide (p5.length=s9.2.2.2.2.1.length)) <|
 some s9
def k92 (p0:lD) (p1:dF) (p2:(List aj)) (p3:Int) (p4:Int) (p5:aQ) (r:Option (dF×(List aj)×Int×Int×aQ×lD)):Option (dF×(List aj)×Int×Int×aQ×lD):=OB r fun (y:(dF×(List aj)×Int×Int×aQ×lD))=>uV y.2.2.2.2.1 p5 <| some y
def rC:Nat→T76×T92
 |0=>(fun _ _ _ _ _ _ _ _ _ _ _=>none,fun _ _ _ _ _ _=>none)
 |n+1=>(ac5 (fun p0 p1 p2 p3 p4 p5 p6 p7 p8 p9 p10=>k76 p0 p1 p2 p3 p4 p5 p6 p7 p8 p9 p10 ((rC n).1 p0 p1 p2 p3 p4 p5 p6 p7 p8 p9 p10)) (fun p0 p1 p2 p3 p4 p5=>k92 p0 p1 p2 p3 p4 p5 ((rC n).2 p0 p1 p2 p3 p4 p5)),ac6 (fun p0 p1 p2 p3 p4 p5 p6 p7 p8 p9 p10=>k76 p0 p1 p2 p3 p4 p5 p6 p7 p8 p9 p10 ((rC n).1 p0 p1 p2 p3 p4 p5 p6 p7 p8 p9 p10)) (fun p0 p1 p2 p3 p4 p5=>k92 p0 p1 p2 p3 p4 p5 ((rC n).2 p0 p1 p2 p3 p4 p5)))
def ac7 (n:Nat):T76:=(fun p0 p1 p2 p3 p4 p5 p6 p7 p8 p9 p10=>k76 p0 p1 p2 p3 p4 p5 p6 p7 p8 p9 p10 ((rC n).1 p0 p1 p2 p3 p4 p5 p6 p7 p8 p9 p10))
def Iz (n:Nat):aP:=⟨aiq,u11 (rC n).1⟩
def ajb (n:Nat):T92:=(fun p0 p1 p2 p3 p4 p5=>k92 p0 p1 p2 p3 p4 p5 ((rC n).2 p0 p1 p2 p3 p4 p5))
def Ky (n:Nat):aP:=⟨air,u6 (rC n).2⟩
theorem aah (n:Nat) (h76:ak Try.prog 76 (Iz n)) (h92:ak Try.prog 92 (Ky n)):ak Try.prog 76 (Iz (n+1)):=
 ts [(90,ai_),(91,aja),(77,Z8),(75,acW),(50,Z4),(76,Iz n),(92,Ky n)] ety [.cell 4 132] amg Try.func76 rfl ⟨ac3,ac4,Fb,Nk,Fa,h76,h92,trivial⟩
theorem aai (n:Nat) (h76:ak Try.prog 76 (Iz n)) (h92:ak Try.prog 92 (Ky n)):ak Try.prog 92 (Ky (n+1)):=
 ts [(76,Iz n),(92,Ky n)] ety [.tmp 4] amh Try.func92 rfl ⟨h76,h92,trivial⟩
theorem En :∀n,ak Try.prog 76 (Iz n)∧ak Try.prog 92 (Ky n)
 |0=>⟨bK Try.func76 rfl rfl (show aiq.er.ok=true by decide +kernel) fun x=>rfl,bK Try.func92 rfl rfl (show air.er.ok=true by decide +kernel) fun x=>rfl⟩
 |n+1=>by
  have ih:=En n
  exact ⟨aah n (ih.1) (ih.2),aai n (ih.1) (ih.2)⟩
def f76:T76:=ac7 1048576
def ajc:aP:=Iz 1048576
theorem ac8:ak Try.prog 76 ajc:=(En 1048576).1
def f94 (p0:Int) (p1:gK) (p2:Int) (p3:Int) (p4:Int) (p5:Int) (p6:gK) (p7:lD):Option (Int×Int×gK×lD):=
 some (p0,(0:Int),p1,[(aU.mk p2 p3 p4 p5 p6 p7)])
def agu:aP:=⟨ami,u8 f94⟩
theorem Vr:ak Try.prog 94 agu:=
 ts [] ety [.cell 6 104] amj Try.func94 rfl trivial
def ac9 (p0:Bool) (p1:Int) (p2:dW) (p3:Int) (p4:dF) (p5:(List aj)) (p6:aQ):Option (gK×Bool×Int×dW×Int×dF×(List aj)×aQ):=
 OB (
  OB (
   aX (fun (s0:(Int×aQ))=>
    bif (decide (s0.1<(p4.length:Int))) then
     ck (inB s0.1 p4.length) <|
     OB (
      bif ((decide (0<(List.getD p4 s0.1.toNat (aI.mk cu 0)).size))==p0) then
       ck (inB s0.1 p4.length) <|
       let n7:=[(List.getD p4 s0.1.toNat (aI.mk cu 0)).name]
       ck (bG s0.2.length n7.length 16) <|
       some (s0.2++n7)
      else
       some s0.2) fun s9=>
     some (.inl ((bW (s0.1+1)),s9))
    else
     some (.inr s0.2)) ((0:Int),jG)) fun s11=>
  bif (decide ((s11.length:Int)=0)) then
   some (cu,false,p1,p2,p3,p4,p5,p6)
  else
   OB (f16 (s11.length:Int) p2 p3) fun c15=>
   ck (inB c15.1 s11.length) <|
   some ((List.getD s11 c15.1.toNat cu),true,p1,c15.2.1,c15.2.2,p4,p5,p6)) fun nX=>
 ck (decide (p4.length=nX.2.2.2.2.2.1.length)) <|
 ck (decide (p5.length=nX.2.2.2.2.2.2.1.length)) <|
 ck (decide (p6.length=nX.2.2.2.2.2.2.2.length)) <|
 some nX
def f96 (p0:Bool) (p1:Int) (p2:dW) (p3:Int) (p4:dF) (p5:(List aj)) (p6:aQ):Option (gK×Bool×Int×dW×Int×dF×(List aj)×aQ):=OB (ac9 p0 p1 p2 p3 p4 p5 p6) fun (y:(gK×Bool×Int×dW×Int×dF×(List aj)×aQ))=>uV y.2.2.2.2.2.1 p4 <| uV y.2.2.2.2.2.2.1 p5 <| uV y.2.2.2.2.2.2.2 p6 <| some y
def aaj:aP:=⟨amk,u7 ac9⟩
theorem Fe:ak Try.prog 96 aaj:=
 ts [(16,Iy)] ety [.tmp 4,.tmp 5] aml Try.func96 rfl ⟨ny,trivial⟩
def f100:Option aQ:=
 some [[(97:UInt8)],[(98:UInt8)],[(99:UInt8)],[(100:UInt8)],[(101:UInt8)],[(102:UInt8)],[(105:UInt8)],[(107:UInt8)]]
def aeT:aP:=⟨ais,fun x=>f100⟩
theorem aak:ak Try.prog 100 aeT:=
 ts [] ety [.tmp 0] ait Try.func100 rfl trivial
def Vt (p0:Int) (p1:dW) (p2:Int) (p3:dF) (p4:(List aj)) (p5:aQ):Option (Int×Int×Int×Int×gK×Int×dW×Int×dF×(List aj)×aQ):=
 OB (
  OB (f16 6 p1 p2) fun c0=>
  bif (decide (c0.1=0)) then
   some ((12:Int),(0:Int),(0:Int),(0:Int),cu,p0,c0.2.1,c0.2.2,p3,p4,p5)
  else
   dh (
    bif (decide (c0.1=1)) then
     OB (f96 false p0 c0.2.1 c0.2.2 p3 p4 p5) fun c3=>
     bif c3.2.1 then
      some (.inr ((13:Int),(0:Int),(0:Int),(0:Int),c3.1,c3.2.2.1,c3.2.2.2.1,c3.2.2.2.2.1,p3,p4,p5))
     else
      some (.inl (c3.2.2.1,c3.2.2.2.1,c3.2.2.2.2.1))
    else
     OB (
      bif (decide (c0.1=2)) then
       some true
      else
       some (decide (c0.1=3))) fun s6=>
     dh (
      bif s6 then
       bif (decide (0<(p5.length:Int))) then
        OB (f16 (p5.length:Int) c0.2.1 c0.2.2) fun c10=>
        ck (inB c10.1 p5.length) <|
        some (.inr (.inr ((13:Int),(0:Int),(0:Int),(0:Int),(List.getD p5 c10.1.toNat cu),p0,c10.2.1,c10.2.2,p3,p4,p5)))
       else
        some (.inl ())
      else
       some (.inl ())) fun s12=>
     some (.inl (p0,c0.2.1,c0.2.2))) fun s13=>
   OB (f16 5 s13.2.1 s13.2.2) fun c14=>
   OB (f16 12 c14.2.1 c14.2.2) fun c15=>
   OB (
    bif (decide (c15.1=11)) then
     let n17:=[(9223372036854775807:Int),(2147483648:Int),(1000:Int),(64:Int)]
     OB (f16 4 c15.2.1 c15.2.2) fun c18=>
     ck (inB c18.1 n17.length) <|
     some ((List.getD n17 c18.1.toNat 0),c18.2.1,c18.2.2)
    else
     some (c14.1,c15.2.1,c15.2.2)) fun s20=>
   some ((1:Int),(0:Int),s20.1,(0:Int),cu,s13.1,s20.2.1,s20.2.2,p3,p4,p5)) fun xQ=>
 ck (decide (p3.length=xQ.2.2.2.2.2.2.2.2.1.length)) <|
 ck (decide (p4.length=xQ.2.2.2.2.2.2.2.2.2.1.length)) <|
 ck (decide (p5.length=xQ.2.2.2.2.2.2.2.2.2.2.length)) <|
 some xQ
def f101 (p0:Int) (p1:dW) (p2:Int) (p3:dF) (p4:(List aj)) (p5:aQ):Option (Int×Int×Int×Int×gK×Int×dW×Int×dF×(List aj)×aQ):=OB (Vt p0 p1 p2 p3 p4 p5) fun (y:(Int×Int×Int×Int×gK×Int×dW×Int×dF×(List aj)×aQ))=>uV y.2.2.2.2.2.2.2.2.1 p3 <| uV y.2.2.2.2.2.2.2.2.2.1 p4 <| uV y.2.2.2.2.2.2.2.2.2.2 p5 <| some y
def aeU:aP:=⟨aiu,u6 Vt⟩
theorem aal:ak Try.prog 101 aeU:=
 ts [(16,Iy),(96,aaj)] ety [.cell 2 132] aiv Try.func101 rfl ⟨ny,Fe,trivial⟩
def f102 (p0:Int) (p1:Int) (p2:lD):Option (Int×Int×Int×Int×gK×lD):=
 some (p0,p1,(0:Int),(0:Int),cu,p2)
def aam:aP:=⟨aiw,u3 f102⟩
theorem Qd:ak Try.prog 102 aam:=
 ts [] ety [.cell 6 132] aix Try.func102 rfl trivial
def f19 (p0:gK) (p1:Int) (p2:Int) (p3:kF):Option ZQ:=
 let n0:=(p3.length:Int)
 ck (yZ (24:Nat) n0 n0) <|
 OB (
  aX (fun (s3:(Int×ZQ))=>
   bif (decide (s3.1<(p3.length:Int))) then
    ck (inB s3.1 p3.length) <|
    let n5:=(List.getD p3 s3.1.toNat ah)
    OB (f25 n5.aT n5.qE n5.dP n5.bn) fun c6=>
    OB (
     aX (fun (s8:(Int×ZQ))=>
      bif (decide (s8.1<(c6.length:Int))) then
       ck (inB s8.1 c6.length) <|
       let n10:=(List.getD c6 s8.1.toNat 0)
       ck (inB n10 s8.2.length) <|
       let n11:=[s3.1]
       ck (true&&(decide ((((List.length (List.getD s8.2 n10.toNat eInt))+n11.length)*(8:Nat))≤(140737488355328:Nat)))) <|
       ck (inB n10 s8.2.length) <|
       ck (Nat.beq n10.toNat n10.toNat) <|
       some (.inl ((bW (s8.1+1)),(List.set s8.2 n10.toNat ((List.getD s8.2 n10.toNat eInt)++n11))))
      else
       some (.inr s8.2)) ((0:Int),s3.2)) fun s15=>
    some (.inl ((bW (s3.1+1)),s15))
   else
    some (.inr s3.2)) ((0:Int),(List.replicate n0.toNat eInt))) fun nX=>
 some nX
def agv:aP:=⟨amm,u4 f19⟩
theorem Vu:ak Try.prog 19 agv:=
 ts [(25,acN)] aiy [.tmp 2] amn Try.func19 rfl ⟨Nj,trivial⟩
def f21 (p0:gK) (p1:Int) (p2:Int) (p3:kF) (p4:Int) (p5:LEd):Option XM:=
 OB (f19 p0 p1 p2 p3) fun c0=>
 let n1:=(p3.length:Int)
 ck (yZ (1:Nat) n1 n1) <|
 OB (
  aX (fun (s4:(Int×XM×dW))=>
   bif (decide (s4.1<(p5.length:Int))) then
    ck (inB s4.1 p5.length) <|
    let n6:=(List.getD p5 s4.1.toNat (gJ.mk 0 0))
    OB (
     bif (decide (n6.to=p4)) then
      ck (inB p4 s4.2.1.length) <|
      let n9:=[n6.from']
      ck (bG s4.2.2.length n9.length 8) <|
      some ((List.set s4.2.1 p4.toNat true),(s4.2.2++n9))
     else
      some (s4.2.1,s4.2.2)) fun s11=>
    some (.inl ((bW (s4.1+1)),s11.1,s11.2))
   else
    some (.inr (s4.2.1,s4.2.2))) ((0:Int),(List.replicate n1.toNat false),eInt)) fun s13=>
 OB (
  aX (fun (s14:(ZQ×XM×dW))=>
   bif (decide (0<(s14.2.2.length:Int))) then
    let n18:=(bW ((s14.2.2.length:Int)-1))
    ck (inB n18 s14.2.2.length) <|
    let n19:=(List.getD s14.2.2 n18.toNat 0)
    let n21:=(bW ((s14.2.2.length:Int)-1))
    ck ((decide (0≤n21))&&(decide (n21≤(s14.2.2.length:Int)))) <|
    let n22:=(List.take n21.toNat s14.2.2)
    ck (inB n19 s14.2.1.length) <|
    OB (
     bif (!(List.getD s14.2.1 n19.toNat false)) then
      ck (inB n19 s14.2.1.length) <|
      ck (inB n19 s14.1.length) <|
      ck (true&&(decide (((n22.length+(List.length (List.getD s14.1 n19.toNat eInt)))*(8:Nat))≤(140737488355328:Nat)))) <|
      some ((List.set s14.1 n19.toNat (List.getD s14.1 n19.toNat eInt)),(List.set s14.2.1 n19.toNat true),(n22++(List.getD s14.1 n19.toNat eInt)))
     else
      some (s14.1,s14.2.1,n22)) fun Xq=>
    some (.inl (Xq.1,Xq.2.1,Xq.2.2))
   else
    some (.inr s14.2.1)) (c0,s13.1,s13.2)) fun CW=>
 some CW
def ajd:aP:=⟨amo,u6 f21⟩
theorem ac_:ak Try.prog 21 ajd:=
 ts [(19,agv)] aiz [.tmp 6] amq Try.func21 rfl ⟨Vu,trivial⟩
def agw (rec24:T24) (p0:Int) (p1:gK) (p2:Int) (p3:Int) (p4:kF) (p5:XM) (p6:dW):Option (XM×gK×Int×Int×kF×dW):=
 OB (
  ck (inB p0 p5.length) <|
  ck (inB p0 p4.length) <|
  let n1:=(List.getD p4 p0.toNat ah)
  OB (f25 n1.aT n1.qE n1.dP n1.bn) fun c2=>
  OB (
   aX (fun (s4:(Int×XM×gK×Int×Int×kF×dW))=>
    bif (decide (s4.1<(c2.length:Int))) then
     ck (inB s4.1 c2.length) <|
     let n6:=(List.getD c2 s4.1.toNat 0)
     ck (inB n6 s4.2.1.length) <|
     OB (
      bif (!(List.getD s4.2.1 n6.toNat false)) then
       OB (rec24 n6 s4.2.2.1 s4.2.2.2.1 s4.2.2.2.2.1 s4.2.2.2.2.2.1 s4.2.1 s4.2.2.2.2.2.2) fun c9=>
       some (c9.1,c9.2.1,c9.2.2.1,c9.2.2.2.1,c9.2.2.2.2.1,c9.2.2.2.2.2)
      else
       some (s4.2.1,s4.2.2.1,s4.2.2.2.1,s4.2.2.2.2.1,s4.2.2.2.2.2.1,s4.2.2.2.2.2.2)) fun s10=>
     some (.inl ((bW (s4.1+1)),s10.1,s10.2.1,s10.2.2.1,s10.2.2.2.1,s10.2.2.2.2.1,s10.2.2.2.2.2))
    else
     some (.inr (s4.2.1,s4.2.2.1,s4.2.2.2.1,s4.2.2.2.2.1,s4.2.2.2.2.2.1,s4.2.2.2.2.2.2))) ((0:Int),(List.set p5 p0.toNat true),p1,p2,p3,p4,p6)) fun s12=>
  let n13:=[p0]
  ck (bG s12.2.2.2.2.2.length n13.length 8) <|
  some (s12.1,s12.2.1,s12.2.2.1,s12.2.2.2.1,s12.2.2.2.2.1,(s12.2.2.2.2.2++n13))) fun s15=>
 ck (decide (p5.length=s15.1.length)) <|
 some s15
def Tc:Nat→T24
 |0=>(fun _ _ _ _ _ _ _=>none)
 |n+1=>(agw (Tc n))
def ada (n:Nat):T24:=(Tc n)
def Qe (n:Nat):aP:=⟨aiA,u7 (Tc n)⟩
theorem aan (n:Nat) (h24:ak Try.prog 24 (Qe n)):ak Try.prog 24 (Qe (n+1)):=
 ts [(25,acN),(24,Qe n)] ety [] amr Try.func24 rfl ⟨Nj,h24,trivial⟩
theorem Eo :∀n,ak Try.prog 24 (Qe n)
 |0=>bK Try.func24 rfl rfl (show aiA.er.ok=true by decide +kernel) fun x=>rfl
 |n+1=>by
  have ih:=Eo n
  exact aan n (ih)
def f24:T24:=ada 1048576
def aje:aP:=Qe 1048576
theorem adb:ak Try.prog 24 aje:=(Eo 1048576)
def f32 (p0:gK) (p1:Int) (p2:Int) (p3:kF):Option (gK×Int×Int×kF):=
 OB (f43 p0 p1 p2 p3) fun c0=>
 let n1:=(c0.length:Int)
 ck (yZ (8:Nat) n1 n1) <|
 OB (
  aX (fun (s3:(Int×Int×dW))=>
   bif (decide (s3.2.1<(c0.length:Int))) then
    ck (inB s3.2.1 s3.2.2.length) <|
    ck (inB s3.2.1 c0.length) <|
    OB (
     bif (List.getD c0 s3.2.1.toNat false) then
      some (bW (s3.1+1))
     else
      some s3.1) fun s9=>
    some (.inl (s9,(bW (s3.2.1+1)),(List.set s3.2.2 s3.2.1.toNat s3.1)))
   else
    some (.inr s3.2.2)) ((0:Int),(0:Int),(List.replicate n1.toNat (0:Int)))) fun s11=>
 OB (
  aX (fun (s12:(Int×gK×Int×Int×kF))=>
   bif (decide (s12.1<(c0.length:Int))) then
    OB (
     ck (inB s12.1 c0.length) <|
     bif (!(List.getD c0 s12.1.toNat false)) then
      some (s12.2.1,s12.2.2.1,s12.2.2.2.1,s12.2.2.2.2)
     else
      ck (inB s12.1 p3.length) <|
      let n17:=(List.getD p3 s12.1.toNat ah)
      OB (
       bif (!(decide (n17.aT=3))) then
        ck (inB n17.dP s11.length) <|
        some (n17.instrs,n17.aT,n17.qE,(List.getD s11 (Int.toNat n17.dP) 0),n17.bn,n17.line,n17.jk,n17.iD)
       else
        some (n17.instrs,n17.aT,n17.qE,n17.dP,n17.bn,n17.line,n17.jk,n17.iD)) fun s20=>
      OB (
       bif (decide (s20.2.1=2)) then
        ck (inB s20.2.2.2.2.1 s11.length) <|
        some (s20.1,s20.2.1,s20.2.2.1,s20.2.2.2.1,(List.getD s11 s20.2.2.2.2.1.toNat 0),s20.2.2.2.2.2.1,s20.2.2.2.2.2.2.1,s20.2.2.2.2.2.2.2)
       else
        some (s20.1,s20.2.1,s20.2.2.1,s20.2.2.2.1,s20.2.2.2.2.1,s20.2.2.2.2.2.1,s20.2.2.2.2.2.2.1,s20.2.2.2.2.2.2.2)) fun s23=>
      let n24:=[(aG.mk s23.1 s23.2.1 s23.2.2.1 s23.2.2.2.1 s23.2.2.2.2.1 s23.2.2.2.2.2.1 s23.2.2.2.2.2.2.1 s23.2.2.2.2.2.2.2)]
      ck (bG s12.2.2.2.2.length n24.length 80) <|
      some (s12.2.1,s12.2.2.1,s12.2.2.2.1,(s12.2.2.2.2++n24))) fun s26=>
    some (.inl ((bW (s12.1+1)),s26.1,s26.2.1,s26.2.2.1,s26.2.2.2))
   else
    some (.inr (s12.2.1,s12.2.2.1,s12.2.2.2.1,s12.2.2.2.2))) ((0:Int),p0,p1,p2,([]:kF))) fun CW=>
 some (CW.1,CW.2.1,CW.2.2.1,CW.2.2.2)
def ajf:aP:=⟨ams,u4 f32⟩
theorem ade:ak Try.prog 32 ajf:=
 ts [(43,af_)] ety [.cell 2 33] amu Try.func32 rfl ⟨Vl,trivial⟩
def f35 (p0:gK) (p1:Int) (p2:aQ) (p3:oq):Option aQ:=
 ck (true&&(decide ((((List.length jG)+p2.length)*(16:Nat))≤(140737488355328:Nat)))) <|
 OB (f46 p3 (jG++p2)) fun c1=>
 some c1
def agx:aP:=⟨amv,u4 f35⟩
theorem Vx:ak Try.prog 35 agx:=
 ts [(46,aiZ)] ety [.tmp 2] amw Try.func35 rfl ⟨acR,trivial⟩
def adf (Kz:XP) (Vy:T47) (Vz:T67) (VA:T70) (p0:oq) (p1:dF) (p2:(List aj)) (p3:aQ) (p4:Int) (p5:Int) (p6:Int) (p7:kF):Option (Bool×dF×(List aj)×aQ×Int×Int×Int×kF):=
 dh (
  aX (fun (s0:(Int×dF×(List aj)×aQ×Int×Int×Int×kF))=>
   bif (decide (s0.1<(p0.length:Int))) then
    ck (inB s0.1 p0.length) <|
    let n3:=(List.getD p0 s0.1.toNat jH)
    OB (Vy n3.kind n3.line n3.name n3.exprs n3.then' n3.else' s0.2.1 s0.2.2.1 s0.2.2.2.1 s0.2.2.2.2.1 s0.2.2.2.2.2.1 s0.2.2.2.2.2.2.1 s0.2.2.2.2.2.2.2) fun c4=>
    bif (!c4.1) then
     some (.inr (.inr (false,c4.2.1,c4.2.2.1,c4.2.2.2.1,c4.2.2.2.2.1,c4.2.2.2.2.2.1,c4.2.2.2.2.2.2.1,c4.2.2.2.2.2.2.2)))
    else
     some (.inl ((bW (s0.1+1)),c4.2.1,c4.2.2.1,c4.2.2.2.1,c4.2.2.2.2.1,c4.2.2.2.2.2.1,c4.2.2.2.2.2.2.1,c4.2.2.2.2.2.2.2))
   else
    some (.inr (.inl (s0.2.1,s0.2.2.1,s0.2.2.2.1,s0.2.2.2.2.1,s0.2.2.2.2.2.1,s0.2.2.2.2.2.2.1,s0.2.2.2.2.2.2.2)))) ((0:Int),p1,p2,p3,p4,p5,p6,p7)) fun s7=>
 some (true,s7.1,s7.2.1,s7.2.2.1,s7.2.2.2.1,s7.2.2.2.2.1,s7.2.2.2.2.2.1,s7.2.2.2.2.2.2)
def adg (Kz:XP) (Vy:T47) (Vz:T67) (VA:T70) (p0:Int) (p1:Int) (p2:gK) (p3:lD) (p4:oq) (p5:oq) (p6:dF) (p7:(List aj)) (p8:aQ) (p9:Int) (p10:Int) (p11:Int) (p12:kF):Option (Bool×dF×(List aj)×aQ×Int×Int×Int×kF):=
 let n0:=(p8.length:Int)
 bif (decide (p0=5)) then
  OB (Vz p0 p1 p2 p3 p4 p5 n0 p6 p7 p8 p9 p10 p11 p12) fun c2=>
  some (true,c2.1,c2.2.1,c2.2.2.1,c2.2.2.2.1,c2.2.2.2.2.1,c2.2.2.2.2.2.1,c2.2.2.2.2.2.2)
 else
  OB (
   aX (fun (s3:(Int×dF×(List aj)×aQ×Int×Int×Int×kF))=>
    bif (decide (s3.1<(p3.length:Int))) then
     ck (inB s3.1 p3.length) <|
     let n6:=(List.getD p3 s3.1.toNat gB)
     OB (f68 n6.kind n6.op n6.value n6.line n6.name n6.args (bW (n0+s3.1)) s3.2.1 s3.2.2.1 s3.2.2.2.1 s3.2.2.2.2.1 s3.2.2.2.2.2.1 s3.2.2.2.2.2.2.1 s3.2.2.2.2.2.2.2) fun c8=>
     some (.inl ((bW (s3.1+1)),c8.1,c8.2.1,c8.2.2.1,c8.2.2.2.1,c8.2.2.2.2.1,c8.2.2.2.2.2.1,c8.2.2.2.2.2.2))
    else
     some (.inr (s3.2.1,s3.2.2.1,s3.2.2.2.1,s3.2.2.2.2.1,s3.2.2.2.2.2.1,s3.2.2.2.2.2.2.1,s3.2.2.2.2.2.2.2))) ((0:Int),p6,p7,p8,p9,p10,p11,p12)) fun s10=>
  OB (
   bif (decide (p0=1)) then
    some true
   else
    some (decide (p0=2))) fun s13=>
  dh (
   bif s13 then
    OB (f69 p2 s10.1 s10.2.1 s10.2.2.1 s10.2.2.2.1 s10.2.2.2.2.1 s10.2.2.2.2.2.1 s10.2.2.2.2.2.2) fun c14=>
    OB (
     bif (decide (0≤c14.1)) then
      OB (f38 2 0 c14.1 n0 0 0 eInt c14.2.1 c14.2.2.1 c14.2.2.2.1 c14.2.2.2.2.1 c14.2.2.2.2.2.1 c14.2.2.2.2.2.2.1 s10.2.2.2.2.2.2) fun c16=>
      some (c16.1,c16.2.1,c16.2.2.1,c16.2.2.2.1,c16.2.2.2.2.1,c16.2.2.2.2.2.1,c16.2.2.2.2.2.2)
     else
      OB (f49 c14.2.1 c14.2.2.1 p2) fun c17=>
      OB (f38 6 0 0 n0 0 c17 eInt c14.2.1 c14.2.2.1 c14.2.2.2.1 c14.2.2.2.2.1 c14.2.2.2.2.2.1 c14.2.2.2.2.2.2.1 s10.2.2.2.2.2.2) fun c18=>
      some (c18.1,c18.2.1,c18.2.2.1,c18.2.2.2.1,c18.2.2.2.2.1,c18.2.2.2.2.2.1,c18.2.2.2.2.2.2)) fun uQ=>
    some (.inl (uQ.1,uQ.2.1,uQ.2.2.1,uQ.2.2.2.1,uQ.2.2.2.2.1,uQ.2.2.2.2.2.1,uQ.2.2.2.2.2.2))
   else
    dh (
     bif (decide (p0=3)) then
      OB (f49 s10.1 s10.2.1 p2) fun IY=>
      OB (f38 8 0 0 n0 (bW (n0+1)) IY eInt s10.1 s10.2.1 s10.2.2.1 s10.2.2.2.1 s10.2.2.2.2.1 s10.2.2.2.2.2.1 s10.2.2.2.2.2.2) fun c23=>
      some (.inl (c23.1,c23.2.1,c23.2.2.1,c23.2.2.2.1,c23.2.2.2.2.1,c23.2.2.2.2.2.1,c23.2.2.2.2.2.2))
     else
      bif (decide (p0=6)) then
       OB (f39 s10.2.2.2.2.2.1 3 n0 0 0 s10.1 s10.2.1 s10.2.2.1 s10.2.2.2.1 s10.2.2.2.2.1 s10.2.2.2.2.2.1 s10.2.2.2.2.2.2) fun c25=>
       some (.inr (.inr (false,c25.1,c25.2.1,c25.2.2.1,c25.2.2.2.1,c25.2.2.2.2.1,c25.2.2.2.2.2.1,c25.2.2.2.2.2.2)))
      else
       dh (
        bif (decide (p0=7)) then
         OB (f38 10 0 0 n0 0 0 eInt s10.1 s10.2.1 s10.2.2.1 s10.2.2.2.1 s10.2.2.2.2.1 s10.2.2.2.2.2.1 s10.2.2.2.2.2.2) fun Jo=>
         some (.inl (Jo.1,Jo.2.1,Jo.2.2.1,Jo.2.2.2.1,Jo.2.2.2.2.1,Jo.2.2.2.2.2.1,Jo.2.2.2.2.2.2))
        else
         bif (decide (p0=4)) then
          OB (VA p0 p1 p2 p3 p4 p5 n0 s10.1 s10.2.1 s10.2.2.1 s10.2.2.2.1 s10.2.2.2.2.1 s10.2.2.2.2.2.1 s10.2.2.2.2.2.2) fun c29=>
          some (.inr (.inr (.inr (c29.1,c29.2.1,c29.2.2.1,c29.2.2.2.1,c29.2.2.2.2.1,c29.2.2.2.2.2.1,c29.2.2.2.2.2.2.1,c29.2.2.2.2.2.2.2))))
         else
          some (.inl (s10.1,s10.2.1,s10.2.2.1,s10.2.2.2.1,s10.2.2.2.2.1,s10.2.2.2.2.2.1,s10.2.2.2.2.2.2))) fun uF=>
       some (.inl (uF.1,uF.2.1,uF.2.2.1,uF.2.2.2.1,uF.2.2.2.2.1,uF.2.2.2.2.2.1,uF.2.2.2.2.2.2))) fun EO=>
    some (.inl (EO.1,EO.2.1,EO.2.2.1,EO.2.2.2.1,EO.2.2.2.2.1,EO.2.2.2.2.2.1,EO.2.2.2.2.2.2))) fun pR=>
  some (true,pR.1,pR.2.1,pR.2.2.1,pR.2.2.2.1,pR.2.2.2.2.1,pR.2.2.2.2.2.1,pR.2.2.2.2.2.2)
def adh (Kz:XP) (Vy:T47) (Vz:T67) (VA:T70) (p0:Int) (p1:Int) (p2:gK) (p3:lD) (p4:oq) (p5:oq) (p6:Int) (p7:dF) (p8:(List aj)) (p9:aQ) (p10:Int) (p11:Int) (p12:Int) (p13:kF):Option (dF×(List aj)×aQ×Int×Int×Int×kF):=
 OB (f36 p1 p7 p8 p9 p10 p11 p12 p13) fun c0=>
 OB (f39 p12 1 0 c0.1 0 c0.2.1 c0.2.2.1 c0.2.2.2.1 c0.2.2.2.2.1 c0.2.2.2.2.2.1 c0.2.2.2.2.2.2.1 c0.2.2.2.2.2.2.2) fun c1=>
 ck (inB (0:Int) p3.length) <|
 let n2:=(List.getD p3 (Int.toNat 0) gB)
 OB (f68 n2.kind n2.op n2.value n2.line n2.name n2.args p6 c1.1 c1.2.1 c1.2.2.1 c1.2.2.2.1 c1.2.2.2.2.1 c1.2.2.2.2.2.1 c1.2.2.2.2.2.2) fun c3=>
 OB (f36 p1 c3.1 c3.2.1 c3.2.2.1 c3.2.2.2.1 c3.2.2.2.2.1 c3.2.2.2.2.2.1 c3.2.2.2.2.2.2) fun c4=>
 OB (Kz p4 c4.2.1 c4.2.2.1 c4.2.2.2.1 c4.2.2.2.2.1 c4.2.2.2.2.2.1 c4.2.2.2.2.2.2.1 c4.2.2.2.2.2.2.2) fun c5=>
 OB (
  bif c5.1 then
   OB (f39 c5.2.2.2.2.2.2.1 1 0 c0.1 0 c5.2.1 c5.2.2.1 c5.2.2.2.1 c5.2.2.2.2.1 c5.2.2.2.2.2.1 c5.2.2.2.2.2.2.1 c5.2.2.2.2.2.2.2) fun c6=>
   some (c6.1,c6.2.1,c6.2.2.1,c6.2.2.2.1,c6.2.2.2.2.1,c6.2.2.2.2.2.1,c6.2.2.2.2.2.2)
  else
   some (c5.2.1,c5.2.2.1,c5.2.2.2.1,c5.2.2.2.2.1,c5.2.2.2.2.2.1,c5.2.2.2.2.2.2.1,c5.2.2.2.2.2.2.2)) fun s7=>
 OB (f36 p1 s7.1 s7.2.1 s7.2.2.1 s7.2.2.2.1 s7.2.2.2.2.1 s7.2.2.2.2.2.1 s7.2.2.2.2.2.2) fun c8=>
 OB (f39 c3.2.2.2.2.2.1 2 p6 c4.1 c8.1 c8.2.1 c8.2.2.1 c8.2.2.2.1 c8.2.2.2.2.1 c8.2.2.2.2.2.1 c8.2.2.2.2.2.2.1 c8.2.2.2.2.2.2.2) fun c9=>
 some (c9.1,c9.2.1,c9.2.2.1,c9.2.2.2.1,c9.2.2.2.2.1,c9.2.2.2.2.2.1,c9.2.2.2.2.2.2)
def adi (Kz:XP) (Vy:T47) (Vz:T67) (VA:T70) (p0:Int) (p1:Int) (p2:gK) (p3:lD) (p4:oq) (p5:oq) (p6:Int) (p7:dF) (p8:(List aj)) (p9:aQ) (p10:Int) (p11:Int) (p12:Int) (p13:kF):Option (Bool×dF×(List aj)×aQ×Int×Int×Int×kF):=
 OB (f36 p1 p7 p8 p9 p10 p11 p12 p13) fun c0=>
 OB (Kz p4 c0.2.1 c0.2.2.1 c0.2.2.2.1 c0.2.2.2.2.1 c0.2.2.2.2.2.1 c0.2.2.2.2.2.2.1 c0.2.2.2.2.2.2.2) fun c1=>
 bif (decide ((p5.length:Int)=0)) then
  OB (f36 p1 c1.2.1 c1.2.2.1 c1.2.2.2.1 c1.2.2.2.2.1 c1.2.2.2.2.2.1 c1.2.2.2.2.2.2.1 c1.2.2.2.2.2.2.2) fun c4=>
  OB (f39 p12 2 p6 c0.1 c4.1 c4.2.1 c4.2.2.1 c4.2.2.2.1 c4.2.2.2.2.1 c4.2.2.2.2.2.1 c4.2.2.2.2.2.2.1 c4.2.2.2.2.2.2.2) fun c5=>
  OB (
   bif c1.1 then
    OB (f39 c1.2.2.2.2.2.2.1 1 0 c4.1 0 c5.1 c5.2.1 c5.2.2.1 c5.2.2.2.1 c5.2.2.2.2.1 c5.2.2.2.2.2.1 c5.2.2.2.2.2.2) fun c6=>
    some (c6.1,c6.2.1,c6.2.2.1,c6.2.2.2.1,c6.2.2.2.2.1,c6.2.2.2.2.2.1,c6.2.2.2.2.2.2)
   else
    some (c5.1,c5.2.1,c5.2.2.1,c5.2.2.2.1,c5.2.2.2.2.1,c5.2.2.2.2.2.1,c5.2.2.2.2.2.2)) fun s7=>
  some (true,s7.1,s7.2.1,s7.2.2.1,s7.2.2.2.1,s7.2.2.2.2.1,s7.2.2.2.2.2.1,s7.2.2.2.2.2.2)
 else
  OB (f36 p1 c1.2.1 c1.2.2.1 c1.2.2.2.1 c1.2.2.2.2.1 c1.2.2.2.2.2.1 c1.2.2.2.2.2.2.1 c1.2.2.2.2.2.2.2) fun c8=>
  OB (f39 p12 2 p6 c0.1 c8.1 c8.2.1 c8.2.2.1 c8.2.2.2.1 c8.2.2.2.2.1 c8.2.2.2.2.2.1 c8.2.2.2.2.2.2.1 c8.2.2.2.2.2.2.2) fun c9=>
  OB (Kz p5 c9.1 c9.2.1 c9.2.2.1 c9.2.2.2.1 c9.2.2.2.2.1 c9.2.2.2.2.2.1 c9.2.2.2.2.2.2) fun c10=>
  OB (
   bif (!c1.1) then
    some (!c10.1)
   else
    some false) fun s14=>
  bif s14 then
   some (false,c10.2.1,c10.2.2.1,c10.2.2.2.1,c10.2.2.2.2.1,c10.2.2.2.2.2.1,c10.2.2.2.2.2.2.1,c10.2.2.2.2.2.2.2)
  else
   OB (f36 p1 c10.2.1 c10.2.2.1 c10.2.2.2.1 c10.2.2.2.2.1 c10.2.2.2.2.2.1 c10.2.2.2.2.2.2.1 c10.2.2.2.2.2.2.2) fun c15=>
   OB (
    bif c1.1 then
     OB (f39 c1.2.2.2.2.2.2.1 1 0 c15.1 0 c15.2.1 c15.2.2.1 c15.2.2.2.1 c15.2.2.2.2.1 c15.2.2.2.2.2.1 c15.2.2.2.2.2.2.1 c15.2.2.2.2.2.2.2) fun c16=>
     some (c16.1,c16.2.1,c16.2.2.1,c16.2.2.2.1,c16.2.2.2.2.1,c16.2.2.2.2.2.1,c16.2.2.2.2.2.2)
    else
     some (c15.2.1,c15.2.2.1,c15.2.2.2.1,c15.2.2.2.2.1,c15.2.2.2.2.2.1,c15.2.2.2.2.2.2.1,c15.2.2.2.2.2.2.2)) fun nX=>
   OB (
    bif c10.1 then
     OB (f39 c10.2.2.2.2.2.2.1 1 0 c15.1 0 nX.1 nX.2.1 nX.2.2.1 nX.2.2.2.1 nX.2.2.2.2.1 nX.2.2.2.2.2.1 nX.2.2.2.2.2.2) fun c18=>
     some (c18.1,c18.2.1,c18.2.2.1,c18.2.2.2.1,c18.2.2.2.2.1,c18.2.2.2.2.2.1,c18.2.2.2.2.2.2)
    else
     some (nX.1,nX.2.1,nX.2.2.1,nX.2.2.2.1,nX.2.2.2.2.1,nX.2.2.2.2.2.1,nX.2.2.2.2.2.2)) fun uQ=>
   some (true,uQ.1,uQ.2.1,uQ.2.2.1,uQ.2.2.2.1,uQ.2.2.2.2.1,uQ.2.2.2.2.2.1,uQ.2.2.2.2.2.2)
def dY:Nat→XP×T47×T67×T70
 |0=>(fun _ _ _ _ _ _ _ _=>none,fun _ _ _ _ _ _ _ _ _ _ _ _ _=>none,fun _ _ _ _ _ _ _ _ _ _ _ _ _ _=>none,fun _ _ _ _ _ _ _ _ _ _ _ _ _ _=>none)
 |n+1=>(adf (dY n).1 (dY n).2.1 (dY n).2.2.1 (dY n).2.2.2,adg (dY n).1 (dY n).2.1 (dY n).2.2.1 (dY n).2.2.2,adh (dY n).1 (dY n).2.1 (dY n).2.2.1 (dY n).2.2.2,adi (dY n).1 (dY n).2.1 (dY n).2.2.1 (dY n).2.2.2)
def Xt (n:Nat):XP:=(dY n).1
def wX (n:Nat):aP:=⟨aiB,u8 (dY n).1⟩
def adk (n:Nat):T47:=(dY n).2.1
def yB (n:Nat):aP:=⟨aiD,u13 (dY n).2.1⟩
def adl (n:Nat):T67:=(dY n).2.2.1
def yC (n:Nat):aP:=⟨aiF,u14 (dY n).2.2.1⟩
def adn (n:Nat):T70:=(dY n).2.2.2
def yD (n:Nat):aP:=⟨aiH,u14 (dY n).2.2.2⟩
theorem aao (n:Nat) (h37:ak Try.prog 37 (wX n)) (h47:ak Try.prog 47 (yB n)) (h67:ak Try.prog 67 (yC n)) (h70:ak Try.prog 70 (yD n)):ak Try.prog 37 (wX (n+1)):=
 ts [(37,wX n),(47,yB n),(67,yC n),(70,yD n)] aiC [.tmp 4] amx Try.func37 rfl ⟨h37,h47,h67,h70,trivial⟩
theorem aap (n:Nat) (h37:ak Try.prog 37 (wX n)) (h47:ak Try.prog 47 (yB n)) (h67:ak Try.prog 67 (yC n)) (h70:ak Try.prog 70 (yD n)):ak Try.prog 47 (yB (n+1)):=
 ts [(68,agr),(69,agj),(38,ZW),(49,ZY),(39,Xr),(37,wX n),(47,yB n),(67,yC n),(70,yD n)] aiE [.tmp 4] amy Try.func47 rfl ⟨Vq,Vp,E8,E_,AX,h37,h47,h67,h70,trivial⟩
theorem aaq (n:Nat) (h37:ak Try.prog 37 (wX n)) (h47:ak Try.prog 47 (yB n)) (h67:ak Try.prog 67 (yC n)) (h70:ak Try.prog 70 (yD n)):ak Try.prog 67 (yC (n+1)):=
 ts [(36,ZV),(39,Xr),(68,agr),(37,wX n),(47,yB n),(67,yC n),(70,yD n)] aiG [] amA Try.func67 rfl ⟨E5,AX,Vq,h37,h47,h67,h70,trivial⟩
theorem aar (n:Nat) (h37:ak Try.prog 37 (wX n)) (h47:ak Try.prog 47 (yB n)) (h67:ak Try.prog 67 (yC n)) (h70:ak Try.prog 70 (yD n)):ak Try.prog 70 (yD (n+1)):=
 ts [(36,ZV),(39,Xr),(37,wX n),(47,yB n),(67,yC n),(70,yD n)] aiI [.tmp 6] amB Try.func70 rfl ⟨E5,AX,h37,h47,h67,h70,trivial⟩
theorem Ep :∀n,ak Try.prog 37 (wX n)∧ak Try.prog 47 (yB n)∧ak Try.prog 67 (yC n)∧ak Try.prog 70 (yD n)
 |0=>⟨bK Try.func37 rfl rfl (show aiB.er.ok=true by decide +kernel) fun x=>rfl,bK Try.func47 rfl rfl (show aiD.er.ok=true by decide +kernel) fun x=>rfl,bK Try.func67 rfl rfl (show aiF.er.ok=true by decide +kernel) fun x=>rfl,bK Try.func70 rfl rfl (show aiH.er.ok=true by decide +kernel) fun x=>rfl⟩
 |n+1=>by
  have ih:=Ep n
  exact ⟨aao n (ih.1) (ih.2.1) (ih.2.2.1) (ih.2.2.2),aap n (ih.1) (ih.2.1) (ih.2.2.1) (ih.2.2.2),aaq n (ih.1) (ih.2.1) (ih.2.2.1) (ih.2.2.2),aar n (ih.1) (ih.2.1) (ih.2.2.1) (ih.2.2.2)⟩
def f37:XP:=Xt 1048576
def ajg:aP:=wX 1048576
theorem adp:ak Try.prog 37 ajg:=(Ep 1048576).1
def agz (aeV:T54) (p0:oq) (p1:dF) (p2:(List aj)) (p3:Int) (p4:Int) (p5:aQ):Option (dF×(List aj)×Int×Int×oq×aQ):=
 OB (
  aX (fun (s0:(Int×dF×(List aj)×Int×Int×oq×aQ))=>
   bif (decide (s0.1<(p0.length:Int))) then
    ck (inB s0.1 p0.length) <|
    let n3:=(List.getD p0 s0.1.toNat jH)
    OB (
     aX (fun (s4:(Int×dF×(List aj)×Int×Int×lD))=>
      bif (decide (s4.1<((List.length n3.exprs):Int))) then
       ck (inB s4.1 (List.length n3.exprs)) <|
       let n7:=(List.getD n3.exprs s4.1.toNat gB)
       OB (f74 n7.kind n7.op n7.value n7.line n7.name n7.args) fun c8=>
       OB (
        bif (decide (64<c8)) then
         ck (inB s4.1 (List.length n3.exprs)) <|
         OB (f75 (List.getD n3.exprs s4.1.toNat gB).line 5 s4.2.1 s4.2.2.1 s4.2.2.2.1 s4.2.2.2.2.1 s0.2.2.2.2.2.2) fun c11=>
         some (c11.1,c11.2.1,c11.2.2.1,c11.2.2.2.1)
        else
         some (s4.2.1,s4.2.2.1,s4.2.2.2.1,s4.2.2.2.2.1)) fun s12=>
       ck (inB s4.1 (List.length n3.exprs)) <|
       let n13:=(List.getD n3.exprs s4.1.toNat gB)
       OB (f76 n13.kind n13.op n13.value n13.line n13.name n13.args s12.1 s12.2.1 s12.2.2.1 s12.2.2.2 s0.2.2.2.2.2.2) fun c14=>
       let n15:=[(aU.mk c14.1 c14.2.1 c14.2.2.1 c14.2.2.2.1 c14.2.2.2.2.1 c14.2.2.2.2.2.2.2.2.2.2)]
       ck (bG s4.2.2.2.2.2.length n15.length 72) <|
       some (.inl ((bW (s4.1+1)),c14.2.2.2.2.2.1,c14.2.2.2.2.2.2.1,c14.2.2.2.2.2.2.2.1,c14.2.2.2.2.2.2.2.2.1,(s4.2.2.2.2.2++n15)))
      else
       some (.inr (s4.2.1,s4.2.2.1,s4.2.2.2.1,s4.2.2.2.2.1,s4.2.2.2.2.2))) ((0:Int),s0.2.1,s0.2.2.1,s0.2.2.2.1,s0.2.2.2.2.1,nV)) fun QE=>
    OB (f77 n3.name QE.1 QE.2.1 QE.2.2.1 QE.2.2.2.1 s0.2.2.2.2.2.2) fun c19=>
    OB (
     bif (decide (n3.kind=1)) then
      OB (
       bif (!(decide (c19.1=0))) then
        OB (f75 n3.line 9 c19.2.1 c19.2.2.1 c19.2.2.2.1 c19.2.2.2.2.1 s0.2.2.2.2.2.2) fun IY=>
        some (IY.1,IY.2.1,IY.2.2.1,IY.2.2.2.1)
       else
        some (c19.2.1,c19.2.2.1,c19.2.2.2.1,c19.2.2.2.2.1)) fun s23=>
      let n24:=[n3.name]
      ck (bG s0.2.2.2.2.2.2.length n24.length 16) <|
      some (s23.1,s23.2.1,s23.2.2.1,s23.2.2.2,(s0.2.2.2.2.2.2++n24))
     else
      OB (
       bif (decide (n3.kind=2)) then
        some true
       else
        some (decide (n3.kind=3))) fun CW=>
      OB (
       bif CW then
        OB (
         bif (decide (c19.1=0)) then
          OB (f75 n3.line 8 c19.2.1 c19.2.2.1 c19.2.2.2.1 c19.2.2.2.2.1 s0.2.2.2.2.2.2) fun Kv=>
          some (Kv.1,Kv.2.1,Kv.2.2.1,Kv.2.2.2.1)
         else
          OB (
           bif (decide (n3.kind=2)) then
            bif (!(decide (c19.1=1))) then
             bif (!(decide (c19.1=2))) then
              some true
             else
              bif (decide (n3.kind=3)) then
               some (!(decide (c19.1=3)))
              else
               some false
            else
             bif (decide (n3.kind=3)) then
              some (!(decide (c19.1=3)))
             else
              some false
           else
            bif (decide (n3.kind=3)) then
             some (!(decide (c19.1=3)))
            else
             some false) fun s51=>
          OB (
           bif s51 then
            OB (f75 n3.line 10 c19.2.1 c19.2.2.1 c19.2.2.2.1 c19.2.2.2.2.1 s0.2.2.2.2.2.2) fun Xu=>
            some (Xu.1,Xu.2.1,Xu.2.2.1,Xu.2.2.2.1)
           else
            some (c19.2.1,c19.2.2.1,c19.2.2.2.1,c19.2.2.2.2.1)) fun s53=>
          some (s53.1,s53.2.1,s53.2.2.1,s53.2.2.2)) fun s54=>
        some (s54.1,s54.2.1,s54.2.2.1,s54.2.2.2)
       else
        some (c19.2.1,c19.2.2.1,c19.2.2.2.1,c19.2.2.2.2.1)) fun s55=>
      some (s55.1,s55.2.1,s55.2.2.1,s55.2.2.2,s0.2.2.2.2.2.2)) fun s56=>
    OB (aeV n3.then' s56.1 s56.2.1 s56.2.2.1 s56.2.2.2.1 s56.2.2.2.2) fun c57=>
    OB (aeV n3.else' c57.1 c57.2.1 c57.2.2.1 c57.2.2.2.1 c57.2.2.2.2.2) fun VB=>
    let n59:=[(dH.mk n3.kind n3.line n3.name QE.2.2.2.2 c57.2.2.2.2.1 VB.2.2.2.2.1)]
    ck (bG s0.2.2.2.2.2.1.length n59.length 104) <|
    some (.inl ((bW (s0.1+1)),VB.1,VB.2.1,VB.2.2.1,VB.2.2.2.1,(s0.2.2.2.2.2.1++n59),VB.2.2.2.2.2))
   else
    some (.inr (s0.2.1,s0.2.2.1,s0.2.2.2.1,s0.2.2.2.2.1,s0.2.2.2.2.2.1,s0.2.2.2.2.2.2))) ((0:Int),p1,p2,p3,p4,gZ,p5)) fun s62=>
 some (s62.1,s62.2.1,s62.2.2.1,s62.2.2.2.1,s62.2.2.2.2.1,s62.2.2.2.2.2)
def Td:Nat→T54
 |0=>(fun _ _ _ _ _ _=>none)
 |n+1=>(agz (Td n))
def agA (n:Nat):T54:=(Td n)
def Qg (n:Nat):aP:=⟨aiJ,u6 (Td n)⟩
theorem aat (n:Nat) (h54:ak Try.prog 54 (Qg n)):ak Try.prog 54 (Qg (n+1)):=
 ts [(74,ai4),(75,acW),(76,ajc),(77,Z8),(54,Qg n)] ety [.tmp 4] amC Try.func54 rfl ⟨acV,Nk,ac8,Fb,h54,trivial⟩
theorem Es :∀n,ak Try.prog 54 (Qg n)
 |0=>bK Try.func54 rfl rfl (show aiJ.er.ok=true by decide +kernel) fun x=>rfl
 |n+1=>by
  have ih:=Es n
  exact aat n (ih)
def f54:T54:=agA 1048576
def ajh:aP:=Qg 1048576
theorem adr:ak Try.prog 54 ajh:=(Es 1048576)
def f72 (p0:dF) (p1:Nz) (p2:Int) (p3:Int) (p4:gK) (p5:Int) (p6:Int) (p7:kF) (p8:Int) (p9:Int) (p10:Int) (p11:Int) (p12:Int) (p13:Int) (p14:dW):Option Int:=
 OB (
  bif (decide (p8<1)) then
   some true
  else
   bif (decide (14<p8)) then
    some true
   else
    bif (decide (p8=3)) then
     bif (!(decide (p9=1))) then
      bif (!(decide (p9=2))) then
       some true
      else
       bif (decide (p8=4)) then
        bif (decide (p9<3)) then
         some true
        else
         some (decide (11<p9))
       else
        some false
     else
      bif false then
       some true
      else
       bif (decide (p8=4)) then
        bif (decide (p9<3)) then
         some true
        else
         some (decide (11<p9))
       else
        some false
    else
     bif false then
      some true
     else
      bif (decide (p8=4)) then
       bif (decide (p9<3)) then
        some true
       else
        some (decide (11<p9))
      else
       some false) fun qG=>
 bif qG then
  some (17:Int)
 else
  OB (f87 p8 p9 p10 p11 p12 p13 p14) fun c39=>
  OB (f88 p8 p9 p10 p11 p12 p13 p14) fun c40=>
  OB (
   bif c40.2 then
    let n41:=[c40.1]
    ck (bG c39.length n41.length 8) <|
    some (c39++n41)
   else
    some c39) fun s43=>
  dh (
   aX (fun (s44:Int)=>
    bif (decide (s44<(s43.length:Int))) then
     OB (
      ck (inB s44 s43.length) <|
      bif (decide ((List.getD s43 s44.toNat 0)<0)) then
       some true
      else
       ck (inB s44 s43.length) <|
       some (decide (p6≤(List.getD s43 s44.toNat 0)))) fun s52=>
     bif s52 then
      some (.inr (.inr (14:Int)))
     else
      some (.inl (bW (s44+1)))
    else
     some (.inr (.inl ()))) (0:Int)) fun s54=>
  OB (
   bif (decide (p8=5)) then
    some true
   else
    some (decide (p8=6))) fun s57=>
  dh (
   bif s57 then
    OB (f89 p0 p1 p2 p3 p13 false) fun VB=>
    bif (!VB) then
     some (.inr (16:Int))
    else
     some (.inl ())
   else
    OB (
     bif (decide (p8=7)) then
      some true
     else
      some (decide (p8=8))) fun s62=>
    dh (
     bif s62 then
      OB (f89 p0 p1 p2 p3 p13 true) fun c63=>
      bif (!c63) then
       some (.inr (.inr (16:Int)))
      else
       some (.inl ())
     else
      dh (
       bif (decide (p8=11)) then
        OB (
         bif (decide (p13<0)) then
          some true
         else
          some (decide ((p1.length:Int)≤p13))) fun s70=>
        bif s70 then
         some (.inr (.inr (.inr (15:Int))))
        else
         ck (inB p13 p1.length) <|
         bif (!(decide ((List.getD p1 p13.toNat aB).params=(p14.length:Int)))) then
          some (.inr (.inr (.inr (11:Int))))
         else
          some (.inl ())
       else
        dh (
         bif (decide (p8=12)) then
          bif (decide (250<(p14.length:Int))) then
           some (.inr (.inr (.inr (.inr (11:Int)))))
          else
           some (.inl ())
         else
          dh (
           bif (decide (p8=14)) then
            OB (
             bif (decide (p13<0)) then
              some true
             else
              some (decide (p2≤p13))) fun s81=>
            bif s81 then
             some (.inr (.inr (.inr (.inr (.inr (15:Int))))))
            else
             some (.inl ())
           else
            dh (
             bif (decide (p8=13)) then
              OB (
               bif (decide (p13<0)) then
                some true
               else
                some (decide (p3≤p13))) fun s86=>
              bif s86 then
               some (.inr (.inr (.inr (.inr (.inr (.inr (1:Int)))))))
              else
               some (.inl ())
             else
              some (.inl ())) fun s87=>
            some (.inl ())) fun s88=>
          some (.inl ())) fun s89=>
        some (.inl ())) fun s90=>
      some (.inl ())) fun s91=>
    some (.inl ())) fun s92=>
  some (0:Int)
def aji:aP:=⟨amD,u15 f72⟩
theorem ads:ak Try.prog 72 aji:=
 ts [(87,ai7),(88,ai8),(89,ai9)] ety [.tmp 6] amE Try.func72 rfl ⟨ac0,ac1,ac2,trivial⟩
def agC (p0:Int) (p1:dW) (p2:Int) (p3:dF) (p4:(List aj)) (p5:aQ):Option (gK×Bool×Int×dW×Int×dF×(List aj)×aQ):=
 OB (
  OB (f100) fun c0=>
  dh (
   aX (fun (s1:Int)=>
    bif (decide (s1<(c0.length:Int))) then
     OB (
      aX (fun (s4:(Bool×Int))=>
       bif (decide (s4.2<(p5.length:Int))) then
        OB (
         bif s4.1 then
          some true
         else
          ck (inB s4.2 p5.length) <|
          ck (inB s1 c0.length) <|
          some ((List.getD p5 s4.2.toNat cu)==(List.getD c0 s1.toNat cu))) fun s11=>
        some (.inl (s11,(bW (s4.2+1))))
       else
        some (.inr s4.1)) (false,(0:Int))) fun s13=>
     bif (!s13) then
      ck (inB s1 c0.length) <|
      some (.inr (.inr ((List.getD c0 s1.toNat cu),true,p0,p1,p2,p3,p4,p5)))
     else
      some (.inl (bW (s1+1)))
    else
     some (.inr (.inl ()))) (0:Int)) fun nX=>
  some (cu,false,p0,p1,p2,p3,p4,p5)) fun QE=>
 ck (decide (p3.length=QE.2.2.2.2.2.1.length)) <|
 ck (decide (p4.length=QE.2.2.2.2.2.2.1.length)) <|
 ck (decide (p5.length=QE.2.2.2.2.2.2.2.length)) <|
 some QE
def f93 (p0:Int) (p1:dW) (p2:Int) (p3:dF) (p4:(List aj)) (p5:aQ):Option (gK×Bool×Int×dW×Int×dF×(List aj)×aQ):=OB (agC p0 p1 p2 p3 p4 p5) fun (y:(gK×Bool×Int×dW×Int×dF×(List aj)×aQ))=>uV y.2.2.2.2.2.1 p3 <| uV y.2.2.2.2.2.2.1 p4 <| uV y.2.2.2.2.2.2.2 p5 <| some y
def ajj:aP:=⟨amF,u6 agC⟩
theorem adt:ak Try.prog 93 ajj:=
 ts [(100,aeT)] ety [.tmp 2,.tmp 3] amG Try.func93 rfl ⟨aak,trivial⟩
def Xv (wY:T95) (aeY:T98) (p0:Int) (p1:Int) (p2:dW) (p3:Int) (p4:dF) (p5:(List aj)) (p6:aQ):Option (Int×Int×Int×Int×gK×lD×Int×dW×Int×dF×(List aj)×aQ):=
 OB (
  OB (
   bif (decide (p0<1)) then
    some (true,p2,p3)
   else
    OB (f16 3 p2 p3) fun c1=>
    some ((decide (c1.1=0)),c1.2.1,c1.2.2)) fun s4=>
  bif s4.1 then
   OB (f101 p1 s4.2.1 s4.2.2 p4 p5 p6) fun c5=>
   some (c5.1,c5.2.1,c5.2.2.1,c5.2.2.2.1,c5.2.2.2.2.1,nV,c5.2.2.2.2.2.1,c5.2.2.2.2.2.2.1,c5.2.2.2.2.2.2.2.1,p4,p5,p6)
  else
   OB (f16 9 s4.2.1 s4.2.2) fun c6=>
   bif (decide (c6.1=0)) then
    OB (f16 2 c6.2.1 c6.2.2) fun c8=>
    OB (wY (bW (p0-1)) p1 c8.2.1 c8.2.2 p4 p5 p6) fun c11=>
    OB (f102 5 (bW (1+c8.1)) [(aU.mk c11.1 c11.2.1 c11.2.2.1 c11.2.2.2.1 c11.2.2.2.2.1 c11.2.2.2.2.2.1)]) fun c13=>
    some (c13.1,c13.2.1,c13.2.2.1,c13.2.2.2.1,c13.2.2.2.2.1,c13.2.2.2.2.2,c11.2.2.2.2.2.2.1,c11.2.2.2.2.2.2.2.1,c11.2.2.2.2.2.2.2.2.1,p4,p5,p6)
   else
    bif (decide (c6.1=1)) then
     OB (wY (bW (p0-1)) p1 c6.2.1 c6.2.2 p4 p5 p6) fun c16=>
     OB (wY (bW (p0-1)) c16.2.2.2.2.2.2.1 c16.2.2.2.2.2.2.2.1 c16.2.2.2.2.2.2.2.2.1 p4 p5 p6) fun c18=>
     OB (f102 7 0 [(aU.mk c16.1 c16.2.1 c16.2.2.1 c16.2.2.2.1 c16.2.2.2.2.1 c16.2.2.2.2.2.1),(aU.mk c18.1 c18.2.1 c18.2.2.1 c18.2.2.2.1 c18.2.2.2.2.1 c18.2.2.2.2.2.1)]) fun c20=>
     some (c20.1,c20.2.1,c20.2.2.1,c20.2.2.2.1,c20.2.2.2.2.1,c20.2.2.2.2.2,c18.2.2.2.2.2.2.1,c18.2.2.2.2.2.2.2.1,c18.2.2.2.2.2.2.2.2.1,p4,p5,p6)
    else
     bif (decide (c6.1=2)) then
      OB (wY (bW (p0-1)) p1 c6.2.1 c6.2.2 p4 p5 p6) fun c23=>
      OB (wY (bW (p0-1)) c23.2.2.2.2.2.2.1 c23.2.2.2.2.2.2.2.1 c23.2.2.2.2.2.2.2.2.1 p4 p5 p6) fun c25=>
      OB (f102 8 0 [(aU.mk c23.1 c23.2.1 c23.2.2.1 c23.2.2.2.1 c23.2.2.2.2.1 c23.2.2.2.2.2.1),(aU.mk c25.1 c25.2.1 c25.2.2.1 c25.2.2.2.1 c25.2.2.2.2.1 c25.2.2.2.2.2.1)]) fun Jo=>
      some (Jo.1,Jo.2.1,Jo.2.2.1,Jo.2.2.2.1,Jo.2.2.2.2.1,Jo.2.2.2.2.2,c25.2.2.2.2.2.2.1,c25.2.2.2.2.2.2.2.1,c25.2.2.2.2.2.2.2.2.1,p4,p5,p6)
     else
      OB (
       bif (decide (c6.1=3)) then
        some true
       else
        some (decide (c6.1=4))) fun uF=>
      bif uF then
       OB (aeY p0 p1 c6.2.1 c6.2.2 p4 p5 p6) fun c31=>
       some (c31.1,c31.2.1,c31.2.2.1,c31.2.2.2.1,c31.2.2.2.2.1,c31.2.2.2.2.2.2.2.2.2.2.2,c31.2.2.2.2.2.1,c31.2.2.2.2.2.2.1,c31.2.2.2.2.2.2.2.1,p4,p5,p6)
      else
       dh (
        bif (decide (c6.1=5)) then
         OB (f96 true p1 c6.2.1 c6.2.2 p4 p5 p6) fun Kw=>
         bif Kw.2.1 then
          OB (wY (bW (p0-1)) Kw.2.2.1 Kw.2.2.2.1 Kw.2.2.2.2.1 p4 p5 p6) fun CY=>
          some (.inr ((4:Int),(0:Int),(0:Int),(0:Int),Kw.1,[(aU.mk CY.1 CY.2.1 CY.2.2.1 CY.2.2.2.1 CY.2.2.2.2.1 CY.2.2.2.2.2.1)],CY.2.2.2.2.2.2.1,CY.2.2.2.2.2.2.2.1,CY.2.2.2.2.2.2.2.2.1,p4,p5,p6))
         else
          some (.inl (Kw.2.2.1,Kw.2.2.2.1,Kw.2.2.2.2.1))
        else
         some (.inl (p1,c6.2.1,c6.2.2))) fun AV=>
       OB (f16 9 AV.2.1 AV.2.2) fun c38=>
       OB (wY (bW (p0-1)) AV.1 c38.2.1 c38.2.2 p4 p5 p6) fun Tf=>
       OB (wY (bW (p0-1)) Tf.2.2.2.2.2.2.1 Tf.2.2.2.2.2.2.2.1 Tf.2.2.2.2.2.2.2.2.1 p4 p5 p6) fun VD=>
       OB (f102 6 (bW (3+c38.1)) [(aU.mk Tf.1 Tf.2.1 Tf.2.2.1 Tf.2.2.2.1 Tf.2.2.2.2.1 Tf.2.2.2.2.2.1),(aU.mk VD.1 VD.2.1 VD.2.2.1 VD.2.2.2.1 VD.2.2.2.2.1 VD.2.2.2.2.2.1)]) fun IB=>
       some (IB.1,IB.2.1,IB.2.2.1,IB.2.2.2.1,IB.2.2.2.2.1,IB.2.2.2.2.2,VD.2.2.2.2.2.2.1,VD.2.2.2.2.2.2.2.1,VD.2.2.2.2.2.2.2.2.1,p4,p5,p6)) fun s46=>
 ck (decide (p4.length=s46.2.2.2.2.2.2.2.2.2.1.length)) <|
 ck (decide (p5.length=s46.2.2.2.2.2.2.2.2.2.2.1.length)) <|
 ck (decide (p6.length=s46.2.2.2.2.2.2.2.2.2.2.2.length)) <|
 some s46
def k95 (p0:Int) (p1:Int) (p2:dW) (p3:Int) (p4:dF) (p5:(List aj)) (p6:aQ) (r:Option (Int×Int×Int×Int×gK×lD×Int×dW×Int×dF×(List aj)×aQ)):Option (Int×Int×Int×Int×gK×lD×Int×dW×Int×dF×(List aj)×aQ):=OB r fun (y:(Int×Int×Int×Int×gK×lD×Int×dW×Int×dF×(List aj)×aQ))=>uV y.2.2.2.2.2.2.2.2.2.1 p4 <| uV y.2.2.2.2.2.2.2.2.2.2.1 p5 <| uV y.2.2.2.2.2.2.2.2.2.2.2 p6 <| some y
def adu (wY:T95) (aeY:T98) (p0:Int) (p1:Int) (p2:dW) (p3:Int) (p4:dF) (p5:(List aj)) (p6:aQ):Option (Int×Int×Int×Int×gK×Int×dW×Int×dF×(List aj)×aQ×lD):=
 OB (
  OB (f16 (p5.length:Int) p2 p3) fun c1=>
  ck (inB c1.1 p5.length) <|
  let n2:=(List.getD p5 c1.1.toNat fJ)
  OB (f16 3 c1.2.1 c1.2.2) fun c4=>
  let n5:=(decide (c4.1=2))
  OB (
   bif n5 then
    OB (f16 8 c4.2.1 c4.2.2) fun c6=>
    some ((decide (c6.1=7)),c6.2.1,c6.2.2)
   else
    some (false,c4.2.1,c4.2.2)) fun s9=>
  OB (
   bif s9.1 then
    OB (f16 3 s9.2.1 s9.2.2) fun c10=>
    some (c10.1,c10.2.1,c10.2.2)
   else
    some (((List.length n2.params):Int),s9.2.1,s9.2.2)) fun s11=>
  OB (
   aX (fun (s12:(Int×Int×dW×Int×lD))=>
    bif (decide (s12.1<s11.1)) then
     OB (wY (bW (p0-1)) s12.2.1 s12.2.2.1 s12.2.2.2.1 p4 p5 p6) fun c15=>
     let n16:=[(aU.mk c15.1 c15.2.1 c15.2.2.1 c15.2.2.2.1 c15.2.2.2.2.1 c15.2.2.2.2.2.1)]
     ck (bG s12.2.2.2.2.length n16.length 72) <|
     some (.inl ((bW (s12.1+1)),c15.2.2.2.2.2.2.1,c15.2.2.2.2.2.2.2.1,c15.2.2.2.2.2.2.2.2.1,(s12.2.2.2.2++n16)))
    else
     some (.inr (s12.2.1,s12.2.2.1,s12.2.2.2.1,s12.2.2.2.2))) ((0:Int),p1,s11.2.1,s11.2.2,nV)) fun uQ=>
  bif (!n5) then
   some ((9:Int),(0:Int),(0:Int),(0:Int),n2.name,uQ.1,uQ.2.1,uQ.2.2.1,p4,p5,p6,uQ.2.2.2)
  else
   OB (f16 4 uQ.2.1 uQ.2.2.1) fun c21=>
   OB (
    bif (decide (c21.1=3)) then
     OB (wY (bW (p0-1)) uQ.1 c21.2.1 c21.2.2 p4 p5 p6) fun c24=>
     some (c24.2.2.2.2.2.2.1,c24.2.2.2.2.2.2.2.1,c24.2.2.2.2.2.2.2.2.1,c24.1,c24.2.1,c24.2.2.1,c24.2.2.2.1,c24.2.2.2.2.1,c24.2.2.2.2.2.1)
    else
     some (uQ.1,c21.2.1,c21.2.2,(11:Int),(0:Int),(0:Int),(0:Int),n2.name,nV)) fun xR=>
   bif (decide (xR.2.2.2.1=13)) then
    some ((9:Int),(0:Int),(0:Int),(0:Int),xR.2.2.2.2.2.2.2.1,xR.1,xR.2.1,xR.2.2.1,p4,p5,p6,uQ.2.2.2)
   else
    let n27:=[(aU.mk xR.2.2.2.1 xR.2.2.2.2.1 xR.2.2.2.2.2.1 xR.2.2.2.2.2.2.1 xR.2.2.2.2.2.2.2.1 xR.2.2.2.2.2.2.2.2)]
    ck (bG n27.length uQ.2.2.2.length 72) <|
    some ((10:Int),(0:Int),(0:Int),(0:Int),cu,xR.1,xR.2.1,xR.2.2.1,p4,p5,p6,(n27++uQ.2.2.2))) fun s29=>
 ck (decide (p4.length=s29.2.2.2.2.2.2.2.2.1.length)) <|
 ck (decide (p5.length=s29.2.2.2.2.2.2.2.2.2.1.length)) <|
 ck (decide (p6.length=s29.2.2.2.2.2.2.2.2.2.2.1.length)) <|
 some s29
def k98 (p0:Int) (p1:Int) (p2:dW) (p3:Int) (p4:dF) (p5:(List aj)) (p6:aQ) (r:Option (Int×Int×Int×Int×gK×Int×dW×Int×dF×(List aj)×aQ×lD)):Option (Int×Int×Int×Int×gK×Int×dW×Int×dF×(List aj)×aQ×lD):=OB r fun (y:(Int×Int×Int×Int×gK×Int×dW×Int×dF×(List aj)×aQ×lD))=>uV y.2.2.2.2.2.2.2.2.1 p4 <| uV y.2.2.2.2.2.2.2.2.2.1 p5 <| uV y.2.2.2.2.2.2.2.2.2.2.1 p6 <| some y
def rD:Nat→T95×T98
 |0=>(fun _ _ _ _ _ _ _=>none,fun _ _ _ _ _ _ _=>none)
 |n+1=>(Xv (fun p0 p1 p2 p3 p4 p5 p6=>k95 p0 p1 p2 p3 p4 p5 p6 ((rD n).1 p0 p1 p2 p3 p4 p5 p6)) (fun p0 p1 p2 p3 p4 p5 p6=>k98 p0 p1 p2 p3 p4 p5 p6 ((rD n).2 p0 p1 p2 p3 p4 p5 p6)),adu (fun p0 p1 p2 p3 p4 p5 p6=>k95 p0 p1 p2 p3 p4 p5 p6 ((rD n).1 p0 p1 p2 p3 p4 p5 p6)) (fun p0 p1 p2 p3 p4 p5 p6=>k98 p0 p1 p2 p3 p4 p5 p6 ((rD n).2 p0 p1 p2 p3 p4 p5 p6)))
def adv (n:Nat):T95:=(fun p0 p1 p2 p3 p4 p5 p6=>k95 p0 p1 p2 p3 p4 p5 p6 ((rD n).1 p0 p1 p2 p3 p4 p5 p6))
def IC (n:Nat):aP:=⟨aiK,u7 (rD n).1⟩
def adw (n:Nat):T98:=(fun p0 p1 p2 p3 p4 p5 p6=>k98 p0 p1 p2 p3 p4 p5 p6 ((rD n).2 p0 p1 p2 p3 p4 p5 p6))
def IE (n:Nat):aP:=⟨aiL,u7 (rD n).2⟩
theorem aau (n:Nat) (h95:ak Try.prog 95 (IC n)) (h98:ak Try.prog 98 (IE n)):ak Try.prog 95 (IC (n+1)):=
 ts [(16,Iy),(101,aeU),(102,aam),(96,aaj),(95,IC n),(98,IE n)] ety [.cell 4 132] amH Try.func95 rfl ⟨ny,aal,Qd,Fe,h95,h98,trivial⟩
theorem aav (n:Nat) (h95:ak Try.prog 95 (IC n)) (h98:ak Try.prog 98 (IE n)):ak Try.prog 98 (IE (n+1)):=
 ts [(16,Iy),(95,IC n),(98,IE n)] ety [.cell 4 132] amI Try.func98 rfl ⟨ny,h95,h98,trivial⟩
theorem wZ :∀n,ak Try.prog 95 (IC n)∧ak Try.prog 98 (IE n)
 |0=>⟨bK Try.func95 rfl rfl (show aiK.er.ok=true by decide +kernel) fun x=>rfl,bK Try.func98 rfl rfl (show aiL.er.ok=true by decide +kernel) fun x=>rfl⟩
 |n+1=>by
  have ih:=wZ n
  exact ⟨aau n (ih.1) (ih.2),aav n (ih.1) (ih.2)⟩
def f95:T95:=adv 1048576
def agD:aP:=IC 1048576
theorem VE:ak Try.prog 95 agD:=(wZ 1048576).1
def f98:T98:=adw 1048576
def ajk:aP:=IE 1048576
theorem adx:ak Try.prog 98 ajk:=(wZ 1048576).2
def ady (KA:T55) (aaw:T78) (aax:T97) (p0:Int) (p1:Int) (p2:Int) (p3:dW) (p4:Int) (p5:dF) (p6:(List aj)) (p7:aQ):Option (Int×dW×Int×dF×(List aj)×oq×aQ):=
 OB (
  OB (
   aX (fun (s0:(Int×Int×dW×Int×oq×aQ))=>
    OB (
     bif (decide (s0.1<p1)) then
      some (decide (0<s0.2.1))
     else
      some false) fun s4=>
    bif s4 then
     OB (aaw p0 (bW (s0.2.1-1)) s0.2.2.1 s0.2.2.2.1 p5 p6 s0.2.2.2.2.2) fun c6=>
     let n7:=[(dH.mk c6.1 c6.2.1 c6.2.2.1 c6.2.2.2.2.2.2.2.2.1 c6.2.2.2.2.2.2.2.2.2.1 c6.2.2.2.2.2.2.2.2.2.2.1)]
     ck (bG s0.2.2.2.2.1.length n7.length 104) <|
     some (.inl ((bW (s0.1+1)),c6.2.2.2.1,c6.2.2.2.2.1,c6.2.2.2.2.2.1,(s0.2.2.2.2.1++n7),c6.2.2.2.2.2.2.2.2.2.2.2))
    else
     some (.inr (s0.2.1,s0.2.2.1,s0.2.2.2.1,s0.2.2.2.2.1,s0.2.2.2.2.2))) ((0:Int),p2,p3,p4,gZ,p7)) fun s10=>
  some (s10.1,s10.2.1,s10.2.2.1,p5,p6,s10.2.2.2.1,s10.2.2.2.2)) fun s11=>
 ck (decide (p5.length=s11.2.2.2.1.length)) <|
 ck (decide (p6.length=s11.2.2.2.2.1.length)) <|
 some s11
def k55 (p0:Int) (p1:Int) (p2:Int) (p3:dW) (p4:Int) (p5:dF) (p6:(List aj)) (p7:aQ) (r:Option (Int×dW×Int×dF×(List aj)×oq×aQ)):Option (Int×dW×Int×dF×(List aj)×oq×aQ):=OB r fun (y:(Int×dW×Int×dF×(List aj)×oq×aQ))=>uV y.2.2.2.1 p5 <| uV y.2.2.2.2.1 p6 <| some y
def adz (KA:T55) (aaw:T78) (aax:T97) (p0:Int) (p1:Int) (p2:dW) (p3:Int) (p4:dF) (p5:(List aj)) (p6:aQ):Option (Int×Int×gK×Int×dW×Int×dF×(List aj)×lD×oq×oq×aQ):=
 OB (
  OB (f16 10 p2 p3) fun c0=>
  OB (
   bif (decide (c0.1=0)) then
    some true
   else
    some (decide (c0.1=1))) fun s3=>
  dh (
   bif s3 then
    OB (f93 p1 c0.2.1 c0.2.2 p4 p5 p6) fun c4=>
    bif c4.2.1 then
     OB (f95 2 c4.2.2.1 c4.2.2.2.1 c4.2.2.2.2.1 p4 p5 p6) fun c5=>
     OB (f94 1 c4.1 c5.1 c5.2.1 c5.2.2.1 c5.2.2.2.1 c5.2.2.2.2.1 c5.2.2.2.2.2.1) fun c6=>
     let n7:=[c4.1]
     ck (bG p6.length n7.length 16) <|
     some (.inr (c6.1,c6.2.1,c6.2.2.1,c5.2.2.2.2.2.2.1,c5.2.2.2.2.2.2.2.1,c5.2.2.2.2.2.2.2.2.1,p4,p5,c6.2.2.2,gZ,gZ,(p6++n7)))
    else
     some (.inl (c4.2.2.1,c4.2.2.2.1,c4.2.2.2.2.1))
   else
    dh (
     bif (decide (c0.1=2)) then
      bif (decide (0<(p6.length:Int))) then
       OB (f16 (p6.length:Int) c0.2.1 c0.2.2) fun c13=>
       ck (inB c13.1 p6.length) <|
       OB (f95 2 p1 c13.2.1 c13.2.2 p4 p5 p6) fun c15=>
       OB (f94 2 (List.getD p6 c13.1.toNat cu) c15.1 c15.2.1 c15.2.2.1 c15.2.2.2.1 c15.2.2.2.2.1 c15.2.2.2.2.2.1) fun c16=>
       some (.inr (.inr (c16.1,c16.2.1,c16.2.2.1,c15.2.2.2.2.2.2.1,c15.2.2.2.2.2.2.2.1,c15.2.2.2.2.2.2.2.2.1,p4,p5,c16.2.2.2,gZ,gZ,p6)))
      else
       some (.inl (p1,c0.2.1,c0.2.2))
     else
      dh (
       bif (decide (c0.1=3)) then
        OB (f96 false p1 c0.2.1 c0.2.2 p4 p5 p6) fun c18=>
        bif c18.2.1 then
         OB (f95 2 c18.2.2.1 c18.2.2.2.1 c18.2.2.2.2.1 p4 p5 p6) fun c19=>
         OB (f94 2 c18.1 c19.1 c19.2.1 c19.2.2.1 c19.2.2.2.1 c19.2.2.2.2.1 c19.2.2.2.2.2.1) fun c20=>
         some (.inr (.inr (.inr (c20.1,c20.2.1,c20.2.2.1,c19.2.2.2.2.2.2.1,c19.2.2.2.2.2.2.2.1,c19.2.2.2.2.2.2.2.2.1,p4,p5,c20.2.2.2,gZ,gZ,p6))))
        else
         some (.inl (c18.2.2.1,c18.2.2.2.1,c18.2.2.2.2.1))
       else
        dh (
         bif (decide (c0.1=4)) then
          OB (f96 true p1 c0.2.1 c0.2.2 p4 p5 p6) fun IY=>
          bif IY.2.1 then
           OB (f95 1 IY.2.2.1 IY.2.2.2.1 IY.2.2.2.2.1 p4 p5 p6) fun c23=>
           OB (f95 2 c23.2.2.2.2.2.2.1 c23.2.2.2.2.2.2.2.1 c23.2.2.2.2.2.2.2.2.1 p4 p5 p6) fun c24=>
           some (.inr (.inr (.inr (.inr ((3:Int),(0:Int),IY.1,c24.2.2.2.2.2.2.1,c24.2.2.2.2.2.2.2.1,c24.2.2.2.2.2.2.2.2.1,p4,p5,[(aU.mk c23.1 c23.2.1 c23.2.2.1 c23.2.2.2.1 c23.2.2.2.2.1 c23.2.2.2.2.2.1),(aU.mk c24.1 c24.2.1 c24.2.2.1 c24.2.2.2.1 c24.2.2.2.2.1 c24.2.2.2.2.2.1)],gZ,gZ,p6)))))
          else
           some (.inl (IY.2.2.1,IY.2.2.2.1,IY.2.2.2.2.1))
         else
          OB (
           bif (decide (c0.1=5)) then
            some true
           else
            some (decide (c0.1=6))) fun CW=>
          dh (
           bif CW then
            bif (decide (0<p0)) then
             OB (f95 2 p1 c0.2.1 c0.2.2 p4 p5 p6) fun Kv=>
             OB (f94 4 cu Kv.1 Kv.2.1 Kv.2.2.1 Kv.2.2.2.1 Kv.2.2.2.2.1 Kv.2.2.2.2.2.1) fun c31=>
             OB (f16 2 Kv.2.2.2.2.2.2.2.1 Kv.2.2.2.2.2.2.2.2.1) fun Kw=>
             OB (KA (bW (p0-1)) (bW (1+Kw.1)) Kv.2.2.2.2.2.2.1 Kw.2.1 Kw.2.2 p4 p5 p6) fun CY=>
             OB (f16 2 CY.2.1 CY.2.2.1) fun c36=>
             OB (
              bif (decide (c36.1=1)) then
               OB (f16 2 c36.2.1 c36.2.2) fun c39=>
               OB (KA (bW (p0-1)) (bW (1+c39.1)) CY.1 c39.2.1 c39.2.2 p4 p5 CY.2.2.2.2.2.2) fun Tf=>
               some (Tf.1,Tf.2.1,Tf.2.2.1,c31.1,c31.2.1,c31.2.2.1,Tf.2.2.2.2.2.2,Tf.2.2.2.2.2.1)
              else
               some (CY.1,c36.2.1,c36.2.2,c31.1,c31.2.1,c31.2.2.1,CY.2.2.2.2.2.2,gZ)) fun xU=>
             some (.inr (.inr (.inr (.inr (.inr (xU.2.2.2.1,xU.2.2.2.2.1,xU.2.2.2.2.2.1,xU.1,xU.2.1,xU.2.2.1,p4,p5,c31.2.2.2,CY.2.2.2.2.2.1,xU.2.2.2.2.2.2.2,xU.2.2.2.2.2.2.1))))))
            else
             some (.inl ())
           else
            dh (
             bif (decide (c0.1=7)) then
              bif (decide (0<p0)) then
               OB (aax p0 p1 c0.2.1 c0.2.2 p4 p5 p6) fun IB=>
               some (.inr (.inr (.inr (.inr (.inr (.inr (IB.1,IB.2.1,IB.2.2.1,IB.2.2.2.1,IB.2.2.2.2.1,IB.2.2.2.2.2.1,p4,p5,IB.2.2.2.2.2.2.2.2.1,IB.2.2.2.2.2.2.2.2.2.1,gZ,IB.2.2.2.2.2.2.2.2.2.2)))))))
              else
               some (.inl ())
             else
              bif (decide (c0.1=8)) then
               OB (f16 3 c0.2.1 c0.2.2) fun c47=>
               bif (decide (c47.1=0)) then
                OB (f95 2 p1 c47.2.1 c47.2.2 p4 p5 p6) fun c49=>
                OB (f94 6 cu c49.1 c49.2.1 c49.2.2.1 c49.2.2.2.1 c49.2.2.2.2.1 c49.2.2.2.2.2.1) fun c50=>
                some (.inr (.inr (.inr (.inr (.inr (.inr (c50.1,c50.2.1,c50.2.2.1,c49.2.2.2.2.2.2.1,c49.2.2.2.2.2.2.2.1,c49.2.2.2.2.2.2.2.2.1,p4,p5,c50.2.2.2,gZ,gZ,p6)))))))
               else
                OB (f98 2 p1 c47.2.1 c47.2.2 p4 p5 p6) fun c51=>
                OB (f94 8 cu c51.1 c51.2.1 c51.2.2.1 c51.2.2.2.1 c51.2.2.2.2.1 c51.2.2.2.2.2.2.2.2.2.2.2) fun Xu=>
                some (.inr (.inr (.inr (.inr (.inr (.inr (Xu.1,Xu.2.1,Xu.2.2.1,c51.2.2.2.2.2.1,c51.2.2.2.2.2.2.1,c51.2.2.2.2.2.2.2.1,p4,p5,Xu.2.2.2,gZ,gZ,p6)))))))
              else
               some (.inl ())) fun s53=>
            some (.inl ())) fun s54=>
          some (.inl (p1,c0.2.1,c0.2.2))) fun s55=>
        some (.inl (s55.1,s55.2.1,s55.2.2))) fun s56=>
      some (.inl (s56.1,s56.2.1,s56.2.2))) fun s57=>
    some (.inl (s57.1,s57.2.1,s57.2.2))) fun s58=>
  OB (f95 2 s58.1 s58.2.1 s58.2.2 p4 p5 p6) fun c59=>
  OB (f94 7 cu c59.1 c59.2.1 c59.2.2.1 c59.2.2.2.1 c59.2.2.2.2.1 c59.2.2.2.2.2.1) fun c60=>
  some (c60.1,c60.2.1,c60.2.2.1,c59.2.2.2.2.2.2.1,c59.2.2.2.2.2.2.2.1,c59.2.2.2.2.2.2.2.2.1,p4,p5,c60.2.2.2,gZ,gZ,p6)) fun s61=>
 ck (decide (p4.length=s61.2.2.2.2.2.2.1.length)) <|
 ck (decide (p5.length=s61.2.2.2.2.2.2.2.1.length)) <|
 some s61
def k78 (p0:Int) (p1:Int) (p2:dW) (p3:Int) (p4:dF) (p5:(List aj)) (p6:aQ) (r:Option (Int×Int×gK×Int×dW×Int×dF×(List aj)×lD×oq×oq×aQ)):Option (Int×Int×gK×Int×dW×Int×dF×(List aj)×lD×oq×oq×aQ):=OB r fun (y:(Int×Int×gK×Int×dW×Int×dF×(List aj)×lD×oq×oq×aQ))=>uV y.2.2.2.2.2.2.1 p4 <| uV y.2.2.2.2.2.2.2.1 p5 <| some y
def adA (KA:T55) (aaw:T78) (aax:T97) (p0:Int) (p1:Int) (p2:dW) (p3:Int) (p4:dF) (p5:(List aj)) (p6:aQ):Option (Int×Int×gK×Int×dW×Int×dF×(List aj)×lD×oq×aQ):=
 OB (
  OB (f96 false p1 p2 p3 p4 p5 p6) fun c0=>
  OB (
   bif (decide (0<(p6.length:Int))) then
    OB (f16 3 c0.2.2.2.1 c0.2.2.2.2.1) fun c3=>
    some ((decide (0<c3.1)),c3.2.1,c3.2.2)
   else
    some (false,c0.2.2.2.1,c0.2.2.2.2.1)) fun s6=>
  OB (
   bif s6.1 then
    OB (f16 (p6.length:Int) s6.2.1 s6.2.2) fun c8=>
    ck (inB c8.1 p6.length) <|
    some ((List.getD p6 c8.1.toNat cu),true,c8.2.1,c8.2.2)
   else
    some (c0.1,c0.2.1,s6.2.1,s6.2.2)) fun s10=>
  OB (
   bif (!s10.2.1) then
    some (true,s10.2.2.1,s10.2.2.2)
   else
    OB (f16 8 s10.2.2.1 s10.2.2.2) fun c12=>
    some ((decide (c12.1=7)),c12.2.1,c12.2.2)) fun s15=>
  bif s15.1 then
   OB (f95 2 c0.2.2.1 s15.2.1 s15.2.2 p4 p5 p6) fun c16=>
   OB (f94 5 cu c16.1 c16.2.1 c16.2.2.1 c16.2.2.2.1 c16.2.2.2.2.1 c16.2.2.2.2.2.1) fun c17=>
   OB (f16 2 c16.2.2.2.2.2.2.2.1 c16.2.2.2.2.2.2.2.2.1) fun c19=>
   OB (KA (bW (p0-1)) (bW (1+c19.1)) c16.2.2.2.2.2.2.1 c19.2.1 c19.2.2 p4 p5 p6) fun c21=>
   some (c17.1,c17.2.1,c17.2.2.1,c21.1,c21.2.1,c21.2.2.1,p4,p5,c17.2.2.2,c21.2.2.2.2.2.1,c21.2.2.2.2.2.2)
  else
   OB (f16 5 s15.2.1 s15.2.2) fun IY=>
   OB (f102 6 8 [(aU.mk 13 0 0 0 s10.1 nV),(aU.mk 1 0 (bW (1+IY.1)) 0 cu nV)]) fun c25=>
   OB (f94 5 cu c25.1 c25.2.1 c25.2.2.1 c25.2.2.2.1 c25.2.2.2.2.1 c25.2.2.2.2.2) fun QC=>
   OB (f16 3 IY.2.1 IY.2.2) fun c28=>
   OB (KA (bW (p0-1)) c28.1 c0.2.2.1 c28.2.1 c28.2.2 p4 p5 p6) fun c29=>
   OB (f102 6 3 [(aU.mk 13 0 0 0 s10.1 nV),(aU.mk 1 0 1 0 cu nV)]) fun c31=>
   OB (f94 2 s10.1 c31.1 c31.2.1 c31.2.2.1 c31.2.2.2.1 c31.2.2.2.2.1 c31.2.2.2.2.2) fun c32=>
   let n33:=[(dH.mk c32.1 c32.2.1 c32.2.2.1 c32.2.2.2 gZ gZ)]
   ck (bG c29.2.2.2.2.2.1.length n33.length 104) <|
   some (QC.1,QC.2.1,QC.2.2.1,c29.1,c29.2.1,c29.2.2.1,p4,p5,QC.2.2.2,(c29.2.2.2.2.2.1++n33),c29.2.2.2.2.2.2)) fun QD=>
 ck (decide (p4.length=QD.2.2.2.2.2.2.1.length)) <|
 ck (decide (p5.length=QD.2.2.2.2.2.2.2.1.length)) <|
 some QD
def k97 (p0:Int) (p1:Int) (p2:dW) (p3:Int) (p4:dF) (p5:(List aj)) (p6:aQ) (r:Option (Int×Int×gK×Int×dW×Int×dF×(List aj)×lD×oq×aQ)):Option (Int×Int×gK×Int×dW×Int×dF×(List aj)×lD×oq×aQ):=OB r fun (y:(Int×Int×gK×Int×dW×Int×dF×(List aj)×lD×oq×aQ))=>uV y.2.2.2.2.2.2.1 p4 <| uV y.2.2.2.2.2.2.2.1 p5 <| some y
def jB:Nat→T55×T78×T97
 |0=>(fun _ _ _ _ _ _ _ _=>none,fun _ _ _ _ _ _ _=>none,fun _ _ _ _ _ _ _=>none)
 |n+1=>(ady (fun p0 p1 p2 p3 p4 p5 p6 p7=>k55 p0 p1 p2 p3 p4 p5 p6 p7 ((jB n).1 p0 p1 p2 p3 p4 p5 p6 p7)) (fun p0 p1 p2 p3 p4 p5 p6=>k78 p0 p1 p2 p3 p4 p5 p6 ((jB n).2.1 p0 p1 p2 p3 p4 p5 p6)) (fun p0 p1 p2 p3 p4 p5 p6=>k97 p0 p1 p2 p3 p4 p5 p6 ((jB n).2.2 p0 p1 p2 p3 p4 p5 p6)),adz (fun p0 p1 p2 p3 p4 p5 p6 p7=>k55 p0 p1 p2 p3 p4 p5 p6 p7 ((jB n).1 p0 p1 p2 p3 p4 p5 p6 p7)) (fun p0 p1 p2 p3 p4 p5 p6=>k78 p0 p1 p2 p3 p4 p5 p6 ((jB n).2.1 p0 p1 p2 p3 p4 p5 p6)) (fun p0 p1 p2 p3 p4 p5 p6=>k97 p0 p1 p2 p3 p4 p5 p6 ((jB n).2.2 p0 p1 p2 p3 p4 p5 p6)),adA (fun p0 p1 p2 p3 p4 p5 p6 p7=>k55 p0 p1 p2 p3 p4 p5 p6 p7 ((jB n).1 p0 p1 p2 p3 p4 p5 p6 p7)) (fun p0 p1 p2 p3 p4 p5 p6=>k78 p0 p1 p2 p3 p4 p5 p6 ((jB n).2.1 p0 p1 p2 p3 p4 p5 p6)) (fun p0 p1 p2 p3 p4 p5 p6=>k97 p0 p1 p2 p3 p4 p5 p6 ((jB n).2.2 p0 p1 p2 p3 p4 p5 p6)))
def aaz (n:Nat):T55:=(fun p0 p1 p2 p3 p4 p5 p6 p7=>k55 p0 p1 p2 p3 p4 p5 p6 p7 ((jB n).1 p0 p1 p2 p3 p4 p5 p6 p7))
def AZ (n:Nat):aP:=⟨aiM,u8 (jB n).1⟩
def adB (n:Nat):T78:=(fun p0 p1 p2 p3 p4 p5 p6=>k78 p0 p1 p2 p3 p4 p5 p6 ((jB n).2.1 p0 p1 p2 p3 p4 p5 p6))
def Et (n:Nat):aP:=⟨aiN,u7 (jB n).2.1⟩
def adC (n:Nat):T97:=(fun p0 p1 p2 p3 p4 p5 p6=>k97 p0 p1 p2 p3 p4 p5 p6 ((jB n).2.2 p0 p1 p2 p3 p4 p5 p6))
def Eu (n:Nat):aP:=⟨aiO,u7 (jB n).2.2⟩
theorem aaA (n:Nat) (h55:ak Try.prog 55 (AZ n)) (h78:ak Try.prog 78 (Et n)) (h97:ak Try.prog 97 (Eu n)):ak Try.prog 55 (AZ (n+1)):=
 ts [(55,AZ n),(78,Et n),(97,Eu n)] ety [.tmp 6] amJ Try.func55 rfl ⟨h55,h78,h97,trivial⟩
theorem aaB (n:Nat) (h55:ak Try.prog 55 (AZ n)) (h78:ak Try.prog 78 (Et n)) (h97:ak Try.prog 97 (Eu n)):ak Try.prog 78 (Et (n+1)):=
 ts [(16,Iy),(93,ajj),(95,agD),(94,agu),(96,aaj),(98,ajk),(55,AZ n),(78,Et n),(97,Eu n)] ety [.cell 4 104] amK Try.func78 rfl ⟨ny,adt,VE,Vr,Fe,adx,h55,h78,h97,trivial⟩
theorem aaC (n:Nat) (h55:ak Try.prog 55 (AZ n)) (h78:ak Try.prog 78 (Et n)) (h97:ak Try.prog 97 (Eu n)):ak Try.prog 97 (Eu (n+1)):=
 ts [(96,aaj),(16,Iy),(95,agD),(94,agu),(102,aam),(55,AZ n),(78,Et n),(97,Eu n)] ety [.cell 4 104] amL Try.func97 rfl ⟨Fe,ny,VE,Vr,Qd,h55,h78,h97,trivial⟩
theorem Ew :∀n,ak Try.prog 55 (AZ n)∧ak Try.prog 78 (Et n)∧ak Try.prog 97 (Eu n)
 |0=>⟨bK Try.func55 rfl rfl (show aiM.er.ok=true by decide +kernel) fun x=>rfl,bK Try.func78 rfl rfl (show aiN.er.ok=true by decide +kernel) fun x=>rfl,bK Try.func97 rfl rfl (show aiO.er.ok=true by decide +kernel) fun x=>rfl⟩
 |n+1=>by
  have ih:=Ew n
  exact ⟨aaA n (ih.1) (ih.2.1) (ih.2.2),aaB n (ih.1) (ih.2.1) (ih.2.2),aaC n (ih.1) (ih.2.1) (ih.2.2)⟩
def f55:T55:=aaz 1048576
def ajs:aP:=AZ 1048576
theorem adD:ak Try.prog 55 ajs:=(Ew 1048576).1
def f14 (p0:gK) (p1:Int) (p2:Int) (p3:kF):Option dW:=
 let n0:=(p3.length:Int)
 ck (yZ (1:Nat) n0 n0) <|
 OB (
  some eInt) fun s2=>
 OB (f24 0 p0 p1 p2 p3 (List.replicate n0.toNat false) s2) fun c3=>
 OB (f26 c3.2.2.2.2.2) fun c4=>
 some c4
def ajt:aP:=⟨amM,u4 f14⟩
theorem adE:ak Try.prog 14 ajt:=
 ts [(26,aiW),(24,aje)] ety [.tmp 2] amN Try.func14 rfl ⟨acO,adb,trivial⟩
def f18 (p0:dW) (p1:Int):Option (Int×Int×dW×Int×dF×Nz):=
 OB (f16 4 p0 p1) fun c0=>
 let n2:=[(aI.mk [(103:UInt8),(48:UInt8)] 0),(aI.mk [(103:UInt8),(49:UInt8)] (bW (1+c0.1)))]
 OB (f16 3 c0.2.1 c0.2.2) fun c3=>
 let n4:=(bW (1+c3.1))
 OB (
  aX (fun (s5:(Int×dW×Int×Int×Int×Nz))=>
   bif (decide (s5.1<n4)) then
    OB (f30 s5.1) fun c7=>
    ck (Ai (List.length [(102:UInt8)]) c7.length) <|
    let n8:=([(102:UInt8)]++c7)
    OB (f16 4 s5.2.1 s5.2.2.1) fun c9=>
    let n10:=(bW (1+c9.1))
    OB (
     bif (decide (0<s5.1)) then
      OB (f16 (bW ((WJ n10 (2:Int))+1)) c9.2.1 c9.2.2) fun c14=>
      some (c14.2.1,c14.2.2,n8,c14.1,n10)
     else
      some (c9.2.1,c9.2.2,n8,(0:Int),n10)) fun s15=>
    let n16:=[(aN.mk s15.2.2.1 s15.2.2.2.1 s15.2.2.2.2 ([]:kF))]
    ck (bG s5.2.2.2.2.2.length n16.length 56) <|
    some (.inl ((bW (s5.1+1)),s15.1,s15.2.1,s5.2.2.2.1,s5.2.2.2.2.1,(s5.2.2.2.2.2++n16)))
   else
    some (.inr (s5.2.1,s5.2.2.1,s5.2.2.2.1,s5.2.2.2.2.1,s5.2.2.2.2.2))) ((0:Int),c3.2.1,c3.2.2,(0:Int),(0:Int),([]:Nz))) fun uQ=>
 OB (f16 (bW (n4+1)) uQ.1 uQ.2.1) fun c21=>
 OB (
  aX (fun (lG:(Int×dW×Int×Nz))=>
   bif (decide (lG.1<n4)) then
    ck (inB lG.1 lG.2.2.2.length) <|
    OB (f16 6 lG.2.1 lG.2.2.1) fun c24=>
    OB (
     aX (fun (s26:(Int×dW×Int×Nz))=>
      bif (decide (0<s26.1)) then
       OB (f16 20 s26.2.1 s26.2.2.1) fun c28=>
       OB (f16 4 c28.2.1 c28.2.2) fun c31=>
       OB (
        aX (fun (pR:(Int×dW×Int×Nz×Int×Int×Int×Int×Int×Int×Int×(List fA)))=>
         bif (decide (0<pR.1)) then
          OB (f31 n2 (List.set pR.2.2.2.1 lG.1.toNat (aN.mk (List.getD pR.2.2.2.1 lG.1.toNat aB).name (List.getD pR.2.2.2.1 lG.1.toNat aB).params (List.getD pR.2.2.2.1 lG.1.toNat aB).regs (List.getD pR.2.2.2.1 lG.1.toNat aB).blocks)) c21.1 uQ.2.2.2.1 (List.getD pR.2.2.2.1 lG.1.toNat aB).name (List.getD pR.2.2.2.1 lG.1.toNat aB).params (List.getD pR.2.2.2.1 lG.1.toNat aB).regs (List.getD pR.2.2.2.1 lG.1.toNat aB).blocks pR.2.1 pR.2.2.1) fun c34=>
          let n35:=[(fA.mk c34.1 c34.2.1 c34.2.2.1 c34.2.2.2.1 c34.2.2.2.2.1 c34.2.2.2.2.2.1 c34.2.2.2.2.2.2.2.2)]
          ck (bG pR.2.2.2.2.2.2.2.2.2.2.2.length n35.length 72) <|
          some (.inl ((bW (pR.1-1)),c34.2.2.2.2.2.2.1,c34.2.2.2.2.2.2.2.1,(List.set pR.2.2.2.1 lG.1.toNat (aN.mk (List.getD pR.2.2.2.1 lG.1.toNat aB).name (List.getD pR.2.2.2.1 lG.1.toNat aB).params (List.getD pR.2.2.2.1 lG.1.toNat aB).regs (List.getD pR.2.2.2.1 lG.1.toNat aB).blocks)),pR.2.2.2.2.1,pR.2.2.2.2.2.1,pR.2.2.2.2.2.2.1,pR.2.2.2.2.2.2.2.1,pR.2.2.2.2.2.2.2.2.1,pR.2.2.2.2.2.2.2.2.2.1,pR.2.2.2.2.2.2.2.2.2.2.1,(pR.2.2.2.2.2.2.2.2.2.2.2++n35)))
         else
          some (.inr (pR.2.1,pR.2.2.1,pR.2.2.2.1,pR.2.2.2.2.1,pR.2.2.2.2.2.1,pR.2.2.2.2.2.2.1,pR.2.2.2.2.2.2.2.1,pR.2.2.2.2.2.2.2.2.1,pR.2.2.2.2.2.2.2.2.2.1,pR.2.2.2.2.2.2.2.2.2.2.1,pR.2.2.2.2.2.2.2.2.2.2.2))) (c31.1,c31.2.1,c31.2.2,s26.2.2.2,(0:Int),(0:Int),(0:Int),(0:Int),c28.1,lG.1,((List.replicate (List.length (List.getD s26.2.2.2 lG.1.toNat aB).blocks) ()).length:Int),qF)) fun qG=>
       let n39:=[(aG.mk qG.2.2.2.2.2.2.2.2.2.2 qG.2.2.2.1 qG.2.2.2.2.1 qG.2.2.2.2.2.1 qG.2.2.2.2.2.2.1 qG.2.2.2.2.2.2.2.1 qG.2.2.2.2.2.2.2.2.1 qG.2.2.2.2.2.2.2.2.2.1)]
       ck (true&&(decide ((((List.length (List.getD qG.2.2.1 lG.1.toNat aB).blocks)+n39.length)*(80:Nat))≤(140737488355328:Nat)))) <|
       ck (Nat.beq lG.1.toNat lG.1.toNat) <|
       some (.inl ((bW (s26.1-1)),qG.1,qG.2.1,(List.set qG.2.2.1 lG.1.toNat (aN.mk (List.getD qG.2.2.1 lG.1.toNat aB).name (List.getD qG.2.2.1 lG.1.toNat aB).params (List.getD qG.2.2.1 lG.1.toNat aB).regs ((List.getD qG.2.2.1 lG.1.toNat aB).blocks++n39)))))
      else
       some (.inr (s26.2.1,s26.2.2.1,s26.2.2.2))) ((bW (1+c24.1)),c24.2.1,c24.2.2,lG.2.2.2)) fun s43=>
    OB (
     aX (fun (s44:(Int×dW×Int×Nz))=>
      bif (decide (s44.1<((List.replicate (List.length (List.getD s44.2.2.2 lG.1.toNat aB).blocks) ()).length:Int))) then
       let n48:=[(2:Int),(1:Int),(3:Int),(2:Int)]
       OB (f16 4 s44.2.1 s44.2.2.1) fun c49=>
       ck (inB c49.1 n48.length) <|
       OB (f16 (List.getD s44.2.2.2 lG.1.toNat aB).regs c49.2.1 c49.2.2) fun Xu=>
       OB (f16 ((List.replicate (List.length (List.getD s44.2.2.2 lG.1.toNat aB).blocks) ()).length:Int) Xu.2.1 Xu.2.2) fun c55=>
       OB (f16 ((List.replicate (List.length (List.getD s44.2.2.2 lG.1.toNat aB).blocks) ()).length:Int) c55.2.1 c55.2.2) fun VB=>
       ck (inB s44.1 (List.length (List.getD s44.2.2.2 lG.1.toNat aB).blocks)) <|
       some (.inl ((bW (s44.1+1)),VB.2.1,VB.2.2,(List.set s44.2.2.2 lG.1.toNat (aN.mk (List.getD s44.2.2.2 lG.1.toNat aB).name (List.getD s44.2.2.2 lG.1.toNat aB).params (List.getD s44.2.2.2 lG.1.toNat aB).regs (List.set (List.getD s44.2.2.2 lG.1.toNat aB).blocks s44.1.toNat (aG.mk (List.getD (List.getD s44.2.2.2 lG.1.toNat aB).blocks s44.1.toNat ah).instrs (List.getD n48 c49.1.toNat 0) Xu.1 c55.1 VB.1 (List.getD (List.getD s44.2.2.2 lG.1.toNat aB).blocks s44.1.toNat ah).line (List.getD (List.getD s44.2.2.2 lG.1.toNat aB).blocks s44.1.toNat ah).jk (List.getD (List.getD s44.2.2.2 lG.1.toNat aB).blocks s44.1.toNat ah).iD))))))
      else
       some (.inr (s44.2.1,s44.2.2.1,s44.2.2.2))) ((0:Int),s43.1,s43.2.1,s43.2.2)) fun s61=>
    OB (f32 (List.getD s61.2.2 lG.1.toNat aB).name (List.getD s61.2.2 lG.1.toNat aB).params (List.getD s61.2.2 lG.1.toNat aB).regs (List.getD s61.2.2 lG.1.toNat aB).blocks) fun c62=>
    ck (Nat.beq lG.1.toNat lG.1.toNat) <|
    some (.inl ((bW (lG.1+1)),s61.1,s61.2.1,(List.set s61.2.2 lG.1.toNat (aN.mk c62.1 c62.2.1 c62.2.2.1 c62.2.2.2))))
   else
    some (.inr (lG.2.1,lG.2.2.1,lG.2.2.2))) ((0:Int),c21.2.1,c21.2.2,uQ.2.2.2.2)) fun s65=>
 some (c21.1,uQ.2.2.2.1,s65.1,s65.2.1,n2,s65.2.2)
def aju:aP:=⟨amO,u2 f18⟩
theorem adF:ak Try.prog 18 aju:=
 ts [(16,Iy),(30,af9),(31,aiY),(32,ajf)] aiP [.cell 2 27] amP Try.func18 rfl ⟨ny,Vk,acQ,ade,trivial⟩
def f41 (p0:dF) (p1:(List aj)):Option (Int×Int×dF×(List aj)):=
 OB (
  bif (decide (64<(p1.length:Int))) then
   some true
  else
   some (decide (32<(p0.length:Int)))) fun s5=>
 bif s5 then
  some ((0:Int),(5:Int),jd,uD)
 else
  OB (
   bif (decide ((p1.length:Int)=0)) then
    some true
   else
    ck (inB (0:Int) p1.length) <|
    bif (!((List.getD p1 (Int.toNat 0) fJ).name==[(109:UInt8),(97:UInt8),(105:UInt8),(110:UInt8)])) then
     some true
    else
     ck (inB (0:Int) p1.length) <|
     some (decide (0<((List.length (List.getD p1 (Int.toNat 0) fJ).params):Int)))) fun s15=>
  bif s15 then
   some ((0:Int),(12:Int),jd,uD)
  else
   dh (
    aX (fun (s16:Int)=>
     bif (decide (s16<(p0.length:Int))) then
      ck (inB s16 p0.length) <|
      OB (f49 p0 p1 (List.getD p0 s16.toNat (aI.mk cu 0)).name) fun c20=>
      bif (!(decide (c20=s16))) then
       some (.inr (.inr ((0:Int),(9:Int),jd,uD)))
      else
       some (.inl (bW (s16+1)))
     else
      some (.inr (.inl ()))) (0:Int)) fun s23=>
   dh (
    aX (fun (s24:Int)=>
     bif (decide (s24<(p1.length:Int))) then
      OB (
       ck (inB s24 p1.length) <|
       OB (f49 p0 p1 (List.getD p1 s24.toNat fJ).name) fun c28=>
       bif (decide (0≤c28)) then
        some true
       else
        ck (inB s24 p1.length) <|
        OB (f50 p0 p1 (List.getD p1 s24.toNat fJ).name) fun c31=>
        some (!(decide (c31=s24)))) fun s34=>
      bif s34 then
       ck (inB s24 p1.length) <|
       some (.inr (.inr ((List.getD p1 s24.toNat fJ).line,(9:Int),jd,uD)))
      else
       some (.inl (bW (s24+1)))
     else
      some (.inr (.inl ()))) (0:Int)) fun AV=>
   ck (bG (List.length jd) p0.length 24) <|
   dh (
    aX (fun (uY:(Int×(List aj)))=>
     bif (decide (uY.1<(p1.length:Int))) then
      ck (inB uY.1 p1.length) <|
      let n42:=(List.getD p1 uY.1.toNat fJ)
      OB (
       bif (decide (6<((List.length n42.params):Int))) then
        some true
       else
        OB (f35 n42.name n42.line n42.params n42.body) fun IB=>
        bif (decide (32<(IB.length:Int))) then
         some true
        else
         OB (f51 n42.body) fun c49=>
         some (decide (24<c49))) fun s52=>
      bif s52 then
       some (.inr (.inr (n42.line,(5:Int),jd,uD)))
      else
       dh (
        aX (fun (s53:Int)=>
         bif (decide (s53<((List.length n42.params):Int))) then
          OB (
           ck (BN (0:Int) s53 (List.length n42.params)) <|
           ck (inB s53 (List.length n42.params)) <|
           OB (f52 (List.drop (Int.toNat (0:Int)) (List.take s53.toNat n42.params)) (List.getD n42.params s53.toNat cu)) fun VB=>
           bif VB then
            some true
           else
            ck (inB s53 (List.length n42.params)) <|
            OB (f53 p0 p1 (List.getD n42.params s53.toNat cu)) fun c60=>
            some (!(decide (c60=0)))) fun s63=>
          bif s63 then
           some (.inr (.inr (.inr (.inr (n42.line,(9:Int),jd,uD)))))
          else
           some (.inl (bW (s53+1)))
         else
          some (.inr (.inl ()))) (0:Int)) fun s65=>
       ck (true&&(decide ((((List.length jG)+(List.length n42.params))*(16:Nat))≤(140737488355328:Nat)))) <|
       OB (f54 n42.body p0 p1 0 0 (jG++n42.params)) fun c67=>
       bif (!(decide (c67.2.2.2.1=0))) then
        some (.inr (.inr (c67.2.2.1,c67.2.2.2.1,jd,uD)))
       else
        ck (true&&(decide ((((List.length jG)+(List.length n42.params))*(16:Nat))≤(140737488355328:Nat)))) <|
        let n70:=[(aj.mk n42.name n42.line (jG++n42.params) c67.2.2.2.2.1)]
        ck (bG uY.2.length n70.length 72) <|
        some (.inl ((bW (uY.1+1)),(uY.2++n70)))
     else
      some (.inr (.inl uY.2))) ((0:Int),uD)) fun s73=>
   some ((0:Int),(0:Int),(jd++p0),s73)
def ajv:aP:=⟨amQ,u2 f41⟩
theorem adG:ak Try.prog 41 ajv:=
 ts [(49,ZY),(50,Z4),(35,agx),(51,ai0),(52,agf),(53,agh),(54,ajh)] ety [.cell 2 71,.tmp 3,.tmp 4] amR Try.func41 rfl ⟨E_,Fa,Vx,acS,Vm,Vo,adr,trivial⟩
def f42 (p0:dW) (p1:Int):Option (dW×Int×dF×(List aj)):=
 OB (
  some ((0:Int),jd,uD,jG)) fun s0=>
 OB (f16 3 p0 p1) fun c1=>
 OB (
  aX (fun (s2:(Int×Int×dF))=>
   bif (decide (0<s2.1)) then
    OB (f30 (s2.2.2.length:Int)) fun c5=>
    ck (Ai (List.length [(103:UInt8)]) c5.length) <|
    let n7:=[(aI.mk ([(103:UInt8)]++c5) 0)]
    ck (bG s2.2.2.length n7.length 24) <|
    some (.inl ((bW (s2.1-1)),s2.2.1,(s2.2.2++n7)))
   else
    some (.inr (s2.2.1,s2.2.2))) (c1.1,s0.1,s0.2.1)) fun s10=>
 OB (f16 3 c1.2.1 c1.2.2) fun c11=>
 OB (
  aX (fun (s12:(Int×dW×Int×Int×dF))=>
   bif (decide (0<s12.1)) then
    OB (f30 (s12.2.2.2.2.length:Int)) fun c15=>
    ck (Ai (List.length [(103:UInt8)]) c15.length) <|
    OB (f16 5 s12.2.1 s12.2.2.1) fun c17=>
    let n19:=[(aI.mk ([(103:UInt8)]++c15) (bW (1+c17.1)))]
    ck (bG s12.2.2.2.2.length n19.length 24) <|
    some (.inl ((bW (s12.1-1)),c17.2.1,c17.2.2,s12.2.2.2.1,(s12.2.2.2.2++n19)))
   else
    some (.inr (s12.2.1,s12.2.2.1,s12.2.2.2.1,s12.2.2.2.2))) (c11.1,c11.2.1,c11.2.2,s10.1,s10.2)) fun lG=>
 OB (f16 4 lG.1 lG.2.1) fun c24=>
 OB (
  aX (fun (xR:(Int×dW×Int×Int×(List aj)))=>
   bif (decide (0<xR.1)) then
    OB (f30 (xR.2.2.2.2.length:Int)) fun c28=>
    ck (Ai (List.length [(102:UInt8)]) c28.length) <|
    OB (f16 3 xR.2.1 xR.2.2.1) fun Kv=>
    OB (
     aX (fun (EO:(Int×gK×Int×aQ))=>
      bif (decide (0<EO.1)) then
       OB (f30 (EO.2.2.2.length:Int)) fun c34=>
       ck (Ai (List.length [(112:UInt8)]) c34.length) <|
       let n36:=[([(112:UInt8)]++c34)]
       ck (bG EO.2.2.2.length n36.length 16) <|
       some (.inl ((bW (EO.1-1)),EO.2.1,EO.2.2.1,(EO.2.2.2++n36)))
      else
       some (.inr (EO.2.1,EO.2.2.1,EO.2.2.2))) (Kv.1,([(102:UInt8)]++c28),(0:Int),jG)) fun uY=>
    let n40:=[(aj.mk uY.1 uY.2.1 uY.2.2 gZ)]
    ck (bG xR.2.2.2.2.length n40.length 72) <|
    some (.inl ((bW (xR.1-1)),Kv.2.1,Kv.2.2,xR.2.2.2.1,(xR.2.2.2.2++n40)))
   else
    some (.inr (xR.2.1,xR.2.2.1,xR.2.2.2.1,xR.2.2.2.2))) (c24.1,c24.2.1,c24.2.2,lG.2.2.1,[(aj.mk [(109:UInt8),(97:UInt8),(105:UInt8),(110:UInt8)] 0 jG gZ)])) fun s43=>
 OB (
  aX (fun (s44:(Int×dW×Int×Int×dF×(List aj)×aQ))=>
   bif (decide (s44.1<(s44.2.2.2.2.2.1.length:Int))) then
    ck (inB s44.1 s44.2.2.2.2.2.1.length) <|
    let n47:=(List.getD s44.2.2.2.2.2.1 s44.1.toNat fJ)
    ck (true&&(decide ((((List.length jG)+(List.length n47.params))*(16:Nat))≤(140737488355328:Nat)))) <|
    OB (f16 4 s44.2.1 s44.2.2.1) fun c49=>
    OB (f55 2 (bW (1+c49.1)) 7 c49.2.1 c49.2.2 s44.2.2.2.2.1 s44.2.2.2.2.2.1 (jG++n47.params)) fun c51=>
    ck (inB s44.1 s44.2.2.2.2.2.1.length) <|
    some (.inl ((bW (s44.1+1)),c51.2.1,c51.2.2.1,c51.1,s44.2.2.2.2.1,(List.set s44.2.2.2.2.2.1 s44.1.toNat (aj.mk (List.getD s44.2.2.2.2.2.1 s44.1.toNat fJ).name (List.getD s44.2.2.2.2.2.1 s44.1.toNat fJ).line (List.getD s44.2.2.2.2.2.1 s44.1.toNat fJ).params c51.2.2.2.2.2.1)),c51.2.2.2.2.2.2))
   else
    some (.inr (s44.2.1,s44.2.2.1,s44.2.2.2.1,s44.2.2.2.2.1,s44.2.2.2.2.2.1,s44.2.2.2.2.2.2))) ((0:Int),s43.1,s43.2.1,s43.2.2.1,lG.2.2.2,s43.2.2.2,s0.2.2.2)) fun s54=>
 some (s54.1,s54.2.1,s54.2.2.2.1,s54.2.2.2.2.1)
def ajw:aP:=⟨amS,u2 f42⟩
theorem adH:ak Try.prog 42 ajw:=
 ts [(16,Iy),(30,af9),(55,ajs)] ety [.cell 2 71] amT Try.func42 rfl ⟨ny,Vk,adD,trivial⟩
def f48 (p0:dF) (p1:Nz) (p2:Int) (p3:Int) (p4:gK) (p5:Int) (p6:Int) (p7:kF):Option Int:=
 OB (
  bif (decide ((p7.length:Int)<1)) then
   some true
  else
   bif (decide (256<(p7.length:Int))) then
    some true
   else
    OB (f71 p4 p5 p6 p7) fun c5=>
    some (decide (2048<c5))) fun s8=>
 bif s8 then
  some (5:Int)
 else
  OB (
   bif (decide (p6<0)) then
    some true
   else
    bif (decide (250<p6)) then
     some true
    else
     bif (decide (p5<0)) then
      some true
     else
      some (decide (p6<p5))) fun s16=>
  bif s16 then
   some (14:Int)
  else
   dh (
    aX (fun (nX:Int)=>
     bif (decide (nX<(p7.length:Int))) then
      dh (
       aX (fun (s20:Int)=>
        ck (inB nX p7.length) <|
        bif (decide (s20<((List.length (List.getD p7 nX.toNat ah).instrs):Int))) then
         ck (inB nX p7.length) <|
         let n24:=(List.getD p7 nX.toNat ah)
         ck (inB s20 (List.length n24.instrs)) <|
         let n25:=(List.getD n24.instrs s20.toNat (fA.mk 0 0 0 0 0 0 eInt))
         OB (f72 p0 p1 p2 p3 p4 p5 p6 p7 n25.kind n25.op n25.dst n25.a n25.b n25.value n25.args) fun QC=>
         bif (!(decide (QC=0))) then
          some (.inr (.inr (.inr (.inr QC))))
         else
          some (.inl (bW (s20+1)))
        else
         some (.inr (.inl ()))) (0:Int)) fun s29=>
      ck (inB nX p7.length) <|
      let n30:=(List.getD p7 nX.toNat ah)
      OB (f73 p4 p5 p6 p7 n30.aT n30.qE n30.dP n30.bn) fun c31=>
      bif (!(decide (c31=0))) then
       some (.inr (.inr c31))
      else
       some (.inl (bW (nX+1)))
     else
      some (.inr (.inl ()))) (0:Int)) fun s34=>
   OB (f43 p4 p5 p6 p7) fun CY=>
   dh (
    aX (fun (s36:Int)=>
     bif (decide (s36<(CY.length:Int))) then
      ck (inB s36 CY.length) <|
      bif (!(List.getD CY s36.toNat false)) then
       some (.inr (.inr (13:Int)))
      else
       some (.inl (bW (s36+1)))
     else
      some (.inr (.inl ()))) (0:Int)) fun xU=>
   some (0:Int)
def ajx:aP:=⟨amU,u8 f48⟩
theorem adI:ak Try.prog 48 ajx:=
 ts [(71,ai1),(72,aji),(73,ai2),(43,af_)] ety [.tmp 4] amV Try.func48 rfl ⟨acT,ads,acU,Vl,trivial⟩
def f9 (p0:gK) (p1:Int) (p2:Int) (p3:kF):Option dW:=
 OB (f14 p0 p1 p2 p3) fun c0=>
 let n1:=(c0.length:Int)
 ck (yZ (8:Nat) n1 n1) <|
 OB (
  aX (fun (s4:(Int×dW))=>
   bif (decide (s4.1<(c0.length:Int))) then
    ck (inB s4.1 c0.length) <|
    let n6:=(List.getD c0 s4.1.toNat 0)
    ck (inB n6 s4.2.length) <|
    some (.inl ((bW (s4.1+1)),(List.set s4.2 n6.toNat s4.1)))
   else
    some (.inr s4.2)) ((0:Int),(List.replicate n1.toNat (0:Int)))) fun s9=>
 OB (f19 p0 p1 p2 p3) fun c10=>
 let n11:=(c0.length:Int)
 ck (yZ (8:Nat) n11 n11) <|
 let n12:=(List.replicate n11.toNat (0:Int))
 OB (
  aX (fun (s14:(ZQ×Int×dW))=>
   bif (decide (s14.2.1<(n12.length:Int))) then
    ck (inB s14.2.1 s14.2.2.length) <|
    some (.inl (s14.1,(bW (s14.2.1+1)),(List.set s14.2.2 s14.2.1.toNat (-1:Int))))
   else
    some (.inr (s14.1,s14.2.2))) (c10,(0:Int),n12)) fun QE=>
 OB (
  aX (fun (uQ:(Bool×dW))=>
   bif uQ.1 then
    ck (BN (1:Int) (c0.length:Int) c0.length) <|
    OB (
     aX (fun (xQ:(Bool×Int×dW))=>
      bif (decide (xQ.2.1<((((Int.toNat (c0.length:Int))-(Int.toNat (1:Int))):Nat):Int))) then
       ck (inB xQ.2.1 ((Int.toNat (c0.length:Int))-(Int.toNat (1:Int)))) <|
       let n23:=(List.getD c0 (Int.toNat ((((Int.toNat 1)+xQ.2.1.toNat):Nat):Int)) (0:Int))
       ck (inB n23 QE.1.length) <|
       let n24:=(List.getD QE.1 n23.toNat eInt)
       OB (
        aX (fun (s26:(Int×Int))=>
         bif (decide (s26.2<(n24.length:Int))) then
          ck (inB s26.2 n24.length) <|
          let n28:=(List.getD n24 s26.2.toNat 0)
          OB (
           bif (!(decide (n28=0))) then
            ck (inB n28 xQ.2.2.length) <|
            some (decide ((List.getD xQ.2.2 n28.toNat 0)<0))
           else
            some false) fun s33=>
          OB (
           bif s33 then
            some s26.1
           else
            OB (
             bif (decide (s26.1<0)) then
              some n28
             else
              OB (f20 s26.1 n28 s9 xQ.2.2) fun CY=>
              some CY.1) fun s36=>
            some s36) fun AV=>
          some (.inl (AV,(bW (s26.2+1))))
         else
          some (.inr s26.1)) ((-1:Int),(0:Int))) fun uY=>
       ck (inB n23 xQ.2.2.length) <|
       OB (
        bif (!(decide ((List.getD xQ.2.2 n23.toNat 0)=uY))) then
         ck (inB n23 xQ.2.2.length) <|
         some (true,(List.set xQ.2.2 n23.toNat uY))
        else
         some (xQ.1,xQ.2.2)) fun s43=>
       some (.inl (s43.1,(bW (xQ.2.1+1)),s43.2))
      else
       some (.inr (xQ.1,xQ.2.2))) (false,(0:Int),uQ.2)) fun s45=>
    some (.inl (s45.1,s45.2))
   else
    some (.inr uQ.2)) (true,QE.2)) fun s46=>
 some s46
def sp9:aP:=⟨sg9,u4 f9⟩
theorem Ti:ak Try.prog 9 sp9:=
 ts [(14,ajt),(19,agv),(20,aiV)] ety [.tmp 2] an9 Try.func9 rfl ⟨adE,Vu,acM,trivial⟩
def f12 (p0:gK) (p1:Int) (p2:Int) (p3:kF) (p4:Int) (p5:Int):Option Bool:=
 let n0:=(p3.length:Int)
 OB (
  bif (decide (0≤p4)) then
   bif (decide (p4<n0)) then
    bif (decide (0≤p5)) then
     bif (decide (p5<n0)) then
      OB (f9 p0 p1 p2 p3) fun c8=>
      OB (f23 c8 p4 p5) fun c9=>
      some c9
     else
      some false
    else
     some false
   else
    some false
  else
   some false) fun s11=>
 some s11
def ajy:aP:=⟨amW,u6 f12⟩
theorem adJ:ak Try.prog 12 ajy:=
 ts [(9,sp9),(23,af7)] ety [.tmp 6] amX Try.func12 rfl ⟨Ti,Vj,trivial⟩
def f29 (p0:dW) (p1:Int):Option (dW×Int×dF×(List aj)):=
 OB (f42 p0 p1) fun c0=>
 OB (f41 c0.2.2.1 c0.2.2.2) fun c1=>
 some (c0.1,c0.2.1,c1.2.2.1,c1.2.2.2)
def ajz:aP:=⟨amY,u2 f29⟩
theorem adK:ak Try.prog 29 ajz:=
 ts [(42,ajw),(41,ajv)] ety [.cell 2 71] amZ Try.func29 rfl ⟨adH,adG,trivial⟩
def f40 (p0:dF) (p1:Nz) (p2:Int) (p3:Int):Option Int:=
 OB (
  bif (decide ((p1.length:Int)<1)) then
   some true
  else
   bif (decide (64<(p1.length:Int))) then
    some true
   else
    bif (decide (32<(p0.length:Int))) then
     some true
    else
     bif (decide (p3<0)) then
      some true
     else
      some (decide (4096<p3))) fun s12=>
 bif s12 then
  some (5:Int)
 else
  dh (
   aX (fun (s13:Int)=>
    bif (decide (s13<(p0.length:Int))) then
     OB (
      ck (inB s13 p0.length) <|
      bif (decide ((List.getD p0 s13.toNat (aI.mk cu 0)).size<0)) then
       some true
      else
       ck (inB s13 p0.length) <|
       some (decide (1024<(List.getD p0 s13.toNat (aI.mk cu 0)).size))) fun xQ=>
     bif xQ then
      some (.inr (.inr (16:Int)))
     else
      some (.inl (bW (s13+1)))
    else
     some (.inr (.inl ()))) (0:Int)) fun s23=>
  OB (
   bif (decide (p2<0)) then
    some true
   else
    some (decide ((p1.length:Int)<p2))) fun CW=>
  bif CW then
   some (15:Int)
  else
   ck (inB (0:Int) p1.length) <|
   bif (!(decide ((List.getD p1 (Int.toNat 0) aB).params=0))) then
    some (12:Int)
   else
    dh (
     aX (fun (EO:Int)=>
      bif (decide (EO<(p1.length:Int))) then
       ck (inB EO p1.length) <|
       let n34:=(List.getD p1 EO.toNat aB)
       OB (f48 p0 p1 p2 p3 n34.name n34.params n34.regs n34.blocks) fun CY=>
       bif (!(decide (CY=0))) then
        some (.inr (.inr CY))
       else
        some (.inl (bW (EO+1)))
      else
       some (.inr (.inl ()))) (0:Int)) fun qG=>
    some (0:Int)
def ajA:aP:=⟨am0,u4 f40⟩
theorem adL:ak Try.prog 40 ajA:=
 ts [(48,ajx)] ety [.tmp 2] am1 Try.func40 rfl ⟨adI,trivial⟩
def f28 (p0:dF) (p1:(List aj)):Option (Int×Int×Int×dF×Nz):=
 ck (bG (List.length jd) p0.length 24) <|
 let n0:=(jd++p0)
 OB (
  aX (fun (s2:(Int×Int×Int×Nz))=>
   bif (decide (s2.1<(p1.length:Int))) then
    ck (inB s2.1 p1.length) <|
    let n5:=(List.getD p1 s2.1.toNat fJ)
    OB (
     OB (f35 n5.name n5.line n5.params n5.body) fun c6=>
     some (p0,p1,c6,s2.1,(0:Int),(0:Int),([]:kF))) fun s7=>
    OB (f36 n5.line s7.1 s7.2.1 s7.2.2.1 s7.2.2.2.1 (s7.2.2.1.length:Int) s7.2.2.2.2.2.1 s7.2.2.2.2.2.2) fun c9=>
    OB (f37 n5.body c9.2.1 c9.2.2.1 c9.2.2.2.1 c9.2.2.2.2.1 c9.2.2.2.2.2.1 c9.2.2.2.2.2.2.1 c9.2.2.2.2.2.2.2) fun c10=>
    OB (
     bif c10.1 then
      let n11:=(c10.2.2.2.1.length:Int)
      OB (f38 1 0 n11 0 0 0 eInt c10.2.1 c10.2.2.1 c10.2.2.2.1 c10.2.2.2.2.1 (OM c10.2.2.2.2.2.1 (bW (n11+1))) c10.2.2.2.2.2.2.1 c10.2.2.2.2.2.2.2) fun c14=>
      OB (f39 c14.2.2.2.2.2.1 3 n11 0 0 c14.1 c14.2.1 c14.2.2.1 c14.2.2.2.1 c14.2.2.2.2.1 c14.2.2.2.2.2.1 c14.2.2.2.2.2.2) fun c15=>
      some (c15.1,c15.2.1,c15.2.2.1,c15.2.2.2.1,c15.2.2.2.2.1,c15.2.2.2.2.2.1,c15.2.2.2.2.2.2)
     else
      some (c10.2.1,c10.2.2.1,c10.2.2.2.1,c10.2.2.2.2.1,c10.2.2.2.2.2.1,c10.2.2.2.2.2.2.1,c10.2.2.2.2.2.2.2)) fun s16=>
    let n18:=[(aN.mk n5.name ((List.length n5.params):Int) s16.2.2.2.2.1 s16.2.2.2.2.2.2)]
    ck (bG s2.2.2.2.length n18.length 56) <|
    some (.inl ((bW (s2.1+1)),s2.2.1,s2.2.2.1,(s2.2.2.2++n18)))
   else
    some (.inr (s2.2.1,s2.2.2.1,s2.2.2.2))) ((0:Int),(p1.length:Int),(0:Int),([]:Nz))) fun xQ=>
 OB (f40 n0 xQ.2.2 xQ.1 xQ.2.1) fun IY=>
 bif (!(decide (IY=0))) then
  some ((0:Int),(0:Int),(5:Int),jd,([]:Nz))
 else
  some (xQ.1,xQ.2.1,(0:Int),n0,xQ.2.2)
def ajB:aP:=⟨am2,u2 f28⟩
theorem adM:ak Try.prog 28 ajB:=
 ts [(35,agx),(36,ZV),(37,ajg),(38,ZW),(39,Xr),(40,ajA)] aiQ [.cell 2 27,.tmp 3] am3 Try.func28 rfl ⟨Vx,E5,adp,E8,AX,adL,trivial⟩
def f17 (p0:dW) (p1:Int):Option (Int×Int×dW×Int×dF×Nz):=
 OB (f29 p0 p1) fun c0=>
 OB (f28 c0.2.2.1 c0.2.2.2) fun c1=>
 some (c1.1,c1.2.1,c0.1,c0.2.1,c1.2.2.2.1,c1.2.2.2.2)
def ajC:aP:=⟨am4,u2 f17⟩
theorem adN:ak Try.prog 17 ajC:=
 ts [(29,ajz),(28,ajB)] ety [.cell 2 27] am5 Try.func17 rfl ⟨adK,adM,trivial⟩
def f8 (p0:dW) (p1:Int):Option (Nz×Int×Int×dW×Int×dF):=
 OB (f16 2 p0 p1) fun c0=>
 bif (decide (c0.1=0)) then
  OB (f17 c0.2.1 c0.2.2) fun c2=>
  some (c2.2.2.2.2.2,c2.1,c2.2.1,c2.2.2.1,c2.2.2.2.1,c2.2.2.2.2.1)
 else
  OB (f18 c0.2.1 c0.2.2) fun c3=>
  some (c3.2.2.2.2.2,c3.1,c3.2.1,c3.2.2.1,c3.2.2.2.1,c3.2.2.2.2.1)
def sp8:aP:=⟨sg8,u2 f8⟩
theorem agE:ak Try.prog 8 sp8:=
 ts [(16,Iy),(17,ajC),(18,aju)] ety [.cell 2 27] an8 Try.func8 rfl ⟨ny,adN,adF,trivial⟩
def f22 (p0:gK) (p1:Int) (p2:Int) (p3:kF):Option LEd:=
 OB (f9 p0 p1 p2 p3) fun c0=>
 OB (
  aX (fun (s2:(Int×LEd))=>
   bif (decide (s2.1<(p3.length:Int))) then
    ck (inB s2.1 p3.length) <|
    let n4:=(List.getD p3 s2.1.toNat ah)
    OB (f25 n4.aT n4.qE n4.dP n4.bn) fun c5=>
    OB (f33 c5) fun c6=>
    OB (
     aX (fun (s8:(Int×LEd))=>
      bif (decide (s8.1<(c6.length:Int))) then
       ck (inB s8.1 c6.length) <|
       let n10:=(List.getD c6 s8.1.toNat 0)
       OB (f23 c0 n10 s2.1) fun c11=>
       OB (
        bif c11 then
         let n12:=[(gJ.mk s2.1 n10)]
         ck (bG s8.2.length n12.length 16) <|
         some (s8.2++n12)
        else
         some s8.2) fun s14=>
       some (.inl ((bW (s8.1+1)),s14))
      else
       some (.inr s8.2)) ((0:Int),s2.2)) fun s16=>
    some (.inl ((bW (s2.1+1)),s16))
   else
    some (.inr s2.2)) ((0:Int),([]:LEd))) fun QE=>
 some QE
def ajD:aP:=⟨am6,u4 f22⟩
theorem adO:ak Try.prog 22 ajD:=
 ts [(9,sp9),(25,acN),(33,aiS),(23,af7)] ety [.tmp 2] am7 Try.func22 rfl ⟨Ti,Nj,acG,Vj,trivial⟩
def f11 (p0:gK) (p1:Int) (p2:Int) (p3:kF) (p4:Int):Option dW:=
 OB (f22 p0 p1 p2 p3) fun c0=>
 OB (f21 p0 p1 p2 p3 p4 c0) fun c1=>
 OB (
  aX (fun (s3:(Int×dW))=>
   bif (decide (s3.1<(c1.length:Int))) then
    ck (inB s3.1 c1.length) <|
    OB (
     bif (List.getD c1 s3.1.toNat false) then
      let n6:=[s3.1]
      ck (bG s3.2.length n6.length 8) <|
      some (s3.2++n6)
     else
      some s3.2) fun s8=>
    some (.inl ((bW (s3.1+1)),s8))
   else
    some (.inr s3.2)) ((0:Int),eInt)) fun s10=>
 some s10
def ajE:aP:=⟨am8,u5 f11⟩
theorem adP:ak Try.prog 11 ajE:=
 ts [(22,ajD),(21,ajd)] ety [.tmp 4] am9 Try.func11 rfl ⟨adO,ac_,trivial⟩
def f6:Option Bool:=
 let n0:=[(aG.mk qF 2 0 1 2 0 0 0),(aG.mk qF 1 0 0 0 0 0 0),(aG.mk qF 3 0 0 0 0 0 0)]
 OB (f11 cu 0 1 n0 0) fun c1=>
 OB (
  bif (decide ((c1.length:Int)=2)) then
   ck (inB (1:Int) c1.length) <|
   bif (decide ((List.getD c1 (Int.toNat 1) (0:Int))=1)) then
    OB (f12 cu 0 1 n0 0 2) fun c7=>
    some c7
   else
    some false
  else
   some false) fun s9=>
 some s9
def sp6:aP:=⟨sg6,fun x=>f6⟩
theorem agF:ak Try.prog 6 sp6:=
 ts [(11,ajE),(12,ajy)] ety [.tmp 0] an6 Try.func6 rfl ⟨adP,adJ,trivial⟩
def f3 (p0:dW) (p1:dW):Option Bool:=
 OB (
  OB (f6) fun c0=>
  bif (!c0) then
   some true
  else
   some (decide (60<(p1.length:Int)))) fun s5=>
 bif s5 then
  some (decide (60<(p1.length:Int)))
 else
  OB (f7 p0 400) fun c8=>
  OB (f8 c8.1 c8.2) fun c9=>
  dh (
   aX (fun (s10:Int)=>
    bif (decide (s10<(c9.1.length:Int))) then
     ck (inB s10 c9.1.length) <|
     let n13:=(List.getD c9.1 s10.toNat aB)
     OB (f9 n13.name n13.params n13.regs n13.blocks) fun c14=>
     OB (
      bif (!(decide ((c14.length:Int)=((List.length n13.blocks):Int)))) then
       some true
      else
       ck (inB (0:Int) c14.length) <|
       some (!(decide ((List.getD c14 (Int.toNat 0) (0:Int))=(-1:Int))))) fun xQ=>
     bif xQ then
      some (.inr (.inr false))
     else
      let n22:=((List.length n13.blocks):Int)
      ck (yZ (1:Nat) n22 n22) <|
      dh (
       aX (fun (s24:(Int×Int×XM))=>
        bif (decide (s24.2.1≤(p1.length:Int))) then
         ck (inB s24.1 s24.2.2.length) <|
         let n27:=(List.set s24.2.2 s24.1.toNat true)
         dh (
          aX (fun (CW:Int)=>
           bif (decide (0≤CW)) then
            OB (
             bif (decide ((n27.length:Int)≤CW)) then
              some true
             else
              ck (inB CW n27.length) <|
              bif (!(List.getD n27 CW.toNat false)) then
               some true
              else
               bif (decide (0<CW)) then
                ck (inB CW c14.length) <|
                some (decide ((List.getD c14 CW.toNat 0)=CW))
               else
                some false) fun Ec=>
            bif Ec then
             some (.inr (.inr (.inr (.inr (.inr (.inr false))))))
            else
             ck (inB CW c14.length) <|
             some (.inl (List.getD c14 CW.toNat 0))
           else
            some (.inr (.inl ()))) s24.1) fun s43=>
         ck (inB s24.1 (List.length n13.blocks)) <|
         let n44:=(List.getD n13.blocks s24.1.toNat ah)
         OB (f10 n44.aT n44.qE n44.dP n44.bn) fun IB=>
         OB (
          bif (decide ((IB.length:Int)=0)) then
           some true
          else
           some (decide (s24.2.1=(p1.length:Int)))) fun s51=>
         bif s51 then
          some (.inr (.inl ()))
         else
          ck (inB s24.2.1 p1.length) <|
          let n54:=(IB.length:Int)
          ck (!(decide (n54=0))) <|
          let n55:=(Int.tmod (bW (List.getD p1 s24.2.1.toNat 0)) n54)
          ck (inB n55 IB.length) <|
          some (.inl ((List.getD IB n55.toNat 0),(bW (s24.2.1+1)),n27))
        else
         some (.inr (.inl ()))) ((0:Int),(0:Int),(List.replicate n22.toNat false))) fun s58=>
      some (.inl (bW (s10+1)))
    else
     some (.inr (.inl ()))) (0:Int)) fun s60=>
  some true
def sp3:aP:=⟨sg3,u2 f3⟩
theorem agG:ak Try.prog 3 sp3:=
 ts [(6,sp6),(7,sp7),(8,sp8),(9,sp9),(10,acJ)] ety [.tmp 4] an3 Try.func3 rfl ⟨agF,af5,agE,Ti,Nh,trivial⟩
def f4 (p0:dW):Option Bool:=
 OB (f6) fun c0=>
 bif (!c0) then
  some false
 else
  OB (f7 p0 400) fun c2=>
  OB (f8 c2.1 c2.2) fun c3=>
  dh (
   aX (fun (s4:Int)=>
    bif (decide (s4<(c3.1.length:Int))) then
     ck (inB s4 c3.1.length) <|
     let n7:=(List.getD c3.1 s4.toNat aB)
     dh (
      aX (fun (s8:Int)=>
       bif (decide (s8<((List.length n7.blocks):Int))) then
        OB (f11 n7.name n7.params n7.regs n7.blocks s8) fun c11=>
        dh (
         aX (fun (s12:Int)=>
          bif (decide (s12<(c11.length:Int))) then
           ck (inB s12 c11.length) <|
           OB (f12 n7.name n7.params n7.regs n7.blocks s8 (List.getD c11 s12.toNat 0)) fun c16=>
           bif (!c16) then
            some (.inr (.inr (.inr (.inr (.inr (.inr false))))))
           else
            some (.inl (bW (s12+1)))
          else
           some (.inr (.inl ()))) (0:Int)) fun uQ=>
        dh (
         aX (fun (s20:Int)=>
          bif (decide (s20<((List.length n7.blocks):Int))) then
           ck (inB s20 (List.length n7.blocks)) <|
           let n23:=(List.getD n7.blocks s20.toNat ah)
           OB (f10 n23.aT n23.qE n23.dP n23.bn) fun c24=>
           dh (
            aX (fun (xR:Int)=>
             bif (decide (xR<(c24.length:Int))) then
              OB (
               OB (f13 c11 s20) fun c28=>
               bif (!c28) then
                ck (inB xR c24.length) <|
                OB (f13 c11 (List.getD c24 xR.toNat 0)) fun c31=>
                bif c31 then
                 ck (inB xR c24.length) <|
                 some (!(decide ((List.getD c24 xR.toNat 0)=s8)))
                else
                 some false
               else
                some false) fun s36=>
              bif s36 then
               some (.inr (.inr (.inr (.inr (.inr (.inr (.inr (.inr false))))))))
              else
               some (.inl (bW (xR+1)))
             else
              some (.inr (.inl ()))) (0:Int)) fun qG=>
           some (.inl (bW (s20+1)))
          else
           some (.inr (.inl ()))) (0:Int)) fun NC=>
        dh (
         aX (fun (Ec:Int)=>
          bif (decide (Ec<s8)) then
           OB (f11 n7.name n7.params n7.regs n7.blocks Ec) fun VD=>
           OB (
            aX (fun (s44:(Int×Int))=>
             bif (decide (s44.2<(VD.length:Int))) then
              ck (inB s44.2 VD.length) <|
              OB (f13 c11 (List.getD VD s44.2.toNat 0)) fun c48=>
              OB (
               bif c48 then
                some (bW (s44.1+1))
               else
                some s44.1) fun s50=>
              some (.inl (s50,(bW (s44.2+1))))
             else
              some (.inr s44.1)) ((0:Int),(0:Int))) fun s52=>
           OB (
            bif (decide (0<s52)) then
             bif (decide (s52<(c11.length:Int))) then
              some (decide (s52<(VD.length:Int)))
             else
              some false
            else
             some false) fun s60=>
           bif s60 then
            some (.inr (.inr (.inr (.inr (.inr (.inr false))))))
           else
            some (.inl (bW (Ec+1)))
          else
           some (.inr (.inl ()))) (0:Int)) fun s62=>
        some (.inl (bW (s8+1)))
       else
        some (.inr (.inl ()))) (0:Int)) fun s64=>
     some (.inl (bW (s4+1)))
    else
     some (.inr (.inl ()))) (0:Int)) fun s66=>
  some true
end
end Go.Fg.Ytmgfidfcioiedaa

