/-
 What the functions of the seat compute, printed by a program (wip/gen).
-/
import Derived.Test.YtmgfidfcioiedaaFgA
import Derived.Test.YtmgfidfcioiedaaFgL
namespace Go.Fg.Ytmgfidfcioiedaa
open Go.Fw Go.Proofs Go.Fw.Ytmgfidfcioiedaa
noncomputable section
set_option linter.unusedVariables false
set_option maxRecDepth 100000
abbrev aS:Type:=List (List UInt8)
abbrev ZX:Type:=List (List Int)
abbrev NK:Type:=List aO
abbrev dG:Type:=List aJ
abbrev kG:Type:=List aH
abbrev gQ:Type:=List UInt8
abbrev oC:Type:=List dI
abbrev lF:Type:=List aV
abbrev LEd:Type:=List gK
abbrev XV:Type:=List Bool
abbrev dX:Type:=List Int
def f33:List Int→Option dX:=Xt
def ai2:aQ:=Vk
theorem acP:ak Try.prog 33 ai2:=ZT
abbrev OB {A B:Type}:Option A→(A→Option B)→Option B:=Option.bind
theorem ts (l:List (Nat×aQ)) (e:TypeId→Option Ty) {f:FuncId} {fn:Func} {c:Code} {sp:aQ} (r:List ResultVar) (a:fQ) (hf:Try.prog.funcs[f]?=some fn) (hb:fn.body=some c) (hT:Xq Try.prog l) (h1:(fn.name == "runtime.NumGoroutine")=false:=by rfl) (h2:fn.results=r.toArray:=by rfl) (h3:sp.sig.er.ok=true:=by kernel_rfl) (h4:(sp.sig.aN.all fun g=>sp.sig.pin.er.nms.contains g)=true:=by rfl) (h5:sp.sig.nargs≤fn.ntmps:=by exact of_decide_eq_true (by kernel_rfl)) (h6:r.length=sp.sig.bM:=by rfl)
 (h :∀x,(Zo (mF.of l) tt e fn.ntmps sp.sig r c a x).run=sp.f x:=by intro x;kernel_rfl):ak Try.prog f sp:=Xr (T:=mF.of l) (ety:=e) r a hf hb h1 h2 h3 h4 h5 h6 (Xq.sound hT) ali mixed h
def u2 {A0 A1 R:Type} (f:A0→A1→R) (x:A0×A1):R:=f x.1 x.2
def u3 {A0 A1 A2 R:Type} (f:A0→A1→A2→R) (x:A0×A1×A2):R:=f x.1 x.2.1 x.2.2
def u4 {A0 A1 A2 A3 R:Type} (f:A0→A1→A2→A3→R) (x:A0×A1×A2×A3):R:=f x.1 x.2.1 x.2.2.1 x.2.2.2
def u5 {A0 A1 A2 A3 A4 R:Type} (f:A0→A1→A2→A3→A4→R) (x:A0×A1×A2×A3×A4):R:=f x.1 x.2.1 x.2.2.1 x.2.2.2.1 x.2.2.2.2
def u6 {A0 A1 A2 A3 A4 A5 R:Type} (f:A0→A1→A2→A3→A4→A5→R) (x:A0×A1×A2×A3×A4×A5):R:=f x.1 x.2.1 x.2.2.1 x.2.2.2.1 x.2.2.2.2.1 x.2.2.2.2.2
def u7 {A0 A1 A2 A3 A4 A5 A6 R:Type} (f:A0→A1→A2→A3→A4→A5→A6→R) (x:A0×A1×A2×A3×A4×A5×A6):R:=f x.1 x.2.1 x.2.2.1 x.2.2.2.1 x.2.2.2.2.1 x.2.2.2.2.2.1 x.2.2.2.2.2.2
def u8 {A0 A1 A2 A3 A4 A5 A6 A7 R:Type} (f:A0→A1→A2→A3→A4→A5→A6→A7→R) (x:A0×A1×A2×A3×A4×A5×A6×A7):R:=f x.1 x.2.1 x.2.2.1 x.2.2.2.1 x.2.2.2.2.1 x.2.2.2.2.2.1 x.2.2.2.2.2.2.1 x.2.2.2.2.2.2.2
def u9 {A0 A1 A2 A3 A4 A5 A6 A7 A8 R:Type} (f:A0→A1→A2→A3→A4→A5→A6→A7→A8→R) (x:A0×A1×A2×A3×A4×A5×A6×A7×A8):R:=f x.1 x.2.1 x.2.2.1 x.2.2.2.1 x.2.2.2.2.1 x.2.2.2.2.2.1 x.2.2.2.2.2.2.1 x.2.2.2.2.2.2.2.1 x.2.2.2.2.2.2.2.2
def u10 {A0 A1 A2 A3 A4 A5 A6 A7 A8 A9 R:Type} (f:A0→A1→A2→A3→A4→A5→A6→A7→A8→A9→R) (x:A0×A1×A2×A3×A4×A5×A6×A7×A8×A9):R:=f x.1 x.2.1 x.2.2.1 x.2.2.2.1 x.2.2.2.2.1 x.2.2.2.2.2.1 x.2.2.2.2.2.2.1 x.2.2.2.2.2.2.2.1 x.2.2.2.2.2.2.2.2.1 x.2.2.2.2.2.2.2.2.2
def u11 {A0 A1 A2 A3 A4 A5 A6 A7 A8 A9 Vo R:Type} (f:A0→A1→A2→A3→A4→A5→A6→A7→A8→A9→Vo→R) (x:A0×A1×A2×A3×A4×A5×A6×A7×A8×A9×Vo):R:=f x.1 x.2.1 x.2.2.1 x.2.2.2.1 x.2.2.2.2.1 x.2.2.2.2.2.1 x.2.2.2.2.2.2.1 x.2.2.2.2.2.2.2.1 x.2.2.2.2.2.2.2.2.1 x.2.2.2.2.2.2.2.2.2.1 x.2.2.2.2.2.2.2.2.2.2
def u12 {A0 A1 A2 A3 A4 A5 A6 A7 A8 A9 Vo ZY R:Type} (f:A0→A1→A2→A3→A4→A5→A6→A7→A8→A9→Vo→ZY→R) (x:A0×A1×A2×A3×A4×A5×A6×A7×A8×A9×Vo×ZY):R:=f x.1 x.2.1 x.2.2.1 x.2.2.2.1 x.2.2.2.2.1 x.2.2.2.2.2.1 x.2.2.2.2.2.2.1 x.2.2.2.2.2.2.2.1 x.2.2.2.2.2.2.2.2.1 x.2.2.2.2.2.2.2.2.2.1 x.2.2.2.2.2.2.2.2.2.2.1 x.2.2.2.2.2.2.2.2.2.2.2
def u13 {A0 A1 A2 A3 A4 A5 A6 A7 A8 A9 Vo ZY A12 R:Type} (f:A0→A1→A2→A3→A4→A5→A6→A7→A8→A9→Vo→ZY→A12→R) (x:A0×A1×A2×A3×A4×A5×A6×A7×A8×A9×Vo×ZY×A12):R:=f x.1 x.2.1 x.2.2.1 x.2.2.2.1 x.2.2.2.2.1 x.2.2.2.2.2.1 x.2.2.2.2.2.2.1 x.2.2.2.2.2.2.2.1 x.2.2.2.2.2.2.2.2.1 x.2.2.2.2.2.2.2.2.2.1 x.2.2.2.2.2.2.2.2.2.2.1 x.2.2.2.2.2.2.2.2.2.2.2.1 x.2.2.2.2.2.2.2.2.2.2.2.2
def u14 {A0 A1 A2 A3 A4 A5 A6 A7 A8 A9 Vo ZY A12 A13 R:Type} (f:A0→A1→A2→A3→A4→A5→A6→A7→A8→A9→Vo→ZY→A12→A13→R) (x:A0×A1×A2×A3×A4×A5×A6×A7×A8×A9×Vo×ZY×A12×A13):R:=f x.1 x.2.1 x.2.2.1 x.2.2.2.1 x.2.2.2.2.1 x.2.2.2.2.2.1 x.2.2.2.2.2.2.1 x.2.2.2.2.2.2.2.1 x.2.2.2.2.2.2.2.2.1 x.2.2.2.2.2.2.2.2.2.1 x.2.2.2.2.2.2.2.2.2.2.1 x.2.2.2.2.2.2.2.2.2.2.2.1 x.2.2.2.2.2.2.2.2.2.2.2.2.1 x.2.2.2.2.2.2.2.2.2.2.2.2.2
def u15 {A0 A1 A2 A3 A4 A5 A6 A7 A8 A9 Vo ZY A12 A13 A14 R:Type} (f:A0→A1→A2→A3→A4→A5→A6→A7→A8→A9→Vo→ZY→A12→A13→A14→R) (x:A0×A1×A2×A3×A4×A5×A6×A7×A8×A9×Vo×ZY×A12×A13×A14):R:=f x.1 x.2.1 x.2.2.1 x.2.2.2.1 x.2.2.2.2.1 x.2.2.2.2.2.1 x.2.2.2.2.2.2.1 x.2.2.2.2.2.2.2.1 x.2.2.2.2.2.2.2.2.1 x.2.2.2.2.2.2.2.2.2.1 x.2.2.2.2.2.2.2.2.2.2.1 x.2.2.2.2.2.2.2.2.2.2.2.1 x.2.2.2.2.2.2.2.2.2.2.2.2.1 x.2.2.2.2.2.2.2.2.2.2.2.2.2.1 x.2.2.2.2.2.2.2.2.2.2.2.2.2.2
abbrev T16:=Int→dX→Int→Option (Int×dX×Int)
abbrev T30:=Int→Option gQ
abbrev T46:=oC→aS→Option aS
abbrev T51:=oC→Option Int
abbrev T74:=Int→Int→Int→Int→gQ→lF→Option Int
abbrev XW:=Int→Int→Int→Int→gQ→lF→Int→dG→(List au)→aS→Int→Int→Int→kG→Option (dG×(List au)×aS×Int×Int×Int×kG)
abbrev T85:=Int→Int→Int→Int→gQ→lF→Int→dG→(List au)→aS→Int→Int→Int→kG→Option (dG×(List au)×aS×Int×Int×Int×kG)
abbrev T86:=lF→Int→dG→(List au)→aS→Int→Int→Int→kG→Option (dG×(List au)×aS×Int×Int×Int×dX×kG)
abbrev T76:=Int→Int→Int→Int→gQ→lF→dG→(List au)→Int→Int→aS→Option (Int×Int×Int×Int×gQ×dG×(List au)×Int×Int×aS×lF)
abbrev T92:=lF→dG→(List au)→Int→Int→aS→Option (dG×(List au)×Int×Int×aS×lF)
abbrev T24:=Int→gQ→Int→Int→kG→XV→dX→Option (XV×gQ×Int×Int×kG×dX)
abbrev XY:=oC→dG→(List au)→aS→Int→Int→Int→kG→Option (Bool×dG×(List au)×aS×Int×Int×Int×kG)
abbrev T47:=Int→Int→gQ→lF→oC→oC→dG→(List au)→aS→Int→Int→Int→kG→Option (Bool×dG×(List au)×aS×Int×Int×Int×kG)
abbrev T67:=Int→Int→gQ→lF→oC→oC→Int→dG→(List au)→aS→Int→Int→Int→kG→Option (dG×(List au)×aS×Int×Int×Int×kG)
abbrev T70:=Int→Int→gQ→lF→oC→oC→Int→dG→(List au)→aS→Int→Int→Int→kG→Option (Bool×dG×(List au)×aS×Int×Int×Int×kG)
abbrev T54:=oC→dG→(List au)→Int→Int→aS→Option (dG×(List au)×Int×Int×oC×aS)
abbrev T95:=Int→Int→dX→Int→dG→(List au)→aS→Option (Int×Int×Int×Int×gQ×lF×Int×dX×Int×dG×(List au)×aS)
abbrev T98:=Int→Int→dX→Int→dG→(List au)→aS→Option (Int×Int×Int×Int×gQ×Int×dX×Int×dG×(List au)×aS×lF)
abbrev T55:=Int→Int→Int→dX→Int→dG→(List au)→aS→Option (Int×dX×Int×dG×(List au)×oC×aS)
abbrev T78:=Int→Int→dX→Int→dG→(List au)→aS→Option (Int×Int×gQ×Int×dX×Int×dG×(List au)×lF×oC×oC×aS)
abbrev T97:=Int→Int→dX→Int→dG→(List au)→aS→Option (Int×Int×gQ×Int×dX×Int×dG×(List au)×lF×oC×aS)
abbrev eInt:dX:=[]
abbrev qJ:(List fB):=[]
abbrev cO:gQ:=[]
abbrev nY:lF:=[]
abbrev jH:aS:=[]
abbrev g_:oC:=[]
abbrev je:dG:=[]
abbrev uH:(List au):=[]
def bG (a b k:Nat):Bool:=true&&decide ((a+b)*k≤140737488355328)
def aC:aO:=aO.mk ([]:gQ) (0:Int) (0:Int) ([]:kG)
def fK:au:=au.mk ([]:gQ) (0:Int) ([]:aS) ([]:oC)
def gG:aV:=aV.mk (0:Int) (0:Int) (0:Int) (0:Int) ([]:gQ) ([]:lF)
def aj:aH:=aH.mk ([]:(List fB)) (0:Int) (0:Int) (0:Int) (0:Int) (0:Int) (0:Int) 0
def jI:dI:=dI.mk (0:Int) (0:Int) ([]:gQ) ([]:lF) ([]:oC) ([]:oC)
def f7 (p0:dX) (p1:Int):Option (dX×Int):=
 OB (
  bif (decide (p1<(p0.length:Int))) then
   ck (BR (0:Int) p1 p0.length) <|
   some (List.drop (Int.toNat (0:Int)) (List.take p1.toNat p0))
  else
   some p0) fun s3=>
 some (s3,(0:Int))
def sp7:aQ:=⟨sg7,u2 f7⟩
theorem agb:ak Try.prog 7 sp7:=
 ts [] ety [.tmp 4] an7 Try.func7 rfl trivial
def f10 (p0:Int) (p1:Int) (p2:Int) (p3:Int):Option dX:=
 OB (
  bif (decide (p0=2)) then
   some (!(decide (p3=p2)))
  else
   some false) fun s3=>
 bif s3 then
  some [p2,p3]
 else
  OB (
   bif (decide (p0=1)) then
    some true
   else
    some (decide (p0=2))) fun s8=>
  bif s8 then
   some [p2]
  else
   some eInt
def acS:aQ:=⟨alv,u4 f10⟩
theorem Nr:ak Try.prog 10 acS:=
 ts [] ety [.tmp 2] alx Try.func10 rfl trivial
def f13 (p0:dX) (p1:Int):Option Bool:=
 dn (
  aY (fun (s0:Int)=>
   bif (decide (s0<(p0.length:Int))) then
    ck (inB s0 p0.length) <|
    bif (decide ((List.getD p0 s0.toNat 0)=p1)) then
     some (.inr (.inr true))
    else
     some (.inl (bW (s0+1)))
   else
    some (.inr (.inl ()))) (0:Int)) fun s6=>
 some false
def ai4:aQ:=⟨aly,u2 f13⟩
theorem acT:ak Try.prog 13 ai4:=
 ts [] ety [.tmp 4] alz Try.func13 rfl trivial
def acU (ai5:T16) (p0:Int) (p1:dX) (p2:Int):Option (Int×dX×Int):=
 OB (
  bif (decide ((p1.length:Int)≤p2)) then
   some true
  else
   some (decide (p0<1))) fun s4=>
 bif s4 then
  some ((0:Int),p1,p2)
 else
  ck (inB p2 p1.length) <|
  let n6:=(bW (List.getD p1 p2.toNat 0))
  let n7:=(bW (p2+1))
  bif (decide (256<p0)) then
   OB (ai5 256 p1 n7) fun c10=>
   ck (!(decide (p0=0))) <|
   some ((Int.tmod (bW ((bW (256*n6))+c10.1)) p0),c10.2.1,c10.2.2)
  else
   ck (!(decide (p0=0))) <|
   some ((Int.tmod n6 p0),p1,n7)
def Ti:Nat→T16
 |0=>(fun _ _ _=>none)
 |n+1=>(acU (Ti n))
def acV (n:Nat):T16:=(Ti n)
def Qg (n:Nat):aQ:=⟨aij,u3 (Ti n)⟩
theorem Z4 (n:Nat) (h16:ak Try.prog 16 (Qg n)):ak Try.prog 16 (Qg (n+1)):=
 ts [(16,Qg n)] ety [.tmp 4] alA Try.func16 rfl ⟨h16,trivial⟩
theorem Ei :∀n,ak Try.prog 16 (Qg n)
 |0=>bP Try.func16 rfl rfl (show aij.er.ok=true by decide +kernel) fun x=>rfl
 |n+1=>by
  have ih:=Ei n
  exact Z4 n (ih)
def f16:T16:=acV 1048576
def IC:aQ:=Qg 1048576
theorem nH:ak Try.prog 16 IC:=(Ei 1048576)
def agc (p0:Int) (p1:Int) (p2:dX) (p3:dX):Option (Int×dX×dX):=
 OB (
  OB (
   aY (fun (s0:(Int×Int))=>
    bif (!(decide (s0.1=s0.2))) then
     ck (inB s0.1 p2.length) <|
     ck (inB s0.2 p2.length) <|
     OB (
      bif (decide ((List.getD p2 s0.2.toNat 0)<(List.getD p2 s0.1.toNat 0))) then
       ck (inB s0.1 p3.length) <|
       some ((List.getD p3 s0.1.toNat 0),s0.2)
      else
       ck (inB s0.2 p3.length) <|
       some (s0.1,(List.getD p3 s0.2.toNat 0))) fun s7=>
     some (.inl (s7.1,s7.2))
    else
     some (.inr s0.1)) (p0,p1)) fun s8=>
  some (s8,p2,p3)) fun s9=>
 ck (decide (p2.length=s9.2.1.length)) <|
 ck (decide (p3.length=s9.2.2.length)) <|
 some s9
def f20 (p0:Int) (p1:Int) (p2:dX) (p3:dX):Option (Int×dX×dX):=OB (agc p0 p1 p2 p3) fun (y:(Int×dX×dX))=>uY y.2.1 p2 <| uY y.2.2 p3 <| some y
def ai6:aQ:=⟨alB,u4 agc⟩
theorem acW:ak Try.prog 20 ai6:=
 ts [] ety [.tmp 6] alC Try.func20 rfl trivial
def f23 (p0:dX) (p1:Int) (p2:Int):Option Bool:=
 OB (
  aY (fun (s0:Int)=>
   OB (
    bif (decide (0≤s0)) then
     some (!(decide (p1=s0)))
    else
     some false) fun s4=>
   bif s4 then
    ck (inB s0 p0.length) <|
    some (.inl (List.getD p0 s0.toNat 0))
   else
    some (.inr s0)) p2) fun s6=>
 some (decide (0≤s6))
def agd:aQ:=⟨alD,u3 f23⟩
theorem Vp:ak Try.prog 23 agd:=
 ts [] ety [.tmp 6] alE Try.func23 rfl trivial
def f25 (p0:Int) (p1:Int) (p2:Int) (p3:Int):Option dX:=
 OB (
  bif (decide (p0=1)) then
   some true
  else
   OB (
    bif (decide (p0=2)) then
     some (decide (p2=p3))
    else
     some false) fun s4=>
   some s4) fun s5=>
 bif s5 then
  some [p2]
 else
  bif (decide (p0=2)) then
   some [p2,p3]
  else
   some eInt
def acX:aQ:=⟨alF,u4 f25⟩
theorem Ns:ak Try.prog 25 acX:=
 ts [] ety [.tmp 2] alG Try.func25 rfl trivial
def f26 (p0:dX):Option dX:=
 OB (
  OB (
   aY (fun (s2:(Int×Int×dX))=>
    bif (decide (s2.1<s2.2.1)) then
     ck (inB s2.2.1 s2.2.2.length) <|
     ck (inB s2.1 s2.2.2.length) <|
     ck (inB s2.1 s2.2.2.length) <|
     let n6:=(List.set s2.2.2 s2.1.toNat (List.getD s2.2.2 s2.2.1.toNat 0))
     ck (inB s2.2.1 n6.length) <|
     some (.inl ((bW (s2.1+1)),(bW (s2.2.1-1)),(List.set n6 s2.2.1.toNat (List.getD s2.2.2 s2.1.toNat 0))))
    else
     some (.inr s2.2.2)) ((0:Int),(bW ((p0.length:Int)-1)),p0)) fun s10=>
  some s10) fun s11=>
 ck (decide (p0.length=s11.length)) <|
 some s11
def ai7:aQ:=⟨alH,f26⟩
theorem acY:ak Try.prog 26 ai7:=
 ts [] ety [] alI Try.func26 rfl trivial
def agf (ai8:T30) (p0:Int):Option gQ:=
 let n4:=(List.map (fun (b:Int)=>(UInt8.ofNat (Int.toNat b))) [(Go.IntKind.wrap .u8 (bW (48+(Int.tmod p0 (10:Int)))))])
 bif (decide (10≤p0)) then
  OB (ai8 (bW (Int.tdiv p0 (10:Int)))) fun c7=>
  ck (Ap c7.length n4.length) <|
  some (c7++n4)
 else
  some n4
def Tj:Nat→T30
 |0=>(fun _=>none)
 |n+1=>(agf (Tj n))
def acZ (n:Nat):T30:=(Tj n)
def Qh (n:Nat):aQ:=⟨aik,(Tj n)⟩
theorem Z5 (n:Nat) (h30:ak Try.prog 30 (Qh n)):ak Try.prog 30 (Qh (n+1)):=
 ts [(30,Qh n)] ety [.tmp 2] alJ Try.func30 rfl ⟨h30,trivial⟩
theorem Ej :∀n,ak Try.prog 30 (Qh n)
 |0=>bP Try.func30 rfl rfl (show aik.er.ok=true by decide +kernel) fun x=>rfl
 |n+1=>by
  have ih:=Ej n
  exact Z5 n (ih)
def f30:T30:=acZ 1048576
def agh:aQ:=Qh 1048576
theorem Vq:ak Try.prog 30 agh:=(Ej 1048576)
def f31 (p0:dG) (p1:NK) (p2:Int) (p3:Int) (p4:gQ) (p5:Int) (p6:Int) (p7:kG) (p8:dX) (p9:Int):Option (Int×Int×Int×Int×Int×Int×dX×Int×dX):=
 OB (f16 12 p8 p9) fun c0=>
 let n1:=(bW (1+c0.1))
 OB (f16 p6 c0.2.1 c0.2.2) fun c2=>
 OB (f16 p6 c2.2.1 c2.2.2) fun c3=>
 OB (f16 p6 c3.2.1 c3.2.2) fun c4=>
 OB (
  bif (decide (n1=1)) then
   OB (f16 6 c4.2.1 c4.2.2) fun c6=>
   some (c6.2.1,c6.2.2,n1,(0:Int),c2.1,c3.1,c4.1,(bW (c6.1-1)),eInt)
  else
   OB (
    bif (decide (n1=3)) then
     OB (f16 2 c4.2.1 c4.2.2) fun c9=>
     some (c9.2.1,c9.2.2,n1,(bW (1+c9.1)),c2.1,c3.1,c4.1,(0:Int),eInt)
    else
     OB (
      bif (decide (n1=4)) then
       OB (f16 9 c4.2.1 c4.2.2) fun c12=>
       some (c12.2.1,c12.2.2,n1,(bW (3+c12.1)),c2.1,c3.1,c4.1,(0:Int),eInt)
      else
       OB (
        bif (decide (n1=7)) then
         some true
        else
         some (decide (n1=8))) fun s16=>
       OB (
        bif s16 then
         some (c4.2.1,c4.2.2,n1,(0:Int),c2.1,c3.1,c4.1,(1:Int),eInt)
        else
         OB (
          bif (decide (n1=11)) then
           OB (f16 (p1.length:Int) c4.2.1 c4.2.2) fun c19=>
           OB (
            aY (fun (s20:(Int×dX×Int×Int×Int×Int×Int×Int×Int×dX))=>
             ck (inB s20.2.2.2.2.2.2.2.2.1 p1.length) <|
             bif (decide (s20.1<(List.getD p1 s20.2.2.2.2.2.2.2.2.1.toNat aC).params)) then
              OB (f16 p6 s20.2.1 s20.2.2.1) fun c23=>
              let n24:=[c23.1]
              ck (bG s20.2.2.2.2.2.2.2.2.2.length n24.length 8) <|
              some (.inl ((bW (s20.1+1)),c23.2.1,c23.2.2,s20.2.2.2.1,s20.2.2.2.2.1,s20.2.2.2.2.2.1,s20.2.2.2.2.2.2.1,s20.2.2.2.2.2.2.2.1,s20.2.2.2.2.2.2.2.2.1,(s20.2.2.2.2.2.2.2.2.2++n24)))
             else
              some (.inr (s20.2.1,s20.2.2.1,s20.2.2.2.1,s20.2.2.2.2.1,s20.2.2.2.2.2.1,s20.2.2.2.2.2.2.1,s20.2.2.2.2.2.2.2.1,s20.2.2.2.2.2.2.2.2.1,s20.2.2.2.2.2.2.2.2.2))) ((0:Int),c19.2.1,c19.2.2,n1,(0:Int),c2.1,c3.1,c4.1,c19.1,eInt)) fun Xz=>
           some (Xz.1,Xz.2.1,Xz.2.2.1,Xz.2.2.2.1,Xz.2.2.2.2.1,Xz.2.2.2.2.2.1,Xz.2.2.2.2.2.2.1,Xz.2.2.2.2.2.2.2.1,Xz.2.2.2.2.2.2.2.2)
          else
           OB (
            bif (decide (n1=12)) then
             OB (f16 3 c4.2.1 c4.2.2) fun c29=>
             OB (
              aY (fun (uI:(Int×dX×Int×Int×Int×Int×Int×Int×Int×dX))=>
               bif (decide (0<uI.1)) then
                OB (f16 p6 uI.2.1 uI.2.2.1) fun c32=>
                let n33:=[c32.1]
                ck (bG uI.2.2.2.2.2.2.2.2.2.length n33.length 8) <|
                some (.inl ((bW (uI.1-1)),c32.2.1,c32.2.2,uI.2.2.2.1,uI.2.2.2.2.1,uI.2.2.2.2.2.1,uI.2.2.2.2.2.2.1,uI.2.2.2.2.2.2.2.1,uI.2.2.2.2.2.2.2.2.1,(uI.2.2.2.2.2.2.2.2.2++n33)))
               else
                some (.inr (uI.2.1,uI.2.2.1,uI.2.2.2.1,uI.2.2.2.2.1,uI.2.2.2.2.2.1,uI.2.2.2.2.2.2.1,uI.2.2.2.2.2.2.2.1,uI.2.2.2.2.2.2.2.2.1,uI.2.2.2.2.2.2.2.2.2))) (c29.1,c29.2.1,c29.2.2,n1,(0:Int),c2.1,c3.1,c4.1,(0:Int),eInt)) fun s36=>
             some (s36.1,s36.2.1,s36.2.2.1,s36.2.2.2.1,s36.2.2.2.2.1,s36.2.2.2.2.2.1,s36.2.2.2.2.2.2.1,s36.2.2.2.2.2.2.2.1,s36.2.2.2.2.2.2.2.2)
            else
             some (c4.2.1,c4.2.2,n1,(0:Int),c2.1,c3.1,c4.1,(0:Int),eInt)) fun A_=>
           some (A_.1,A_.2.1,A_.2.2.1,A_.2.2.2.1,A_.2.2.2.2.1,A_.2.2.2.2.2.1,A_.2.2.2.2.2.2.1,A_.2.2.2.2.2.2.2.1,A_.2.2.2.2.2.2.2.2)) fun qK=>
         some (qK.1,qK.2.1,qK.2.2.1,qK.2.2.2.1,qK.2.2.2.2.1,qK.2.2.2.2.2.1,qK.2.2.2.2.2.2.1,qK.2.2.2.2.2.2.2.1,qK.2.2.2.2.2.2.2.2)) fun u_=>
       some (u_.1,u_.2.1,u_.2.2.1,u_.2.2.2.1,u_.2.2.2.2.1,u_.2.2.2.2.2.1,u_.2.2.2.2.2.2.1,u_.2.2.2.2.2.2.2.1,u_.2.2.2.2.2.2.2.2)) fun NM=>
     some (NM.1,NM.2.1,NM.2.2.1,NM.2.2.2.1,NM.2.2.2.2.1,NM.2.2.2.2.2.1,NM.2.2.2.2.2.2.1,NM.2.2.2.2.2.2.2.1,NM.2.2.2.2.2.2.2.2)) fun Em=>
   some (Em.1,Em.2.1,Em.2.2.1,Em.2.2.2.1,Em.2.2.2.2.1,Em.2.2.2.2.2.1,Em.2.2.2.2.2.2.1,Em.2.2.2.2.2.2.2.1,Em.2.2.2.2.2.2.2.2)) fun xZ=>
 OB (
  bif (decide (xZ.2.2.1=1)) then
   bif (decide (0<p2)) then
    OB (f16 3 xZ.1 xZ.2.1) fun c46=>
    some ((decide (c46.1=0)),c46.2.1,c46.2.2)
   else
    some (false,xZ.1,xZ.2.1)
  else
   some (false,xZ.1,xZ.2.1)) fun s49=>
 bif s49.1 then
  OB (f16 p2 s49.2.1 s49.2.2) fun c50=>
  some ((14:Int),(0:Int),xZ.2.2.2.2.1,(0:Int),(0:Int),c50.1,c50.2.1,c50.2.2,eInt)
 else
  some (xZ.2.2.1,xZ.2.2.2.1,xZ.2.2.2.2.1,xZ.2.2.2.2.2.1,xZ.2.2.2.2.2.2.1,xZ.2.2.2.2.2.2.2.1,s49.2.1,s49.2.2,xZ.2.2.2.2.2.2.2.2)
def ai9:aQ:=⟨alK,u10 f31⟩
theorem ac0:ak Try.prog 31 ai9:=
 ts [(16,IC)] ety [.cell 6 78] alL Try.func31 rfl ⟨nH,trivial⟩
def f36 (p0:Int) (p1:dG) (p2:(List au)) (p3:aS) (p4:Int) (p5:Int) (p6:Int) (p7:kG):Option (Int×dG×(List au)×aS×Int×Int×Int×kG):=
 let n0:=(p7.length:Int)
 let n1:=[(aH.mk qJ 0 0 0 0 p0 p4 n0)]
 ck (bG p7.length n1.length 80) <|
 some (n0,p1,p2,p3,p4,p5,n0,(p7++n1))
def Z7:aQ:=⟨alM,u8 f36⟩
theorem Fa:ak Try.prog 36 Z7:=
 ts [] ail [.tmp 4] alN Try.func36 rfl trivial
def f38 (p0:Int) (p1:Int) (p2:Int) (p3:Int) (p4:Int) (p5:Int) (p6:dX) (p7:dG) (p8:(List au)) (p9:aS) (p10:Int) (p11:Int) (p12:Int) (p13:kG):Option (dG×(List au)×aS×Int×Int×Int×kG):=
 OB (
  ck (inB p12 p13.length) <|
  let n0:=[(fB.mk p0 p1 p2 p3 p4 p5 p6)]
  ck (true&&(decide ((((List.length (List.getD p13 p12.toNat aj).instrs)+n0.length)*(72:Nat))≤(140737488355328:Nat)))) <|
  ck (inB p12 p13.length) <|
  ck (Nat.beq p12.toNat p12.toNat) <|
  some (p7,p8,p9,p10,p11,p12,(List.set p13 p12.toNat (aH.mk ((List.getD p13 p12.toNat aj).instrs++n0) (List.getD p13 p12.toNat aj).aU (List.getD p13 p12.toNat aj).qI (List.getD p13 p12.toNat aj).dQ (List.getD p13 p12.toNat aj).bC (List.getD p13 p12.toNat aj).line (List.getD p13 p12.toNat aj).jl (List.getD p13 p12.toNat aj).iE)))) fun s3=>
 ck (decide (p13.length=s3.2.2.2.2.2.2.length)) <|
 some s3
def Z8:aQ:=⟨alO,u14 f38⟩
theorem Fb:ak Try.prog 38 Z8:=
 ts [] ain [] alP Try.func38 rfl trivial
def f39 (p0:Int) (p1:Int) (p2:Int) (p3:Int) (p4:Int) (p5:dG) (p6:(List au)) (p7:aS) (p8:Int) (p9:Int) (p10:Int) (p11:kG):Option (dG×(List au)×aS×Int×Int×Int×kG):=
 OB (
  ck (inB p0 p11.length) <|
  some (p5,p6,p7,p8,p9,p10,(List.set p11 p0.toNat (aH.mk (List.getD p11 p0.toNat aj).instrs p1 p2 p3 p4 (List.getD p11 p0.toNat aj).line (List.getD p11 p0.toNat aj).jl (List.getD p11 p0.toNat aj).iE)))) fun s1=>
 ck (decide (p11.length=s1.2.2.2.2.2.2.length)) <|
 some s1
def XA:aQ:=⟨alQ,u12 f39⟩
theorem Ba:ak Try.prog 39 XA:=
 ts [] aio [] alR Try.func39 rfl trivial
def f43 (p0:gQ) (p1:Int) (p2:Int) (p3:kG):Option XV:=
 let n0:=(p3.length:Int)
 ck (zf (1:Nat) n0 n0) <|
 let n1:=(List.replicate n0.toNat false)
 bif (decide ((n1.length:Int)=0)) then
  some n1
 else
  ck (inB (0:Int) n1.length) <|
  OB (
   aY (fun (s6:(XV×dX))=>
    bif (decide (0<(s6.2.length:Int))) then
     let n10:=(bW ((s6.2.length:Int)-1))
     ck (inB n10 s6.2.length) <|
     let n11:=(List.getD s6.2 n10.toNat 0)
     let n13:=(bW ((s6.2.length:Int)-1))
     ck ((decide (0≤n13))&&(decide (n13≤(s6.2.length:Int)))) <|
     ck (inB n11 p3.length) <|
     let n15:=(List.getD p3 n11.toNat aj)
     OB (f10 n15.aU n15.qI n15.dQ n15.bC) fun c16=>
     OB (
      aY (fun (nZ:(Int×XV×dX))=>
       bif (decide (nZ.1<(c16.length:Int))) then
        ck (inB nZ.1 c16.length) <|
        let n20:=(List.getD c16 nZ.1.toNat 0)
        ck (inB n20 nZ.2.1.length) <|
        OB (
         bif (!(List.getD nZ.2.1 n20.toNat false)) then
          ck (inB nZ.1 c16.length) <|
          let n23:=(List.getD c16 nZ.1.toNat 0)
          ck (inB n23 nZ.2.1.length) <|
          ck (inB nZ.1 c16.length) <|
          let n26:=[(List.getD c16 nZ.1.toNat 0)]
          ck (bG nZ.2.2.length n26.length 8) <|
          some ((List.set nZ.2.1 n23.toNat true),(nZ.2.2++n26))
         else
          some (nZ.2.1,nZ.2.2)) fun C_=>
        some (.inl ((bW (nZ.1+1)),C_.1,C_.2))
       else
        some (.inr (nZ.2.1,nZ.2.2))) ((0:Int),s6.1,(List.take n13.toNat s6.2))) fun uI=>
     some (.inl (uI.1,uI.2))
    else
     some (.inr s6.1)) ((List.set n1 (Int.toNat (0:Int)) true),[(0:Int)])) fun ES=>
  some ES
def agi:aQ:=⟨alS,u4 f43⟩
theorem Vr:ak Try.prog 43 agi:=
 ts [(10,acS)] aip [.tmp 2] alT Try.func43 rfl ⟨Nr,trivial⟩
def agj (aeW:T46) (p0:oC) (p1:aS):Option aS:=
 OB (
  aY (fun (s0:(Int×aS))=>
   bif (decide (s0.1<(p0.length:Int))) then
    ck (inB s0.1 p0.length) <|
    OB (
     bif (decide ((List.getD p0 s0.1.toNat jI).kind=1)) then
      ck (inB s0.1 p0.length) <|
      let n6:=[(List.getD p0 s0.1.toNat jI).name]
      ck (bG s0.2.length n6.length 16) <|
      some (s0.2++n6)
     else
      some s0.2) fun s8=>
    ck (inB s0.1 p0.length) <|
    OB (aeW (List.getD p0 s0.1.toNat jI).then' s8) fun c10=>
    ck (inB s0.1 p0.length) <|
    OB (aeW (List.getD p0 s0.1.toNat jI).else' c10) fun c12=>
    some (.inl ((bW (s0.1+1)),c12))
   else
    some (.inr s0.2)) ((0:Int),p1)) fun s14=>
 some s14
def Tn:Nat→T46
 |0=>(fun _ _=>none)
 |n+1=>(agj (Tn n))
def agk (n:Nat):T46:=(Tn n)
def Qi (n:Nat):aQ:=⟨aiq,u2 (Tn n)⟩
theorem Z9 (n:Nat) (h46:ak Try.prog 46 (Qi n)):ak Try.prog 46 (Qi (n+1)):=
 ts [(46,Qi n)] ety [.tmp 4] alU Try.func46 rfl ⟨h46,trivial⟩
theorem En :∀n,ak Try.prog 46 (Qi n)
 |0=>bP Try.func46 rfl rfl (show aiq.er.ok=true by decide +kernel) fun x=>rfl
 |n+1=>by
  have ih:=En n
  exact Z9 n (ih)
def f46:T46:=agk 1048576
def ai_:aQ:=Qi 1048576
theorem ac1:ak Try.prog 46 ai_:=(En 1048576)
def f49 (p0:dG) (p1:(List au)) (p2:gQ):Option Int:=
 dn (
  aY (fun (s0:Int)=>
   bif (decide (s0<(p0.length:Int))) then
    ck (inB s0 p0.length) <|
    bif ((List.getD p0 s0.toNat (aJ.mk cO 0)).name==p2) then
     some (.inr (.inr s0))
    else
     some (.inl (bW (s0+1)))
   else
    some (.inr (.inl ()))) (0:Int)) fun s6=>
 some (-1:Int)
def Z_:aQ:=⟨alV,u3 f49⟩
theorem Fe:ak Try.prog 49 Z_:=
 ts [] ety [.tmp 4] alW Try.func49 rfl trivial
def f50 (p0:dG) (p1:(List au)) (p2:gQ):Option Int:=
 dn (
  aY (fun (s0:Int)=>
   bif (decide (s0<(p1.length:Int))) then
    ck (inB s0 p1.length) <|
    bif ((List.getD p1 s0.toNat fK).name==p2) then
     some (.inr (.inr s0))
    else
     some (.inl (bW (s0+1)))
   else
    some (.inr (.inl ()))) (0:Int)) fun s6=>
 some (-1:Int)
def aac:aQ:=⟨alX,u3 f50⟩
theorem Fh:ak Try.prog 50 aac:=
 ts [] ety [.tmp 4] alY Try.func50 rfl trivial
def agl (aeX:T51) (p0:oC):Option Int:=
 OB (
  aY (fun (s0:(Int×Int))=>
   bif (decide (s0.2<(p0.length:Int))) then
    ck (inB s0.2 p0.length) <|
    OB (aeX (List.getD p0 s0.2.toNat jI).then') fun c4=>
    ck (inB s0.2 p0.length) <|
    OB (aeX (List.getD p0 s0.2.toNat jI).else') fun c7=>
    some (.inl ((OY (OY s0.1 (bW (1+c4))) (bW (1+c7))),(bW (s0.2+1))))
   else
    some (.inr s0.1)) ((0:Int),(0:Int))) fun s11=>
 some s11
def Tq:Nat→T51
 |0=>(fun _=>none)
 |n+1=>(agl (Tq n))
def agm (n:Nat):T51:=(Tq n)
def Qj (n:Nat):aQ:=⟨air,(Tq n)⟩
theorem aad (n:Nat) (h51:ak Try.prog 51 (Qj n)):ak Try.prog 51 (Qj (n+1)):=
 ts [(51,Qj n)] ety [.tmp 2] alZ Try.func51 rfl ⟨h51,trivial⟩
theorem Eo :∀n,ak Try.prog 51 (Qj n)
 |0=>bP Try.func51 rfl rfl (show air.er.ok=true by decide +kernel) fun x=>rfl
 |n+1=>by
  have ih:=Eo n
  exact aad n (ih)
def f51:T51:=agm 1048576
def aja:aQ:=Qj 1048576
theorem ac2:ak Try.prog 51 aja:=(Eo 1048576)
def f52 (p0:aS) (p1:gQ):Option Bool:=
 dn (
  aY (fun (s0:Int)=>
   bif (decide (s0<(p0.length:Int))) then
    ck (inB s0 p0.length) <|
    bif ((List.getD p0 s0.toNat cO)==p1) then
     some (.inr (.inr true))
    else
     some (.inl (bW (s0+1)))
   else
    some (.inr (.inl ()))) (0:Int)) fun s6=>
 some false
def agn:aQ:=⟨al0,u2 f52⟩
theorem Vt:ak Try.prog 52 agn:=
 ts [] ety [.tmp 4] al1 Try.func52 rfl trivial
def f53 (p0:dG) (p1:(List au)) (p2:gQ):Option Int:=
 OB (f49 p0 p1 p2) fun c0=>
 bif (decide (0≤c0)) then
  ck (inB c0 p0.length) <|
  bif (decide (0<(List.getD p0 c0.toNat (aJ.mk cO 0)).size)) then
   some (3:Int)
  else
   some (2:Int)
 else
  OB (f50 p0 p1 p2) fun c4=>
  bif (decide (0≤c4)) then
   some (4:Int)
  else
   some (0:Int)
def agp:aQ:=⟨al2,u3 f53⟩
theorem Vu:ak Try.prog 53 agp:=
 ts [(49,Z_),(50,aac)] ety [.tmp 4] al3 Try.func53 rfl ⟨Fe,Fh,trivial⟩
def agq (p0:gQ) (p1:dG) (p2:(List au)) (p3:aS) (p4:Int) (p5:Int) (p6:Int) (p7:kG):Option (Int×dG×(List au)×aS×Int×Int×Int×kG):=
 OB (
  dn (
   aY (fun (s0:Int)=>
    bif (decide (s0<(p3.length:Int))) then
     ck (inB s0 p3.length) <|
     bif ((List.getD p3 s0.toNat cO)==p0) then
      some (.inr (.inr (s0,p1,p2,p3,p4,p5,p6,p7)))
     else
      some (.inl (bW (s0+1)))
    else
     some (.inr (.inl ()))) (0:Int)) fun s6=>
  some ((-1:Int),p1,p2,p3,p4,p5,p6,p7)) fun s7=>
 ck (decide (p7.length=s7.2.2.2.2.2.2.2.length)) <|
 some s7
def f69 (p0:gQ) (p1:dG) (p2:(List au)) (p3:aS) (p4:Int) (p5:Int) (p6:Int) (p7:kG):Option (Int×dG×(List au)×aS×Int×Int×Int×kG):=OB (agq p0 p1 p2 p3 p4 p5 p6 p7) fun (y:(Int×dG×(List au)×aS×Int×Int×Int×kG))=>uY y.2.2.2.2.2.2.2 p7 <| some y
def agr:aQ:=⟨al4,u8 agq⟩
theorem Vx:ak Try.prog 69 agr:=
 ts [] ais [.tmp 4] al5 Try.func69 rfl trivial
def f71 (p0:gQ) (p1:Int) (p2:Int) (p3:kG):Option Int:=
 OB (
  aY (fun (s0:(Int×Int))=>
   bif (decide (s0.2<(p3.length:Int))) then
    ck (inB s0.2 p3.length) <|
    some (.inl ((bW (s0.1+(bW (((List.length (List.getD p3 s0.2.toNat aj).instrs):Int)+1)))),(bW (s0.2+1))))
   else
    some (.inr s0.1)) ((0:Int),(0:Int))) fun s8=>
 some s8
def ajb:aQ:=⟨al6,u4 f71⟩
theorem ac3:ak Try.prog 71 ajb:=
 ts [] ety [.tmp 2] al7 Try.func71 rfl trivial
def f73 (p0:gQ) (p1:Int) (p2:Int) (p3:kG) (p4:Int) (p5:Int) (p6:Int) (p7:Int):Option Int:=
 OB (
  bif (decide (p4<1)) then
   some true
  else
   some (decide (3<p4))) fun s3=>
 bif s3 then
  some (17:Int)
 else
  OB (
   bif (!(decide (p4=1))) then
    bif (decide (p5<0)) then
     some true
    else
     some (decide (p2≤p5))
   else
    some false) fun s10=>
  bif s10 then
   some (14:Int)
  else
   OB (f10 p4 p5 p6 p7) fun c11=>
   dn (
    aY (fun (s12:Int)=>
     bif (decide (s12<(c11.length:Int))) then
      OB (
       ck (inB s12 c11.length) <|
       bif (decide ((List.getD c11 s12.toNat 0)<0)) then
        some true
       else
        ck (inB s12 c11.length) <|
        some (decide ((p3.length:Int)≤(List.getD c11 s12.toNat 0)))) fun xX=>
      bif xX then
       some (.inr (.inr (13:Int)))
      else
       some (.inl (bW (s12+1)))
     else
      some (.inr (.inl ()))) (0:Int)) fun s23=>
   some (0:Int)
def ajc:aQ:=⟨al8,u8 f73⟩
theorem ac4:ak Try.prog 73 ajc:=
 ts [(10,acS)] ety [.tmp 4] al9 Try.func73 rfl ⟨Nr,trivial⟩
def ags (ajd:T74) (p0:Int) (p1:Int) (p2:Int) (p3:Int) (p4:gQ) (p5:lF):Option Int:=
 OB (
  aY (fun (s0:(Int×Int))=>
   bif (decide (s0.2<(p5.length:Int))) then
    ck (inB s0.2 p5.length) <|
    let n3:=(List.getD p5 s0.2.toNat gG)
    OB (ajd n3.kind n3.op n3.value n3.line n3.name n3.args) fun c4=>
    some (.inl ((OY s0.1 c4),(bW (s0.2+1))))
   else
    some (.inr s0.1)) ((0:Int),(0:Int))) fun s7=>
 some (bW (s7+1))
def Tt:Nat→T74
 |0=>(fun _ _ _ _ _ _=>none)
 |n+1=>(ags (Tt n))
def agt (n:Nat):T74:=(Tt n)
def Qk (n:Nat):aQ:=⟨ait,u6 (Tt n)⟩
theorem aae (n:Nat) (h74:ak Try.prog 74 (Qk n)):ak Try.prog 74 (Qk (n+1)):=
 ts [(74,Qk n)] ety [.tmp 2] al_ Try.func74 rfl ⟨h74,trivial⟩
theorem Ep :∀n,ak Try.prog 74 (Qk n)
 |0=>bP Try.func74 rfl rfl (show ait.er.ok=true by decide +kernel) fun x=>rfl
 |n+1=>by
  have ih:=Ep n
  exact aae n (ih)
def f74:T74:=agt 1048576
def aje:aQ:=Qk 1048576
theorem ac5:ak Try.prog 74 aje:=(Ep 1048576)
def agu (p0:Int) (p1:Int) (p2:dG) (p3:(List au)) (p4:Int) (p5:Int) (p6:aS):Option (dG×(List au)×Int×Int×aS):=
 OB (
  OB (
   bif (decide (p5=0)) then
    some (p2,p3,p0,p1)
   else
    some (p2,p3,p4,p5)) fun s1=>
  some (s1.1,s1.2.1,s1.2.2.1,s1.2.2.2,p6)) fun s2=>
 ck (decide (p6.length=s2.2.2.2.2.length)) <|
 some s2
def f75 (p0:Int) (p1:Int) (p2:dG) (p3:(List au)) (p4:Int) (p5:Int) (p6:aS):Option (dG×(List au)×Int×Int×aS):=OB (agu p0 p1 p2 p3 p4 p5 p6) fun (y:(dG×(List au)×Int×Int×aS))=>uY y.2.2.2.2 p6 <| some y
def ac6:aQ:=⟨ama,u7 agu⟩
theorem Nu:ak Try.prog 75 ac6:=
 ts [] ety [] amb Try.func75 rfl trivial
def agv (p0:gQ) (p1:dG) (p2:(List au)) (p3:Int) (p4:Int) (p5:aS):Option (Int×dG×(List au)×Int×Int×aS):=
 OB (
  OB (f52 p5 p0) fun c0=>
  bif c0 then
   some ((1:Int),p1,p2,p3,p4,p5)
  else
   OB (f53 p1 p2 p0) fun c1=>
   some (c1,p1,p2,p3,p4,p5)) fun s2=>
 ck (decide (p5.length=s2.2.2.2.2.2.length)) <|
 some s2
def f77 (p0:gQ) (p1:dG) (p2:(List au)) (p3:Int) (p4:Int) (p5:aS):Option (Int×dG×(List au)×Int×Int×aS):=OB (agv p0 p1 p2 p3 p4 p5) fun (y:(Int×dG×(List au)×Int×Int×aS))=>uY y.2.2.2.2.2 p5 <| some y
def aaf:aQ:=⟨amc,u6 agv⟩
theorem Fj:ak Try.prog 77 aaf:=
 ts [(52,agn),(53,agp)] ety [.tmp 4] amd Try.func77 rfl ⟨Vt,Vu,trivial⟩
def ac7 (Ql:XW) (aag:T85) (aah:T86) (p0:Int) (p1:Int) (p2:Int) (p3:Int) (p4:gQ) (p5:lF) (p6:Int) (p7:dG) (p8:(List au)) (p9:aS) (p10:Int) (p11:Int) (p12:Int) (p13:kG):Option (dG×(List au)×aS×Int×Int×Int×kG):=
 let n1:=(OY p11 (bW (p6+1)))
 OB (
  bif (decide (p0=7)) then
   some true
  else
   some (decide (p0=8))) fun s5=>
 bif s5 then
  OB (aag p0 p1 p2 p3 p4 p5 p6 p7 p8 p9 p10 n1 p12 p13) fun c6=>
  some (c6.1,c6.2.1,c6.2.2.1,c6.2.2.2.1,c6.2.2.2.2.1,c6.2.2.2.2.2.1,c6.2.2.2.2.2.2)
 else
  OB (aah p5 p6 p7 p8 p9 p10 n1 p12 p13) fun c7=>
  OB (
   bif (decide (p0=1)) then
    OB (f38 1 0 p6 0 0 p2 eInt c7.1 c7.2.1 c7.2.2.1 c7.2.2.2.1 c7.2.2.2.2.1 c7.2.2.2.2.2.1 c7.2.2.2.2.2.2.2) fun c9=>
    some (c9.1,c9.2.1,c9.2.2.1,c9.2.2.2.1,c9.2.2.2.2.1,c9.2.2.2.2.2.1,c9.2.2.2.2.2.2)
   else
    OB (
     bif (decide (p0=2)) then
      OB (f69 p4 c7.1 c7.2.1 c7.2.2.1 c7.2.2.2.1 c7.2.2.2.2.1 c7.2.2.2.2.2.1 c7.2.2.2.2.2.2.2) fun c11=>
      OB (f38 2 0 p6 c11.1 0 0 eInt c11.2.1 c11.2.2.1 c11.2.2.2.1 c11.2.2.2.2.1 c11.2.2.2.2.2.1 c11.2.2.2.2.2.2.1 c7.2.2.2.2.2.2.2) fun c12=>
      some (c12.1,c12.2.1,c12.2.2.1,c12.2.2.2.1,c12.2.2.2.2.1,c12.2.2.2.2.2.1,c12.2.2.2.2.2.2)
     else
      OB (
       bif (decide (p0=3)) then
        OB (f49 c7.1 c7.2.1 p4) fun c14=>
        OB (f38 5 0 p6 0 0 c14 eInt c7.1 c7.2.1 c7.2.2.1 c7.2.2.2.1 c7.2.2.2.2.1 c7.2.2.2.2.2.1 c7.2.2.2.2.2.2.2) fun c15=>
        some (c15.1,c15.2.1,c15.2.2.1,c15.2.2.2.1,c15.2.2.2.2.1,c15.2.2.2.2.2.1,c15.2.2.2.2.2.2)
       else
        OB (
         bif (decide (p0=4)) then
          OB (f49 c7.1 c7.2.1 p4) fun c17=>
          OB (f38 7 0 p6 p6 0 c17 eInt c7.1 c7.2.1 c7.2.2.1 c7.2.2.2.1 c7.2.2.2.2.1 c7.2.2.2.2.2.1 c7.2.2.2.2.2.2.2) fun c18=>
          some (c18.1,c18.2.1,c18.2.2.1,c18.2.2.2.1,c18.2.2.2.2.1,c18.2.2.2.2.2.1,c18.2.2.2.2.2.2)
         else
          OB (
           bif (decide (p0=5)) then
            OB (f38 3 p1 p6 p6 0 0 eInt c7.1 c7.2.1 c7.2.2.1 c7.2.2.2.1 c7.2.2.2.2.1 c7.2.2.2.2.2.1 c7.2.2.2.2.2.2.2) fun c20=>
            some (c20.1,c20.2.1,c20.2.2.1,c20.2.2.2.1,c20.2.2.2.2.1,c20.2.2.2.2.2.1,c20.2.2.2.2.2.2)
           else
            OB (
             bif (decide (p0=6)) then
              OB (f38 4 p1 p6 p6 (bW (p6+1)) 0 eInt c7.1 c7.2.1 c7.2.2.1 c7.2.2.2.1 c7.2.2.2.2.1 c7.2.2.2.2.2.1 c7.2.2.2.2.2.2.2) fun c23=>
              some (c23.1,c23.2.1,c23.2.2.1,c23.2.2.2.1,c23.2.2.2.2.1,c23.2.2.2.2.2.1,c23.2.2.2.2.2.2)
             else
              OB (
               bif (decide (p0=9)) then
                OB (f50 c7.1 c7.2.1 p4) fun c25=>
                OB (f38 11 0 p6 0 0 c25 c7.2.2.2.2.2.2.1 c7.1 c7.2.1 c7.2.2.1 c7.2.2.2.1 c7.2.2.2.2.1 c7.2.2.2.2.2.1 c7.2.2.2.2.2.2.2) fun QK=>
                some (QK.1,QK.2.1,QK.2.2.1,QK.2.2.2.1,QK.2.2.2.2.1,QK.2.2.2.2.2.1,QK.2.2.2.2.2.2)
               else
                OB (
                 bif (decide (p0=10)) then
                  ck (BR (1:Int) (c7.2.2.2.2.2.2.1.length:Int) c7.2.2.2.2.2.2.1.length) <|
                  OB (f38 12 0 p6 p6 0 0 (List.drop (Int.toNat (1:Int)) (List.take (Int.toNat (c7.2.2.2.2.2.2.1.length:Int)) c7.2.2.2.2.2.2.1)) c7.1 c7.2.1 c7.2.2.1 c7.2.2.2.1 c7.2.2.2.2.1 c7.2.2.2.2.2.1 c7.2.2.2.2.2.2.2) fun c28=>
                  some (c28.1,c28.2.1,c28.2.2.1,c28.2.2.2.1,c28.2.2.2.2.1,c28.2.2.2.2.2.1,c28.2.2.2.2.2.2)
                 else
                  OB (
                   bif (decide (p0=11)) then
                    OB (f50 c7.1 c7.2.1 p4) fun KC=>
                    OB (f38 14 0 p6 0 0 KC eInt c7.1 c7.2.1 c7.2.2.1 c7.2.2.2.1 c7.2.2.2.2.1 c7.2.2.2.2.2.1 c7.2.2.2.2.2.2.2) fun c31=>
                    some (c31.1,c31.2.1,c31.2.2.1,c31.2.2.2.1,c31.2.2.2.2.1,c31.2.2.2.2.2.1,c31.2.2.2.2.2.2)
                   else
                    OB (
                     bif (decide (p0=12)) then
                      OB (f38 9 0 p6 0 0 0 eInt c7.1 c7.2.1 c7.2.2.1 c7.2.2.2.1 c7.2.2.2.2.1 c7.2.2.2.2.2.1 c7.2.2.2.2.2.2.2) fun KD=>
                      some (KD.1,KD.2.1,KD.2.2.1,KD.2.2.2.1,KD.2.2.2.2.1,KD.2.2.2.2.2.1,KD.2.2.2.2.2.2)
                     else
                      some (c7.1,c7.2.1,c7.2.2.1,c7.2.2.2.1,c7.2.2.2.2.1,c7.2.2.2.2.2.1,c7.2.2.2.2.2.2.2)) fun s34=>
                    some (s34.1,s34.2.1,s34.2.2.1,s34.2.2.2.1,s34.2.2.2.2.1,s34.2.2.2.2.2.1,s34.2.2.2.2.2.2)) fun QL=>
                  some (QL.1,QL.2.1,QL.2.2.1,QL.2.2.2.1,QL.2.2.2.2.1,QL.2.2.2.2.2.1,QL.2.2.2.2.2.2)) fun s36=>
                some (s36.1,s36.2.1,s36.2.2.1,s36.2.2.2.1,s36.2.2.2.2.1,s36.2.2.2.2.2.1,s36.2.2.2.2.2.2)) fun A_=>
              some (A_.1,A_.2.1,A_.2.2.1,A_.2.2.2.1,A_.2.2.2.2.1,A_.2.2.2.2.2.1,A_.2.2.2.2.2.2)) fun qK=>
            some (qK.1,qK.2.1,qK.2.2.1,qK.2.2.2.1,qK.2.2.2.2.1,qK.2.2.2.2.2.1,qK.2.2.2.2.2.2)) fun u_=>
          some (u_.1,u_.2.1,u_.2.2.1,u_.2.2.2.1,u_.2.2.2.2.1,u_.2.2.2.2.2.1,u_.2.2.2.2.2.2)) fun NM=>
        some (NM.1,NM.2.1,NM.2.2.1,NM.2.2.2.1,NM.2.2.2.2.1,NM.2.2.2.2.2.1,NM.2.2.2.2.2.2)) fun Em=>
      some (Em.1,Em.2.1,Em.2.2.1,Em.2.2.2.1,Em.2.2.2.2.1,Em.2.2.2.2.2.1,Em.2.2.2.2.2.2)) fun xZ=>
    some (xZ.1,xZ.2.1,xZ.2.2.1,xZ.2.2.2.1,xZ.2.2.2.2.1,xZ.2.2.2.2.2.1,xZ.2.2.2.2.2.2)) fun s43=>
  some (s43.1,s43.2.1,s43.2.2.1,s43.2.2.2.1,s43.2.2.2.2.1,s43.2.2.2.2.2.1,s43.2.2.2.2.2.2)
def ac8 (Ql:XW) (aag:T85) (aah:T86) (p0:Int) (p1:Int) (p2:Int) (p3:Int) (p4:gQ) (p5:lF) (p6:Int) (p7:dG) (p8:(List au)) (p9:aS) (p10:Int) (p11:Int) (p12:Int) (p13:kG):Option (dG×(List au)×aS×Int×Int×Int×kG):=
 ck (inB (0:Int) p5.length) <|
 let n1:=(List.getD p5 (Int.toNat 0) gG)
 OB (Ql n1.kind n1.op n1.value n1.line n1.name n1.args p6 p7 p8 p9 p10 p11 p12 p13) fun c2=>
 OB (f36 p3 c2.1 c2.2.1 c2.2.2.1 c2.2.2.2.1 c2.2.2.2.2.1 c2.2.2.2.2.2.1 c2.2.2.2.2.2.2) fun c3=>
 ck (inB (1:Int) p5.length) <|
 let n4:=(List.getD p5 (Int.toNat 1) gG)
 OB (Ql n4.kind n4.op n4.value n4.line n4.name n4.args p6 c3.2.1 c3.2.2.1 c3.2.2.2.1 c3.2.2.2.2.1 c3.2.2.2.2.2.1 c3.2.2.2.2.2.2.1 c3.2.2.2.2.2.2.2) fun c5=>
 OB (f36 p3 c5.1 c5.2.1 c5.2.2.1 c5.2.2.2.1 c5.2.2.2.2.1 c5.2.2.2.2.2.1 c5.2.2.2.2.2.2) fun c6=>
 OB (f38 1 0 p6 0 0 1 eInt c6.2.1 c6.2.2.1 c6.2.2.2.1 c6.2.2.2.2.1 c6.2.2.2.2.2.1 c6.2.2.2.2.2.2.1 c6.2.2.2.2.2.2.2) fun c7=>
 OB (f36 p3 c7.1 c7.2.1 c7.2.2.1 c7.2.2.2.1 c7.2.2.2.2.1 c7.2.2.2.2.2.1 c7.2.2.2.2.2.2) fun c8=>
 OB (f38 1 0 p6 0 0 0 eInt c8.2.1 c8.2.2.1 c8.2.2.2.1 c8.2.2.2.2.1 c8.2.2.2.2.2.1 c8.2.2.2.2.2.2.1 c8.2.2.2.2.2.2.2) fun c9=>
 OB (f36 p3 c9.1 c9.2.1 c9.2.2.1 c9.2.2.2.1 c9.2.2.2.2.1 c9.2.2.2.2.2.1 c9.2.2.2.2.2.2) fun c10=>
 OB (f39 c5.2.2.2.2.2.1 2 p6 c6.1 c8.1 c10.2.1 c10.2.2.1 c10.2.2.2.1 c10.2.2.2.2.1 c10.2.2.2.2.2.1 c10.2.2.2.2.2.2.1 c10.2.2.2.2.2.2.2) fun c11=>
 OB (
  bif (decide (p0=8)) then
   OB (f39 c2.2.2.2.2.2.1 2 p6 c6.1 c3.1 c11.1 c11.2.1 c11.2.2.1 c11.2.2.2.1 c11.2.2.2.2.1 c11.2.2.2.2.2.1 c11.2.2.2.2.2.2) fun c12=>
   some (c12.1,c12.2.1,c12.2.2.1,c12.2.2.2.1,c12.2.2.2.2.1,c12.2.2.2.2.2.1,c12.2.2.2.2.2.2)
  else
   OB (f39 c2.2.2.2.2.2.1 2 p6 c3.1 c8.1 c11.1 c11.2.1 c11.2.2.1 c11.2.2.2.1 c11.2.2.2.2.1 c11.2.2.2.2.2.1 c11.2.2.2.2.2.2) fun c13=>
   some (c13.1,c13.2.1,c13.2.2.1,c13.2.2.2.1,c13.2.2.2.2.1,c13.2.2.2.2.2.1,c13.2.2.2.2.2.2)) fun s14=>
 OB (f39 c6.1 1 0 c10.1 0 s14.1 s14.2.1 s14.2.2.1 s14.2.2.2.1 s14.2.2.2.2.1 s14.2.2.2.2.2.1 s14.2.2.2.2.2.2) fun c15=>
 OB (f39 c8.1 1 0 c10.1 0 c15.1 c15.2.1 c15.2.2.1 c15.2.2.2.1 c15.2.2.2.2.1 c15.2.2.2.2.2.1 c15.2.2.2.2.2.2) fun c16=>
 some (c16.1,c16.2.1,c16.2.2.1,c16.2.2.2.1,c16.2.2.2.2.1,c16.2.2.2.2.2.1,c16.2.2.2.2.2.2)
def ac9 (Ql:XW) (aag:T85) (aah:T86) (p0:lF) (p1:Int) (p2:dG) (p3:(List au)) (p4:aS) (p5:Int) (p6:Int) (p7:Int) (p8:kG):Option (dG×(List au)×aS×Int×Int×Int×dX×kG):=
 OB (
  aY (fun (s0:(Int×dG×(List au)×aS×Int×Int×Int×dX×kG))=>
   bif (decide (s0.1<(p0.length:Int))) then
    ck (inB s0.1 p0.length) <|
    let n3:=(List.getD p0 s0.1.toNat gG)
    OB (Ql n3.kind n3.op n3.value n3.line n3.name n3.args (bW (p1+s0.1)) s0.2.1 s0.2.2.1 s0.2.2.2.1 s0.2.2.2.2.1 s0.2.2.2.2.2.1 s0.2.2.2.2.2.2.1 s0.2.2.2.2.2.2.2.2) fun c5=>
    let n7:=[(bW (p1+s0.1))]
    ck (bG s0.2.2.2.2.2.2.2.1.length n7.length 8) <|
    some (.inl ((bW (s0.1+1)),c5.1,c5.2.1,c5.2.2.1,c5.2.2.2.1,c5.2.2.2.2.1,c5.2.2.2.2.2.1,(s0.2.2.2.2.2.2.2.1++n7),c5.2.2.2.2.2.2))
   else
    some (.inr (s0.2.1,s0.2.2.1,s0.2.2.2.1,s0.2.2.2.2.1,s0.2.2.2.2.2.1,s0.2.2.2.2.2.2.1,s0.2.2.2.2.2.2.2.1,s0.2.2.2.2.2.2.2.2))) ((0:Int),p2,p3,p4,p5,p6,p7,eInt,p8)) fun s10=>
 some (s10.1,s10.2.1,s10.2.2.1,s10.2.2.2.1,s10.2.2.2.2.1,s10.2.2.2.2.2.1,s10.2.2.2.2.2.2.1,s10.2.2.2.2.2.2.2)
def iL:Nat→XW×XW×T86
 |0=>(fun _ _ _ _ _ _ _ _ _ _ _ _ _ _=>none,fun _ _ _ _ _ _ _ _ _ _ _ _ _ _=>none,fun _ _ _ _ _ _ _ _ _=>none)
 |n+1=>(ac7 (iL n).1 (iL n).2.1 (iL n).2.2,ac8 (iL n).1 (iL n).2.1 (iL n).2.2,ac9 (iL n).1 (iL n).2.1 (iL n).2.2)
def aai (n:Nat):XW:=(iL n).1
def Bc (n:Nat):aQ:=⟨aiu,u14 (iL n).1⟩
def agw (n:Nat):XW:=(iL n).2.1
def Es (n:Nat):aQ:=⟨aiw,u14 (iL n).2.1⟩
def agx (n:Nat):T86:=(iL n).2.2
def Et (n:Nat):aQ:=⟨aiy,u9 (iL n).2.2⟩
theorem aaj (n:Nat) (h68:ak Try.prog 68 (Bc n)) (h85:ak Try.prog 85 (Es n)) (h86:ak Try.prog 86 (Et n)):ak Try.prog 68 (Bc (n+1)):=
 ts [(38,Z8),(69,agr),(49,Z_),(50,aac),(68,Bc n),(85,Es n),(86,Et n)] aiv [] ame Try.func68 rfl ⟨Fb,Vx,Fe,Fh,h68,h85,h86,trivial⟩
theorem aak (n:Nat) (h68:ak Try.prog 68 (Bc n)) (h85:ak Try.prog 85 (Es n)) (h86:ak Try.prog 86 (Et n)):ak Try.prog 85 (Es (n+1)):=
 ts [(36,Z7),(38,Z8),(39,XA),(68,Bc n),(85,Es n),(86,Et n)] aix [] amf Try.func85 rfl ⟨Fa,Fb,Ba,h68,h85,h86,trivial⟩
theorem aal (n:Nat) (h68:ak Try.prog 68 (Bc n)) (h85:ak Try.prog 85 (Es n)) (h86:ak Try.prog 86 (Et n)):ak Try.prog 86 (Et (n+1)):=
 ts [(68,Bc n),(85,Es n),(86,Et n)] aiz [.tmp 6] amg Try.func86 rfl ⟨h68,h85,h86,trivial⟩
theorem Eu :∀n,ak Try.prog 68 (Bc n)∧ak Try.prog 85 (Es n)∧ak Try.prog 86 (Et n)
 |0=>⟨bP Try.func68 rfl rfl (show aiu.er.ok=true by decide +kernel) fun x=>rfl,bP Try.func85 rfl rfl (show aiw.er.ok=true by decide +kernel) fun x=>rfl,bP Try.func86 rfl rfl (show aiy.er.ok=true by decide +kernel) fun x=>rfl⟩
 |n+1=>by
  have ih:=Eu n
  exact ⟨aaj n (ih.1) (ih.2.1) (ih.2.2),aak n (ih.1) (ih.2.1) (ih.2.2),aal n (ih.1) (ih.2.1) (ih.2.2)⟩
def f68:XW:=aai 1048576
def agy:aQ:=Bc 1048576
theorem Vy:ak Try.prog 68 agy:=(Eu 1048576).1
def f87 (p0:Int) (p1:Int) (p2:Int) (p3:Int) (p4:Int) (p5:Int) (p6:dX):Option dX:=
 OB (
  bif (decide (p0=2)) then
   some true
  else
   OB (
    bif (decide (p0=3)) then
     some true
    else
     OB (
      bif (decide (p0=6)) then
       some true
      else
       OB (
        bif (decide (p0=7)) then
         some true
        else
         some (decide (p0=10))) fun s5=>
       some s5) fun s6=>
     some s6) fun s7=>
   some s7) fun s8=>
 bif s8 then
  some [p3]
 else
  OB (
   bif (decide (p0=4)) then
    some true
   else
    some (decide (p0=8))) fun s12=>
  bif s12 then
   some [p3,p4]
  else
   bif (decide (p0=11)) then
    ck (bG (List.length eInt) p6.length 8) <|
    some (eInt++p6)
   else
    bif (decide (p0=12)) then
     let n17:=[p3]
     ck (bG n17.length p6.length 8) <|
     some (n17++p6)
    else
     some eInt
def ajh:aQ:=⟨amh,u7 f87⟩
theorem ac_:ak Try.prog 87 ajh:=
 ts [] ety [.tmp 2] ami Try.func87 rfl trivial
def f88 (p0:Int) (p1:Int) (p2:Int) (p3:Int) (p4:Int) (p5:Int) (p6:dX):Option (Int×Bool):=
 OB (
  bif (decide (p0=6)) then
   some true
  else
   OB (
    bif (decide (p0=8)) then
     some true
    else
     OB (
      bif (decide (p0=10)) then
       some true
      else
       some (decide (p0=13))) fun s4=>
     some s4) fun s5=>
   some s5) fun s6=>
 bif s6 then
  some ((0:Int),false)
 else
  OB (
   bif (decide (p0<1)) then
    some true
   else
    some (decide (14<p0))) fun s10=>
  bif s10 then
   some ((0:Int),false)
  else
   some (p2,true)
def aji:aQ:=⟨amj,u7 f88⟩
theorem ada:ak Try.prog 88 aji:=
 ts [] ety [.tmp 2,.tmp 3] amk Try.func88 rfl trivial
def f89 (p0:dG) (p1:NK) (p2:Int) (p3:Int) (p4:Int) (p5:Bool):Option Bool:=
 OB (
  bif (decide (0≤p4)) then
   bif (decide (p4<(p0.length:Int))) then
    ck (inB p4 p0.length) <|
    some ((decide (0<(List.getD p0 p4.toNat (aJ.mk cO 0)).size))==p5)
   else
    some false
  else
   some false) fun s8=>
 some s8
def ajj:aQ:=⟨aml,u6 f89⟩
theorem adb:ak Try.prog 89 ajj:=
 ts [] ety [.tmp 6] amm Try.func89 rfl trivial
def agz (p0:Int) (p1:Int) (p2:Int) (p3:Int) (p4:gQ) (p5:lF) (p6:Int) (p7:Int) (p8:dG) (p9:(List au)) (p10:Int) (p11:Int) (p12:aS):Option (dG×(List au)×Int×Int×aS):=
 OB (
  OB (f77 p4 p8 p9 p10 p11 p12) fun c0=>
  OB (
   bif (decide (c0.1=0)) then
    OB (f75 p3 8 c0.2.1 c0.2.2.1 c0.2.2.2.1 c0.2.2.2.2.1 p12) fun c2=>
    some (c2.1,c2.2.1,c2.2.2.1,c2.2.2.2.1)
   else
    OB (
     bif (!(decide (c0.1=p6))) then
      some (!(decide (c0.1=p7)))
     else
      some false) fun s6=>
    OB (
     bif s6 then
      OB (f75 p3 10 c0.2.1 c0.2.2.1 c0.2.2.2.1 c0.2.2.2.2.1 p12) fun c7=>
      some (c7.1,c7.2.1,c7.2.2.1,c7.2.2.2.1)
     else
      some (c0.2.1,c0.2.2.1,c0.2.2.2.1,c0.2.2.2.2.1)) fun s8=>
    some (s8.1,s8.2.1,s8.2.2.1,s8.2.2.2)) fun s9=>
  some (s9.1,s9.2.1,s9.2.2.1,s9.2.2.2,p12)) fun s10=>
 ck (decide (p12.length=s10.2.2.2.2.length)) <|
 some s10
def f90 (p0:Int) (p1:Int) (p2:Int) (p3:Int) (p4:gQ) (p5:lF) (p6:Int) (p7:Int) (p8:dG) (p9:(List au)) (p10:Int) (p11:Int) (p12:aS):Option (dG×(List au)×Int×Int×aS):=OB (agz p0 p1 p2 p3 p4 p5 p6 p7 p8 p9 p10 p11 p12) fun (y:(dG×(List au)×Int×Int×aS))=>uY y.2.2.2.2 p12 <| some y
def ajk:aQ:=⟨amn,u13 agz⟩
theorem ade:ak Try.prog 90 ajk:=
 ts [(77,aaf),(75,ac6)] ety [] amo Try.func90 rfl ⟨Fj,Nu,trivial⟩
def agA (p0:gQ) (p1:Int) (p2:dG) (p3:(List au)) (p4:Int) (p5:Int) (p6:aS):Option (Int×Int×Int×Int×gQ×dG×(List au)×Int×Int×aS):=
 OB (
  OB (f77 p0 p2 p3 p4 p5 p6) fun c0=>
  OB (
   bif (!(decide (c0.1=1))) then
    some (3:Int)
   else
    some (2:Int)) fun s2=>
  some (s2,(0:Int),(0:Int),p1,p0,c0.2.1,c0.2.2.1,c0.2.2.2.1,c0.2.2.2.2.1,p6)) fun s3=>
 ck (decide (p6.length=s3.2.2.2.2.2.2.2.2.2.length)) <|
 some s3
def f91 (p0:gQ) (p1:Int) (p2:dG) (p3:(List au)) (p4:Int) (p5:Int) (p6:aS):Option (Int×Int×Int×Int×gQ×dG×(List au)×Int×Int×aS):=OB (agA p0 p1 p2 p3 p4 p5 p6) fun (y:(Int×Int×Int×Int×gQ×dG×(List au)×Int×Int×aS))=>uY y.2.2.2.2.2.2.2.2.2 p6 <| some y
def ajl:aQ:=⟨amq,u7 agA⟩
theorem adf:ak Try.prog 91 ajl:=
 ts [(77,aaf)] ety [.cell 6 132] amr Try.func91 rfl ⟨Fj,trivial⟩
def adg (aeY:T76) (aam:T92) (p0:Int) (p1:Int) (p2:Int) (p3:Int) (p4:gQ) (p5:lF) (p6:dG) (p7:(List au)) (p8:Int) (p9:Int) (p10:aS):Option (Int×Int×Int×Int×gQ×dG×(List au)×Int×Int×aS×lF):=
 OB (
  bif (decide (p0=13)) then
   OB (f90 p0 p1 p2 p3 p4 p5 1 2 p6 p7 p8 p9 p10) fun c1=>
   OB (f91 p4 p3 c1.1 c1.2.1 c1.2.2.1 c1.2.2.2.1 p10) fun c2=>
   some (c2.1,c2.2.1,c2.2.2.1,c2.2.2.2.1,c2.2.2.2.2.1,c2.2.2.2.2.2.1,c2.2.2.2.2.2.2.1,c2.2.2.2.2.2.2.2.1,c2.2.2.2.2.2.2.2.2.1,p10,nY)
  else
   dn (
    bif (decide (p0=4)) then
     OB (f90 p0 p1 p2 p3 p4 p5 3 3 p6 p7 p8 p9 p10) fun c4=>
     some (.inl (c4.1,c4.2.1,c4.2.2.1,c4.2.2.2.1))
    else
     dn (
      bif (decide (p0=11)) then
       OB (f90 p0 p1 p2 p3 p4 p5 4 4 p6 p7 p8 p9 p10) fun c6=>
       some (.inl (c6.1,c6.2.1,c6.2.2.1,c6.2.2.2.1))
      else
       dn (
        bif (decide (p0=9)) then
         OB (f77 p4 p6 p7 p8 p9 p10) fun c8=>
         dn (
          bif (decide (c8.1=0)) then
           OB (f75 p3 8 c8.2.1 c8.2.2.1 c8.2.2.2.1 c8.2.2.2.2.1 p10) fun c10=>
           some (.inl (c10.1,c10.2.1,c10.2.2.1,c10.2.2.2.1))
          else
           dn (
            bif (decide (c8.1=3)) then
             OB (f75 p3 10 c8.2.1 c8.2.2.1 c8.2.2.2.1 c8.2.2.2.2.1 p10) fun c12=>
             some (.inl (c12.1,c12.2.1,c12.2.2.1,c12.2.2.2.1))
            else
             bif (decide (c8.1=4)) then
              OB (f50 c8.2.1 c8.2.2.1 p4) fun c14=>
              ck (inB c14 c8.2.2.1.length) <|
              OB (
               bif (!(decide (((List.length (List.getD c8.2.2.1 c14.toNat fK).params):Int)=(p5.length:Int)))) then
                OB (f75 p3 11 c8.2.1 c8.2.2.1 c8.2.2.2.1 c8.2.2.2.2.1 p10) fun c19=>
                some (c19.1,c19.2.1,c19.2.2.1,c19.2.2.2.1)
               else
                some (c8.2.1,c8.2.2.1,c8.2.2.2.1,c8.2.2.2.2.1)) fun s20=>
              some (.inl (s20.1,s20.2.1,s20.2.2.1,s20.2.2.2))
             else
              OB (
               bif (decide (6<(p5.length:Int))) then
                OB (f75 p3 5 c8.2.1 c8.2.2.1 c8.2.2.2.1 c8.2.2.2.2.1 p10) fun c23=>
                some (c23.1,c23.2.1,c23.2.2.1,c23.2.2.2.1)
               else
                some (c8.2.1,c8.2.2.1,c8.2.2.2.1,c8.2.2.2.2.1)) fun s24=>
              OB (f91 p4 p3 s24.1 s24.2.1 s24.2.2.1 s24.2.2.2 p10) fun c25=>
              let n26:=[(aV.mk c25.1 c25.2.1 c25.2.2.1 c25.2.2.2.1 c25.2.2.2.2.1 nY)]
              OB (aam p5 c25.2.2.2.2.2.1 c25.2.2.2.2.2.2.1 c25.2.2.2.2.2.2.2.1 c25.2.2.2.2.2.2.2.2.1 p10) fun Jt=>
              ck (bG n26.length Jt.2.2.2.2.2.length 72) <|
              some (.inr (.inr (.inr (.inr (.inr ((10:Int),(0:Int),(0:Int),p3,cO,Jt.1,Jt.2.1,Jt.2.2.1,Jt.2.2.2.1,p10,(n26++Jt.2.2.2.2.2)))))))) fun s29=>
           some (.inl (s29.1,s29.2.1,s29.2.2.1,s29.2.2.2))) fun uI=>
         some (.inl (uI.1,uI.2.1,uI.2.2.1,uI.2.2.2))
        else
         OB (
          bif (decide (p0=10)) then
           OB (
            bif (decide (7<(p5.length:Int))) then
             OB (f75 p3 5 p6 p7 p8 p9 p10) fun c34=>
             some (c34.1,c34.2.1,c34.2.2.1,c34.2.2.2.1)
            else
             some (p6,p7,p8,p9)) fun QL=>
           some (QL.1,QL.2.1,QL.2.2.1,QL.2.2.2)
          else
           some (p6,p7,p8,p9)) fun s36=>
         some (.inl (s36.1,s36.2.1,s36.2.2.1,s36.2.2.2))) fun A_=>
       some (.inl (A_.1,A_.2.1,A_.2.2.1,A_.2.2.2))) fun qK=>
     some (.inl (qK.1,qK.2.1,qK.2.2.1,qK.2.2.2))) fun u_=>
   OB (aam p5 u_.1 u_.2.1 u_.2.2.1 u_.2.2.2 p10) fun c40=>
   some (p0,p1,p2,p3,p4,c40.1,c40.2.1,c40.2.2.1,c40.2.2.2.1,p10,c40.2.2.2.2.2)) fun Em=>
 ck (decide (p10.length=Em.2.2.2.2.2.2.2.2.2.1.length)) <|
 some Em
def k76 (p0:Int) (p1:Int) (p2:Int) (p3:Int) (p4:gQ) (p5:lF) (p6:dG) (p7:(List au)) (p8:Int) (p9:Int) (p10:aS) (r:Option (Int×Int×Int×Int×gQ×dG×(List au)×Int×Int×aS×lF)):Option (Int×Int×Int×Int×gQ×dG×(List au)×Int×Int×aS×lF):=OB r fun (y:(Int×Int×Int×Int×gQ×dG×(List au)×Int×Int×aS×lF))=>uY y.2.2.2.2.2.2.2.2.2.1 p10 <| some y
def adh (aeY:T76) (aam:T92) (p0:lF) (p1:dG) (p2:(List au)) (p3:Int) (p4:Int) (p5:aS):Option (dG×(List au)×Int×Int×aS×lF):=
 OB (
  OB (
   aY (fun (s0:(Int×dG×(List au)×Int×Int×lF))=>
    bif (decide (s0.1<(p0.length:Int))) then
     ck (inB s0.1 p0.length) <|
     let n3:=(List.getD p0 s0.1.toNat gG)
     OB (aeY n3.kind n3.op n3.value n3.line n3.name n3.args s0.2.1 s0.2.2.1 s0.2.2.2.1 s0.2.2.2.2.1 p5) fun c4=>
     let n5:=[(aV.mk c4.1 c4.2.1 c4.2.2.1 c4.2.2.2.1 c4.2.2.2.2.1 c4.2.2.2.2.2.2.2.2.2.2)]
     ck (bG s0.2.2.2.2.2.length n5.length 72) <|
     some (.inl ((bW (s0.1+1)),c4.2.2.2.2.2.1,c4.2.2.2.2.2.2.1,c4.2.2.2.2.2.2.2.1,c4.2.2.2.2.2.2.2.2.1,(s0.2.2.2.2.2++n5)))
    else
     some (.inr (s0.2.1,s0.2.2.1,s0.2.2.2.1,s0.2.2.2.2.1,s0.2.2.2.2.2))) ((0:Int),p1,p2,p3,p4,nY)) fun s8=>
  some (s8.1,s8.2.1,s8.2.2.1,s8.2.2.2.1,p5,s8.2.2.2.2)) fun s9=>
 ck (decide (p5.length=s9.2.2.2.2.1.length)) <|
 some s9
def k92 (p0:lF) (p1:dG) (p2:(List au)) (p3:Int) (p4:Int) (p5:aS) (r:Option (dG×(List au)×Int×Int×aS×lF)):Option (dG×(List au)×Int×Int×aS×lF):=OB r fun (y:(dG×(List au)×Int×Int×aS×lF))=>uY y.2.2.2.2.1 p5 <| some y
def rF:Nat→T76×T92
 |0=>(fun _ _ _ _ _ _ _ _ _ _ _=>none,fun _ _ _ _ _ _=>none)
 |n+1=>(adg (fun p0 p1 p2 p3 p4 p5 p6 p7 p8 p9 p10=>k76 p0 p1 p2 p3 p4 p5 p6 p7 p8 p9 p10 ((rF n).1 p0 p1 p2 p3 p4 p5 p6 p7 p8 p9 p10)) (fun p0 p1 p2 p3 p4 p5=>k92 p0 p1 p2 p3 p4 p5 ((rF n).2 p0 p1 p2 p3 p4 p5)),adh (fun p0 p1 p2 p3 p4 p5 p6 p7 p8 p9 p10=>k76 p0 p1 p2 p3 p4 p5 p6 p7 p8 p9 p10 ((rF n).1 p0 p1 p2 p3 p4 p5 p6 p7 p8 p9 p10)) (fun p0 p1 p2 p3 p4 p5=>k92 p0 p1 p2 p3 p4 p5 ((rF n).2 p0 p1 p2 p3 p4 p5)))
def adi (n:Nat):T76:=(fun p0 p1 p2 p3 p4 p5 p6 p7 p8 p9 p10=>k76 p0 p1 p2 p3 p4 p5 p6 p7 p8 p9 p10 ((rF n).1 p0 p1 p2 p3 p4 p5 p6 p7 p8 p9 p10))
def IE (n:Nat):aQ:=⟨aiA,u11 (rF n).1⟩
def ajm (n:Nat):T92:=(fun p0 p1 p2 p3 p4 p5=>k92 p0 p1 p2 p3 p4 p5 ((rF n).2 p0 p1 p2 p3 p4 p5))
def KE (n:Nat):aQ:=⟨aiB,u6 (rF n).2⟩
theorem aan (n:Nat) (h76:ak Try.prog 76 (IE n)) (h92:ak Try.prog 92 (KE n)):ak Try.prog 76 (IE (n+1)):=
 ts [(90,ajk),(91,ajl),(77,aaf),(75,ac6),(50,aac),(76,IE n),(92,KE n)] ety [.cell 4 132] ams Try.func76 rfl ⟨ade,adf,Fj,Nu,Fh,h76,h92,trivial⟩
theorem aao (n:Nat) (h76:ak Try.prog 76 (IE n)) (h92:ak Try.prog 92 (KE n)):ak Try.prog 92 (KE (n+1)):=
 ts [(76,IE n),(92,KE n)] ety [.tmp 4] amu Try.func92 rfl ⟨h76,h92,trivial⟩
theorem Ew :∀n,ak Try.prog 76 (IE n)∧ak Try.prog 92 (KE n)
 |0=>⟨bP Try.func76 rfl rfl (show aiA.er.ok=true by decide +kernel) fun x=>rfl,bP Try.func92 rfl rfl (show aiB.er.ok=true by decide +kernel) fun x=>rfl⟩
 |n+1=>by
  have ih:=Ew n
  exact ⟨aan n (ih.1) (ih.2),aao n (ih.1) (ih.2)⟩
def f76:T76:=adi 1048576
def ajn:aQ:=IE 1048576
theorem adk:ak Try.prog 76 ajn:=(Ew 1048576).1
def f94 (p0:Int) (p1:gQ) (p2:Int) (p3:Int) (p4:Int) (p5:Int) (p6:gQ) (p7:lF):Option (Int×Int×gQ×lF):=
 some (p0,(0:Int),p1,[(aV.mk p2 p3 p4 p5 p6 p7)])
def agB:aQ:=⟨amv,u8 f94⟩
theorem Vz:ak Try.prog 94 agB:=
 ts [] ety [.cell 6 104] amw Try.func94 rfl trivial
def adl (p0:Bool) (p1:Int) (p2:dX) (p3:Int) (p4:dG) (p5:(List au)) (p6:aS):Option (gQ×Bool×Int×dX×Int×dG×(List au)×aS):=
 OB (
  OB (
   aY (fun (s0:(Int×aS))=>
    bif (decide (s0.1<(p4.length:Int))) then
     ck (inB s0.1 p4.length) <|
     OB (
      bif ((decide (0<(List.getD p4 s0.1.toNat (aJ.mk cO 0)).size))==p0) then
       ck (inB s0.1 p4.length) <|
       let n7:=[(List.getD p4 s0.1.toNat (aJ.mk cO 0)).name]
       ck (bG s0.2.length n7.length 16) <|
       some (s0.2++n7)
      else
       some s0.2) fun s9=>
     some (.inl ((bW (s0.1+1)),s9))
    else
     some (.inr s0.2)) ((0:Int),jH)) fun s11=>
  bif (decide ((s11.length:Int)=0)) then
   some (cO,false,p1,p2,p3,p4,p5,p6)
  else
   OB (f16 (s11.length:Int) p2 p3) fun c15=>
   ck (inB c15.1 s11.length) <|
   some ((List.getD s11 c15.1.toNat cO),true,p1,c15.2.1,c15.2.2,p4,p5,p6)) fun nZ=>
 ck (decide (p4.length=nZ.2.2.2.2.2.1.length)) <|
 ck (decide (p5.length=nZ.2.2.2.2.2.2.1.length)) <|
 ck (decide (p6.length=nZ.2.2.2.2.2.2.2.length)) <|
 some nZ
def f96 (p0:Bool) (p1:Int) (p2:dX) (p3:Int) (p4:dG) (p5:(List au)) (p6:aS):Option (gQ×Bool×Int×dX×Int×dG×(List au)×aS):=OB (adl p0 p1 p2 p3 p4 p5 p6) fun (y:(gQ×Bool×Int×dX×Int×dG×(List au)×aS))=>uY y.2.2.2.2.2.1 p4 <| uY y.2.2.2.2.2.2.1 p5 <| uY y.2.2.2.2.2.2.2 p6 <| some y
def aap:aQ:=⟨amx,u7 adl⟩
theorem Fp:ak Try.prog 96 aap:=
 ts [(16,IC)] ety [.tmp 4,.tmp 5] amy Try.func96 rfl ⟨nH,trivial⟩
def f100:Option aS:=
 some [[(97:UInt8)],[(98:UInt8)],[(99:UInt8)],[(100:UInt8)],[(101:UInt8)],[(102:UInt8)],[(105:UInt8)],[(107:UInt8)]]
def aeZ:aQ:=⟨aiC,fun x=>f100⟩
theorem aaq:ak Try.prog 100 aeZ:=
 ts [] ety [.tmp 0] aiD Try.func100 rfl trivial
def VA (p0:Int) (p1:dX) (p2:Int) (p3:dG) (p4:(List au)) (p5:aS):Option (Int×Int×Int×Int×gQ×Int×dX×Int×dG×(List au)×aS):=
 OB (
  OB (f16 6 p1 p2) fun c0=>
  bif (decide (c0.1=0)) then
   some ((12:Int),(0:Int),(0:Int),(0:Int),cO,p0,c0.2.1,c0.2.2,p3,p4,p5)
  else
   dn (
    bif (decide (c0.1=1)) then
     OB (f96 false p0 c0.2.1 c0.2.2 p3 p4 p5) fun c3=>
     bif c3.2.1 then
      some (.inr ((13:Int),(0:Int),(0:Int),(0:Int),c3.1,c3.2.2.1,c3.2.2.2.1,c3.2.2.2.2.1,p3,p4,p5))
     else
      some (.inl (c3.2.2.1,c3.2.2.2.1,c3.2.2.2.2.1))
    else
     OB (
      bif (decide (c0.1=2)) then
       some true
      else
       some (decide (c0.1=3))) fun s6=>
     dn (
      bif s6 then
       bif (decide (0<(p5.length:Int))) then
        OB (f16 (p5.length:Int) c0.2.1 c0.2.2) fun c10=>
        ck (inB c10.1 p5.length) <|
        some (.inr (.inr ((13:Int),(0:Int),(0:Int),(0:Int),(List.getD p5 c10.1.toNat cO),p0,c10.2.1,c10.2.2,p3,p4,p5)))
       else
        some (.inl ())
      else
       some (.inl ())) fun s12=>
     some (.inl (p0,c0.2.1,c0.2.2))) fun s13=>
   OB (f16 5 s13.2.1 s13.2.2) fun c14=>
   OB (f16 12 c14.2.1 c14.2.2) fun c15=>
   OB (
    bif (decide (c15.1=11)) then
     let n17:=[(9223372036854775807:Int),(2147483648:Int),(1000:Int),(64:Int)]
     OB (f16 4 c15.2.1 c15.2.2) fun c18=>
     ck (inB c18.1 n17.length) <|
     some ((List.getD n17 c18.1.toNat 0),c18.2.1,c18.2.2)
    else
     some (c14.1,c15.2.1,c15.2.2)) fun s20=>
   some ((1:Int),(0:Int),s20.1,(0:Int),cO,s13.1,s20.2.1,s20.2.2,p3,p4,p5)) fun xX=>
 ck (decide (p3.length=xX.2.2.2.2.2.2.2.2.1.length)) <|
 ck (decide (p4.length=xX.2.2.2.2.2.2.2.2.2.1.length)) <|
 ck (decide (p5.length=xX.2.2.2.2.2.2.2.2.2.2.length)) <|
 some xX
def f101 (p0:Int) (p1:dX) (p2:Int) (p3:dG) (p4:(List au)) (p5:aS):Option (Int×Int×Int×Int×gQ×Int×dX×Int×dG×(List au)×aS):=OB (VA p0 p1 p2 p3 p4 p5) fun (y:(Int×Int×Int×Int×gQ×Int×dX×Int×dG×(List au)×aS))=>uY y.2.2.2.2.2.2.2.2.1 p3 <| uY y.2.2.2.2.2.2.2.2.2.1 p4 <| uY y.2.2.2.2.2.2.2.2.2.2 p5 <| some y
def ae0:aQ:=⟨aiE,u6 VA⟩
theorem aar:ak Try.prog 101 ae0:=
 ts [(16,IC),(96,aap)] ety [.cell 2 132] aiF Try.func101 rfl ⟨nH,Fp,trivial⟩
def f102 (p0:Int) (p1:Int) (p2:lF):Option (Int×Int×Int×Int×gQ×lF):=
 some (p0,p1,(0:Int),(0:Int),cO,p2)
def aas:aQ:=⟨aiG,u3 f102⟩
theorem Qm:ak Try.prog 102 aas:=
 ts [] ety [.cell 6 132] aiH Try.func102 rfl trivial
def f19 (p0:gQ) (p1:Int) (p2:Int) (p3:kG):Option ZX:=
 let n0:=(p3.length:Int)
 ck (zf (24:Nat) n0 n0) <|
 OB (
  aY (fun (s3:(Int×ZX))=>
   bif (decide (s3.1<(p3.length:Int))) then
    ck (inB s3.1 p3.length) <|
    let n5:=(List.getD p3 s3.1.toNat aj)
    OB (f25 n5.aU n5.qI n5.dQ n5.bC) fun c6=>
    OB (
     aY (fun (s8:(Int×ZX))=>
      bif (decide (s8.1<(c6.length:Int))) then
       ck (inB s8.1 c6.length) <|
       let n10:=(List.getD c6 s8.1.toNat 0)
       ck (inB n10 s8.2.length) <|
       let n11:=[s3.1]
       ck (true&&(decide ((((List.length (List.getD s8.2 n10.toNat eInt))+n11.length)*(8:Nat))≤(140737488355328:Nat)))) <|
       ck (inB n10 s8.2.length) <|
       ck (Nat.beq n10.toNat n10.toNat) <|
       some (.inl ((bW (s8.1+1)),(List.set s8.2 n10.toNat ((List.getD s8.2 n10.toNat eInt)++n11))))
      else
       some (.inr s8.2)) ((0:Int),s3.2)) fun s15=>
    some (.inl ((bW (s3.1+1)),s15))
   else
    some (.inr s3.2)) ((0:Int),(List.replicate n0.toNat eInt))) fun nZ=>
 some nZ
def agC:aQ:=⟨amA,u4 f19⟩
theorem VB:ak Try.prog 19 agC:=
 ts [(25,acX)] aiI [.tmp 2] amB Try.func19 rfl ⟨Ns,trivial⟩
def f21 (p0:gQ) (p1:Int) (p2:Int) (p3:kG) (p4:Int) (p5:LEd):Option XV:=
 OB (f19 p0 p1 p2 p3) fun c0=>
 let n1:=(p3.length:Int)
 ck (zf (1:Nat) n1 n1) <|
 OB (
  aY (fun (s4:(Int×XV×dX))=>
   bif (decide (s4.1<(p5.length:Int))) then
    ck (inB s4.1 p5.length) <|
    let n6:=(List.getD p5 s4.1.toNat (gK.mk 0 0))
    OB (
     bif (decide (n6.to=p4)) then
      ck (inB p4 s4.2.1.length) <|
      let n9:=[n6.from']
      ck (bG s4.2.2.length n9.length 8) <|
      some ((List.set s4.2.1 p4.toNat true),(s4.2.2++n9))
     else
      some (s4.2.1,s4.2.2)) fun s11=>
    some (.inl ((bW (s4.1+1)),s11.1,s11.2))
   else
    some (.inr (s4.2.1,s4.2.2))) ((0:Int),(List.replicate n1.toNat false),eInt)) fun s13=>
 OB (
  aY (fun (s14:(ZX×XV×dX))=>
   bif (decide (0<(s14.2.2.length:Int))) then
    let n18:=(bW ((s14.2.2.length:Int)-1))
    ck (inB n18 s14.2.2.length) <|
    let n19:=(List.getD s14.2.2 n18.toNat 0)
    let n21:=(bW ((s14.2.2.length:Int)-1))
    ck ((decide (0≤n21))&&(decide (n21≤(s14.2.2.length:Int)))) <|
    let n22:=(List.take n21.toNat s14.2.2)
    ck (inB n19 s14.2.1.length) <|
    OB (
     bif (!(List.getD s14.2.1 n19.toNat false)) then
      ck (inB n19 s14.2.1.length) <|
      ck (inB n19 s14.1.length) <|
      ck (true&&(decide (((n22.length+(List.length (List.getD s14.1 n19.toNat eInt)))*(8:Nat))≤(140737488355328:Nat)))) <|
      some ((List.set s14.1 n19.toNat (List.getD s14.1 n19.toNat eInt)),(List.set s14.2.1 n19.toNat true),(n22++(List.getD s14.1 n19.toNat eInt)))
     else
      some (s14.1,s14.2.1,n22)) fun Xz=>
    some (.inl (Xz.1,Xz.2.1,Xz.2.2))
   else
    some (.inr s14.2.1)) (c0,s13.1,s13.2)) fun C_=>
 some C_
def ajo:aQ:=⟨amC,u6 f21⟩
theorem adn:ak Try.prog 21 ajo:=
 ts [(19,agC)] aiJ [.tmp 6] amD Try.func21 rfl ⟨VB,trivial⟩
def agD (rec24:T24) (p0:Int) (p1:gQ) (p2:Int) (p3:Int) (p4:kG) (p5:XV) (p6:dX):Option (XV×gQ×Int×Int×kG×dX):=
 OB (
  ck (inB p0 p5.length) <|
  ck (inB p0 p4.length) <|
  let n1:=(List.getD p4 p0.toNat aj)
  OB (f25 n1.aU n1.qI n1.dQ n1.bC) fun c2=>
  OB (
   aY (fun (s4:(Int×XV×gQ×Int×Int×kG×dX))=>
    bif (decide (s4.1<(c2.length:Int))) then
     ck (inB s4.1 c2.length) <|
     let n6:=(List.getD c2 s4.1.toNat 0)
     ck (inB n6 s4.2.1.length) <|
     OB (
      bif (!(List.getD s4.2.1 n6.toNat false)) then
       OB (rec24 n6 s4.2.2.1 s4.2.2.2.1 s4.2.2.2.2.1 s4.2.2.2.2.2.1 s4.2.1 s4.2.2.2.2.2.2) fun c9=>
       some (c9.1,c9.2.1,c9.2.2.1,c9.2.2.2.1,c9.2.2.2.2.1,c9.2.2.2.2.2)
      else
       some (s4.2.1,s4.2.2.1,s4.2.2.2.1,s4.2.2.2.2.1,s4.2.2.2.2.2.1,s4.2.2.2.2.2.2)) fun s10=>
     some (.inl ((bW (s4.1+1)),s10.1,s10.2.1,s10.2.2.1,s10.2.2.2.1,s10.2.2.2.2.1,s10.2.2.2.2.2))
    else
     some (.inr (s4.2.1,s4.2.2.1,s4.2.2.2.1,s4.2.2.2.2.1,s4.2.2.2.2.2.1,s4.2.2.2.2.2.2))) ((0:Int),(List.set p5 p0.toNat true),p1,p2,p3,p4,p6)) fun s12=>
  let n13:=[p0]
  ck (bG s12.2.2.2.2.2.length n13.length 8) <|
  some (s12.1,s12.2.1,s12.2.2.1,s12.2.2.2.1,s12.2.2.2.2.1,(s12.2.2.2.2.2++n13))) fun s15=>
 ck (decide (p5.length=s15.1.length)) <|
 some s15
def Tv:Nat→T24
 |0=>(fun _ _ _ _ _ _ _=>none)
 |n+1=>(agD (Tv n))
def ado (n:Nat):T24:=(Tv n)
def Qn (n:Nat):aQ:=⟨aiK,u7 (Tv n)⟩
theorem aat (n:Nat) (h24:ak Try.prog 24 (Qn n)):ak Try.prog 24 (Qn (n+1)):=
 ts [(25,acX),(24,Qn n)] ety [] amE Try.func24 rfl ⟨Ns,h24,trivial⟩
theorem Ey :∀n,ak Try.prog 24 (Qn n)
 |0=>bP Try.func24 rfl rfl (show aiK.er.ok=true by decide +kernel) fun x=>rfl
 |n+1=>by
  have ih:=Ey n
  exact aat n (ih)
def f24:T24:=ado 1048576
def ajp:aQ:=Qn 1048576
theorem adp:ak Try.prog 24 ajp:=(Ey 1048576)
def f32 (p0:gQ) (p1:Int) (p2:Int) (p3:kG):Option (gQ×Int×Int×kG):=
 OB (f43 p0 p1 p2 p3) fun c0=>
 let n1:=(c0.length:Int)
 ck (zf (8:Nat) n1 n1) <|
 OB (
  aY (fun (s3:(Int×Int×dX))=>
   bif (decide (s3.2.1<(c0.length:Int))) then
    ck (inB s3.2.1 s3.2.2.length) <|
    ck (inB s3.2.1 c0.length) <|
    OB (
     bif (List.getD c0 s3.2.1.toNat false) then
      some (bW (s3.1+1))
     else
      some s3.1) fun s9=>
    some (.inl (s9,(bW (s3.2.1+1)),(List.set s3.2.2 s3.2.1.toNat s3.1)))
   else
    some (.inr s3.2.2)) ((0:Int),(0:Int),(List.replicate n1.toNat (0:Int)))) fun s11=>
 OB (
  aY (fun (s12:(Int×gQ×Int×Int×kG))=>
   bif (decide (s12.1<(c0.length:Int))) then
    OB (
     ck (inB s12.1 c0.length) <|
     bif (!(List.getD c0 s12.1.toNat false)) then
      some (s12.2.1,s12.2.2.1,s12.2.2.2.1,s12.2.2.2.2)
     else
      ck (inB s12.1 p3.length) <|
      let n17:=(List.getD p3 s12.1.toNat aj)
      OB (
       bif (!(decide (n17.aU=3))) then
        ck (inB n17.dQ s11.length) <|
        some (n17.instrs,n17.aU,n17.qI,(List.getD s11 (Int.toNat n17.dQ) 0),n17.bC,n17.line,n17.jl,n17.iE)
       else
        some (n17.instrs,n17.aU,n17.qI,n17.dQ,n17.bC,n17.line,n17.jl,n17.iE)) fun s20=>
      OB (
       bif (decide (s20.2.1=2)) then
        ck (inB s20.2.2.2.2.1 s11.length) <|
        some (s20.1,s20.2.1,s20.2.2.1,s20.2.2.2.1,(List.getD s11 s20.2.2.2.2.1.toNat 0),s20.2.2.2.2.2.1,s20.2.2.2.2.2.2.1,s20.2.2.2.2.2.2.2)
       else
        some (s20.1,s20.2.1,s20.2.2.1,s20.2.2.2.1,s20.2.2.2.2.1,s20.2.2.2.2.2.1,s20.2.2.2.2.2.2.1,s20.2.2.2.2.2.2.2)) fun s23=>
      let n24:=[(aH.mk s23.1 s23.2.1 s23.2.2.1 s23.2.2.2.1 s23.2.2.2.2.1 s23.2.2.2.2.2.1 s23.2.2.2.2.2.2.1 s23.2.2.2.2.2.2.2)]
      ck (bG s12.2.2.2.2.length n24.length 80) <|
      some (s12.2.1,s12.2.2.1,s12.2.2.2.1,(s12.2.2.2.2++n24))) fun s26=>
    some (.inl ((bW (s12.1+1)),s26.1,s26.2.1,s26.2.2.1,s26.2.2.2))
   else
    some (.inr (s12.2.1,s12.2.2.1,s12.2.2.2.1,s12.2.2.2.2))) ((0:Int),p0,p1,p2,([]:kG))) fun C_=>
 some (C_.1,C_.2.1,C_.2.2.1,C_.2.2.2)
def ajq:aQ:=⟨amF,u4 f32⟩
theorem adq:ak Try.prog 32 ajq:=
 ts [(43,agi)] ety [.cell 2 33] amG Try.func32 rfl ⟨Vr,trivial⟩
def f35 (p0:gQ) (p1:Int) (p2:aS) (p3:oC):Option aS:=
 ck (true&&(decide ((((List.length jH)+p2.length)*(16:Nat))≤(140737488355328:Nat)))) <|
 OB (f46 p3 (jH++p2)) fun c1=>
 some c1
def agE:aQ:=⟨amH,u4 f35⟩
theorem VD:ak Try.prog 35 agE:=
 ts [(46,ai_)] ety [.tmp 2] amI Try.func35 rfl ⟨ac1,trivial⟩
def adr (KF:XY) (VE:T47) (VF:T67) (VG:T70) (p0:oC) (p1:dG) (p2:(List au)) (p3:aS) (p4:Int) (p5:Int) (p6:Int) (p7:kG):Option (Bool×dG×(List au)×aS×Int×Int×Int×kG):=
 dn (
  aY (fun (s0:(Int×dG×(List au)×aS×Int×Int×Int×kG))=>
   bif (decide (s0.1<(p0.length:Int))) then
    ck (inB s0.1 p0.length) <|
    let n3:=(List.getD p0 s0.1.toNat jI)
    OB (VE n3.kind n3.line n3.name n3.exprs n3.then' n3.else' s0.2.1 s0.2.2.1 s0.2.2.2.1 s0.2.2.2.2.1 s0.2.2.2.2.2.1 s0.2.2.2.2.2.2.1 s0.2.2.2.2.2.2.2) fun c4=>
    bif (!c4.1) then
     some (.inr (.inr (false,c4.2.1,c4.2.2.1,c4.2.2.2.1,c4.2.2.2.2.1,c4.2.2.2.2.2.1,c4.2.2.2.2.2.2.1,c4.2.2.2.2.2.2.2)))
    else
     some (.inl ((bW (s0.1+1)),c4.2.1,c4.2.2.1,c4.2.2.2.1,c4.2.2.2.2.1,c4.2.2.2.2.2.1,c4.2.2.2.2.2.2.1,c4.2.2.2.2.2.2.2))
   else
    some (.inr (.inl (s0.2.1,s0.2.2.1,s0.2.2.2.1,s0.2.2.2.2.1,s0.2.2.2.2.2.1,s0.2.2.2.2.2.2.1,s0.2.2.2.2.2.2.2)))) ((0:Int),p1,p2,p3,p4,p5,p6,p7)) fun s7=>
 some (true,s7.1,s7.2.1,s7.2.2.1,s7.2.2.2.1,s7.2.2.2.2.1,s7.2.2.2.2.2.1,s7.2.2.2.2.2.2)
def ads (KF:XY) (VE:T47) (VF:T67) (VG:T70) (p0:Int) (p1:Int) (p2:gQ) (p3:lF) (p4:oC) (p5:oC) (p6:dG) (p7:(List au)) (p8:aS) (p9:Int) (p10:Int) (p11:Int) (p12:kG):Option (Bool×dG×(List au)×aS×Int×Int×Int×kG):=
 let n0:=(p8.length:Int)
 bif (decide (p0=5)) then
  OB (VF p0 p1 p2 p3 p4 p5 n0 p6 p7 p8 p9 p10 p11 p12) fun c2=>
  some (true,c2.1,c2.2.1,c2.2.2.1,c2.2.2.2.1,c2.2.2.2.2.1,c2.2.2.2.2.2.1,c2.2.2.2.2.2.2)
 else
  OB (
   aY (fun (s3:(Int×dG×(List au)×aS×Int×Int×Int×kG))=>
    bif (decide (s3.1<(p3.length:Int))) then
     ck (inB s3.1 p3.length) <|
     let n6:=(List.getD p3 s3.1.toNat gG)
     OB (f68 n6.kind n6.op n6.value n6.line n6.name n6.args (bW (n0+s3.1)) s3.2.1 s3.2.2.1 s3.2.2.2.1 s3.2.2.2.2.1 s3.2.2.2.2.2.1 s3.2.2.2.2.2.2.1 s3.2.2.2.2.2.2.2) fun c8=>
     some (.inl ((bW (s3.1+1)),c8.1,c8.2.1,c8.2.2.1,c8.2.2.2.1,c8.2.2.2.2.1,c8.2.2.2.2.2.1,c8.2.2.2.2.2.2))
    else
     some (.inr (s3.2.1,s3.2.2.1,s3.2.2.2.1,s3.2.2.2.2.1,s3.2.2.2.2.2.1,s3.2.2.2.2.2.2.1,s3.2.2.2.2.2.2.2))) ((0:Int),p6,p7,p8,p9,p10,p11,p12)) fun s10=>
  OB (
   bif (decide (p0=1)) then
    some true
   else
    some (decide (p0=2))) fun s13=>
  dn (
   bif s13 then
    OB (f69 p2 s10.1 s10.2.1 s10.2.2.1 s10.2.2.2.1 s10.2.2.2.2.1 s10.2.2.2.2.2.1 s10.2.2.2.2.2.2) fun c14=>
    OB (
     bif (decide (0≤c14.1)) then
      OB (f38 2 0 c14.1 n0 0 0 eInt c14.2.1 c14.2.2.1 c14.2.2.2.1 c14.2.2.2.2.1 c14.2.2.2.2.2.1 c14.2.2.2.2.2.2.1 s10.2.2.2.2.2.2) fun c16=>
      some (c16.1,c16.2.1,c16.2.2.1,c16.2.2.2.1,c16.2.2.2.2.1,c16.2.2.2.2.2.1,c16.2.2.2.2.2.2)
     else
      OB (f49 c14.2.1 c14.2.2.1 p2) fun c17=>
      OB (f38 6 0 0 n0 0 c17 eInt c14.2.1 c14.2.2.1 c14.2.2.2.1 c14.2.2.2.2.1 c14.2.2.2.2.2.1 c14.2.2.2.2.2.2.1 s10.2.2.2.2.2.2) fun c18=>
      some (c18.1,c18.2.1,c18.2.2.1,c18.2.2.2.1,c18.2.2.2.2.1,c18.2.2.2.2.2.1,c18.2.2.2.2.2.2)) fun uT=>
    some (.inl (uT.1,uT.2.1,uT.2.2.1,uT.2.2.2.1,uT.2.2.2.2.1,uT.2.2.2.2.2.1,uT.2.2.2.2.2.2))
   else
    dn (
     bif (decide (p0=3)) then
      OB (f49 s10.1 s10.2.1 p2) fun I8=>
      OB (f38 8 0 0 n0 (bW (n0+1)) I8 eInt s10.1 s10.2.1 s10.2.2.1 s10.2.2.2.1 s10.2.2.2.2.1 s10.2.2.2.2.2.1 s10.2.2.2.2.2.2) fun c23=>
      some (.inl (c23.1,c23.2.1,c23.2.2.1,c23.2.2.2.1,c23.2.2.2.2.1,c23.2.2.2.2.2.1,c23.2.2.2.2.2.2))
     else
      bif (decide (p0=6)) then
       OB (f39 s10.2.2.2.2.2.1 3 n0 0 0 s10.1 s10.2.1 s10.2.2.1 s10.2.2.2.1 s10.2.2.2.2.1 s10.2.2.2.2.2.1 s10.2.2.2.2.2.2) fun c25=>
       some (.inr (.inr (false,c25.1,c25.2.1,c25.2.2.1,c25.2.2.2.1,c25.2.2.2.2.1,c25.2.2.2.2.2.1,c25.2.2.2.2.2.2)))
      else
       dn (
        bif (decide (p0=7)) then
         OB (f38 10 0 0 n0 0 0 eInt s10.1 s10.2.1 s10.2.2.1 s10.2.2.2.1 s10.2.2.2.2.1 s10.2.2.2.2.2.1 s10.2.2.2.2.2.2) fun Jt=>
         some (.inl (Jt.1,Jt.2.1,Jt.2.2.1,Jt.2.2.2.1,Jt.2.2.2.2.1,Jt.2.2.2.2.2.1,Jt.2.2.2.2.2.2))
        else
         bif (decide (p0=4)) then
          OB (VG p0 p1 p2 p3 p4 p5 n0 s10.1 s10.2.1 s10.2.2.1 s10.2.2.2.1 s10.2.2.2.2.1 s10.2.2.2.2.2.1 s10.2.2.2.2.2.2) fun c29=>
          some (.inr (.inr (.inr (c29.1,c29.2.1,c29.2.2.1,c29.2.2.2.1,c29.2.2.2.2.1,c29.2.2.2.2.2.1,c29.2.2.2.2.2.2.1,c29.2.2.2.2.2.2.2))))
         else
          some (.inl (s10.1,s10.2.1,s10.2.2.1,s10.2.2.2.1,s10.2.2.2.2.1,s10.2.2.2.2.2.1,s10.2.2.2.2.2.2))) fun uI=>
       some (.inl (uI.1,uI.2.1,uI.2.2.1,uI.2.2.2.1,uI.2.2.2.2.1,uI.2.2.2.2.2.1,uI.2.2.2.2.2.2))) fun ES=>
    some (.inl (ES.1,ES.2.1,ES.2.2.1,ES.2.2.2.1,ES.2.2.2.2.1,ES.2.2.2.2.2.1,ES.2.2.2.2.2.2))) fun pX=>
  some (true,pX.1,pX.2.1,pX.2.2.1,pX.2.2.2.1,pX.2.2.2.2.1,pX.2.2.2.2.2.1,pX.2.2.2.2.2.2)
def adt (KF:XY) (VE:T47) (VF:T67) (VG:T70) (p0:Int) (p1:Int) (p2:gQ) (p3:lF) (p4:oC) (p5:oC) (p6:Int) (p7:dG) (p8:(List au)) (p9:aS) (p10:Int) (p11:Int) (p12:Int) (p13:kG):Option (dG×(List au)×aS×Int×Int×Int×kG):=
 OB (f36 p1 p7 p8 p9 p10 p11 p12 p13) fun c0=>
 OB (f39 p12 1 0 c0.1 0 c0.2.1 c0.2.2.1 c0.2.2.2.1 c0.2.2.2.2.1 c0.2.2.2.2.2.1 c0.2.2.2.2.2.2.1 c0.2.2.2.2.2.2.2) fun c1=>
 ck (inB (0:Int) p3.length) <|
 let n2:=(List.getD p3 (Int.toNat 0) gG)
 OB (f68 n2.kind n2.op n2.value n2.line n2.name n2.args p6 c1.1 c1.2.1 c1.2.2.1 c1.2.2.2.1 c1.2.2.2.2.1 c1.2.2.2.2.2.1 c1.2.2.2.2.2.2) fun c3=>
 OB (f36 p1 c3.1 c3.2.1 c3.2.2.1 c3.2.2.2.1 c3.2.2.2.2.1 c3.2.2.2.2.2.1 c3.2.2.2.2.2.2) fun c4=>
 OB (KF p4 c4.2.1 c4.2.2.1 c4.2.2.2.1 c4.2.2.2.2.1 c4.2.2.2.2.2.1 c4.2.2.2.2.2.2.1 c4.2.2.2.2.2.2.2) fun c5=>
 OB (
  bif c5.1 then
   OB (f39 c5.2.2.2.2.2.2.1 1 0 c0.1 0 c5.2.1 c5.2.2.1 c5.2.2.2.1 c5.2.2.2.2.1 c5.2.2.2.2.2.1 c5.2.2.2.2.2.2.1 c5.2.2.2.2.2.2.2) fun c6=>
   some (c6.1,c6.2.1,c6.2.2.1,c6.2.2.2.1,c6.2.2.2.2.1,c6.2.2.2.2.2.1,c6.2.2.2.2.2.2)
  else
   some (c5.2.1,c5.2.2.1,c5.2.2.2.1,c5.2.2.2.2.1,c5.2.2.2.2.2.1,c5.2.2.2.2.2.2.1,c5.2.2.2.2.2.2.2)) fun s7=>
 OB (f36 p1 s7.1 s7.2.1 s7.2.2.1 s7.2.2.2.1 s7.2.2.2.2.1 s7.2.2.2.2.2.1 s7.2.2.2.2.2.2) fun c8=>
 OB (f39 c3.2.2.2.2.2.1 2 p6 c4.1 c8.1 c8.2.1 c8.2.2.1 c8.2.2.2.1 c8.2.2.2.2.1 c8.2.2.2.2.2.1 c8.2.2.2.2.2.2.1 c8.2.2.2.2.2.2.2) fun c9=>
 some (c9.1,c9.2.1,c9.2.2.1,c9.2.2.2.1,c9.2.2.2.2.1,c9.2.2.2.2.2.1,c9.2.2.2.2.2.2)
def adu (KF:XY) (VE:T47) (VF:T67) (VG:T70) (p0:Int) (p1:Int) (p2:gQ) (p3:lF) (p4:oC) (p5:oC) (p6:Int) (p7:dG) (p8:(List au)) (p9:aS) (p10:Int) (p11:Int) (p12:Int) (p13:kG):Option (Bool×dG×(List au)×aS×Int×Int×Int×kG):=
 OB (f36 p1 p7 p8 p9 p10 p11 p12 p13) fun c0=>
 OB (KF p4 c0.2.1 c0.2.2.1 c0.2.2.2.1 c0.2.2.2.2.1 c0.2.2.2.2.2.1 c0.2.2.2.2.2.2.1 c0.2.2.2.2.2.2.2) fun c1=>
 bif (decide ((p5.length:Int)=0)) then
  OB (f36 p1 c1.2.1 c1.2.2.1 c1.2.2.2.1 c1.2.2.2.2.1 c1.2.2.2.2.2.1 c1.2.2.2.2.2.2.1 c1.2.2.2.2.2.2.2) fun c4=>
  OB (f39 p12 2 p6 c0.1 c4.1 c4.2.1 c4.2.2.1 c4.2.2.2.1 c4.2.2.2.2.1 c4.2.2.2.2.2.1 c4.2.2.2.2.2.2.1 c4.2.2.2.2.2.2.2) fun c5=>
  OB (
   bif c1.1 then
    OB (f39 c1.2.2.2.2.2.2.1 1 0 c4.1 0 c5.1 c5.2.1 c5.2.2.1 c5.2.2.2.1 c5.2.2.2.2.1 c5.2.2.2.2.2.1 c5.2.2.2.2.2.2) fun c6=>
    some (c6.1,c6.2.1,c6.2.2.1,c6.2.2.2.1,c6.2.2.2.2.1,c6.2.2.2.2.2.1,c6.2.2.2.2.2.2)
   else
    some (c5.1,c5.2.1,c5.2.2.1,c5.2.2.2.1,c5.2.2.2.2.1,c5.2.2.2.2.2.1,c5.2.2.2.2.2.2)) fun s7=>
  some (true,s7.1,s7.2.1,s7.2.2.1,s7.2.2.2.1,s7.2.2.2.2.1,s7.2.2.2.2.2.1,s7.2.2.2.2.2.2)
 else
  OB (f36 p1 c1.2.1 c1.2.2.1 c1.2.2.2.1 c1.2.2.2.2.1 c1.2.2.2.2.2.1 c1.2.2.2.2.2.2.1 c1.2.2.2.2.2.2.2) fun c8=>
  OB (f39 p12 2 p6 c0.1 c8.1 c8.2.1 c8.2.2.1 c8.2.2.2.1 c8.2.2.2.2.1 c8.2.2.2.2.2.1 c8.2.2.2.2.2.2.1 c8.2.2.2.2.2.2.2) fun c9=>
  OB (KF p5 c9.1 c9.2.1 c9.2.2.1 c9.2.2.2.1 c9.2.2.2.2.1 c9.2.2.2.2.2.1 c9.2.2.2.2.2.2) fun c10=>
  OB (
   bif (!c1.1) then
    some (!c10.1)
   else
    some false) fun s14=>
  bif s14 then
   some (false,c10.2.1,c10.2.2.1,c10.2.2.2.1,c10.2.2.2.2.1,c10.2.2.2.2.2.1,c10.2.2.2.2.2.2.1,c10.2.2.2.2.2.2.2)
  else
   OB (f36 p1 c10.2.1 c10.2.2.1 c10.2.2.2.1 c10.2.2.2.2.1 c10.2.2.2.2.2.1 c10.2.2.2.2.2.2.1 c10.2.2.2.2.2.2.2) fun c15=>
   OB (
    bif c1.1 then
     OB (f39 c1.2.2.2.2.2.2.1 1 0 c15.1 0 c15.2.1 c15.2.2.1 c15.2.2.2.1 c15.2.2.2.2.1 c15.2.2.2.2.2.1 c15.2.2.2.2.2.2.1 c15.2.2.2.2.2.2.2) fun c16=>
     some (c16.1,c16.2.1,c16.2.2.1,c16.2.2.2.1,c16.2.2.2.2.1,c16.2.2.2.2.2.1,c16.2.2.2.2.2.2)
    else
     some (c15.2.1,c15.2.2.1,c15.2.2.2.1,c15.2.2.2.2.1,c15.2.2.2.2.2.1,c15.2.2.2.2.2.2.1,c15.2.2.2.2.2.2.2)) fun nZ=>
   OB (
    bif c10.1 then
     OB (f39 c10.2.2.2.2.2.2.1 1 0 c15.1 0 nZ.1 nZ.2.1 nZ.2.2.1 nZ.2.2.2.1 nZ.2.2.2.2.1 nZ.2.2.2.2.2.1 nZ.2.2.2.2.2.2) fun c18=>
     some (c18.1,c18.2.1,c18.2.2.1,c18.2.2.2.1,c18.2.2.2.2.1,c18.2.2.2.2.2.1,c18.2.2.2.2.2.2)
    else
     some (nZ.1,nZ.2.1,nZ.2.2.1,nZ.2.2.2.1,nZ.2.2.2.2.1,nZ.2.2.2.2.2.1,nZ.2.2.2.2.2.2)) fun uT=>
   some (true,uT.1,uT.2.1,uT.2.2.1,uT.2.2.2.1,uT.2.2.2.2.1,uT.2.2.2.2.2.1,uT.2.2.2.2.2.2)
def dZ:Nat→XY×T47×T67×T70
 |0=>(fun _ _ _ _ _ _ _ _=>none,fun _ _ _ _ _ _ _ _ _ _ _ _ _=>none,fun _ _ _ _ _ _ _ _ _ _ _ _ _ _=>none,fun _ _ _ _ _ _ _ _ _ _ _ _ _ _=>none)
 |n+1=>(adr (dZ n).1 (dZ n).2.1 (dZ n).2.2.1 (dZ n).2.2.2,ads (dZ n).1 (dZ n).2.1 (dZ n).2.2.1 (dZ n).2.2.2,adt (dZ n).1 (dZ n).2.1 (dZ n).2.2.1 (dZ n).2.2.2,adu (dZ n).1 (dZ n).2.1 (dZ n).2.2.1 (dZ n).2.2.2)
def XB (n:Nat):XY:=(dZ n).1
def w_ (n:Nat):aQ:=⟨aiL,u8 (dZ n).1⟩
def adv (n:Nat):T47:=(dZ n).2.1
def yF (n:Nat):aQ:=⟨aiN,u13 (dZ n).2.1⟩
def adw (n:Nat):T67:=(dZ n).2.2.1
def yG (n:Nat):aQ:=⟨aiP,u14 (dZ n).2.2.1⟩
def adx (n:Nat):T70:=(dZ n).2.2.2
def yH (n:Nat):aQ:=⟨aiR,u14 (dZ n).2.2.2⟩
theorem aau (n:Nat) (h37:ak Try.prog 37 (w_ n)) (h47:ak Try.prog 47 (yF n)) (h67:ak Try.prog 67 (yG n)) (h70:ak Try.prog 70 (yH n)):ak Try.prog 37 (w_ (n+1)):=
 ts [(37,w_ n),(47,yF n),(67,yG n),(70,yH n)] aiM [.tmp 4] amJ Try.func37 rfl ⟨h37,h47,h67,h70,trivial⟩
theorem aav (n:Nat) (h37:ak Try.prog 37 (w_ n)) (h47:ak Try.prog 47 (yF n)) (h67:ak Try.prog 67 (yG n)) (h70:ak Try.prog 70 (yH n)):ak Try.prog 47 (yF (n+1)):=
 ts [(68,agy),(69,agr),(38,Z8),(49,Z_),(39,XA),(37,w_ n),(47,yF n),(67,yG n),(70,yH n)] aiO [.tmp 4] amK Try.func47 rfl ⟨Vy,Vx,Fb,Fe,Ba,h37,h47,h67,h70,trivial⟩
theorem aaw (n:Nat) (h37:ak Try.prog 37 (w_ n)) (h47:ak Try.prog 47 (yF n)) (h67:ak Try.prog 67 (yG n)) (h70:ak Try.prog 70 (yH n)):ak Try.prog 67 (yG (n+1)):=
 ts [(36,Z7),(39,XA),(68,agy),(37,w_ n),(47,yF n),(67,yG n),(70,yH n)] aiQ [] amL Try.func67 rfl ⟨Fa,Ba,Vy,h37,h47,h67,h70,trivial⟩
theorem aax (n:Nat) (h37:ak Try.prog 37 (w_ n)) (h47:ak Try.prog 47 (yF n)) (h67:ak Try.prog 67 (yG n)) (h70:ak Try.prog 70 (yH n)):ak Try.prog 70 (yH (n+1)):=
 ts [(36,Z7),(39,XA),(37,w_ n),(47,yF n),(67,yG n),(70,yH n)] aiS [.tmp 6] amM Try.func70 rfl ⟨Fa,Ba,h37,h47,h67,h70,trivial⟩
theorem Ez :∀n,ak Try.prog 37 (w_ n)∧ak Try.prog 47 (yF n)∧ak Try.prog 67 (yG n)∧ak Try.prog 70 (yH n)
 |0=>⟨bP Try.func37 rfl rfl (show aiL.er.ok=true by decide +kernel) fun x=>rfl,bP Try.func47 rfl rfl (show aiN.er.ok=true by decide +kernel) fun x=>rfl,bP Try.func67 rfl rfl (show aiP.er.ok=true by decide +kernel) fun x=>rfl,bP Try.func70 rfl rfl (show aiR.er.ok=true by decide +kernel) fun x=>rfl⟩
 |n+1=>by
  have ih:=Ez n
  exact ⟨aau n (ih.1) (ih.2.1) (ih.2.2.1) (ih.2.2.2),aav n (ih.1) (ih.2.1) (ih.2.2.1) (ih.2.2.2),aaw n (ih.1) (ih.2.1) (ih.2.2.1) (ih.2.2.2),aax n (ih.1) (ih.2.1) (ih.2.2.1) (ih.2.2.2)⟩
def f37:XY:=XB 1048576
def ajr:aQ:=w_ 1048576
theorem adz:ak Try.prog 37 ajr:=(Ez 1048576).1
def agG (ae1:T54) (p0:oC) (p1:dG) (p2:(List au)) (p3:Int) (p4:Int) (p5:aS):Option (dG×(List au)×Int×Int×oC×aS):=
 OB (
  aY (fun (s0:(Int×dG×(List au)×Int×Int×oC×aS))=>
   bif (decide (s0.1<(p0.length:Int))) then
    ck (inB s0.1 p0.length) <|
    let n3:=(List.getD p0 s0.1.toNat jI)
    OB (
     aY (fun (s4:(Int×dG×(List au)×Int×Int×lF))=>
      bif (decide (s4.1<((List.length n3.exprs):Int))) then
       ck (inB s4.1 (List.length n3.exprs)) <|
       let n7:=(List.getD n3.exprs s4.1.toNat gG)
       OB (f74 n7.kind n7.op n7.value n7.line n7.name n7.args) fun c8=>
       OB (
        bif (decide (64<c8)) then
         ck (inB s4.1 (List.length n3.exprs)) <|
         OB (f75 (List.getD n3.exprs s4.1.toNat gG).line 5 s4.2.1 s4.2.2.1 s4.2.2.2.1 s4.2.2.2.2.1 s0.2.2.2.2.2.2) fun c11=>
         some (c11.1,c11.2.1,c11.2.2.1,c11.2.2.2.1)
        else
         some (s4.2.1,s4.2.2.1,s4.2.2.2.1,s4.2.2.2.2.1)) fun s12=>
       ck (inB s4.1 (List.length n3.exprs)) <|
       let n13:=(List.getD n3.exprs s4.1.toNat gG)
       OB (f76 n13.kind n13.op n13.value n13.line n13.name n13.args s12.1 s12.2.1 s12.2.2.1 s12.2.2.2 s0.2.2.2.2.2.2) fun c14=>
       let n15:=[(aV.mk c14.1 c14.2.1 c14.2.2.1 c14.2.2.2.1 c14.2.2.2.2.1 c14.2.2.2.2.2.2.2.2.2.2)]
       ck (bG s4.2.2.2.2.2.length n15.length 72) <|
       some (.inl ((bW (s4.1+1)),c14.2.2.2.2.2.1,c14.2.2.2.2.2.2.1,c14.2.2.2.2.2.2.2.1,c14.2.2.2.2.2.2.2.2.1,(s4.2.2.2.2.2++n15)))
      else
       some (.inr (s4.2.1,s4.2.2.1,s4.2.2.2.1,s4.2.2.2.2.1,s4.2.2.2.2.2))) ((0:Int),s0.2.1,s0.2.2.1,s0.2.2.2.1,s0.2.2.2.2.1,nY)) fun QM=>
    OB (f77 n3.name QM.1 QM.2.1 QM.2.2.1 QM.2.2.2.1 s0.2.2.2.2.2.2) fun c19=>
    OB (
     bif (decide (n3.kind=1)) then
      OB (
       bif (!(decide (c19.1=0))) then
        OB (f75 n3.line 9 c19.2.1 c19.2.2.1 c19.2.2.2.1 c19.2.2.2.2.1 s0.2.2.2.2.2.2) fun I8=>
        some (I8.1,I8.2.1,I8.2.2.1,I8.2.2.2.1)
       else
        some (c19.2.1,c19.2.2.1,c19.2.2.2.1,c19.2.2.2.2.1)) fun s23=>
      let n24:=[n3.name]
      ck (bG s0.2.2.2.2.2.2.length n24.length 16) <|
      some (s23.1,s23.2.1,s23.2.2.1,s23.2.2.2,(s0.2.2.2.2.2.2++n24))
     else
      OB (
       bif (decide (n3.kind=2)) then
        some true
       else
        some (decide (n3.kind=3))) fun C_=>
      OB (
       bif C_ then
        OB (
         bif (decide (c19.1=0)) then
          OB (f75 n3.line 8 c19.2.1 c19.2.2.1 c19.2.2.2.1 c19.2.2.2.2.1 s0.2.2.2.2.2.2) fun KC=>
          some (KC.1,KC.2.1,KC.2.2.1,KC.2.2.2.1)
         else
          OB (
           bif (decide (n3.kind=2)) then
            bif (!(decide (c19.1=1))) then
             bif (!(decide (c19.1=2))) then
              some true
             else
              bif (decide (n3.kind=3)) then
               some (!(decide (c19.1=3)))
              else
               some false
            else
             bif (decide (n3.kind=3)) then
              some (!(decide (c19.1=3)))
             else
              some false
           else
            bif (decide (n3.kind=3)) then
             some (!(decide (c19.1=3)))
            else
             some false) fun s51=>
          OB (
           bif s51 then
            OB (f75 n3.line 10 c19.2.1 c19.2.2.1 c19.2.2.2.1 c19.2.2.2.2.1 s0.2.2.2.2.2.2) fun XC=>
            some (XC.1,XC.2.1,XC.2.2.1,XC.2.2.2.1)
           else
            some (c19.2.1,c19.2.2.1,c19.2.2.2.1,c19.2.2.2.2.1)) fun s53=>
          some (s53.1,s53.2.1,s53.2.2.1,s53.2.2.2)) fun s54=>
        some (s54.1,s54.2.1,s54.2.2.1,s54.2.2.2)
       else
        some (c19.2.1,c19.2.2.1,c19.2.2.2.1,c19.2.2.2.2.1)) fun s55=>
      some (s55.1,s55.2.1,s55.2.2.1,s55.2.2.2,s0.2.2.2.2.2.2)) fun s56=>
    OB (ae1 n3.then' s56.1 s56.2.1 s56.2.2.1 s56.2.2.2.1 s56.2.2.2.2) fun c57=>
    OB (ae1 n3.else' c57.1 c57.2.1 c57.2.2.1 c57.2.2.2.1 c57.2.2.2.2.2) fun VH=>
    let n59:=[(dI.mk n3.kind n3.line n3.name QM.2.2.2.2 c57.2.2.2.2.1 VH.2.2.2.2.1)]
    ck (bG s0.2.2.2.2.2.1.length n59.length 104) <|
    some (.inl ((bW (s0.1+1)),VH.1,VH.2.1,VH.2.2.1,VH.2.2.2.1,(s0.2.2.2.2.2.1++n59),VH.2.2.2.2.2))
   else
    some (.inr (s0.2.1,s0.2.2.1,s0.2.2.2.1,s0.2.2.2.2.1,s0.2.2.2.2.2.1,s0.2.2.2.2.2.2))) ((0:Int),p1,p2,p3,p4,g_,p5)) fun s62=>
 some (s62.1,s62.2.1,s62.2.2.1,s62.2.2.2.1,s62.2.2.2.2.1,s62.2.2.2.2.2)
def Tz:Nat→T54
 |0=>(fun _ _ _ _ _ _=>none)
 |n+1=>(agG (Tz n))
def agH (n:Nat):T54:=(Tz n)
def Qo (n:Nat):aQ:=⟨aiT,u6 (Tz n)⟩
theorem aaz (n:Nat) (h54:ak Try.prog 54 (Qo n)):ak Try.prog 54 (Qo (n+1)):=
 ts [(74,aje),(75,ac6),(76,ajn),(77,aaf),(54,Qo n)] ety [.tmp 4] amN Try.func54 rfl ⟨ac5,Nu,adk,Fj,h54,trivial⟩
theorem EC :∀n,ak Try.prog 54 (Qo n)
 |0=>bP Try.func54 rfl rfl (show aiT.er.ok=true by decide +kernel) fun x=>rfl
 |n+1=>by
  have ih:=EC n
  exact aaz n (ih)
def f54:T54:=agH 1048576
def ajs:aQ:=Qo 1048576
theorem adB:ak Try.prog 54 ajs:=(EC 1048576)
def f72 (p0:dG) (p1:NK) (p2:Int) (p3:Int) (p4:gQ) (p5:Int) (p6:Int) (p7:kG) (p8:Int) (p9:Int) (p10:Int) (p11:Int) (p12:Int) (p13:Int) (p14:dX):Option Int:=
 OB (
  bif (decide (p8<1)) then
   some true
  else
   bif (decide (14<p8)) then
    some true
   else
    bif (decide (p8=3)) then
     bif (!(decide (p9=1))) then
      bif (!(decide (p9=2))) then
       some true
      else
       bif (decide (p8=4)) then
        bif (decide (p9<3)) then
         some true
        else
         some (decide (11<p9))
       else
        some false
     else
      bif false then
       some true
      else
       bif (decide (p8=4)) then
        bif (decide (p9<3)) then
         some true
        else
         some (decide (11<p9))
       else
        some false
    else
     bif false then
      some true
     else
      bif (decide (p8=4)) then
       bif (decide (p9<3)) then
        some true
       else
        some (decide (11<p9))
      else
       some false) fun qK=>
 bif qK then
  some (17:Int)
 else
  OB (f87 p8 p9 p10 p11 p12 p13 p14) fun c39=>
  OB (f88 p8 p9 p10 p11 p12 p13 p14) fun c40=>
  OB (
   bif c40.2 then
    let n41:=[c40.1]
    ck (bG c39.length n41.length 8) <|
    some (c39++n41)
   else
    some c39) fun s43=>
  dn (
   aY (fun (s44:Int)=>
    bif (decide (s44<(s43.length:Int))) then
     OB (
      ck (inB s44 s43.length) <|
      bif (decide ((List.getD s43 s44.toNat 0)<0)) then
       some true
      else
       ck (inB s44 s43.length) <|
       some (decide (p6≤(List.getD s43 s44.toNat 0)))) fun s52=>
     bif s52 then
      some (.inr (.inr (14:Int)))
     else
      some (.inl (bW (s44+1)))
    else
     some (.inr (.inl ()))) (0:Int)) fun s54=>
  OB (
   bif (decide (p8=5)) then
    some true
   else
    some (decide (p8=6))) fun s57=>
  dn (
   bif s57 then
    OB (f89 p0 p1 p2 p3 p13 false) fun VH=>
    bif (!VH) then
     some (.inr (16:Int))
    else
     some (.inl ())
   else
    OB (
     bif (decide (p8=7)) then
      some true
     else
      some (decide (p8=8))) fun s62=>
    dn (
     bif s62 then
      OB (f89 p0 p1 p2 p3 p13 true) fun c63=>
      bif (!c63) then
       some (.inr (.inr (16:Int)))
      else
       some (.inl ())
     else
      dn (
       bif (decide (p8=11)) then
        OB (
         bif (decide (p13<0)) then
          some true
         else
          some (decide ((p1.length:Int)≤p13))) fun s70=>
        bif s70 then
         some (.inr (.inr (.inr (15:Int))))
        else
         ck (inB p13 p1.length) <|
         bif (!(decide ((List.getD p1 p13.toNat aC).params=(p14.length:Int)))) then
          some (.inr (.inr (.inr (11:Int))))
         else
          some (.inl ())
       else
        dn (
         bif (decide (p8=12)) then
          bif (decide (250<(p14.length:Int))) then
           some (.inr (.inr (.inr (.inr (11:Int)))))
          else
           some (.inl ())
         else
          dn (
           bif (decide (p8=14)) then
            OB (
             bif (decide (p13<0)) then
              some true
             else
              some (decide (p2≤p13))) fun s81=>
            bif s81 then
             some (.inr (.inr (.inr (.inr (.inr (15:Int))))))
            else
             some (.inl ())
           else
            dn (
             bif (decide (p8=13)) then
              OB (
               bif (decide (p13<0)) then
                some true
               else
                some (decide (p3≤p13))) fun s86=>
              bif s86 then
               some (.inr (.inr (.inr (.inr (.inr (.inr (1:Int)))))))
              else
               some (.inl ())
             else
              some (.inl ())) fun s87=>
            some (.inl ())) fun s88=>
          some (.inl ())) fun s89=>
        some (.inl ())) fun s90=>
      some (.inl ())) fun s91=>
    some (.inl ())) fun s92=>
  some (0:Int)
def ajt:aQ:=⟨amO,u15 f72⟩
theorem adC:ak Try.prog 72 ajt:=
 ts [(87,ajh),(88,aji),(89,ajj)] ety [.tmp 6] amP Try.func72 rfl ⟨ac_,ada,adb,trivial⟩
def agJ (p0:Int) (p1:dX) (p2:Int) (p3:dG) (p4:(List au)) (p5:aS):Option (gQ×Bool×Int×dX×Int×dG×(List au)×aS):=
 OB (
  OB (f100) fun c0=>
  dn (
   aY (fun (s1:Int)=>
    bif (decide (s1<(c0.length:Int))) then
     OB (
      aY (fun (s4:(Bool×Int))=>
       bif (decide (s4.2<(p5.length:Int))) then
        OB (
         bif s4.1 then
          some true
         else
          ck (inB s4.2 p5.length) <|
          ck (inB s1 c0.length) <|
          some ((List.getD p5 s4.2.toNat cO)==(List.getD c0 s1.toNat cO))) fun s11=>
        some (.inl (s11,(bW (s4.2+1))))
       else
        some (.inr s4.1)) (false,(0:Int))) fun s13=>
     bif (!s13) then
      ck (inB s1 c0.length) <|
      some (.inr (.inr ((List.getD c0 s1.toNat cO),true,p0,p1,p2,p3,p4,p5)))
     else
      some (.inl (bW (s1+1)))
    else
     some (.inr (.inl ()))) (0:Int)) fun nZ=>
  some (cO,false,p0,p1,p2,p3,p4,p5)) fun QM=>
 ck (decide (p3.length=QM.2.2.2.2.2.1.length)) <|
 ck (decide (p4.length=QM.2.2.2.2.2.2.1.length)) <|
 ck (decide (p5.length=QM.2.2.2.2.2.2.2.length)) <|
 some QM
def f93 (p0:Int) (p1:dX) (p2:Int) (p3:dG) (p4:(List au)) (p5:aS):Option (gQ×Bool×Int×dX×Int×dG×(List au)×aS):=OB (agJ p0 p1 p2 p3 p4 p5) fun (y:(gQ×Bool×Int×dX×Int×dG×(List au)×aS))=>uY y.2.2.2.2.2.1 p3 <| uY y.2.2.2.2.2.2.1 p4 <| uY y.2.2.2.2.2.2.2 p5 <| some y
def aju:aQ:=⟨amQ,u6 agJ⟩
theorem adD:ak Try.prog 93 aju:=
 ts [(100,aeZ)] ety [.tmp 2,.tmp 3] amR Try.func93 rfl ⟨aaq,trivial⟩
def XD (xk:T95) (ae4:T98) (p0:Int) (p1:Int) (p2:dX) (p3:Int) (p4:dG) (p5:(List au)) (p6:aS):Option (Int×Int×Int×Int×gQ×lF×Int×dX×Int×dG×(List au)×aS):=
 OB (
  OB (
   bif (decide (p0<1)) then
    some (true,p2,p3)
   else
    OB (f16 3 p2 p3) fun c1=>
    some ((decide (c1.1=0)),c1.2.1,c1.2.2)) fun s4=>
  bif s4.1 then
   OB (f101 p1 s4.2.1 s4.2.2 p4 p5 p6) fun c5=>
   some (c5.1,c5.2.1,c5.2.2.1,c5.2.2.2.1,c5.2.2.2.2.1,nY,c5.2.2.2.2.2.1,c5.2.2.2.2.2.2.1,c5.2.2.2.2.2.2.2.1,p4,p5,p6)
  else
   OB (f16 9 s4.2.1 s4.2.2) fun c6=>
   bif (decide (c6.1=0)) then
    OB (f16 2 c6.2.1 c6.2.2) fun c8=>
    OB (xk (bW (p0-1)) p1 c8.2.1 c8.2.2 p4 p5 p6) fun c11=>
    OB (f102 5 (bW (1+c8.1)) [(aV.mk c11.1 c11.2.1 c11.2.2.1 c11.2.2.2.1 c11.2.2.2.2.1 c11.2.2.2.2.2.1)]) fun c13=>
    some (c13.1,c13.2.1,c13.2.2.1,c13.2.2.2.1,c13.2.2.2.2.1,c13.2.2.2.2.2,c11.2.2.2.2.2.2.1,c11.2.2.2.2.2.2.2.1,c11.2.2.2.2.2.2.2.2.1,p4,p5,p6)
   else
    bif (decide (c6.1=1)) then
     OB (xk (bW (p0-1)) p1 c6.2.1 c6.2.2 p4 p5 p6) fun c16=>
     OB (xk (bW (p0-1)) c16.2.2.2.2.2.2.1 c16.2.2.2.2.2.2.2.1 c16.2.2.2.2.2.2.2.2.1 p4 p5 p6) fun c18=>
     OB (f102 7 0 [(aV.mk c16.1 c16.2.1 c16.2.2.1 c16.2.2.2.1 c16.2.2.2.2.1 c16.2.2.2.2.2.1),(aV.mk c18.1 c18.2.1 c18.2.2.1 c18.2.2.2.1 c18.2.2.2.2.1 c18.2.2.2.2.2.1)]) fun c20=>
     some (c20.1,c20.2.1,c20.2.2.1,c20.2.2.2.1,c20.2.2.2.2.1,c20.2.2.2.2.2,c18.2.2.2.2.2.2.1,c18.2.2.2.2.2.2.2.1,c18.2.2.2.2.2.2.2.2.1,p4,p5,p6)
    else
     bif (decide (c6.1=2)) then
      OB (xk (bW (p0-1)) p1 c6.2.1 c6.2.2 p4 p5 p6) fun c23=>
      OB (xk (bW (p0-1)) c23.2.2.2.2.2.2.1 c23.2.2.2.2.2.2.2.1 c23.2.2.2.2.2.2.2.2.1 p4 p5 p6) fun c25=>
      OB (f102 8 0 [(aV.mk c23.1 c23.2.1 c23.2.2.1 c23.2.2.2.1 c23.2.2.2.2.1 c23.2.2.2.2.2.1),(aV.mk c25.1 c25.2.1 c25.2.2.1 c25.2.2.2.1 c25.2.2.2.2.1 c25.2.2.2.2.2.1)]) fun Jt=>
      some (Jt.1,Jt.2.1,Jt.2.2.1,Jt.2.2.2.1,Jt.2.2.2.2.1,Jt.2.2.2.2.2,c25.2.2.2.2.2.2.1,c25.2.2.2.2.2.2.2.1,c25.2.2.2.2.2.2.2.2.1,p4,p5,p6)
     else
      OB (
       bif (decide (c6.1=3)) then
        some true
       else
        some (decide (c6.1=4))) fun uI=>
      bif uI then
       OB (ae4 p0 p1 c6.2.1 c6.2.2 p4 p5 p6) fun c31=>
       some (c31.1,c31.2.1,c31.2.2.1,c31.2.2.2.1,c31.2.2.2.2.1,c31.2.2.2.2.2.2.2.2.2.2.2,c31.2.2.2.2.2.1,c31.2.2.2.2.2.2.1,c31.2.2.2.2.2.2.2.1,p4,p5,p6)
      else
       dn (
        bif (decide (c6.1=5)) then
         OB (f96 true p1 c6.2.1 c6.2.2 p4 p5 p6) fun KD=>
         bif KD.2.1 then
          OB (xk (bW (p0-1)) KD.2.2.1 KD.2.2.2.1 KD.2.2.2.2.1 p4 p5 p6) fun Dc=>
          some (.inr ((4:Int),(0:Int),(0:Int),(0:Int),KD.1,[(aV.mk Dc.1 Dc.2.1 Dc.2.2.1 Dc.2.2.2.1 Dc.2.2.2.2.1 Dc.2.2.2.2.2.1)],Dc.2.2.2.2.2.2.1,Dc.2.2.2.2.2.2.2.1,Dc.2.2.2.2.2.2.2.2.1,p4,p5,p6))
         else
          some (.inl (KD.2.2.1,KD.2.2.2.1,KD.2.2.2.2.1))
        else
         some (.inl (p1,c6.2.1,c6.2.2))) fun A_=>
       OB (f16 9 A_.2.1 A_.2.2) fun c38=>
       OB (xk (bW (p0-1)) A_.1 c38.2.1 c38.2.2 p4 p5 p6) fun TB=>
       OB (xk (bW (p0-1)) TB.2.2.2.2.2.2.1 TB.2.2.2.2.2.2.2.1 TB.2.2.2.2.2.2.2.2.1 p4 p5 p6) fun TD=>
       OB (f102 6 (bW (3+c38.1)) [(aV.mk TB.1 TB.2.1 TB.2.2.1 TB.2.2.2.1 TB.2.2.2.2.1 TB.2.2.2.2.2.1),(aV.mk TD.1 TD.2.1 TD.2.2.1 TD.2.2.2.1 TD.2.2.2.2.1 TD.2.2.2.2.2.1)]) fun IG=>
       some (IG.1,IG.2.1,IG.2.2.1,IG.2.2.2.1,IG.2.2.2.2.1,IG.2.2.2.2.2,TD.2.2.2.2.2.2.1,TD.2.2.2.2.2.2.2.1,TD.2.2.2.2.2.2.2.2.1,p4,p5,p6)) fun s46=>
 ck (decide (p4.length=s46.2.2.2.2.2.2.2.2.2.1.length)) <|
 ck (decide (p5.length=s46.2.2.2.2.2.2.2.2.2.2.1.length)) <|
 ck (decide (p6.length=s46.2.2.2.2.2.2.2.2.2.2.2.length)) <|
 some s46
def k95 (p0:Int) (p1:Int) (p2:dX) (p3:Int) (p4:dG) (p5:(List au)) (p6:aS) (r:Option (Int×Int×Int×Int×gQ×lF×Int×dX×Int×dG×(List au)×aS)):Option (Int×Int×Int×Int×gQ×lF×Int×dX×Int×dG×(List au)×aS):=OB r fun (y:(Int×Int×Int×Int×gQ×lF×Int×dX×Int×dG×(List au)×aS))=>uY y.2.2.2.2.2.2.2.2.2.1 p4 <| uY y.2.2.2.2.2.2.2.2.2.2.1 p5 <| uY y.2.2.2.2.2.2.2.2.2.2.2 p6 <| some y
def adE (xk:T95) (ae4:T98) (p0:Int) (p1:Int) (p2:dX) (p3:Int) (p4:dG) (p5:(List au)) (p6:aS):Option (Int×Int×Int×Int×gQ×Int×dX×Int×dG×(List au)×aS×lF):=
 OB (
  OB (f16 (p5.length:Int) p2 p3) fun c1=>
  ck (inB c1.1 p5.length) <|
  let n2:=(List.getD p5 c1.1.toNat fK)
  OB (f16 3 c1.2.1 c1.2.2) fun c4=>
  let n5:=(decide (c4.1=2))
  OB (
   bif n5 then
    OB (f16 8 c4.2.1 c4.2.2) fun c6=>
    some ((decide (c6.1=7)),c6.2.1,c6.2.2)
   else
    some (false,c4.2.1,c4.2.2)) fun s9=>
  OB (
   bif s9.1 then
    OB (f16 3 s9.2.1 s9.2.2) fun c10=>
    some (c10.1,c10.2.1,c10.2.2)
   else
    some (((List.length n2.params):Int),s9.2.1,s9.2.2)) fun s11=>
  OB (
   aY (fun (s12:(Int×Int×dX×Int×lF))=>
    bif (decide (s12.1<s11.1)) then
     OB (xk (bW (p0-1)) s12.2.1 s12.2.2.1 s12.2.2.2.1 p4 p5 p6) fun c15=>
     let n16:=[(aV.mk c15.1 c15.2.1 c15.2.2.1 c15.2.2.2.1 c15.2.2.2.2.1 c15.2.2.2.2.2.1)]
     ck (bG s12.2.2.2.2.length n16.length 72) <|
     some (.inl ((bW (s12.1+1)),c15.2.2.2.2.2.2.1,c15.2.2.2.2.2.2.2.1,c15.2.2.2.2.2.2.2.2.1,(s12.2.2.2.2++n16)))
    else
     some (.inr (s12.2.1,s12.2.2.1,s12.2.2.2.1,s12.2.2.2.2))) ((0:Int),p1,s11.2.1,s11.2.2,nY)) fun uT=>
  bif (!n5) then
   some ((9:Int),(0:Int),(0:Int),(0:Int),n2.name,uT.1,uT.2.1,uT.2.2.1,p4,p5,p6,uT.2.2.2)
  else
   OB (f16 4 uT.2.1 uT.2.2.1) fun c21=>
   OB (
    bif (decide (c21.1=3)) then
     OB (xk (bW (p0-1)) uT.1 c21.2.1 c21.2.2 p4 p5 p6) fun c24=>
     some (c24.2.2.2.2.2.2.1,c24.2.2.2.2.2.2.2.1,c24.2.2.2.2.2.2.2.2.1,c24.1,c24.2.1,c24.2.2.1,c24.2.2.2.1,c24.2.2.2.2.1,c24.2.2.2.2.2.1)
    else
     some (uT.1,c21.2.1,c21.2.2,(11:Int),(0:Int),(0:Int),(0:Int),n2.name,nY)) fun xY=>
   bif (decide (xY.2.2.2.1=13)) then
    some ((9:Int),(0:Int),(0:Int),(0:Int),xY.2.2.2.2.2.2.2.1,xY.1,xY.2.1,xY.2.2.1,p4,p5,p6,uT.2.2.2)
   else
    let n27:=[(aV.mk xY.2.2.2.1 xY.2.2.2.2.1 xY.2.2.2.2.2.1 xY.2.2.2.2.2.2.1 xY.2.2.2.2.2.2.2.1 xY.2.2.2.2.2.2.2.2)]
    ck (bG n27.length uT.2.2.2.length 72) <|
    some ((10:Int),(0:Int),(0:Int),(0:Int),cO,xY.1,xY.2.1,xY.2.2.1,p4,p5,p6,(n27++uT.2.2.2))) fun s29=>
 ck (decide (p4.length=s29.2.2.2.2.2.2.2.2.1.length)) <|
 ck (decide (p5.length=s29.2.2.2.2.2.2.2.2.2.1.length)) <|
 ck (decide (p6.length=s29.2.2.2.2.2.2.2.2.2.2.1.length)) <|
 some s29
def k98 (p0:Int) (p1:Int) (p2:dX) (p3:Int) (p4:dG) (p5:(List au)) (p6:aS) (r:Option (Int×Int×Int×Int×gQ×Int×dX×Int×dG×(List au)×aS×lF)):Option (Int×Int×Int×Int×gQ×Int×dX×Int×dG×(List au)×aS×lF):=OB r fun (y:(Int×Int×Int×Int×gQ×Int×dX×Int×dG×(List au)×aS×lF))=>uY y.2.2.2.2.2.2.2.2.1 p4 <| uY y.2.2.2.2.2.2.2.2.2.1 p5 <| uY y.2.2.2.2.2.2.2.2.2.2.1 p6 <| some y
def rG:Nat→T95×T98
 |0=>(fun _ _ _ _ _ _ _=>none,fun _ _ _ _ _ _ _=>none)
 |n+1=>(XD (fun p0 p1 p2 p3 p4 p5 p6=>k95 p0 p1 p2 p3 p4 p5 p6 ((rG n).1 p0 p1 p2 p3 p4 p5 p6)) (fun p0 p1 p2 p3 p4 p5 p6=>k98 p0 p1 p2 p3 p4 p5 p6 ((rG n).2 p0 p1 p2 p3 p4 p5 p6)),adE (fun p0 p1 p2 p3 p4 p5 p6=>k95 p0 p1 p2 p3 p4 p5 p6 ((rG n).1 p0 p1 p2 p3 p4 p5 p6)) (fun p0 p1 p2 p3 p4 p5 p6=>k98 p0 p1 p2 p3 p4 p5 p6 ((rG n).2 p0 p1 p2 p3 p4 p5 p6)))
def adF (n:Nat):T95:=(fun p0 p1 p2 p3 p4 p5 p6=>k95 p0 p1 p2 p3 p4 p5 p6 ((rG n).1 p0 p1 p2 p3 p4 p5 p6))
def II (n:Nat):aQ:=⟨aiU,u7 (rG n).1⟩
def adG (n:Nat):T98:=(fun p0 p1 p2 p3 p4 p5 p6=>k98 p0 p1 p2 p3 p4 p5 p6 ((rG n).2 p0 p1 p2 p3 p4 p5 p6))
def IJ (n:Nat):aQ:=⟨aiV,u7 (rG n).2⟩
theorem aaA (n:Nat) (h95:ak Try.prog 95 (II n)) (h98:ak Try.prog 98 (IJ n)):ak Try.prog 95 (II (n+1)):=
 ts [(16,IC),(101,ae0),(102,aas),(96,aap),(95,II n),(98,IJ n)] ety [.cell 4 132] amS Try.func95 rfl ⟨nH,aar,Qm,Fp,h95,h98,trivial⟩
theorem aaB (n:Nat) (h95:ak Try.prog 95 (II n)) (h98:ak Try.prog 98 (IJ n)):ak Try.prog 98 (IJ (n+1)):=
 ts [(16,IC),(95,II n),(98,IJ n)] ety [.cell 4 132] amT Try.func98 rfl ⟨nH,h95,h98,trivial⟩
theorem xq :∀n,ak Try.prog 95 (II n)∧ak Try.prog 98 (IJ n)
 |0=>⟨bP Try.func95 rfl rfl (show aiU.er.ok=true by decide +kernel) fun x=>rfl,bP Try.func98 rfl rfl (show aiV.er.ok=true by decide +kernel) fun x=>rfl⟩
 |n+1=>by
  have ih:=xq n
  exact ⟨aaA n (ih.1) (ih.2),aaB n (ih.1) (ih.2)⟩
def f95:T95:=adF 1048576
def agK:aQ:=II 1048576
theorem VI:ak Try.prog 95 agK:=(xq 1048576).1
def f98:T98:=adG 1048576
def ajv:aQ:=IJ 1048576
theorem adH:ak Try.prog 98 ajv:=(xq 1048576).2
def adI (KG:T55) (aaC:T78) (aaD:T97) (p0:Int) (p1:Int) (p2:Int) (p3:dX) (p4:Int) (p5:dG) (p6:(List au)) (p7:aS):Option (Int×dX×Int×dG×(List au)×oC×aS):=
 OB (
  OB (
   aY (fun (s0:(Int×Int×dX×Int×oC×aS))=>
    OB (
     bif (decide (s0.1<p1)) then
      some (decide (0<s0.2.1))
     else
      some false) fun s4=>
    bif s4 then
     OB (aaC p0 (bW (s0.2.1-1)) s0.2.2.1 s0.2.2.2.1 p5 p6 s0.2.2.2.2.2) fun c6=>
     let n7:=[(dI.mk c6.1 c6.2.1 c6.2.2.1 c6.2.2.2.2.2.2.2.2.1 c6.2.2.2.2.2.2.2.2.2.1 c6.2.2.2.2.2.2.2.2.2.2.1)]
     ck (bG s0.2.2.2.2.1.length n7.length 104) <|
     some (.inl ((bW (s0.1+1)),c6.2.2.2.1,c6.2.2.2.2.1,c6.2.2.2.2.2.1,(s0.2.2.2.2.1++n7),c6.2.2.2.2.2.2.2.2.2.2.2))
    else
     some (.inr (s0.2.1,s0.2.2.1,s0.2.2.2.1,s0.2.2.2.2.1,s0.2.2.2.2.2))) ((0:Int),p2,p3,p4,g_,p7)) fun s10=>
  some (s10.1,s10.2.1,s10.2.2.1,p5,p6,s10.2.2.2.1,s10.2.2.2.2)) fun s11=>
 ck (decide (p5.length=s11.2.2.2.1.length)) <|
 ck (decide (p6.length=s11.2.2.2.2.1.length)) <|
 some s11
def k55 (p0:Int) (p1:Int) (p2:Int) (p3:dX) (p4:Int) (p5:dG) (p6:(List au)) (p7:aS) (r:Option (Int×dX×Int×dG×(List au)×oC×aS)):Option (Int×dX×Int×dG×(List au)×oC×aS):=OB r fun (y:(Int×dX×Int×dG×(List au)×oC×aS))=>uY y.2.2.2.1 p5 <| uY y.2.2.2.2.1 p6 <| some y
def adJ (KG:T55) (aaC:T78) (aaD:T97) (p0:Int) (p1:Int) (p2:dX) (p3:Int) (p4:dG) (p5:(List au)) (p6:aS):Option (Int×Int×gQ×Int×dX×Int×dG×(List au)×lF×oC×oC×aS):=
 OB (
  OB (f16 10 p2 p3) fun c0=>
  OB (
   bif (decide (c0.1=0)) then
    some true
   else
    some (decide (c0.1=1))) fun s3=>
  dn (
   bif s3 then
    OB (f93 p1 c0.2.1 c0.2.2 p4 p5 p6) fun c4=>
    bif c4.2.1 then
     OB (f95 2 c4.2.2.1 c4.2.2.2.1 c4.2.2.2.2.1 p4 p5 p6) fun c5=>
     OB (f94 1 c4.1 c5.1 c5.2.1 c5.2.2.1 c5.2.2.2.1 c5.2.2.2.2.1 c5.2.2.2.2.2.1) fun c6=>
     let n7:=[c4.1]
     ck (bG p6.length n7.length 16) <|
     some (.inr (c6.1,c6.2.1,c6.2.2.1,c5.2.2.2.2.2.2.1,c5.2.2.2.2.2.2.2.1,c5.2.2.2.2.2.2.2.2.1,p4,p5,c6.2.2.2,g_,g_,(p6++n7)))
    else
     some (.inl (c4.2.2.1,c4.2.2.2.1,c4.2.2.2.2.1))
   else
    dn (
     bif (decide (c0.1=2)) then
      bif (decide (0<(p6.length:Int))) then
       OB (f16 (p6.length:Int) c0.2.1 c0.2.2) fun c13=>
       ck (inB c13.1 p6.length) <|
       OB (f95 2 p1 c13.2.1 c13.2.2 p4 p5 p6) fun c15=>
       OB (f94 2 (List.getD p6 c13.1.toNat cO) c15.1 c15.2.1 c15.2.2.1 c15.2.2.2.1 c15.2.2.2.2.1 c15.2.2.2.2.2.1) fun c16=>
       some (.inr (.inr (c16.1,c16.2.1,c16.2.2.1,c15.2.2.2.2.2.2.1,c15.2.2.2.2.2.2.2.1,c15.2.2.2.2.2.2.2.2.1,p4,p5,c16.2.2.2,g_,g_,p6)))
      else
       some (.inl (p1,c0.2.1,c0.2.2))
     else
      dn (
       bif (decide (c0.1=3)) then
        OB (f96 false p1 c0.2.1 c0.2.2 p4 p5 p6) fun c18=>
        bif c18.2.1 then
         OB (f95 2 c18.2.2.1 c18.2.2.2.1 c18.2.2.2.2.1 p4 p5 p6) fun c19=>
         OB (f94 2 c18.1 c19.1 c19.2.1 c19.2.2.1 c19.2.2.2.1 c19.2.2.2.2.1 c19.2.2.2.2.2.1) fun c20=>
         some (.inr (.inr (.inr (c20.1,c20.2.1,c20.2.2.1,c19.2.2.2.2.2.2.1,c19.2.2.2.2.2.2.2.1,c19.2.2.2.2.2.2.2.2.1,p4,p5,c20.2.2.2,g_,g_,p6))))
        else
         some (.inl (c18.2.2.1,c18.2.2.2.1,c18.2.2.2.2.1))
       else
        dn (
         bif (decide (c0.1=4)) then
          OB (f96 true p1 c0.2.1 c0.2.2 p4 p5 p6) fun I8=>
          bif I8.2.1 then
           OB (f95 1 I8.2.2.1 I8.2.2.2.1 I8.2.2.2.2.1 p4 p5 p6) fun c23=>
           OB (f95 2 c23.2.2.2.2.2.2.1 c23.2.2.2.2.2.2.2.1 c23.2.2.2.2.2.2.2.2.1 p4 p5 p6) fun c24=>
           some (.inr (.inr (.inr (.inr ((3:Int),(0:Int),I8.1,c24.2.2.2.2.2.2.1,c24.2.2.2.2.2.2.2.1,c24.2.2.2.2.2.2.2.2.1,p4,p5,[(aV.mk c23.1 c23.2.1 c23.2.2.1 c23.2.2.2.1 c23.2.2.2.2.1 c23.2.2.2.2.2.1),(aV.mk c24.1 c24.2.1 c24.2.2.1 c24.2.2.2.1 c24.2.2.2.2.1 c24.2.2.2.2.2.1)],g_,g_,p6)))))
          else
           some (.inl (I8.2.2.1,I8.2.2.2.1,I8.2.2.2.2.1))
         else
          OB (
           bif (decide (c0.1=5)) then
            some true
           else
            some (decide (c0.1=6))) fun C_=>
          dn (
           bif C_ then
            bif (decide (0<p0)) then
             OB (f95 2 p1 c0.2.1 c0.2.2 p4 p5 p6) fun KC=>
             OB (f94 4 cO KC.1 KC.2.1 KC.2.2.1 KC.2.2.2.1 KC.2.2.2.2.1 KC.2.2.2.2.2.1) fun c31=>
             OB (f16 2 KC.2.2.2.2.2.2.2.1 KC.2.2.2.2.2.2.2.2.1) fun KD=>
             OB (KG (bW (p0-1)) (bW (1+KD.1)) KC.2.2.2.2.2.2.1 KD.2.1 KD.2.2 p4 p5 p6) fun Dc=>
             OB (f16 2 Dc.2.1 Dc.2.2.1) fun c36=>
             OB (
              bif (decide (c36.1=1)) then
               OB (f16 2 c36.2.1 c36.2.2) fun c39=>
               OB (KG (bW (p0-1)) (bW (1+c39.1)) Dc.1 c39.2.1 c39.2.2 p4 p5 Dc.2.2.2.2.2.2) fun TB=>
               some (TB.1,TB.2.1,TB.2.2.1,c31.1,c31.2.1,c31.2.2.1,TB.2.2.2.2.2.2,TB.2.2.2.2.2.1)
              else
               some (Dc.1,c36.2.1,c36.2.2,c31.1,c31.2.1,c31.2.2.1,Dc.2.2.2.2.2.2,g_)) fun xZ=>
             some (.inr (.inr (.inr (.inr (.inr (xZ.2.2.2.1,xZ.2.2.2.2.1,xZ.2.2.2.2.2.1,xZ.1,xZ.2.1,xZ.2.2.1,p4,p5,c31.2.2.2,Dc.2.2.2.2.2.1,xZ.2.2.2.2.2.2.2,xZ.2.2.2.2.2.2.1))))))
            else
             some (.inl ())
           else
            dn (
             bif (decide (c0.1=7)) then
              bif (decide (0<p0)) then
               OB (aaD p0 p1 c0.2.1 c0.2.2 p4 p5 p6) fun IG=>
               some (.inr (.inr (.inr (.inr (.inr (.inr (IG.1,IG.2.1,IG.2.2.1,IG.2.2.2.1,IG.2.2.2.2.1,IG.2.2.2.2.2.1,p4,p5,IG.2.2.2.2.2.2.2.2.1,IG.2.2.2.2.2.2.2.2.2.1,g_,IG.2.2.2.2.2.2.2.2.2.2)))))))
              else
               some (.inl ())
             else
              bif (decide (c0.1=8)) then
               OB (f16 3 c0.2.1 c0.2.2) fun c47=>
               bif (decide (c47.1=0)) then
                OB (f95 2 p1 c47.2.1 c47.2.2 p4 p5 p6) fun c49=>
                OB (f94 6 cO c49.1 c49.2.1 c49.2.2.1 c49.2.2.2.1 c49.2.2.2.2.1 c49.2.2.2.2.2.1) fun c50=>
                some (.inr (.inr (.inr (.inr (.inr (.inr (c50.1,c50.2.1,c50.2.2.1,c49.2.2.2.2.2.2.1,c49.2.2.2.2.2.2.2.1,c49.2.2.2.2.2.2.2.2.1,p4,p5,c50.2.2.2,g_,g_,p6)))))))
               else
                OB (f98 2 p1 c47.2.1 c47.2.2 p4 p5 p6) fun c51=>
                OB (f94 8 cO c51.1 c51.2.1 c51.2.2.1 c51.2.2.2.1 c51.2.2.2.2.1 c51.2.2.2.2.2.2.2.2.2.2.2) fun XC=>
                some (.inr (.inr (.inr (.inr (.inr (.inr (XC.1,XC.2.1,XC.2.2.1,c51.2.2.2.2.2.1,c51.2.2.2.2.2.2.1,c51.2.2.2.2.2.2.2.1,p4,p5,XC.2.2.2,g_,g_,p6)))))))
              else
               some (.inl ())) fun s53=>
            some (.inl ())) fun s54=>
          some (.inl (p1,c0.2.1,c0.2.2))) fun s55=>
        some (.inl (s55.1,s55.2.1,s55.2.2))) fun s56=>
      some (.inl (s56.1,s56.2.1,s56.2.2))) fun s57=>
    some (.inl (s57.1,s57.2.1,s57.2.2))) fun s58=>
  OB (f95 2 s58.1 s58.2.1 s58.2.2 p4 p5 p6) fun c59=>
  OB (f94 7 cO c59.1 c59.2.1 c59.2.2.1 c59.2.2.2.1 c59.2.2.2.2.1 c59.2.2.2.2.2.1) fun c60=>
  some (c60.1,c60.2.1,c60.2.2.1,c59.2.2.2.2.2.2.1,c59.2.2.2.2.2.2.2.1,c59.2.2.2.2.2.2.2.2.1,p4,p5,c60.2.2.2,g_,g_,p6)) fun s61=>
 ck (decide (p4.length=s61.2.2.2.2.2.2.1.length)) <|
 ck (decide (p5.length=s61.2.2.2.2.2.2.2.1.length)) <|
 some s61
def k78 (p0:Int) (p1:Int) (p2:dX) (p3:Int) (p4:dG) (p5:(List au)) (p6:aS) (r:Option (Int×Int×gQ×Int×dX×Int×dG×(List au)×lF×oC×oC×aS)):Option (Int×Int×gQ×Int×dX×Int×dG×(List au)×lF×oC×oC×aS):=OB r fun (y:(Int×Int×gQ×Int×dX×Int×dG×(List au)×lF×oC×oC×aS))=>uY y.2.2.2.2.2.2.1 p4 <| uY y.2.2.2.2.2.2.2.1 p5 <| some y
def adK (KG:T55) (aaC:T78) (aaD:T97) (p0:Int) (p1:Int) (p2:dX) (p3:Int) (p4:dG) (p5:(List au)) (p6:aS):Option (Int×Int×gQ×Int×dX×Int×dG×(List au)×lF×oC×aS):=
 OB (
  OB (f96 false p1 p2 p3 p4 p5 p6) fun c0=>
  OB (
   bif (decide (0<(p6.length:Int))) then
    OB (f16 3 c0.2.2.2.1 c0.2.2.2.2.1) fun c3=>
    some ((decide (0<c3.1)),c3.2.1,c3.2.2)
   else
    some (false,c0.2.2.2.1,c0.2.2.2.2.1)) fun s6=>
  OB (
   bif s6.1 then
    OB (f16 (p6.length:Int) s6.2.1 s6.2.2) fun c8=>
    ck (inB c8.1 p6.length) <|
    some ((List.getD p6 c8.1.toNat cO),true,c8.2.1,c8.2.2)
   else
    some (c0.1,c0.2.1,s6.2.1,s6.2.2)) fun s10=>
  OB (
   bif (!s10.2.1) then
    some (true,s10.2.2.1,s10.2.2.2)
   else
    OB (f16 8 s10.2.2.1 s10.2.2.2) fun c12=>
    some ((decide (c12.1=7)),c12.2.1,c12.2.2)) fun s15=>
  bif s15.1 then
   OB (f95 2 c0.2.2.1 s15.2.1 s15.2.2 p4 p5 p6) fun c16=>
   OB (f94 5 cO c16.1 c16.2.1 c16.2.2.1 c16.2.2.2.1 c16.2.2.2.2.1 c16.2.2.2.2.2.1) fun c17=>
   OB (f16 2 c16.2.2.2.2.2.2.2.1 c16.2.2.2.2.2.2.2.2.1) fun c19=>
   OB (KG (bW (p0-1)) (bW (1+c19.1)) c16.2.2.2.2.2.2.1 c19.2.1 c19.2.2 p4 p5 p6) fun c21=>
   some (c17.1,c17.2.1,c17.2.2.1,c21.1,c21.2.1,c21.2.2.1,p4,p5,c17.2.2.2,c21.2.2.2.2.2.1,c21.2.2.2.2.2.2)
  else
   OB (f16 5 s15.2.1 s15.2.2) fun I8=>
   OB (f102 6 8 [(aV.mk 13 0 0 0 s10.1 nY),(aV.mk 1 0 (bW (1+I8.1)) 0 cO nY)]) fun c25=>
   OB (f94 5 cO c25.1 c25.2.1 c25.2.2.1 c25.2.2.2.1 c25.2.2.2.2.1 c25.2.2.2.2.2) fun QK=>
   OB (f16 3 I8.2.1 I8.2.2) fun c28=>
   OB (KG (bW (p0-1)) c28.1 c0.2.2.1 c28.2.1 c28.2.2 p4 p5 p6) fun c29=>
   OB (f102 6 3 [(aV.mk 13 0 0 0 s10.1 nY),(aV.mk 1 0 1 0 cO nY)]) fun c31=>
   OB (f94 2 s10.1 c31.1 c31.2.1 c31.2.2.1 c31.2.2.2.1 c31.2.2.2.2.1 c31.2.2.2.2.2) fun c32=>
   let n33:=[(dI.mk c32.1 c32.2.1 c32.2.2.1 c32.2.2.2 g_ g_)]
   ck (bG c29.2.2.2.2.2.1.length n33.length 104) <|
   some (QK.1,QK.2.1,QK.2.2.1,c29.1,c29.2.1,c29.2.2.1,p4,p5,QK.2.2.2,(c29.2.2.2.2.2.1++n33),c29.2.2.2.2.2.2)) fun QL=>
 ck (decide (p4.length=QL.2.2.2.2.2.2.1.length)) <|
 ck (decide (p5.length=QL.2.2.2.2.2.2.2.1.length)) <|
 some QL
def k97 (p0:Int) (p1:Int) (p2:dX) (p3:Int) (p4:dG) (p5:(List au)) (p6:aS) (r:Option (Int×Int×gQ×Int×dX×Int×dG×(List au)×lF×oC×aS)):Option (Int×Int×gQ×Int×dX×Int×dG×(List au)×lF×oC×aS):=OB r fun (y:(Int×Int×gQ×Int×dX×Int×dG×(List au)×lF×oC×aS))=>uY y.2.2.2.2.2.2.1 p4 <| uY y.2.2.2.2.2.2.2.1 p5 <| some y
def jC:Nat→T55×T78×T97
 |0=>(fun _ _ _ _ _ _ _ _=>none,fun _ _ _ _ _ _ _=>none,fun _ _ _ _ _ _ _=>none)
 |n+1=>(adI (fun p0 p1 p2 p3 p4 p5 p6 p7=>k55 p0 p1 p2 p3 p4 p5 p6 p7 ((jC n).1 p0 p1 p2 p3 p4 p5 p6 p7)) (fun p0 p1 p2 p3 p4 p5 p6=>k78 p0 p1 p2 p3 p4 p5 p6 ((jC n).2.1 p0 p1 p2 p3 p4 p5 p6)) (fun p0 p1 p2 p3 p4 p5 p6=>k97 p0 p1 p2 p3 p4 p5 p6 ((jC n).2.2 p0 p1 p2 p3 p4 p5 p6)),adJ (fun p0 p1 p2 p3 p4 p5 p6 p7=>k55 p0 p1 p2 p3 p4 p5 p6 p7 ((jC n).1 p0 p1 p2 p3 p4 p5 p6 p7)) (fun p0 p1 p2 p3 p4 p5 p6=>k78 p0 p1 p2 p3 p4 p5 p6 ((jC n).2.1 p0 p1 p2 p3 p4 p5 p6)) (fun p0 p1 p2 p3 p4 p5 p6=>k97 p0 p1 p2 p3 p4 p5 p6 ((jC n).2.2 p0 p1 p2 p3 p4 p5 p6)),adK (fun p0 p1 p2 p3 p4 p5 p6 p7=>k55 p0 p1 p2 p3 p4 p5 p6 p7 ((jC n).1 p0 p1 p2 p3 p4 p5 p6 p7)) (fun p0 p1 p2 p3 p4 p5 p6=>k78 p0 p1 p2 p3 p4 p5 p6 ((jC n).2.1 p0 p1 p2 p3 p4 p5 p6)) (fun p0 p1 p2 p3 p4 p5 p6=>k97 p0 p1 p2 p3 p4 p5 p6 ((jC n).2.2 p0 p1 p2 p3 p4 p5 p6)))
def aaF (n:Nat):T55:=(fun p0 p1 p2 p3 p4 p5 p6 p7=>k55 p0 p1 p2 p3 p4 p5 p6 p7 ((jC n).1 p0 p1 p2 p3 p4 p5 p6 p7))
def Bg (n:Nat):aQ:=⟨aiW,u8 (jC n).1⟩
def adL (n:Nat):T78:=(fun p0 p1 p2 p3 p4 p5 p6=>k78 p0 p1 p2 p3 p4 p5 p6 ((jC n).2.1 p0 p1 p2 p3 p4 p5 p6))
def ED (n:Nat):aQ:=⟨aiX,u7 (jC n).2.1⟩
def adM (n:Nat):T97:=(fun p0 p1 p2 p3 p4 p5 p6=>k97 p0 p1 p2 p3 p4 p5 p6 ((jC n).2.2 p0 p1 p2 p3 p4 p5 p6))
def EF (n:Nat):aQ:=⟨aiY,u7 (jC n).2.2⟩
theorem aaG (n:Nat) (h55:ak Try.prog 55 (Bg n)) (h78:ak Try.prog 78 (ED n)) (h97:ak Try.prog 97 (EF n)):ak Try.prog 55 (Bg (n+1)):=
 ts [(55,Bg n),(78,ED n),(97,EF n)] ety [.tmp 6] amU Try.func55 rfl ⟨h55,h78,h97,trivial⟩
theorem aaH (n:Nat) (h55:ak Try.prog 55 (Bg n)) (h78:ak Try.prog 78 (ED n)) (h97:ak Try.prog 97 (EF n)):ak Try.prog 78 (ED (n+1)):=
 ts [(16,IC),(93,aju),(95,agK),(94,agB),(96,aap),(98,ajv),(55,Bg n),(78,ED n),(97,EF n)] ety [.cell 4 104] amV Try.func78 rfl ⟨nH,adD,VI,Vz,Fp,adH,h55,h78,h97,trivial⟩
theorem aaI (n:Nat) (h55:ak Try.prog 55 (Bg n)) (h78:ak Try.prog 78 (ED n)) (h97:ak Try.prog 97 (EF n)):ak Try.prog 97 (EF (n+1)):=
 ts [(96,aap),(16,IC),(95,agK),(94,agB),(102,aas),(55,Bg n),(78,ED n),(97,EF n)] ety [.cell 4 104] amW Try.func97 rfl ⟨Fp,nH,VI,Vz,Qm,h55,h78,h97,trivial⟩
theorem EG :∀n,ak Try.prog 55 (Bg n)∧ak Try.prog 78 (ED n)∧ak Try.prog 97 (EF n)
 |0=>⟨bP Try.func55 rfl rfl (show aiW.er.ok=true by decide +kernel) fun x=>rfl,bP Try.func78 rfl rfl (show aiX.er.ok=true by decide +kernel) fun x=>rfl,bP Try.func97 rfl rfl (show aiY.er.ok=true by decide +kernel) fun x=>rfl⟩
 |n+1=>by
  have ih:=EG n
  exact ⟨aaG n (ih.1) (ih.2.1) (ih.2.2),aaH n (ih.1) (ih.2.1) (ih.2.2),aaI n (ih.1) (ih.2.1) (ih.2.2)⟩
def f55:T55:=aaF 1048576
def ajD:aQ:=Bg 1048576
theorem adN:ak Try.prog 55 ajD:=(EG 1048576).1
def f14 (p0:gQ) (p1:Int) (p2:Int) (p3:kG):Option dX:=
 let n0:=(p3.length:Int)
 ck (zf (1:Nat) n0 n0) <|
 OB (
  some eInt) fun s2=>
 OB (f24 0 p0 p1 p2 p3 (List.replicate n0.toNat false) s2) fun c3=>
 OB (f26 c3.2.2.2.2.2) fun c4=>
 some c4
def ajE:aQ:=⟨amX,u4 f14⟩
theorem adO:ak Try.prog 14 ajE:=
 ts [(26,ai7),(24,ajp)] ety [.tmp 2] amY Try.func14 rfl ⟨acY,adp,trivial⟩
def f18 (p0:dX) (p1:Int):Option (Int×Int×dX×Int×dG×NK):=
 OB (f16 4 p0 p1) fun c0=>
 let n2:=[(aJ.mk [(103:UInt8),(48:UInt8)] 0),(aJ.mk [(103:UInt8),(49:UInt8)] (bW (1+c0.1)))]
 OB (f16 3 c0.2.1 c0.2.2) fun c3=>
 let n4:=(bW (1+c3.1))
 OB (
  aY (fun (s5:(Int×dX×Int×Int×Int×NK))=>
   bif (decide (s5.1<n4)) then
    OB (f30 s5.1) fun c7=>
    ck (Ap (List.length [(102:UInt8)]) c7.length) <|
    let n8:=([(102:UInt8)]++c7)
    OB (f16 4 s5.2.1 s5.2.2.1) fun c9=>
    let n10:=(bW (1+c9.1))
    OB (
     bif (decide (0<s5.1)) then
      OB (f16 (bW ((WU n10 (2:Int))+1)) c9.2.1 c9.2.2) fun c14=>
      some (c14.2.1,c14.2.2,n8,c14.1,n10)
     else
      some (c9.2.1,c9.2.2,n8,(0:Int),n10)) fun s15=>
    let n16:=[(aO.mk s15.2.2.1 s15.2.2.2.1 s15.2.2.2.2 ([]:kG))]
    ck (bG s5.2.2.2.2.2.length n16.length 56) <|
    some (.inl ((bW (s5.1+1)),s15.1,s15.2.1,s5.2.2.2.1,s5.2.2.2.2.1,(s5.2.2.2.2.2++n16)))
   else
    some (.inr (s5.2.1,s5.2.2.1,s5.2.2.2.1,s5.2.2.2.2.1,s5.2.2.2.2.2))) ((0:Int),c3.2.1,c3.2.2,(0:Int),(0:Int),([]:NK))) fun uT=>
 OB (f16 (bW (n4+1)) uT.1 uT.2.1) fun c21=>
 OB (
  aY (fun (lI:(Int×dX×Int×NK))=>
   bif (decide (lI.1<n4)) then
    ck (inB lI.1 lI.2.2.2.length) <|
    OB (f16 6 lI.2.1 lI.2.2.1) fun c24=>
    OB (
     aY (fun (s26:(Int×dX×Int×NK))=>
      bif (decide (0<s26.1)) then
       OB (f16 20 s26.2.1 s26.2.2.1) fun c28=>
       OB (f16 4 c28.2.1 c28.2.2) fun c31=>
       OB (
        aY (fun (pX:(Int×dX×Int×NK×Int×Int×Int×Int×Int×Int×Int×(List fB)))=>
         bif (decide (0<pX.1)) then
          OB (f31 n2 (List.set pX.2.2.2.1 lI.1.toNat (aO.mk (List.getD pX.2.2.2.1 lI.1.toNat aC).name (List.getD pX.2.2.2.1 lI.1.toNat aC).params (List.getD pX.2.2.2.1 lI.1.toNat aC).regs (List.getD pX.2.2.2.1 lI.1.toNat aC).blocks)) c21.1 uT.2.2.2.1 (List.getD pX.2.2.2.1 lI.1.toNat aC).name (List.getD pX.2.2.2.1 lI.1.toNat aC).params (List.getD pX.2.2.2.1 lI.1.toNat aC).regs (List.getD pX.2.2.2.1 lI.1.toNat aC).blocks pX.2.1 pX.2.2.1) fun c34=>
          let n35:=[(fB.mk c34.1 c34.2.1 c34.2.2.1 c34.2.2.2.1 c34.2.2.2.2.1 c34.2.2.2.2.2.1 c34.2.2.2.2.2.2.2.2)]
          ck (bG pX.2.2.2.2.2.2.2.2.2.2.2.length n35.length 72) <|
          some (.inl ((bW (pX.1-1)),c34.2.2.2.2.2.2.1,c34.2.2.2.2.2.2.2.1,(List.set pX.2.2.2.1 lI.1.toNat (aO.mk (List.getD pX.2.2.2.1 lI.1.toNat aC).name (List.getD pX.2.2.2.1 lI.1.toNat aC).params (List.getD pX.2.2.2.1 lI.1.toNat aC).regs (List.getD pX.2.2.2.1 lI.1.toNat aC).blocks)),pX.2.2.2.2.1,pX.2.2.2.2.2.1,pX.2.2.2.2.2.2.1,pX.2.2.2.2.2.2.2.1,pX.2.2.2.2.2.2.2.2.1,pX.2.2.2.2.2.2.2.2.2.1,pX.2.2.2.2.2.2.2.2.2.2.1,(pX.2.2.2.2.2.2.2.2.2.2.2++n35)))
         else
          some (.inr (pX.2.1,pX.2.2.1,pX.2.2.2.1,pX.2.2.2.2.1,pX.2.2.2.2.2.1,pX.2.2.2.2.2.2.1,pX.2.2.2.2.2.2.2.1,pX.2.2.2.2.2.2.2.2.1,pX.2.2.2.2.2.2.2.2.2.1,pX.2.2.2.2.2.2.2.2.2.2.1,pX.2.2.2.2.2.2.2.2.2.2.2))) (c31.1,c31.2.1,c31.2.2,s26.2.2.2,(0:Int),(0:Int),(0:Int),(0:Int),c28.1,lI.1,((List.replicate (List.length (List.getD s26.2.2.2 lI.1.toNat aC).blocks) ()).length:Int),qJ)) fun qK=>
       let n39:=[(aH.mk qK.2.2.2.2.2.2.2.2.2.2 qK.2.2.2.1 qK.2.2.2.2.1 qK.2.2.2.2.2.1 qK.2.2.2.2.2.2.1 qK.2.2.2.2.2.2.2.1 qK.2.2.2.2.2.2.2.2.1 qK.2.2.2.2.2.2.2.2.2.1)]
       ck (true&&(decide ((((List.length (List.getD qK.2.2.1 lI.1.toNat aC).blocks)+n39.length)*(80:Nat))≤(140737488355328:Nat)))) <|
       ck (Nat.beq lI.1.toNat lI.1.toNat) <|
       some (.inl ((bW (s26.1-1)),qK.1,qK.2.1,(List.set qK.2.2.1 lI.1.toNat (aO.mk (List.getD qK.2.2.1 lI.1.toNat aC).name (List.getD qK.2.2.1 lI.1.toNat aC).params (List.getD qK.2.2.1 lI.1.toNat aC).regs ((List.getD qK.2.2.1 lI.1.toNat aC).blocks++n39)))))
      else
       some (.inr (s26.2.1,s26.2.2.1,s26.2.2.2))) ((bW (1+c24.1)),c24.2.1,c24.2.2,lI.2.2.2)) fun s43=>
    OB (
     aY (fun (s44:(Int×dX×Int×NK))=>
      bif (decide (s44.1<((List.replicate (List.length (List.getD s44.2.2.2 lI.1.toNat aC).blocks) ()).length:Int))) then
       let n48:=[(2:Int),(1:Int),(3:Int),(2:Int)]
       OB (f16 4 s44.2.1 s44.2.2.1) fun c49=>
       ck (inB c49.1 n48.length) <|
       OB (f16 (List.getD s44.2.2.2 lI.1.toNat aC).regs c49.2.1 c49.2.2) fun XC=>
       OB (f16 ((List.replicate (List.length (List.getD s44.2.2.2 lI.1.toNat aC).blocks) ()).length:Int) XC.2.1 XC.2.2) fun c55=>
       OB (f16 ((List.replicate (List.length (List.getD s44.2.2.2 lI.1.toNat aC).blocks) ()).length:Int) c55.2.1 c55.2.2) fun VH=>
       ck (inB s44.1 (List.length (List.getD s44.2.2.2 lI.1.toNat aC).blocks)) <|
       some (.inl ((bW (s44.1+1)),VH.2.1,VH.2.2,(List.set s44.2.2.2 lI.1.toNat (aO.mk (List.getD s44.2.2.2 lI.1.toNat aC).name (List.getD s44.2.2.2 lI.1.toNat aC).params (List.getD s44.2.2.2 lI.1.toNat aC).regs (List.set (List.getD s44.2.2.2 lI.1.toNat aC).blocks s44.1.toNat (aH.mk (List.getD (List.getD s44.2.2.2 lI.1.toNat aC).blocks s44.1.toNat aj).instrs (List.getD n48 c49.1.toNat 0) XC.1 c55.1 VH.1 (List.getD (List.getD s44.2.2.2 lI.1.toNat aC).blocks s44.1.toNat aj).line (List.getD (List.getD s44.2.2.2 lI.1.toNat aC).blocks s44.1.toNat aj).jl (List.getD (List.getD s44.2.2.2 lI.1.toNat aC).blocks s44.1.toNat aj).iE))))))
      else
       some (.inr (s44.2.1,s44.2.2.1,s44.2.2.2))) ((0:Int),s43.1,s43.2.1,s43.2.2)) fun s61=>
    OB (f32 (List.getD s61.2.2 lI.1.toNat aC).name (List.getD s61.2.2 lI.1.toNat aC).params (List.getD s61.2.2 lI.1.toNat aC).regs (List.getD s61.2.2 lI.1.toNat aC).blocks) fun c62=>
    ck (Nat.beq lI.1.toNat lI.1.toNat) <|
    some (.inl ((bW (lI.1+1)),s61.1,s61.2.1,(List.set s61.2.2 lI.1.toNat (aO.mk c62.1 c62.2.1 c62.2.2.1 c62.2.2.2))))
   else
    some (.inr (lI.2.1,lI.2.2.1,lI.2.2.2))) ((0:Int),c21.2.1,c21.2.2,uT.2.2.2.2)) fun s65=>
 some (c21.1,uT.2.2.2.1,s65.1,s65.2.1,n2,s65.2.2)
def ajF:aQ:=⟨amZ,u2 f18⟩
theorem adP:ak Try.prog 18 ajF:=
 ts [(16,IC),(30,agh),(31,ai9),(32,ajq)] aiZ [.cell 2 27] am0 Try.func18 rfl ⟨nH,Vq,ac0,adq,trivial⟩
def f41 (p0:dG) (p1:(List au)):Option (Int×Int×dG×(List au)):=
 OB (
  bif (decide (64<(p1.length:Int))) then
   some true
  else
   some (decide (32<(p0.length:Int)))) fun s5=>
 bif s5 then
  some ((0:Int),(5:Int),je,uH)
 else
  OB (
   bif (decide ((p1.length:Int)=0)) then
    some true
   else
    ck (inB (0:Int) p1.length) <|
    bif (!((List.getD p1 (Int.toNat 0) fK).name==[(109:UInt8),(97:UInt8),(105:UInt8),(110:UInt8)])) then
     some true
    else
     ck (inB (0:Int) p1.length) <|
     some (decide (0<((List.length (List.getD p1 (Int.toNat 0) fK).params):Int)))) fun s15=>
  bif s15 then
   some ((0:Int),(12:Int),je,uH)
  else
   dn (
    aY (fun (s16:Int)=>
     bif (decide (s16<(p0.length:Int))) then
      ck (inB s16 p0.length) <|
      OB (f49 p0 p1 (List.getD p0 s16.toNat (aJ.mk cO 0)).name) fun c20=>
      bif (!(decide (c20=s16))) then
       some (.inr (.inr ((0:Int),(9:Int),je,uH)))
      else
       some (.inl (bW (s16+1)))
     else
      some (.inr (.inl ()))) (0:Int)) fun s23=>
   dn (
    aY (fun (s24:Int)=>
     bif (decide (s24<(p1.length:Int))) then
      OB (
       ck (inB s24 p1.length) <|
       OB (f49 p0 p1 (List.getD p1 s24.toNat fK).name) fun c28=>
       bif (decide (0≤c28)) then
        some true
       else
        ck (inB s24 p1.length) <|
        OB (f50 p0 p1 (List.getD p1 s24.toNat fK).name) fun c31=>
        some (!(decide (c31=s24)))) fun s34=>
      bif s34 then
       ck (inB s24 p1.length) <|
       some (.inr (.inr ((List.getD p1 s24.toNat fK).line,(9:Int),je,uH)))
      else
       some (.inl (bW (s24+1)))
     else
      some (.inr (.inl ()))) (0:Int)) fun A_=>
   ck (bG (List.length je) p0.length 24) <|
   dn (
    aY (fun (u_:(Int×(List au)))=>
     bif (decide (u_.1<(p1.length:Int))) then
      ck (inB u_.1 p1.length) <|
      let n42:=(List.getD p1 u_.1.toNat fK)
      OB (
       bif (decide (6<((List.length n42.params):Int))) then
        some true
       else
        OB (f35 n42.name n42.line n42.params n42.body) fun IG=>
        bif (decide (32<(IG.length:Int))) then
         some true
        else
         OB (f51 n42.body) fun c49=>
         some (decide (24<c49))) fun s52=>
      bif s52 then
       some (.inr (.inr (n42.line,(5:Int),je,uH)))
      else
       dn (
        aY (fun (s53:Int)=>
         bif (decide (s53<((List.length n42.params):Int))) then
          OB (
           ck (BR (0:Int) s53 (List.length n42.params)) <|
           ck (inB s53 (List.length n42.params)) <|
           OB (f52 (List.drop (Int.toNat (0:Int)) (List.take s53.toNat n42.params)) (List.getD n42.params s53.toNat cO)) fun VH=>
           bif VH then
            some true
           else
            ck (inB s53 (List.length n42.params)) <|
            OB (f53 p0 p1 (List.getD n42.params s53.toNat cO)) fun c60=>
            some (!(decide (c60=0)))) fun s63=>
          bif s63 then
           some (.inr (.inr (.inr (.inr (n42.line,(9:Int),je,uH)))))
          else
           some (.inl (bW (s53+1)))
         else
          some (.inr (.inl ()))) (0:Int)) fun s65=>
       ck (true&&(decide ((((List.length jH)+(List.length n42.params))*(16:Nat))≤(140737488355328:Nat)))) <|
       OB (f54 n42.body p0 p1 0 0 (jH++n42.params)) fun c67=>
       bif (!(decide (c67.2.2.2.1=0))) then
        some (.inr (.inr (c67.2.2.1,c67.2.2.2.1,je,uH)))
       else
        ck (true&&(decide ((((List.length jH)+(List.length n42.params))*(16:Nat))≤(140737488355328:Nat)))) <|
        let n70:=[(au.mk n42.name n42.line (jH++n42.params) c67.2.2.2.2.1)]
        ck (bG u_.2.length n70.length 72) <|
        some (.inl ((bW (u_.1+1)),(u_.2++n70)))
     else
      some (.inr (.inl u_.2))) ((0:Int),uH)) fun s73=>
   some ((0:Int),(0:Int),(je++p0),s73)
def ajG:aQ:=⟨am1,u2 f41⟩
theorem adQ:ak Try.prog 41 ajG:=
 ts [(49,Z_),(50,aac),(35,agE),(51,aja),(52,agn),(53,agp),(54,ajs)] ety [.cell 2 71,.tmp 3,.tmp 4] am2 Try.func41 rfl ⟨Fe,Fh,VD,ac2,Vt,Vu,adB,trivial⟩
def f42 (p0:dX) (p1:Int):Option (dX×Int×dG×(List au)):=
 OB (
  some ((0:Int),je,uH,jH)) fun s0=>
 OB (f16 3 p0 p1) fun c1=>
 OB (
  aY (fun (s2:(Int×Int×dG))=>
   bif (decide (0<s2.1)) then
    OB (f30 (s2.2.2.length:Int)) fun c5=>
    ck (Ap (List.length [(103:UInt8)]) c5.length) <|
    let n7:=[(aJ.mk ([(103:UInt8)]++c5) 0)]
    ck (bG s2.2.2.length n7.length 24) <|
    some (.inl ((bW (s2.1-1)),s2.2.1,(s2.2.2++n7)))
   else
    some (.inr (s2.2.1,s2.2.2))) (c1.1,s0.1,s0.2.1)) fun s10=>
 OB (f16 3 c1.2.1 c1.2.2) fun c11=>
 OB (
  aY (fun (s12:(Int×dX×Int×Int×dG))=>
   bif (decide (0<s12.1)) then
    OB (f30 (s12.2.2.2.2.length:Int)) fun c15=>
    ck (Ap (List.length [(103:UInt8)]) c15.length) <|
    OB (f16 5 s12.2.1 s12.2.2.1) fun c17=>
    let n19:=[(aJ.mk ([(103:UInt8)]++c15) (bW (1+c17.1)))]
    ck (bG s12.2.2.2.2.length n19.length 24) <|
    some (.inl ((bW (s12.1-1)),c17.2.1,c17.2.2,s12.2.2.2.1,(s12.2.2.2.2++n19)))
   else
    some (.inr (s12.2.1,s12.2.2.1,s12.2.2.2.1,s12.2.2.2.2))) (c11.1,c11.2.1,c11.2.2,s10.1,s10.2)) fun lI=>
 OB (f16 4 lI.1 lI.2.1) fun c24=>
 OB (
  aY (fun (xY:(Int×dX×Int×Int×(List au)))=>
   bif (decide (0<xY.1)) then
    OB (f30 (xY.2.2.2.2.length:Int)) fun c28=>
    ck (Ap (List.length [(102:UInt8)]) c28.length) <|
    OB (f16 3 xY.2.1 xY.2.2.1) fun KC=>
    OB (
     aY (fun (ES:(Int×gQ×Int×aS))=>
      bif (decide (0<ES.1)) then
       OB (f30 (ES.2.2.2.length:Int)) fun c34=>
       ck (Ap (List.length [(112:UInt8)]) c34.length) <|
       let n36:=[([(112:UInt8)]++c34)]
       ck (bG ES.2.2.2.length n36.length 16) <|
       some (.inl ((bW (ES.1-1)),ES.2.1,ES.2.2.1,(ES.2.2.2++n36)))
      else
       some (.inr (ES.2.1,ES.2.2.1,ES.2.2.2))) (KC.1,([(102:UInt8)]++c28),(0:Int),jH)) fun u_=>
    let n40:=[(au.mk u_.1 u_.2.1 u_.2.2 g_)]
    ck (bG xY.2.2.2.2.length n40.length 72) <|
    some (.inl ((bW (xY.1-1)),KC.2.1,KC.2.2,xY.2.2.2.1,(xY.2.2.2.2++n40)))
   else
    some (.inr (xY.2.1,xY.2.2.1,xY.2.2.2.1,xY.2.2.2.2))) (c24.1,c24.2.1,c24.2.2,lI.2.2.1,[(au.mk [(109:UInt8),(97:UInt8),(105:UInt8),(110:UInt8)] 0 jH g_)])) fun s43=>
 OB (
  aY (fun (s44:(Int×dX×Int×Int×dG×(List au)×aS))=>
   bif (decide (s44.1<(s44.2.2.2.2.2.1.length:Int))) then
    ck (inB s44.1 s44.2.2.2.2.2.1.length) <|
    let n47:=(List.getD s44.2.2.2.2.2.1 s44.1.toNat fK)
    ck (true&&(decide ((((List.length jH)+(List.length n47.params))*(16:Nat))≤(140737488355328:Nat)))) <|
    OB (f16 4 s44.2.1 s44.2.2.1) fun c49=>
    OB (f55 2 (bW (1+c49.1)) 7 c49.2.1 c49.2.2 s44.2.2.2.2.1 s44.2.2.2.2.2.1 (jH++n47.params)) fun c51=>
    ck (inB s44.1 s44.2.2.2.2.2.1.length) <|
    some (.inl ((bW (s44.1+1)),c51.2.1,c51.2.2.1,c51.1,s44.2.2.2.2.1,(List.set s44.2.2.2.2.2.1 s44.1.toNat (au.mk (List.getD s44.2.2.2.2.2.1 s44.1.toNat fK).name (List.getD s44.2.2.2.2.2.1 s44.1.toNat fK).line (List.getD s44.2.2.2.2.2.1 s44.1.toNat fK).params c51.2.2.2.2.2.1)),c51.2.2.2.2.2.2))
   else
    some (.inr (s44.2.1,s44.2.2.1,s44.2.2.2.1,s44.2.2.2.2.1,s44.2.2.2.2.2.1,s44.2.2.2.2.2.2))) ((0:Int),s43.1,s43.2.1,s43.2.2.1,lI.2.2.2,s43.2.2.2,s0.2.2.2)) fun s54=>
 some (s54.1,s54.2.1,s54.2.2.2.1,s54.2.2.2.2.1)
def ajH:aQ:=⟨am3,u2 f42⟩
theorem adR:ak Try.prog 42 ajH:=
 ts [(16,IC),(30,agh),(55,ajD)] ety [.cell 2 71] am4 Try.func42 rfl ⟨nH,Vq,adN,trivial⟩
def f48 (p0:dG) (p1:NK) (p2:Int) (p3:Int) (p4:gQ) (p5:Int) (p6:Int) (p7:kG):Option Int:=
 OB (
  bif (decide ((p7.length:Int)<1)) then
   some true
  else
   bif (decide (256<(p7.length:Int))) then
    some true
   else
    OB (f71 p4 p5 p6 p7) fun c5=>
    some (decide (2048<c5))) fun s8=>
 bif s8 then
  some (5:Int)
 else
  OB (
   bif (decide (p6<0)) then
    some true
   else
    bif (decide (250<p6)) then
     some true
    else
     bif (decide (p5<0)) then
      some true
     else
      some (decide (p6<p5))) fun s16=>
  bif s16 then
   some (14:Int)
  else
   dn (
    aY (fun (nZ:Int)=>
     bif (decide (nZ<(p7.length:Int))) then
      dn (
       aY (fun (s20:Int)=>
        ck (inB nZ p7.length) <|
        bif (decide (s20<((List.length (List.getD p7 nZ.toNat aj).instrs):Int))) then
         ck (inB nZ p7.length) <|
         let n24:=(List.getD p7 nZ.toNat aj)
         ck (inB s20 (List.length n24.instrs)) <|
         let n25:=(List.getD n24.instrs s20.toNat (fB.mk 0 0 0 0 0 0 eInt))
         OB (f72 p0 p1 p2 p3 p4 p5 p6 p7 n25.kind n25.op n25.dst n25.a n25.b n25.value n25.args) fun QK=>
         bif (!(decide (QK=0))) then
          some (.inr (.inr (.inr (.inr QK))))
         else
          some (.inl (bW (s20+1)))
        else
         some (.inr (.inl ()))) (0:Int)) fun s29=>
      ck (inB nZ p7.length) <|
      let n30:=(List.getD p7 nZ.toNat aj)
      OB (f73 p4 p5 p6 p7 n30.aU n30.qI n30.dQ n30.bC) fun c31=>
      bif (!(decide (c31=0))) then
       some (.inr (.inr c31))
      else
       some (.inl (bW (nZ+1)))
     else
      some (.inr (.inl ()))) (0:Int)) fun s34=>
   OB (f43 p4 p5 p6 p7) fun Dc=>
   dn (
    aY (fun (s36:Int)=>
     bif (decide (s36<(Dc.length:Int))) then
      ck (inB s36 Dc.length) <|
      bif (!(List.getD Dc s36.toNat false)) then
       some (.inr (.inr (13:Int)))
      else
       some (.inl (bW (s36+1)))
     else
      some (.inr (.inl ()))) (0:Int)) fun xZ=>
   some (0:Int)
def ajI:aQ:=⟨am5,u8 f48⟩
theorem adS:ak Try.prog 48 ajI:=
 ts [(71,ajb),(72,ajt),(73,ajc),(43,agi)] ety [.tmp 4] am6 Try.func48 rfl ⟨ac3,adC,ac4,Vr,trivial⟩
def f9 (p0:gQ) (p1:Int) (p2:Int) (p3:kG):Option dX:=
 OB (f14 p0 p1 p2 p3) fun c0=>
 let n1:=(c0.length:Int)
 ck (zf (8:Nat) n1 n1) <|
 OB (
  aY (fun (s4:(Int×dX))=>
   bif (decide (s4.1<(c0.length:Int))) then
    ck (inB s4.1 c0.length) <|
    let n6:=(List.getD c0 s4.1.toNat 0)
    ck (inB n6 s4.2.length) <|
    some (.inl ((bW (s4.1+1)),(List.set s4.2 n6.toNat s4.1)))
   else
    some (.inr s4.2)) ((0:Int),(List.replicate n1.toNat (0:Int)))) fun s9=>
 OB (f19 p0 p1 p2 p3) fun c10=>
 let n11:=(c0.length:Int)
 ck (zf (8:Nat) n11 n11) <|
 let n12:=(List.replicate n11.toNat (0:Int))
 OB (
  aY (fun (s14:(ZX×Int×dX))=>
   bif (decide (s14.2.1<(n12.length:Int))) then
    ck (inB s14.2.1 s14.2.2.length) <|
    some (.inl (s14.1,(bW (s14.2.1+1)),(List.set s14.2.2 s14.2.1.toNat (-1:Int))))
   else
    some (.inr (s14.1,s14.2.2))) (c10,(0:Int),n12)) fun QM=>
 OB (
  aY (fun (uT:(Bool×dX))=>
   bif uT.1 then
    ck (BR (1:Int) (c0.length:Int) c0.length) <|
    OB (
     aY (fun (xX:(Bool×Int×dX))=>
      bif (decide (xX.2.1<((((Int.toNat (c0.length:Int))-(Int.toNat (1:Int))):Nat):Int))) then
       ck (inB xX.2.1 ((Int.toNat (c0.length:Int))-(Int.toNat (1:Int)))) <|
       let n23:=(List.getD c0 (Int.toNat ((((Int.toNat 1)+xX.2.1.toNat):Nat):Int)) (0:Int))
       ck (inB n23 QM.1.length) <|
       let n24:=(List.getD QM.1 n23.toNat eInt)
       OB (
        aY (fun (s26:(Int×Int))=>
         bif (decide (s26.2<(n24.length:Int))) then
          ck (inB s26.2 n24.length) <|
          let n28:=(List.getD n24 s26.2.toNat 0)
          OB (
           bif (!(decide (n28=0))) then
            ck (inB n28 xX.2.2.length) <|
            some (decide ((List.getD xX.2.2 n28.toNat 0)<0))
           else
            some false) fun s33=>
          OB (
           bif s33 then
            some s26.1
           else
            OB (
             bif (decide (s26.1<0)) then
              some n28
             else
              OB (f20 s26.1 n28 s9 xX.2.2) fun Dc=>
              some Dc.1) fun s36=>
            some s36) fun A_=>
          some (.inl (A_,(bW (s26.2+1))))
         else
          some (.inr s26.1)) ((-1:Int),(0:Int))) fun u_=>
       ck (inB n23 xX.2.2.length) <|
       OB (
        bif (!(decide ((List.getD xX.2.2 n23.toNat 0)=u_))) then
         ck (inB n23 xX.2.2.length) <|
         some (true,(List.set xX.2.2 n23.toNat u_))
        else
         some (xX.1,xX.2.2)) fun s43=>
       some (.inl (s43.1,(bW (xX.2.1+1)),s43.2))
      else
       some (.inr (xX.1,xX.2.2))) (false,(0:Int),uT.2)) fun s45=>
    some (.inl (s45.1,s45.2))
   else
    some (.inr uT.2)) (true,QM.2)) fun s46=>
 some s46
def sp9:aQ:=⟨sg9,u4 f9⟩
theorem aaJ:ak Try.prog 9 sp9:=
 ts [(14,ajE),(19,agC),(20,ai6)] ety [.tmp 2] an9 Try.func9 rfl ⟨adO,VB,acW,trivial⟩
def f12 (p0:gQ) (p1:Int) (p2:Int) (p3:kG) (p4:Int) (p5:Int):Option Bool:=
 let n0:=(p3.length:Int)
 OB (
  bif (decide (0≤p4)) then
   bif (decide (p4<n0)) then
    bif (decide (0≤p5)) then
     bif (decide (p5<n0)) then
      OB (f9 p0 p1 p2 p3) fun c8=>
      OB (f23 c8 p4 p5) fun c9=>
      some c9
     else
      some false
    else
     some false
   else
    some false
  else
   some false) fun s11=>
 some s11
def agL:aQ:=⟨am7,u6 f12⟩
theorem VJ:ak Try.prog 12 agL:=
 ts [(9,sp9),(23,agd)] ety [.tmp 6] am8 Try.func12 rfl ⟨aaJ,Vp,trivial⟩
def f29 (p0:dX) (p1:Int):Option (dX×Int×dG×(List au)):=
 OB (f42 p0 p1) fun c0=>
 OB (f41 c0.2.2.1 c0.2.2.2) fun c1=>
 some (c0.1,c0.2.1,c1.2.2.1,c1.2.2.2)
def ajJ:aQ:=⟨am9,u2 f29⟩
theorem adT:ak Try.prog 29 ajJ:=
 ts [(42,ajH),(41,ajG)] ety [.cell 2 71] am_ Try.func29 rfl ⟨adR,adQ,trivial⟩
def f40 (p0:dG) (p1:NK) (p2:Int) (p3:Int):Option Int:=
 OB (
  bif (decide ((p1.length:Int)<1)) then
   some true
  else
   bif (decide (64<(p1.length:Int))) then
    some true
   else
    bif (decide (32<(p0.length:Int))) then
     some true
    else
     bif (decide (p3<0)) then
      some true
     else
      some (decide (4096<p3))) fun s12=>
 bif s12 then
  some (5:Int)
 else
  dn (
   aY (fun (s13:Int)=>
    bif (decide (s13<(p0.length:Int))) then
     OB (
      ck (inB s13 p0.length) <|
      bif (decide ((List.getD p0 s13.toNat (aJ.mk cO 0)).size<0)) then
       some true
      else
       ck (inB s13 p0.length) <|
       some (decide (1024<(List.getD p0 s13.toNat (aJ.mk cO 0)).size))) fun xX=>
     bif xX then
      some (.inr (.inr (16:Int)))
     else
      some (.inl (bW (s13+1)))
    else
     some (.inr (.inl ()))) (0:Int)) fun s23=>
  OB (
   bif (decide (p2<0)) then
    some true
   else
    some (decide ((p1.length:Int)<p2))) fun C_=>
  bif C_ then
   some (15:Int)
  else
   ck (inB (0:Int) p1.length) <|
   bif (!(decide ((List.getD p1 (Int.toNat 0) aC).params=0))) then
    some (12:Int)
   else
    dn (
     aY (fun (ES:Int)=>
      bif (decide (ES<(p1.length:Int))) then
       ck (inB ES p1.length) <|
       let n34:=(List.getD p1 ES.toNat aC)
       OB (f48 p0 p1 p2 p3 n34.name n34.params n34.regs n34.blocks) fun Dc=>
       bif (!(decide (Dc=0))) then
        some (.inr (.inr Dc))
       else
        some (.inl (bW (ES+1)))
      else
       some (.inr (.inl ()))) (0:Int)) fun qK=>
    some (0:Int)
def ajK:aQ:=⟨ana,u4 f40⟩
theorem adU:ak Try.prog 40 ajK:=
 ts [(48,ajI)] ety [.tmp 2] anb Try.func40 rfl ⟨adS,trivial⟩
def f28 (p0:dG) (p1:(List au)):Option (Int×Int×Int×dG×NK):=
 ck (bG (List.length je) p0.length 24) <|
 let n0:=(je++p0)
 OB (
  aY (fun (s2:(Int×Int×Int×NK))=>
   bif (decide (s2.1<(p1.length:Int))) then
    ck (inB s2.1 p1.length) <|
    let n5:=(List.getD p1 s2.1.toNat fK)
    OB (
     OB (f35 n5.name n5.line n5.params n5.body) fun c6=>
     some (p0,p1,c6,s2.1,(0:Int),(0:Int),([]:kG))) fun s7=>
    OB (f36 n5.line s7.1 s7.2.1 s7.2.2.1 s7.2.2.2.1 (s7.2.2.1.length:Int) s7.2.2.2.2.2.1 s7.2.2.2.2.2.2) fun c9=>
    OB (f37 n5.body c9.2.1 c9.2.2.1 c9.2.2.2.1 c9.2.2.2.2.1 c9.2.2.2.2.2.1 c9.2.2.2.2.2.2.1 c9.2.2.2.2.2.2.2) fun c10=>
    OB (
     bif c10.1 then
      let n11:=(c10.2.2.2.1.length:Int)
      OB (f38 1 0 n11 0 0 0 eInt c10.2.1 c10.2.2.1 c10.2.2.2.1 c10.2.2.2.2.1 (OY c10.2.2.2.2.2.1 (bW (n11+1))) c10.2.2.2.2.2.2.1 c10.2.2.2.2.2.2.2) fun c14=>
      OB (f39 c14.2.2.2.2.2.1 3 n11 0 0 c14.1 c14.2.1 c14.2.2.1 c14.2.2.2.1 c14.2.2.2.2.1 c14.2.2.2.2.2.1 c14.2.2.2.2.2.2) fun c15=>
      some (c15.1,c15.2.1,c15.2.2.1,c15.2.2.2.1,c15.2.2.2.2.1,c15.2.2.2.2.2.1,c15.2.2.2.2.2.2)
     else
      some (c10.2.1,c10.2.2.1,c10.2.2.2.1,c10.2.2.2.2.1,c10.2.2.2.2.2.1,c10.2.2.2.2.2.2.1,c10.2.2.2.2.2.2.2)) fun s16=>
    let n18:=[(aO.mk n5.name ((List.length n5.params):Int) s16.2.2.2.2.1 s16.2.2.2.2.2.2)]
    ck (bG s2.2.2.2.length n18.length 56) <|
    some (.inl ((bW (s2.1+1)),s2.2.1,s2.2.2.1,(s2.2.2.2++n18)))
   else
    some (.inr (s2.2.1,s2.2.2.1,s2.2.2.2))) ((0:Int),(p1.length:Int),(0:Int),([]:NK))) fun xX=>
 OB (f40 n0 xX.2.2 xX.1 xX.2.1) fun I8=>
 bif (!(decide (I8=0))) then
  some ((0:Int),(0:Int),(5:Int),je,([]:NK))
 else
  some (xX.1,xX.2.1,(0:Int),n0,xX.2.2)
def ajL:aQ:=⟨anc,u2 f28⟩
theorem adV:ak Try.prog 28 ajL:=
 ts [(35,agE),(36,Z7),(37,ajr),(38,Z8),(39,XA),(40,ajK)] ai0 [.cell 2 27,.tmp 3] ane Try.func28 rfl ⟨VD,Fa,adz,Fb,Ba,adU,trivial⟩
def f17 (p0:dX) (p1:Int):Option (Int×Int×dX×Int×dG×NK):=
 OB (f29 p0 p1) fun c0=>
 OB (f28 c0.2.2.1 c0.2.2.2) fun c1=>
 some (c1.1,c1.2.1,c0.1,c0.2.1,c1.2.2.2.1,c1.2.2.2.2)
def ajM:aQ:=⟨anf,u2 f17⟩
theorem adW:ak Try.prog 17 ajM:=
 ts [(29,ajJ),(28,ajL)] ety [.cell 2 27] ang Try.func17 rfl ⟨adT,adV,trivial⟩
def f8 (p0:dX) (p1:Int):Option (NK×Int×Int×dX×Int×dG):=
 OB (f16 2 p0 p1) fun c0=>
 bif (decide (c0.1=0)) then
  OB (f17 c0.2.1 c0.2.2) fun c2=>
  some (c2.2.2.2.2.2,c2.1,c2.2.1,c2.2.2.1,c2.2.2.2.1,c2.2.2.2.2.1)
 else
  OB (f18 c0.2.1 c0.2.2) fun c3=>
  some (c3.2.2.2.2.2,c3.1,c3.2.1,c3.2.2.1,c3.2.2.2.1,c3.2.2.2.2.1)
def sp8:aQ:=⟨sg8,u2 f8⟩
theorem agM:ak Try.prog 8 sp8:=
 ts [(16,IC),(17,ajM),(18,ajF)] ety [.cell 2 27] an8 Try.func8 rfl ⟨nH,adW,adP,trivial⟩
def f22 (p0:gQ) (p1:Int) (p2:Int) (p3:kG):Option LEd:=
 OB (f9 p0 p1 p2 p3) fun c0=>
 OB (
  aY (fun (s2:(Int×LEd))=>
   bif (decide (s2.1<(p3.length:Int))) then
    ck (inB s2.1 p3.length) <|
    let n4:=(List.getD p3 s2.1.toNat aj)
    OB (f25 n4.aU n4.qI n4.dQ n4.bC) fun c5=>
    OB (f33 c5) fun c6=>
    OB (
     aY (fun (s8:(Int×LEd))=>
      bif (decide (s8.1<(c6.length:Int))) then
       ck (inB s8.1 c6.length) <|
       let n10:=(List.getD c6 s8.1.toNat 0)
       OB (f23 c0 n10 s2.1) fun c11=>
       OB (
        bif c11 then
         let n12:=[(gK.mk s2.1 n10)]
         ck (bG s8.2.length n12.length 16) <|
         some (s8.2++n12)
        else
         some s8.2) fun s14=>
       some (.inl ((bW (s8.1+1)),s14))
      else
       some (.inr s8.2)) ((0:Int),s2.2)) fun s16=>
    some (.inl ((bW (s2.1+1)),s16))
   else
    some (.inr s2.2)) ((0:Int),([]:LEd))) fun QM=>
 some QM
def ajN:aQ:=⟨anh,u4 f22⟩
theorem adX:ak Try.prog 22 ajN:=
 ts [(9,sp9),(25,acX),(33,ai2),(23,agd)] ety [.tmp 2] ani Try.func22 rfl ⟨aaJ,Ns,acP,Vp,trivial⟩
def f11 (p0:gQ) (p1:Int) (p2:Int) (p3:kG) (p4:Int):Option dX:=
 OB (f22 p0 p1 p2 p3) fun c0=>
 OB (f21 p0 p1 p2 p3 p4 c0) fun c1=>
 OB (
  aY (fun (s3:(Int×dX))=>
   bif (decide (s3.1<(c1.length:Int))) then
    ck (inB s3.1 c1.length) <|
    OB (
     bif (List.getD c1 s3.1.toNat false) then
      let n6:=[s3.1]
      ck (bG s3.2.length n6.length 8) <|
      some (s3.2++n6)
     else
      some s3.2) fun s8=>
    some (.inl ((bW (s3.1+1)),s8))
   else
    some (.inr s3.2)) ((0:Int),eInt)) fun s10=>
 some s10
def agN:aQ:=⟨anj,u5 f11⟩
theorem VK:ak Try.prog 11 agN:=
 ts [(22,ajN),(21,ajo)] ety [.tmp 4] ank Try.func11 rfl ⟨adX,adn,trivial⟩
def f6:Option Bool:=
 let n0:=[(aH.mk qJ 2 0 1 2 0 0 0),(aH.mk qJ 1 0 0 0 0 0 0),(aH.mk qJ 3 0 0 0 0 0 0)]
 OB (f11 cO 0 1 n0 0) fun c1=>
 OB (
  bif (decide ((c1.length:Int)=2)) then
   ck (inB (1:Int) c1.length) <|
   bif (decide ((List.getD c1 (Int.toNat 1) (0:Int))=1)) then
    OB (f12 cO 0 1 n0 0 2) fun c7=>
    some c7
   else
    some false
  else
   some false) fun s9=>
 some s9
def sp6:aQ:=⟨sg6,fun x=>f6⟩
theorem agO:ak Try.prog 6 sp6:=
 ts [(11,agN),(12,agL)] ety [.tmp 0] an6 Try.func6 rfl ⟨VK,VJ,trivial⟩
def f3 (p0:dX) (p1:dX):Option Bool:=
 OB (
  OB (f6) fun c0=>
  bif (!c0) then
   some true
  else
   some (decide (60<(p1.length:Int)))) fun s5=>
 bif s5 then
  some (decide (60<(p1.length:Int)))
 else
  OB (f7 p0 400) fun c8=>
  OB (f8 c8.1 c8.2) fun c9=>
  dn (
   aY (fun (s10:Int)=>
    bif (decide (s10<(c9.1.length:Int))) then
     ck (inB s10 c9.1.length) <|
     let n13:=(List.getD c9.1 s10.toNat aC)
     OB (f9 n13.name n13.params n13.regs n13.blocks) fun c14=>
     OB (
      bif (!(decide ((c14.length:Int)=((List.length n13.blocks):Int)))) then
       some true
      else
       ck (inB (0:Int) c14.length) <|
       some (!(decide ((List.getD c14 (Int.toNat 0) (0:Int))=(-1:Int))))) fun xX=>
     bif xX then
      some (.inr (.inr false))
     else
      let n22:=((List.length n13.blocks):Int)
      ck (zf (1:Nat) n22 n22) <|
      dn (
       aY (fun (s24:(Int×Int×XV))=>
        bif (decide (s24.2.1≤(p1.length:Int))) then
         ck (inB s24.1 s24.2.2.length) <|
         let n27:=(List.set s24.2.2 s24.1.toNat true)
         dn (
          aY (fun (C_:Int)=>
           bif (decide (0≤C_)) then
            OB (
             bif (decide ((n27.length:Int)≤C_)) then
              some true
             else
              ck (inB C_ n27.length) <|
              bif (!(List.getD n27 C_.toNat false)) then
               some true
              else
               bif (decide (0<C_)) then
                ck (inB C_ c14.length) <|
                some (decide ((List.getD c14 C_.toNat 0)=C_))
               else
                some false) fun Em=>
            bif Em then
             some (.inr (.inr (.inr (.inr (.inr (.inr false))))))
            else
             ck (inB C_ c14.length) <|
             some (.inl (List.getD c14 C_.toNat 0))
           else
            some (.inr (.inl ()))) s24.1) fun s43=>
         ck (inB s24.1 (List.length n13.blocks)) <|
         let n44:=(List.getD n13.blocks s24.1.toNat aj)
         OB (f10 n44.aU n44.qI n44.dQ n44.bC) fun IG=>
         OB (
          bif (decide ((IG.length:Int)=0)) then
           some true
          else
           some (decide (s24.2.1=(p1.length:Int)))) fun s51=>
         bif s51 then
          some (.inr (.inl ()))
         else
          ck (inB s24.2.1 p1.length) <|
          let n54:=(IG.length:Int)
          ck (!(decide (n54=0))) <|
          let n55:=(Int.tmod (bW (List.getD p1 s24.2.1.toNat 0)) n54)
          ck (inB n55 IG.length) <|
          some (.inl ((List.getD IG n55.toNat 0),(bW (s24.2.1+1)),n27))
        else
         some (.inr (.inl ()))) ((0:Int),(0:Int),(List.replicate n22.toNat false))) fun s58=>
      some (.inl (bW (s10+1)))
    else
     some (.inr (.inl ()))) (0:Int)) fun s60=>
  some true
def f4 (p0:dX):Option Bool:=
 OB (f6) fun c0=>
 bif (!c0) then
  some false
 else
  OB (f7 p0 400) fun c2=>
  OB (f8 c2.1 c2.2) fun c3=>
  dn (
   aY (fun (s4:Int)=>
    bif (decide (s4<(c3.1.length:Int))) then
     ck (inB s4 c3.1.length) <|
     let n7:=(List.getD c3.1 s4.toNat aC)
     dn (
      aY (fun (s8:Int)=>
       bif (decide (s8<((List.length n7.blocks):Int))) then
        OB (f11 n7.name n7.params n7.regs n7.blocks s8) fun c11=>
        dn (
         aY (fun (s12:Int)=>
          bif (decide (s12<(c11.length:Int))) then
           ck (inB s12 c11.length) <|
           OB (f12 n7.name n7.params n7.regs n7.blocks s8 (List.getD c11 s12.toNat 0)) fun c16=>
           bif (!c16) then
            some (.inr (.inr (.inr (.inr (.inr (.inr false))))))
           else
            some (.inl (bW (s12+1)))
          else
           some (.inr (.inl ()))) (0:Int)) fun uT=>
        dn (
         aY (fun (s20:Int)=>
          bif (decide (s20<((List.length n7.blocks):Int))) then
           ck (inB s20 (List.length n7.blocks)) <|
           let n23:=(List.getD n7.blocks s20.toNat aj)
           OB (f10 n23.aU n23.qI n23.dQ n23.bC) fun c24=>
           dn (
            aY (fun (xY:Int)=>
             bif (decide (xY<(c24.length:Int))) then
              OB (
               OB (f13 c11 s20) fun c28=>
               bif (!c28) then
                ck (inB xY c24.length) <|
                OB (f13 c11 (List.getD c24 xY.toNat 0)) fun c31=>
                bif c31 then
                 ck (inB xY c24.length) <|
                 some (!(decide ((List.getD c24 xY.toNat 0)=s8)))
                else
                 some false
               else
                some false) fun s36=>
              bif s36 then
               some (.inr (.inr (.inr (.inr (.inr (.inr (.inr (.inr false))))))))
              else
               some (.inl (bW (xY+1)))
             else
              some (.inr (.inl ()))) (0:Int)) fun qK=>
           some (.inl (bW (s20+1)))
          else
           some (.inr (.inl ()))) (0:Int)) fun NM=>
        dn (
         aY (fun (Em:Int)=>
          bif (decide (Em<s8)) then
           OB (f11 n7.name n7.params n7.regs n7.blocks Em) fun TD=>
           OB (
            aY (fun (s44:(Int×Int))=>
             bif (decide (s44.2<(TD.length:Int))) then
              ck (inB s44.2 TD.length) <|
              OB (f13 c11 (List.getD TD s44.2.toNat 0)) fun c48=>
              OB (
               bif c48 then
                some (bW (s44.1+1))
               else
                some s44.1) fun s50=>
              some (.inl (s50,(bW (s44.2+1))))
             else
              some (.inr s44.1)) ((0:Int),(0:Int))) fun s52=>
           OB (
            bif (decide (0<s52)) then
             bif (decide (s52<(c11.length:Int))) then
              some (decide (s52<(TD.length:Int)))
             else
              some false
            else
             some false) fun s60=>
           bif s60 then
            some (.inr (.inr (.inr (.inr (.inr (.inr false))))))
           else
            some (.inl (bW (Em+1)))
          else
           some (.inr (.inl ()))) (0:Int)) fun s62=>
        some (.inl (bW (s8+1)))
       else
        some (.inr (.inl ()))) (0:Int)) fun s64=>
     some (.inl (bW (s4+1)))
    else
     some (.inr (.inl ()))) (0:Int)) fun s66=>
  some true
def sp4:aQ:=⟨sg4,f4⟩
theorem agP:ak Try.prog 4 sp4:=
 ts [(6,sp6),(7,sp7),(8,sp8),(11,agN),(12,agL),(10,acS),(13,ai4)] ety [.tmp 2] an4 Try.func4 rfl ⟨agO,agb,agM,VK,VJ,Nr,acT,trivial⟩
end
end Go.Fg.Ytmgfidfcioiedaa

