/-
 What the functions of the seat compute, printed by a program (wip/gen).
-/
import Derived.Test.YtmgfidfcioiedaaFgA
import Derived.Test.YtmgfidfcioiedaaFgL
namespace Go.Fg.Ytmgfidfcioiedaa
open Go.Fw Go.Proofs Go.Fw.Ytmgfidfcioiedaa
noncomputable section
set_option linter.unusedVariables false
set_option maxRecDepth 100000
abbrev bg:Type:=List (List UInt8)
abbrev Qv:Type:=List (List Int)
abbrev N_:Type:=List aV
abbrev dY:Type:=List aP
abbrev kR:Type:=List aJ
abbrev iw:Type:=List UInt8
abbrev oZ:Type:=List d_
abbrev lZ:Type:=List bG
abbrev LEd:Type:=List fE
abbrev Yg:Type:=List Bool
abbrev eY:Type:=List Int
def f33:List Int→Option eY:=XK
def aju:aX:=VF
theorem ac9:au Try.prog 33 aju:=aak
abbrev OB {A B:Type}:Option A→(A→Option B)→Option B:=Option.bind
theorem ts (l:List (Nat×aX)) (e:TypeId→Option Ty) {f:FuncId} {fn:Func} {c:Code} {sp:aX} (r:List ResultVar) (a:gJ) (hf:Try.prog.funcs[f]?=some fn) (hb:fn.body=some c) (hT:XI Try.prog l) (h1:(fn.name == "runtime.NumGoroutine")=false:=by rfl) (h2:fn.results=r.toArray:=by rfl) (h3:sp.sig.er.ok=true:=by kernel_rfl) (h4:(sp.sig.aU.all fun g=>sp.sig.pin.er.nms.contains g)=true:=by rfl) (h5:sp.sig.bM≤fn.ntmps:=by exact of_decide_eq_true (by kernel_rfl)) (h6:r.length=sp.sig.dA:=by rfl)
 (h :∀x,(ZK (nC.of l) tt e fn.ntmps sp.sig r c a x).run=sp.f x:=by intro x;kernel_rfl):au Try.prog f sp:=XJ (T:=nC.of l) (ety:=e) r a hf hb h1 h2 h3 h4 h5 h6 (XI.sound hT) alR mixed h
def u2 {A0 A1 R:Type} (f:A0→A1→R) (x:A0×A1):R:=f x.1 x.2
def u3 {A0 A1 A2 R:Type} (f:A0→A1→A2→R) (x:A0×A1×A2):R:=f x.1 x.2.1 x.2.2
def u4 {A0 A1 A2 A3 R:Type} (f:A0→A1→A2→A3→R) (x:A0×A1×A2×A3):R:=f x.1 x.2.1 x.2.2.1 x.2.2.2
def u5 {A0 A1 A2 A3 A4 R:Type} (f:A0→A1→A2→A3→A4→R) (x:A0×A1×A2×A3×A4):R:=f x.1 x.2.1 x.2.2.1 x.2.2.2.1 x.2.2.2.2
def u6 {A0 A1 A2 A3 A4 A5 R:Type} (f:A0→A1→A2→A3→A4→A5→R) (x:A0×A1×A2×A3×A4×A5):R:=f x.1 x.2.1 x.2.2.1 x.2.2.2.1 x.2.2.2.2.1 x.2.2.2.2.2
def u7 {A0 A1 A2 A3 A4 A5 A6 R:Type} (f:A0→A1→A2→A3→A4→A5→A6→R) (x:A0×A1×A2×A3×A4×A5×A6):R:=f x.1 x.2.1 x.2.2.1 x.2.2.2.1 x.2.2.2.2.1 x.2.2.2.2.2.1 x.2.2.2.2.2.2
def u8 {A0 A1 A2 A3 A4 A5 A6 A7 R:Type} (f:A0→A1→A2→A3→A4→A5→A6→A7→R) (x:A0×A1×A2×A3×A4×A5×A6×A7):R:=f x.1 x.2.1 x.2.2.1 x.2.2.2.1 x.2.2.2.2.1 x.2.2.2.2.2.1 x.2.2.2.2.2.2.1 x.2.2.2.2.2.2.2
def u9 {A0 A1 A2 A3 A4 A5 A6 A7 A8 R:Type} (f:A0→A1→A2→A3→A4→A5→A6→A7→A8→R) (x:A0×A1×A2×A3×A4×A5×A6×A7×A8):R:=f x.1 x.2.1 x.2.2.1 x.2.2.2.1 x.2.2.2.2.1 x.2.2.2.2.2.1 x.2.2.2.2.2.2.1 x.2.2.2.2.2.2.2.1 x.2.2.2.2.2.2.2.2
def u10 {A0 A1 A2 A3 A4 A5 A6 A7 A8 A9 R:Type} (f:A0→A1→A2→A3→A4→A5→A6→A7→A8→A9→R) (x:A0×A1×A2×A3×A4×A5×A6×A7×A8×A9):R:=f x.1 x.2.1 x.2.2.1 x.2.2.2.1 x.2.2.2.2.1 x.2.2.2.2.2.1 x.2.2.2.2.2.2.1 x.2.2.2.2.2.2.2.1 x.2.2.2.2.2.2.2.2.1 x.2.2.2.2.2.2.2.2.2
def u11 {A0 A1 A2 A3 A4 A5 A6 A7 A8 A9 VI R:Type} (f:A0→A1→A2→A3→A4→A5→A6→A7→A8→A9→VI→R) (x:A0×A1×A2×A3×A4×A5×A6×A7×A8×A9×VI):R:=f x.1 x.2.1 x.2.2.1 x.2.2.2.1 x.2.2.2.2.1 x.2.2.2.2.2.1 x.2.2.2.2.2.2.1 x.2.2.2.2.2.2.2.1 x.2.2.2.2.2.2.2.2.1 x.2.2.2.2.2.2.2.2.2.1 x.2.2.2.2.2.2.2.2.2.2
def u12 {A0 A1 A2 A3 A4 A5 A6 A7 A8 A9 VI A11 R:Type} (f:A0→A1→A2→A3→A4→A5→A6→A7→A8→A9→VI→A11→R) (x:A0×A1×A2×A3×A4×A5×A6×A7×A8×A9×VI×A11):R:=f x.1 x.2.1 x.2.2.1 x.2.2.2.1 x.2.2.2.2.1 x.2.2.2.2.2.1 x.2.2.2.2.2.2.1 x.2.2.2.2.2.2.2.1 x.2.2.2.2.2.2.2.2.1 x.2.2.2.2.2.2.2.2.2.1 x.2.2.2.2.2.2.2.2.2.2.1 x.2.2.2.2.2.2.2.2.2.2.2
def u13 {A0 A1 A2 A3 A4 A5 A6 A7 A8 A9 VI A11 A12 R:Type} (f:A0→A1→A2→A3→A4→A5→A6→A7→A8→A9→VI→A11→A12→R) (x:A0×A1×A2×A3×A4×A5×A6×A7×A8×A9×VI×A11×A12):R:=f x.1 x.2.1 x.2.2.1 x.2.2.2.1 x.2.2.2.2.1 x.2.2.2.2.2.1 x.2.2.2.2.2.2.1 x.2.2.2.2.2.2.2.1 x.2.2.2.2.2.2.2.2.1 x.2.2.2.2.2.2.2.2.2.1 x.2.2.2.2.2.2.2.2.2.2.1 x.2.2.2.2.2.2.2.2.2.2.2.1 x.2.2.2.2.2.2.2.2.2.2.2.2
def u14 {A0 A1 A2 A3 A4 A5 A6 A7 A8 A9 VI A11 A12 A13 R:Type} (f:A0→A1→A2→A3→A4→A5→A6→A7→A8→A9→VI→A11→A12→A13→R) (x:A0×A1×A2×A3×A4×A5×A6×A7×A8×A9×VI×A11×A12×A13):R:=f x.1 x.2.1 x.2.2.1 x.2.2.2.1 x.2.2.2.2.1 x.2.2.2.2.2.1 x.2.2.2.2.2.2.1 x.2.2.2.2.2.2.2.1 x.2.2.2.2.2.2.2.2.1 x.2.2.2.2.2.2.2.2.2.1 x.2.2.2.2.2.2.2.2.2.2.1 x.2.2.2.2.2.2.2.2.2.2.2.1 x.2.2.2.2.2.2.2.2.2.2.2.2.1 x.2.2.2.2.2.2.2.2.2.2.2.2.2
def u15 {A0 A1 A2 A3 A4 A5 A6 A7 A8 A9 VI A11 A12 A13 A14 R:Type} (f:A0→A1→A2→A3→A4→A5→A6→A7→A8→A9→VI→A11→A12→A13→A14→R) (x:A0×A1×A2×A3×A4×A5×A6×A7×A8×A9×VI×A11×A12×A13×A14):R:=f x.1 x.2.1 x.2.2.1 x.2.2.2.1 x.2.2.2.2.1 x.2.2.2.2.2.1 x.2.2.2.2.2.2.1 x.2.2.2.2.2.2.2.1 x.2.2.2.2.2.2.2.2.1 x.2.2.2.2.2.2.2.2.2.1 x.2.2.2.2.2.2.2.2.2.2.1 x.2.2.2.2.2.2.2.2.2.2.2.1 x.2.2.2.2.2.2.2.2.2.2.2.2.1 x.2.2.2.2.2.2.2.2.2.2.2.2.2.1 x.2.2.2.2.2.2.2.2.2.2.2.2.2.2
abbrev T16:=Int→eY→Int→Option (Int×eY×Int)
abbrev T30:=Int→Option iw
abbrev T46:=oZ→bg→Option bg
abbrev T51:=oZ→Option Int
abbrev T74:=Int→Int→Int→Int→iw→lZ→Option Int
abbrev Yh:=Int→Int→Int→Int→iw→lZ→Int→dY→(List ay)→bg→Int→Int→Int→kR→Option (dY×(List ay)×bg×Int×Int×Int×kR)
abbrev T85:=Int→Int→Int→Int→iw→lZ→Int→dY→(List ay)→bg→Int→Int→Int→kR→Option (dY×(List ay)×bg×Int×Int×Int×kR)
abbrev T86:=lZ→Int→dY→(List ay)→bg→Int→Int→Int→kR→Option (dY×(List ay)×bg×Int×Int×Int×eY×kR)
abbrev T76:=Int→Int→Int→Int→iw→lZ→dY→(List ay)→Int→Int→bg→Option (Int×Int×Int×Int×iw×dY×(List ay)×Int×Int×bg×lZ)
abbrev T92:=lZ→dY→(List ay)→Int→Int→bg→Option (dY×(List ay)×Int×Int×bg×lZ)
abbrev T24:=Int→iw→Int→Int→kR→Yg→eY→Option (Yg×iw×Int×Int×kR×eY)
abbrev Yi:=oZ→dY→(List ay)→bg→Int→Int→Int→kR→Option (Bool×dY×(List ay)×bg×Int×Int×Int×kR)
abbrev T47:=Int→Int→iw→lZ→oZ→oZ→dY→(List ay)→bg→Int→Int→Int→kR→Option (Bool×dY×(List ay)×bg×Int×Int×Int×kR)
abbrev T67:=Int→Int→iw→lZ→oZ→oZ→Int→dY→(List ay)→bg→Int→Int→Int→kR→Option (dY×(List ay)×bg×Int×Int×Int×kR)
abbrev T70:=Int→Int→iw→lZ→oZ→oZ→Int→dY→(List ay)→bg→Int→Int→Int→kR→Option (Bool×dY×(List ay)×bg×Int×Int×Int×kR)
abbrev T54:=oZ→dY→(List ay)→Int→Int→bg→Option (dY×(List ay)×Int×Int×oZ×bg)
abbrev T95:=Int→Int→eY→Int→dY→(List ay)→bg→Option (Int×Int×Int×Int×iw×lZ×Int×eY×Int×dY×(List ay)×bg)
abbrev T98:=Int→Int→eY→Int→dY→(List ay)→bg→Option (Int×Int×Int×Int×iw×Int×eY×Int×dY×(List ay)×bg×lZ)
abbrev T55:=Int→Int→Int→eY→Int→dY→(List ay)→bg→Option (Int×eY×Int×dY×(List ay)×oZ×bg)
abbrev T78:=Int→Int→eY→Int→dY→(List ay)→bg→Option (Int×Int×iw×Int×eY×Int×dY×(List ay)×lZ×oZ×oZ×bg)
abbrev T97:=Int→Int→eY→Int→dY→(List ay)→bg→Option (Int×Int×iw×Int×eY×Int×dY×(List ay)×lZ×oZ×bg)
abbrev eInt:eY:=[]
abbrev rC:(List fZ):=[]
abbrev dN:iw:=[]
abbrev oO:lZ:=[]
abbrev jV:bg:=[]
abbrev iK:oZ:=[]
abbrev jA:dY:=[]
abbrev uZ:(List ay):=[]
def b_ (a b k:Nat):Bool:=true&&decide ((a+b)*k≤140737488355328)
def aC:aV:=aV.mk ([]:iw) (0:Int) (0:Int) ([]:kR)
def gK:ay:=ay.mk ([]:iw) (0:Int) ([]:bg) ([]:oZ)
def iy:bG:=bG.mk (0:Int) (0:Int) (0:Int) (0:Int) ([]:iw) ([]:lZ)
def aj:aJ:=aJ.mk ([]:(List fZ)) (0:Int) (0:Int) (0:Int) (0:Int) (0:Int) (0:Int) 0
def jW:d_:=d_.mk (0:Int) (0:Int) ([]:iw) ([]:lZ) ([]:oZ) ([]:oZ)
def f7 (p0:eY) (p1:Int):Option (eY×Int):=
 OB (
  bif (decide (p1<(p0.length:Int))) then
   ck (CQ (0:Int) p1 p0.length) <|
   some (List.drop (Int.toNat (0:Int)) (List.take p1.toNat p0))
  else
   some p0) fun s3=>
 some (s3,(0:Int))
def sp7:aX:=⟨sg7,u2 f7⟩
theorem agC:au Try.prog 7 sp7:=
 ts [] ety [.tmp 4] an7 Try.func7 rfl trivial
def f10 (p0:Int) (p1:Int) (p2:Int) (p3:Int):Option eY:=
 OB (
  bif (decide (p0=2)) then
   some (!(decide (p3=p2)))
  else
   some false) fun s3=>
 bif s3 then
  some [p2,p3]
 else
  OB (
   bif (decide (p0=1)) then
    some true
   else
    some (decide (p0=2))) fun s8=>
  bif s8 then
   some [p2]
  else
   some eInt
def adb:aX:=⟨al2,u4 f10⟩
theorem NQ:au Try.prog 10 adb:=
 ts [] ety [.tmp 2] al3 Try.func10 rfl trivial
def f13 (p0:eY) (p1:Int):Option Bool:=
 dI (
  aZ (fun (s0:Int)=>
   bif (decide (s0<(p0.length:Int))) then
    ck (inB s0 p0.length) <|
    bif (decide ((List.getD p0 s0.toNat 0)=p1)) then
     some (.inr (.inr true))
    else
     some (.inl (cZ (s0+1)))
   else
    some (.inr (.inl ()))) (0:Int)) fun s6=>
 some false
def ade (ajw:T16) (p0:Int) (p1:eY) (p2:Int):Option (Int×eY×Int):=
 OB (
  bif (decide ((p1.length:Int)≤p2)) then
   some true
  else
   some (decide (p0<1))) fun s4=>
 bif s4 then
  some ((0:Int),p1,p2)
 else
  ck (inB p2 p1.length) <|
  let n6:=(cZ (List.getD p1 p2.toNat 0))
  let n7:=(cZ (p2+1))
  bif (decide (256<p0)) then
   OB (ajw 256 p1 n7) fun c10=>
   ck (!(decide (p0=0))) <|
   some ((Int.tmod (cZ ((cZ (256*n6))+c10.1)) p0),c10.2.1,c10.2.2)
  else
   ck (!(decide (p0=0))) <|
   some ((Int.tmod n6 p0),p1,n7)
def TQ:Nat→T16
 |0=>(fun _ _ _=>none)
 |n+1=>(ade (TQ n))
def adf (n:Nat):T16:=(TQ n)
def Qw (n:Nat):aX:=⟨aiN,u3 (TQ n)⟩
theorem aap (n:Nat) (h16:au Try.prog 16 (Qw n)):au Try.prog 16 (Qw (n+1)):=
 ts [(16,Qw n)] ety [.tmp 4] al4 Try.func16 rfl ⟨h16,trivial⟩
theorem EG :∀n,au Try.prog 16 (Qw n)
 |0=>dD Try.func16 rfl rfl (show aiN.er.ok=true by decide +kernel) fun x=>rfl
 |n+1=>by
  have ih:=EG n
  exact aap n (ih)
def f16:T16:=adf 1048576
def I7:aX:=Qw 1048576
theorem nY:au Try.prog 16 I7:=(EG 1048576)
def agD (p0:Int) (p1:Int) (p2:eY) (p3:eY):Option (Int×eY×eY):=
 OB (
  OB (
   aZ (fun (s0:(Int×Int))=>
    bif (!(decide (s0.1=s0.2))) then
     ck (inB s0.1 p2.length) <|
     ck (inB s0.2 p2.length) <|
     OB (
      bif (decide ((List.getD p2 s0.2.toNat 0)<(List.getD p2 s0.1.toNat 0))) then
       ck (inB s0.1 p3.length) <|
       some ((List.getD p3 s0.1.toNat 0),s0.2)
      else
       ck (inB s0.2 p3.length) <|
       some (s0.1,(List.getD p3 s0.2.toNat 0))) fun s7=>
     some (.inl (s7.1,s7.2))
    else
     some (.inr s0.1)) (p0,p1)) fun s8=>
  some (s8,p2,p3)) fun s9=>
 ck (decide (p2.length=s9.2.1.length)) <|
 ck (decide (p3.length=s9.2.2.length)) <|
 some s9
def f20 (p0:Int) (p1:Int) (p2:eY) (p3:eY):Option (Int×eY×eY):=OB (agD p0 p1 p2 p3) fun (y:(Int×eY×eY))=>vS y.2.1 p2 <| vS y.2.2 p3 <| some y
def ajx:aX:=⟨al5,u4 agD⟩
theorem adg:au Try.prog 20 ajx:=
 ts [] ety [.tmp 6] al6 Try.func20 rfl trivial
def f23 (p0:eY) (p1:Int) (p2:Int):Option Bool:=
 OB (
  aZ (fun (s0:Int)=>
   OB (
    bif (decide (0≤s0)) then
     some (!(decide (p1=s0)))
    else
     some false) fun s4=>
   bif s4 then
    ck (inB s0 p0.length) <|
    some (.inl (List.getD p0 s0.toNat 0))
   else
    some (.inr s0)) p2) fun s6=>
 some (decide (0≤s6))
def agE:aX:=⟨al7,u3 f23⟩
theorem VJ:au Try.prog 23 agE:=
 ts [] ety [.tmp 6] al8 Try.func23 rfl trivial
def f25 (p0:Int) (p1:Int) (p2:Int) (p3:Int):Option eY:=
 OB (
  bif (decide (p0=1)) then
   some true
  else
   OB (
    bif (decide (p0=2)) then
     some (decide (p2=p3))
    else
     some false) fun s4=>
   some s4) fun s5=>
 bif s5 then
  some [p2]
 else
  bif (decide (p0=2)) then
   some [p2,p3]
  else
   some eInt
def aaq:aX:=⟨al9,u4 f25⟩
theorem FN:au Try.prog 25 aaq:=
 ts [] ety [.tmp 2] al_ Try.func25 rfl trivial
def f26 (p0:eY):Option eY:=
 OB (
  OB (
   aZ (fun (s2:(Int×Int×eY))=>
    bif (decide (s2.1<s2.2.1)) then
     ck (inB s2.2.1 s2.2.2.length) <|
     ck (inB s2.1 s2.2.2.length) <|
     ck (inB s2.1 s2.2.2.length) <|
     let n6:=(List.set s2.2.2 s2.1.toNat (List.getD s2.2.2 s2.2.1.toNat 0))
     ck (inB s2.2.1 n6.length) <|
     some (.inl ((cZ (s2.1+1)),(cZ (s2.2.1-1)),(List.set n6 s2.2.1.toNat (List.getD s2.2.2 s2.1.toNat 0))))
    else
     some (.inr s2.2.2)) ((0:Int),(cZ ((p0.length:Int)-1)),p0)) fun s10=>
  some s10) fun s11=>
 ck (decide (p0.length=s11.length)) <|
 some s11
def ajy:aX:=⟨ama,f26⟩
theorem adh:au Try.prog 26 ajy:=
 ts [] ety [] amb Try.func26 rfl trivial
def agF (ajz:T30) (p0:Int):Option iw:=
 let n4:=(List.map (fun (b:Int)=>(UInt8.ofNat (Int.toNat b))) [(Go.IntKind.wrap .u8 (cZ (48+(Int.tmod p0 (10:Int)))))])
 bif (decide (10≤p0)) then
  OB (ajz (cZ (Int.tdiv p0 (10:Int)))) fun c7=>
  ck (AX c7.length n4.length) <|
  some (c7++n4)
 else
  some n4
def TR:Nat→T30
 |0=>(fun _=>none)
 |n+1=>(agF (TR n))
def adi (n:Nat):T30:=(TR n)
def Qx (n:Nat):aX:=⟨aiO,(TR n)⟩
theorem aar (n:Nat) (h30:au Try.prog 30 (Qx n)):au Try.prog 30 (Qx (n+1)):=
 ts [(30,Qx n)] ety [.tmp 2] amc Try.func30 rfl ⟨h30,trivial⟩
theorem EH :∀n,au Try.prog 30 (Qx n)
 |0=>dD Try.func30 rfl rfl (show aiO.er.ok=true by decide +kernel) fun x=>rfl
 |n+1=>by
  have ih:=EH n
  exact aar n (ih)
def f30:T30:=adi 1048576
def agG:aX:=Qx 1048576
theorem VK:au Try.prog 30 agG:=(EH 1048576)
def f31 (p0:dY) (p1:N_) (p2:Int) (p3:Int) (p4:iw) (p5:Int) (p6:Int) (p7:kR) (p8:eY) (p9:Int):Option (Int×Int×Int×Int×Int×Int×eY×Int×eY):=
 OB (f16 12 p8 p9) fun c0=>
 let n1:=(cZ (1+c0.1))
 OB (f16 p6 c0.2.1 c0.2.2) fun c2=>
 OB (f16 p6 c2.2.1 c2.2.2) fun c3=>
 OB (f16 p6 c3.2.1 c3.2.2) fun c4=>
 OB (
  bif (decide (n1=1)) then
   OB (f16 6 c4.2.1 c4.2.2) fun c6=>
   some (c6.2.1,c6.2.2,n1,(0:Int),c2.1,c3.1,c4.1,(cZ (c6.1-1)),eInt)
  else
   OB (
    bif (decide (n1=3)) then
     OB (f16 2 c4.2.1 c4.2.2) fun c9=>
     some (c9.2.1,c9.2.2,n1,(cZ (1+c9.1)),c2.1,c3.1,c4.1,(0:Int),eInt)
    else
     OB (
      bif (decide (n1=4)) then
       OB (f16 9 c4.2.1 c4.2.2) fun c12=>
       some (c12.2.1,c12.2.2,n1,(cZ (3+c12.1)),c2.1,c3.1,c4.1,(0:Int),eInt)
      else
       OB (
        bif (decide (n1=7)) then
         some true
        else
         some (decide (n1=8))) fun s16=>
       OB (
        bif s16 then
         some (c4.2.1,c4.2.2,n1,(0:Int),c2.1,c3.1,c4.1,(1:Int),eInt)
        else
         OB (
          bif (decide (n1=11)) then
           OB (f16 (p1.length:Int) c4.2.1 c4.2.2) fun c19=>
           OB (
            aZ (fun (s20:(Int×eY×Int×Int×Int×Int×Int×Int×Int×eY))=>
             ck (inB s20.2.2.2.2.2.2.2.2.1 p1.length) <|
             bif (decide (s20.1<(List.getD p1 s20.2.2.2.2.2.2.2.2.1.toNat aC).params)) then
              OB (f16 p6 s20.2.1 s20.2.2.1) fun c23=>
              let n24:=[c23.1]
              ck (b_ s20.2.2.2.2.2.2.2.2.2.length n24.length 8) <|
              some (.inl ((cZ (s20.1+1)),c23.2.1,c23.2.2,s20.2.2.2.1,s20.2.2.2.2.1,s20.2.2.2.2.2.1,s20.2.2.2.2.2.2.1,s20.2.2.2.2.2.2.2.1,s20.2.2.2.2.2.2.2.2.1,(s20.2.2.2.2.2.2.2.2.2++n24)))
             else
              some (.inr (s20.2.1,s20.2.2.1,s20.2.2.2.1,s20.2.2.2.2.1,s20.2.2.2.2.2.1,s20.2.2.2.2.2.2.1,s20.2.2.2.2.2.2.2.1,s20.2.2.2.2.2.2.2.2.1,s20.2.2.2.2.2.2.2.2.2))) ((0:Int),c19.2.1,c19.2.2,n1,(0:Int),c2.1,c3.1,c4.1,c19.1,eInt)) fun XR=>
           some (XR.1,XR.2.1,XR.2.2.1,XR.2.2.2.1,XR.2.2.2.2.1,XR.2.2.2.2.2.1,XR.2.2.2.2.2.2.1,XR.2.2.2.2.2.2.2.1,XR.2.2.2.2.2.2.2.2)
          else
           OB (
            bif (decide (n1=12)) then
             OB (f16 3 c4.2.1 c4.2.2) fun c29=>
             OB (
              aZ (fun (mg:(Int×eY×Int×Int×Int×Int×Int×Int×Int×eY))=>
               bif (decide (0<mg.1)) then
                OB (f16 p6 mg.2.1 mg.2.2.1) fun c32=>
                let n33:=[c32.1]
                ck (b_ mg.2.2.2.2.2.2.2.2.2.length n33.length 8) <|
                some (.inl ((cZ (mg.1-1)),c32.2.1,c32.2.2,mg.2.2.2.1,mg.2.2.2.2.1,mg.2.2.2.2.2.1,mg.2.2.2.2.2.2.1,mg.2.2.2.2.2.2.2.1,mg.2.2.2.2.2.2.2.2.1,(mg.2.2.2.2.2.2.2.2.2++n33)))
               else
                some (.inr (mg.2.1,mg.2.2.1,mg.2.2.2.1,mg.2.2.2.2.1,mg.2.2.2.2.2.1,mg.2.2.2.2.2.2.1,mg.2.2.2.2.2.2.2.1,mg.2.2.2.2.2.2.2.2.1,mg.2.2.2.2.2.2.2.2.2))) (c29.1,c29.2.1,c29.2.2,n1,(0:Int),c2.1,c3.1,c4.1,(0:Int),eInt)) fun s36=>
             some (s36.1,s36.2.1,s36.2.2.1,s36.2.2.2.1,s36.2.2.2.2.1,s36.2.2.2.2.2.1,s36.2.2.2.2.2.2.1,s36.2.2.2.2.2.2.2.1,s36.2.2.2.2.2.2.2.2)
            else
             some (c4.2.1,c4.2.2,n1,(0:Int),c2.1,c3.1,c4.1,(0:Int),eInt)) fun BG=>
           some (BG.1,BG.2.1,BG.2.2.1,BG.2.2.2.1,BG.2.2.2.2.1,BG.2.2.2.2.2.1,BG.2.2.2.2.2.2.1,BG.2.2.2.2.2.2.2.1,BG.2.2.2.2.2.2.2.2)) fun rD=>
         some (rD.1,rD.2.1,rD.2.2.1,rD.2.2.2.1,rD.2.2.2.2.1,rD.2.2.2.2.2.1,rD.2.2.2.2.2.2.1,rD.2.2.2.2.2.2.2.1,rD.2.2.2.2.2.2.2.2)) fun vV=>
       some (vV.1,vV.2.1,vV.2.2.1,vV.2.2.2.1,vV.2.2.2.2.1,vV.2.2.2.2.2.1,vV.2.2.2.2.2.2.1,vV.2.2.2.2.2.2.2.1,vV.2.2.2.2.2.2.2.2)) fun Oa=>
     some (Oa.1,Oa.2.1,Oa.2.2.1,Oa.2.2.2.1,Oa.2.2.2.2.1,Oa.2.2.2.2.2.1,Oa.2.2.2.2.2.2.1,Oa.2.2.2.2.2.2.2.1,Oa.2.2.2.2.2.2.2.2)) fun BO=>
   some (BO.1,BO.2.1,BO.2.2.1,BO.2.2.2.1,BO.2.2.2.2.1,BO.2.2.2.2.2.1,BO.2.2.2.2.2.2.1,BO.2.2.2.2.2.2.2.1,BO.2.2.2.2.2.2.2.2)) fun mD=>
 OB (
  bif (decide (mD.2.2.1=1)) then
   bif (decide (0<p2)) then
    OB (f16 3 mD.1 mD.2.1) fun c46=>
    some ((decide (c46.1=0)),c46.2.1,c46.2.2)
   else
    some (false,mD.1,mD.2.1)
  else
   some (false,mD.1,mD.2.1)) fun s49=>
 bif s49.1 then
  OB (f16 p2 s49.2.1 s49.2.2) fun c50=>
  some ((14:Int),(0:Int),mD.2.2.2.2.1,(0:Int),(0:Int),c50.1,c50.2.1,c50.2.2,eInt)
 else
  some (mD.2.2.1,mD.2.2.2.1,mD.2.2.2.2.1,mD.2.2.2.2.2.1,mD.2.2.2.2.2.2.1,mD.2.2.2.2.2.2.2.1,s49.2.1,s49.2.2,mD.2.2.2.2.2.2.2.2)
def ajA:aX:=⟨amd,u10 f31⟩
theorem adk:au Try.prog 31 ajA:=
 ts [(16,I7)] ety [.cell 6 78] ame Try.func31 rfl ⟨nY,trivial⟩
def f34 (p0:LEd) (p1:Int) (p2:Int):Option Int:=
 dI (
  aZ (fun (s1:Int)=>
   bif (decide (s1<(p0.length:Int))) then
    ck (inB s1 p0.length) <|
    let n3:=(List.getD p0 s1.toNat (fE.mk 0 0))
    bif ((decide (p1=n3.from'))&&((decide (p2=n3.to))&&true)) then
     some (.inr (.inr s1))
    else
     some (.inl (cZ (s1+1)))
   else
    some (.inr (.inl ()))) (0:Int)) fun s6=>
 some (-1:Int)
def ajB:aX:=⟨amf,u3 f34⟩
theorem adl:au Try.prog 34 ajB:=
 ts [] ety [.tmp 4] amg Try.func34 rfl trivial
def f36 (p0:Int) (p1:dY) (p2:(List ay)) (p3:bg) (p4:Int) (p5:Int) (p6:Int) (p7:kR):Option (Int×dY×(List ay)×bg×Int×Int×Int×kR):=
 let n0:=(p7.length:Int)
 let n1:=[(aJ.mk rC 0 0 0 0 p0 p4 n0)]
 ck (b_ p7.length n1.length 80) <|
 some (n0,p1,p2,p3,p4,p5,n0,(p7++n1))
def aas:aX:=⟨amh,u8 f36⟩
theorem FP:au Try.prog 36 aas:=
 ts [] aiP [.tmp 4] ami Try.func36 rfl trivial
def f38 (p0:Int) (p1:Int) (p2:Int) (p3:Int) (p4:Int) (p5:Int) (p6:eY) (p7:dY) (p8:(List ay)) (p9:bg) (p10:Int) (p11:Int) (p12:Int) (p13:kR):Option (dY×(List ay)×bg×Int×Int×Int×kR):=
 OB (
  ck (inB p12 p13.length) <|
  let n0:=[(fZ.mk p0 p1 p2 p3 p4 p5 p6)]
  ck (true&&(decide ((((List.length (List.getD p13 p12.toNat aj).instrs)+n0.length)*(72:Nat))≤(140737488355328:Nat)))) <|
  ck (inB p12 p13.length) <|
  ck (Nat.beq p12.toNat p12.toNat) <|
  some (p7,p8,p9,p10,p11,p12,(List.set p13 p12.toNat (aJ.mk ((List.getD p13 p12.toNat aj).instrs++n0) (List.getD p13 p12.toNat aj).bf (List.getD p13 p12.toNat aj).oH (List.getD p13 p12.toNat aj).dV (List.getD p13 p12.toNat aj).bK (List.getD p13 p12.toNat aj).line (List.getD p13 p12.toNat aj).jG (List.getD p13 p12.toNat aj).iU)))) fun s3=>
 ck (decide (p13.length=s3.2.2.2.2.2.2.length)) <|
 some s3
def aat:aX:=⟨amj,u14 f38⟩
theorem FQ:au Try.prog 38 aat:=
 ts [] aiQ [] amk Try.func38 rfl trivial
def f39 (p0:Int) (p1:Int) (p2:Int) (p3:Int) (p4:Int) (p5:dY) (p6:(List ay)) (p7:bg) (p8:Int) (p9:Int) (p10:Int) (p11:kR):Option (dY×(List ay)×bg×Int×Int×Int×kR):=
 OB (
  ck (inB p0 p11.length) <|
  some (p5,p6,p7,p8,p9,p10,(List.set p11 p0.toNat (aJ.mk (List.getD p11 p0.toNat aj).instrs p1 p2 p3 p4 (List.getD p11 p0.toNat aj).line (List.getD p11 p0.toNat aj).jG (List.getD p11 p0.toNat aj).iU)))) fun s1=>
 ck (decide (p11.length=s1.2.2.2.2.2.2.length)) <|
 some s1
def XT:aX:=⟨aml,u12 f39⟩
theorem BH:au Try.prog 39 XT:=
 ts [] aiR [] amm Try.func39 rfl trivial
def f43 (p0:iw) (p1:Int) (p2:Int) (p3:kR):Option Yg:=
 let n0:=(p3.length:Int)
 ck (vP (1:Nat) n0 n0) <|
 let n1:=(List.replicate n0.toNat false)
 bif (decide ((n1.length:Int)=0)) then
  some n1
 else
  ck (inB (0:Int) n1.length) <|
  OB (
   aZ (fun (s6:(Yg×eY))=>
    bif (decide (0<(s6.2.length:Int))) then
     let n10:=(cZ ((s6.2.length:Int)-1))
     ck (inB n10 s6.2.length) <|
     let n11:=(List.getD s6.2 n10.toNat 0)
     let n13:=(cZ ((s6.2.length:Int)-1))
     ck ((decide (0≤n13))&&(decide (n13≤(s6.2.length:Int)))) <|
     ck (inB n11 p3.length) <|
     let n15:=(List.getD p3 n11.toNat aj)
     OB (f10 n15.bf n15.oH n15.dV n15.bK) fun c16=>
     OB (
      aZ (fun (oP:(Int×Yg×eY))=>
       bif (decide (oP.1<(c16.length:Int))) then
        ck (inB oP.1 c16.length) <|
        let n20:=(List.getD c16 oP.1.toNat 0)
        ck (inB n20 oP.2.1.length) <|
        OB (
         bif (!(List.getD oP.2.1 n20.toNat false)) then
          ck (inB oP.1 c16.length) <|
          let n23:=(List.getD c16 oP.1.toNat 0)
          ck (inB n23 oP.2.1.length) <|
          ck (inB oP.1 c16.length) <|
          let n26:=[(List.getD c16 oP.1.toNat 0)]
          ck (b_ oP.2.2.length n26.length 8) <|
          some ((List.set oP.2.1 n23.toNat true),(oP.2.2++n26))
         else
          some (oP.2.1,oP.2.2)) fun Dz=>
        some (.inl ((cZ (oP.1+1)),Dz.1,Dz.2))
       else
        some (.inr (oP.2.1,oP.2.2))) ((0:Int),s6.1,(List.take n13.toNat s6.2))) fun mg=>
     some (.inl (mg.1,mg.2))
    else
     some (.inr s6.1)) ((List.set n1 (Int.toNat (0:Int)) true),[(0:Int)])) fun Fp=>
  some Fp
def agH:aX:=⟨amn,u4 f43⟩
theorem VL:au Try.prog 43 agH:=
 ts [(10,adb)] aiS [.tmp 2] amo Try.func43 rfl ⟨NQ,trivial⟩
def agI (afg:T46) (p0:oZ) (p1:bg):Option bg:=
 OB (
  aZ (fun (s0:(Int×bg))=>
   bif (decide (s0.1<(p0.length:Int))) then
    ck (inB s0.1 p0.length) <|
    OB (
     bif (decide ((List.getD p0 s0.1.toNat jW).kind=1)) then
      ck (inB s0.1 p0.length) <|
      let n6:=[(List.getD p0 s0.1.toNat jW).name]
      ck (b_ s0.2.length n6.length 16) <|
      some (s0.2++n6)
     else
      some s0.2) fun s8=>
    ck (inB s0.1 p0.length) <|
    OB (afg (List.getD p0 s0.1.toNat jW).then' s8) fun c10=>
    ck (inB s0.1 p0.length) <|
    OB (afg (List.getD p0 s0.1.toNat jW).else' c10) fun c12=>
    some (.inl ((cZ (s0.1+1)),c12))
   else
    some (.inr s0.2)) ((0:Int),p1)) fun s14=>
 some s14
def TU:Nat→T46
 |0=>(fun _ _=>none)
 |n+1=>(agI (TU n))
def agJ (n:Nat):T46:=(TU n)
def Qy (n:Nat):aX:=⟨aiT,u2 (TU n)⟩
theorem aau (n:Nat) (h46:au Try.prog 46 (Qy n)):au Try.prog 46 (Qy (n+1)):=
 ts [(46,Qy n)] ety [.tmp 4] amq Try.func46 rfl ⟨h46,trivial⟩
theorem EI :∀n,au Try.prog 46 (Qy n)
 |0=>dD Try.func46 rfl rfl (show aiT.er.ok=true by decide +kernel) fun x=>rfl
 |n+1=>by
  have ih:=EI n
  exact aau n (ih)
def f46:T46:=agJ 1048576
def ajC:aX:=Qy 1048576
theorem adn:au Try.prog 46 ajC:=(EI 1048576)
def f49 (p0:dY) (p1:(List ay)) (p2:iw):Option Int:=
 dI (
  aZ (fun (s0:Int)=>
   bif (decide (s0<(p0.length:Int))) then
    ck (inB s0 p0.length) <|
    bif ((List.getD p0 s0.toNat (aP.mk dN 0)).name==p2) then
     some (.inr (.inr s0))
    else
     some (.inl (cZ (s0+1)))
   else
    some (.inr (.inl ()))) (0:Int)) fun s6=>
 some (-1:Int)
def aav:aX:=⟨amr,u3 f49⟩
theorem FT:au Try.prog 49 aav:=
 ts [] ety [.tmp 4] ams Try.func49 rfl trivial
def f50 (p0:dY) (p1:(List ay)) (p2:iw):Option Int:=
 dI (
  aZ (fun (s0:Int)=>
   bif (decide (s0<(p1.length:Int))) then
    ck (inB s0 p1.length) <|
    bif ((List.getD p1 s0.toNat gK).name==p2) then
     some (.inr (.inr s0))
    else
     some (.inl (cZ (s0+1)))
   else
    some (.inr (.inl ()))) (0:Int)) fun s6=>
 some (-1:Int)
def aaw:aX:=⟨amu,u3 f50⟩
theorem FU:au Try.prog 50 aaw:=
 ts [] ety [.tmp 4] amv Try.func50 rfl trivial
def agK (afh:T51) (p0:oZ):Option Int:=
 OB (
  aZ (fun (s0:(Int×Int))=>
   bif (decide (s0.2<(p0.length:Int))) then
    ck (inB s0.2 p0.length) <|
    OB (afh (List.getD p0 s0.2.toNat jW).then') fun c4=>
    ck (inB s0.2 p0.length) <|
    OB (afh (List.getD p0 s0.2.toNat jW).else') fun c7=>
    some (.inl ((Po (Po s0.1 (cZ (1+c4))) (cZ (1+c7))),(cZ (s0.2+1))))
   else
    some (.inr s0.1)) ((0:Int),(0:Int))) fun s11=>
 some s11
def TY:Nat→T51
 |0=>(fun _=>none)
 |n+1=>(agK (TY n))
def agL (n:Nat):T51:=(TY n)
def Qz (n:Nat):aX:=⟨aiU,(TY n)⟩
theorem aax (n:Nat) (h51:au Try.prog 51 (Qz n)):au Try.prog 51 (Qz (n+1)):=
 ts [(51,Qz n)] ety [.tmp 2] amw Try.func51 rfl ⟨h51,trivial⟩
theorem EJ :∀n,au Try.prog 51 (Qz n)
 |0=>dD Try.func51 rfl rfl (show aiU.er.ok=true by decide +kernel) fun x=>rfl
 |n+1=>by
  have ih:=EJ n
  exact aax n (ih)
def f51:T51:=agL 1048576
def ajD:aX:=Qz 1048576
theorem ado:au Try.prog 51 ajD:=(EJ 1048576)
def f52 (p0:bg) (p1:iw):Option Bool:=
 dI (
  aZ (fun (s0:Int)=>
   bif (decide (s0<(p0.length:Int))) then
    ck (inB s0 p0.length) <|
    bif ((List.getD p0 s0.toNat dN)==p1) then
     some (.inr (.inr true))
    else
     some (.inl (cZ (s0+1)))
   else
    some (.inr (.inl ()))) (0:Int)) fun s6=>
 some false
def agM:aX:=⟨amx,u2 f52⟩
theorem VN:au Try.prog 52 agM:=
 ts [] ety [.tmp 4] amy Try.func52 rfl trivial
def f53 (p0:dY) (p1:(List ay)) (p2:iw):Option Int:=
 OB (f49 p0 p1 p2) fun c0=>
 bif (decide (0≤c0)) then
  ck (inB c0 p0.length) <|
  bif (decide (0<(List.getD p0 c0.toNat (aP.mk dN 0)).size)) then
   some (3:Int)
  else
   some (2:Int)
 else
  OB (f50 p0 p1 p2) fun c4=>
  bif (decide (0≤c4)) then
   some (4:Int)
  else
   some (0:Int)
def agN:aX:=⟨amA,u3 f53⟩
theorem VO:au Try.prog 53 agN:=
 ts [(49,aav),(50,aaw)] ety [.tmp 4] amB Try.func53 rfl ⟨FT,FU,trivial⟩
def agO (p0:iw) (p1:dY) (p2:(List ay)) (p3:bg) (p4:Int) (p5:Int) (p6:Int) (p7:kR):Option (Int×dY×(List ay)×bg×Int×Int×Int×kR):=
 OB (
  dI (
   aZ (fun (s0:Int)=>
    bif (decide (s0<(p3.length:Int))) then
     ck (inB s0 p3.length) <|
     bif ((List.getD p3 s0.toNat dN)==p0) then
      some (.inr (.inr (s0,p1,p2,p3,p4,p5,p6,p7)))
     else
      some (.inl (cZ (s0+1)))
    else
     some (.inr (.inl ()))) (0:Int)) fun s6=>
  some ((-1:Int),p1,p2,p3,p4,p5,p6,p7)) fun s7=>
 ck (decide (p7.length=s7.2.2.2.2.2.2.2.length)) <|
 some s7
def f69 (p0:iw) (p1:dY) (p2:(List ay)) (p3:bg) (p4:Int) (p5:Int) (p6:Int) (p7:kR):Option (Int×dY×(List ay)×bg×Int×Int×Int×kR):=OB (agO p0 p1 p2 p3 p4 p5 p6 p7) fun (y:(Int×dY×(List ay)×bg×Int×Int×Int×kR))=>vS y.2.2.2.2.2.2.2 p7 <| some y
def agP:aX:=⟨amC,u8 agO⟩
theorem VP:au Try.prog 69 agP:=
 ts [] aiV [.tmp 4] amD Try.func69 rfl trivial
def f71 (p0:iw) (p1:Int) (p2:Int) (p3:kR):Option Int:=
 OB (
  aZ (fun (s0:(Int×Int))=>
   bif (decide (s0.2<(p3.length:Int))) then
    ck (inB s0.2 p3.length) <|
    some (.inl ((cZ (s0.1+(cZ (((List.length (List.getD p3 s0.2.toNat aj).instrs):Int)+1)))),(cZ (s0.2+1))))
   else
    some (.inr s0.1)) ((0:Int),(0:Int))) fun s8=>
 some s8
def ajE:aX:=⟨amE,u4 f71⟩
theorem adp:au Try.prog 71 ajE:=
 ts [] ety [.tmp 2] amF Try.func71 rfl trivial
def f73 (p0:iw) (p1:Int) (p2:Int) (p3:kR) (p4:Int) (p5:Int) (p6:Int) (p7:Int):Option Int:=
 OB (
  bif (decide (p4<1)) then
   some true
  else
   some (decide (3<p4))) fun s3=>
 bif s3 then
  some (17:Int)
 else
  OB (
   bif (!(decide (p4=1))) then
    bif (decide (p5<0)) then
     some true
    else
     some (decide (p2≤p5))
   else
    some false) fun s10=>
  bif s10 then
   some (14:Int)
  else
   OB (f10 p4 p5 p6 p7) fun c11=>
   dI (
    aZ (fun (s12:Int)=>
     bif (decide (s12<(c11.length:Int))) then
      OB (
       ck (inB s12 c11.length) <|
       bif (decide ((List.getD c11 s12.toNat 0)<0)) then
        some true
       else
        ck (inB s12 c11.length) <|
        some (decide ((p3.length:Int)≤(List.getD c11 s12.toNat 0)))) fun yE=>
      bif yE then
       some (.inr (.inr (13:Int)))
      else
       some (.inl (cZ (s12+1)))
     else
      some (.inr (.inl ()))) (0:Int)) fun s23=>
   some (0:Int)
def ajF:aX:=⟨amG,u8 f73⟩
theorem adq:au Try.prog 73 ajF:=
 ts [(10,adb)] ety [.tmp 4] amH Try.func73 rfl ⟨NQ,trivial⟩
def agQ (ajG:T74) (p0:Int) (p1:Int) (p2:Int) (p3:Int) (p4:iw) (p5:lZ):Option Int:=
 OB (
  aZ (fun (s0:(Int×Int))=>
   bif (decide (s0.2<(p5.length:Int))) then
    ck (inB s0.2 p5.length) <|
    let n3:=(List.getD p5 s0.2.toNat iy)
    OB (ajG n3.kind n3.op n3.value n3.line n3.name n3.args) fun c4=>
    some (.inl ((Po s0.1 c4),(cZ (s0.2+1))))
   else
    some (.inr s0.1)) ((0:Int),(0:Int))) fun s7=>
 some (cZ (s7+1))
def T_:Nat→T74
 |0=>(fun _ _ _ _ _ _=>none)
 |n+1=>(agQ (T_ n))
def agR (n:Nat):T74:=(T_ n)
def QA (n:Nat):aX:=⟨aiW,u6 (T_ n)⟩
theorem aay (n:Nat) (h74:au Try.prog 74 (QA n)):au Try.prog 74 (QA (n+1)):=
 ts [(74,QA n)] ety [.tmp 2] amI Try.func74 rfl ⟨h74,trivial⟩
theorem EK :∀n,au Try.prog 74 (QA n)
 |0=>dD Try.func74 rfl rfl (show aiW.er.ok=true by decide +kernel) fun x=>rfl
 |n+1=>by
  have ih:=EK n
  exact aay n (ih)
def f74:T74:=agR 1048576
def ajH:aX:=QA 1048576
theorem adr:au Try.prog 74 ajH:=(EK 1048576)
def agS (p0:Int) (p1:Int) (p2:dY) (p3:(List ay)) (p4:Int) (p5:Int) (p6:bg):Option (dY×(List ay)×Int×Int×bg):=
 OB (
  OB (
   bif (decide (p5=0)) then
    some (p2,p3,p0,p1)
   else
    some (p2,p3,p4,p5)) fun s1=>
  some (s1.1,s1.2.1,s1.2.2.1,s1.2.2.2,p6)) fun s2=>
 ck (decide (p6.length=s2.2.2.2.2.length)) <|
 some s2
def f75 (p0:Int) (p1:Int) (p2:dY) (p3:(List ay)) (p4:Int) (p5:Int) (p6:bg):Option (dY×(List ay)×Int×Int×bg):=OB (agS p0 p1 p2 p3 p4 p5 p6) fun (y:(dY×(List ay)×Int×Int×bg))=>vS y.2.2.2.2 p6 <| some y
def ads:aX:=⟨amJ,u7 agS⟩
theorem NR:au Try.prog 75 ads:=
 ts [] ety [] amK Try.func75 rfl trivial
def agT (p0:iw) (p1:dY) (p2:(List ay)) (p3:Int) (p4:Int) (p5:bg):Option (Int×dY×(List ay)×Int×Int×bg):=
 OB (
  OB (f52 p5 p0) fun c0=>
  bif c0 then
   some ((1:Int),p1,p2,p3,p4,p5)
  else
   OB (f53 p1 p2 p0) fun c1=>
   some (c1,p1,p2,p3,p4,p5)) fun s2=>
 ck (decide (p5.length=s2.2.2.2.2.2.length)) <|
 some s2
def f77 (p0:iw) (p1:dY) (p2:(List ay)) (p3:Int) (p4:Int) (p5:bg):Option (Int×dY×(List ay)×Int×Int×bg):=OB (agT p0 p1 p2 p3 p4 p5) fun (y:(Int×dY×(List ay)×Int×Int×bg))=>vS y.2.2.2.2.2 p5 <| some y
def aaz:aX:=⟨amL,u6 agT⟩
theorem FV:au Try.prog 77 aaz:=
 ts [(52,agM),(53,agN)] ety [.tmp 4] amM Try.func77 rfl ⟨VN,VO,trivial⟩
def adt (QB:Yh) (aaA:T85) (aaB:T86) (p0:Int) (p1:Int) (p2:Int) (p3:Int) (p4:iw) (p5:lZ) (p6:Int) (p7:dY) (p8:(List ay)) (p9:bg) (p10:Int) (p11:Int) (p12:Int) (p13:kR):Option (dY×(List ay)×bg×Int×Int×Int×kR):=
 let n1:=(Po p11 (cZ (p6+1)))
 OB (
  bif (decide (p0=7)) then
   some true
  else
   some (decide (p0=8))) fun s5=>
 bif s5 then
  OB (aaA p0 p1 p2 p3 p4 p5 p6 p7 p8 p9 p10 n1 p12 p13) fun c6=>
  some (c6.1,c6.2.1,c6.2.2.1,c6.2.2.2.1,c6.2.2.2.2.1,c6.2.2.2.2.2.1,c6.2.2.2.2.2.2)
 else
  OB (aaB p5 p6 p7 p8 p9 p10 n1 p12 p13) fun c7=>
  OB (
   bif (decide (p0=1)) then
    OB (f38 1 0 p6 0 0 p2 eInt c7.1 c7.2.1 c7.2.2.1 c7.2.2.2.1 c7.2.2.2.2.1 c7.2.2.2.2.2.1 c7.2.2.2.2.2.2.2) fun c9=>
    some (c9.1,c9.2.1,c9.2.2.1,c9.2.2.2.1,c9.2.2.2.2.1,c9.2.2.2.2.2.1,c9.2.2.2.2.2.2)
   else
    OB (
     bif (decide (p0=2)) then
      OB (f69 p4 c7.1 c7.2.1 c7.2.2.1 c7.2.2.2.1 c7.2.2.2.2.1 c7.2.2.2.2.2.1 c7.2.2.2.2.2.2.2) fun c11=>
      OB (f38 2 0 p6 c11.1 0 0 eInt c11.2.1 c11.2.2.1 c11.2.2.2.1 c11.2.2.2.2.1 c11.2.2.2.2.2.1 c11.2.2.2.2.2.2.1 c7.2.2.2.2.2.2.2) fun c12=>
      some (c12.1,c12.2.1,c12.2.2.1,c12.2.2.2.1,c12.2.2.2.2.1,c12.2.2.2.2.2.1,c12.2.2.2.2.2.2)
     else
      OB (
       bif (decide (p0=3)) then
        OB (f49 c7.1 c7.2.1 p4) fun c14=>
        OB (f38 5 0 p6 0 0 c14 eInt c7.1 c7.2.1 c7.2.2.1 c7.2.2.2.1 c7.2.2.2.2.1 c7.2.2.2.2.2.1 c7.2.2.2.2.2.2.2) fun c15=>
        some (c15.1,c15.2.1,c15.2.2.1,c15.2.2.2.1,c15.2.2.2.2.1,c15.2.2.2.2.2.1,c15.2.2.2.2.2.2)
       else
        OB (
         bif (decide (p0=4)) then
          OB (f49 c7.1 c7.2.1 p4) fun c17=>
          OB (f38 7 0 p6 p6 0 c17 eInt c7.1 c7.2.1 c7.2.2.1 c7.2.2.2.1 c7.2.2.2.2.1 c7.2.2.2.2.2.1 c7.2.2.2.2.2.2.2) fun c18=>
          some (c18.1,c18.2.1,c18.2.2.1,c18.2.2.2.1,c18.2.2.2.2.1,c18.2.2.2.2.2.1,c18.2.2.2.2.2.2)
         else
          OB (
           bif (decide (p0=5)) then
            OB (f38 3 p1 p6 p6 0 0 eInt c7.1 c7.2.1 c7.2.2.1 c7.2.2.2.1 c7.2.2.2.2.1 c7.2.2.2.2.2.1 c7.2.2.2.2.2.2.2) fun c20=>
            some (c20.1,c20.2.1,c20.2.2.1,c20.2.2.2.1,c20.2.2.2.2.1,c20.2.2.2.2.2.1,c20.2.2.2.2.2.2)
           else
            OB (
             bif (decide (p0=6)) then
              OB (f38 4 p1 p6 p6 (cZ (p6+1)) 0 eInt c7.1 c7.2.1 c7.2.2.1 c7.2.2.2.1 c7.2.2.2.2.1 c7.2.2.2.2.2.1 c7.2.2.2.2.2.2.2) fun c23=>
              some (c23.1,c23.2.1,c23.2.2.1,c23.2.2.2.1,c23.2.2.2.2.1,c23.2.2.2.2.2.1,c23.2.2.2.2.2.2)
             else
              OB (
               bif (decide (p0=9)) then
                OB (f50 c7.1 c7.2.1 p4) fun c25=>
                OB (f38 11 0 p6 0 0 c25 c7.2.2.2.2.2.2.1 c7.1 c7.2.1 c7.2.2.1 c7.2.2.2.1 c7.2.2.2.2.1 c7.2.2.2.2.2.1 c7.2.2.2.2.2.2.2) fun Q8=>
                some (Q8.1,Q8.2.1,Q8.2.2.1,Q8.2.2.2.1,Q8.2.2.2.2.1,Q8.2.2.2.2.2.1,Q8.2.2.2.2.2.2)
               else
                OB (
                 bif (decide (p0=10)) then
                  ck (CQ (1:Int) (c7.2.2.2.2.2.2.1.length:Int) c7.2.2.2.2.2.2.1.length) <|
                  OB (f38 12 0 p6 p6 0 0 (List.drop (Int.toNat (1:Int)) (List.take (Int.toNat (c7.2.2.2.2.2.2.1.length:Int)) c7.2.2.2.2.2.2.1)) c7.1 c7.2.1 c7.2.2.1 c7.2.2.2.1 c7.2.2.2.2.1 c7.2.2.2.2.2.1 c7.2.2.2.2.2.2.2) fun c28=>
                  some (c28.1,c28.2.1,c28.2.2.1,c28.2.2.2.1,c28.2.2.2.2.1,c28.2.2.2.2.2.1,c28.2.2.2.2.2.2)
                 else
                  OB (
                   bif (decide (p0=11)) then
                    OB (f50 c7.1 c7.2.1 p4) fun KU=>
                    OB (f38 14 0 p6 0 0 KU eInt c7.1 c7.2.1 c7.2.2.1 c7.2.2.2.1 c7.2.2.2.2.1 c7.2.2.2.2.2.1 c7.2.2.2.2.2.2.2) fun c31=>
                    some (c31.1,c31.2.1,c31.2.2.1,c31.2.2.2.1,c31.2.2.2.2.1,c31.2.2.2.2.2.1,c31.2.2.2.2.2.2)
                   else
                    OB (
                     bif (decide (p0=12)) then
                      OB (f38 9 0 p6 0 0 0 eInt c7.1 c7.2.1 c7.2.2.1 c7.2.2.2.1 c7.2.2.2.2.1 c7.2.2.2.2.2.1 c7.2.2.2.2.2.2.2) fun KW=>
                      some (KW.1,KW.2.1,KW.2.2.1,KW.2.2.2.1,KW.2.2.2.2.1,KW.2.2.2.2.2.1,KW.2.2.2.2.2.2)
                     else
                      some (c7.1,c7.2.1,c7.2.2.1,c7.2.2.2.1,c7.2.2.2.2.1,c7.2.2.2.2.2.1,c7.2.2.2.2.2.2.2)) fun s34=>
                    some (s34.1,s34.2.1,s34.2.2.1,s34.2.2.2.1,s34.2.2.2.2.1,s34.2.2.2.2.2.1,s34.2.2.2.2.2.2)) fun Q9=>
                  some (Q9.1,Q9.2.1,Q9.2.2.1,Q9.2.2.2.1,Q9.2.2.2.2.1,Q9.2.2.2.2.2.1,Q9.2.2.2.2.2.2)) fun s36=>
                some (s36.1,s36.2.1,s36.2.2.1,s36.2.2.2.1,s36.2.2.2.2.1,s36.2.2.2.2.2.1,s36.2.2.2.2.2.2)) fun BG=>
              some (BG.1,BG.2.1,BG.2.2.1,BG.2.2.2.1,BG.2.2.2.2.1,BG.2.2.2.2.2.1,BG.2.2.2.2.2.2)) fun rD=>
            some (rD.1,rD.2.1,rD.2.2.1,rD.2.2.2.1,rD.2.2.2.2.1,rD.2.2.2.2.2.1,rD.2.2.2.2.2.2)) fun vV=>
          some (vV.1,vV.2.1,vV.2.2.1,vV.2.2.2.1,vV.2.2.2.2.1,vV.2.2.2.2.2.1,vV.2.2.2.2.2.2)) fun Oa=>
        some (Oa.1,Oa.2.1,Oa.2.2.1,Oa.2.2.2.1,Oa.2.2.2.2.1,Oa.2.2.2.2.2.1,Oa.2.2.2.2.2.2)) fun BO=>
      some (BO.1,BO.2.1,BO.2.2.1,BO.2.2.2.1,BO.2.2.2.2.1,BO.2.2.2.2.2.1,BO.2.2.2.2.2.2)) fun mD=>
    some (mD.1,mD.2.1,mD.2.2.1,mD.2.2.2.1,mD.2.2.2.2.1,mD.2.2.2.2.2.1,mD.2.2.2.2.2.2)) fun s43=>
  some (s43.1,s43.2.1,s43.2.2.1,s43.2.2.2.1,s43.2.2.2.2.1,s43.2.2.2.2.2.1,s43.2.2.2.2.2.2)
def adu (QB:Yh) (aaA:T85) (aaB:T86) (p0:Int) (p1:Int) (p2:Int) (p3:Int) (p4:iw) (p5:lZ) (p6:Int) (p7:dY) (p8:(List ay)) (p9:bg) (p10:Int) (p11:Int) (p12:Int) (p13:kR):Option (dY×(List ay)×bg×Int×Int×Int×kR):=
 ck (inB (0:Int) p5.length) <|
 let n1:=(List.getD p5 (Int.toNat 0) iy)
 OB (QB n1.kind n1.op n1.value n1.line n1.name n1.args p6 p7 p8 p9 p10 p11 p12 p13) fun c2=>
 OB (f36 p3 c2.1 c2.2.1 c2.2.2.1 c2.2.2.2.1 c2.2.2.2.2.1 c2.2.2.2.2.2.1 c2.2.2.2.2.2.2) fun c3=>
 ck (inB (1:Int) p5.length) <|
 let n4:=(List.getD p5 (Int.toNat 1) iy)
 OB (QB n4.kind n4.op n4.value n4.line n4.name n4.args p6 c3.2.1 c3.2.2.1 c3.2.2.2.1 c3.2.2.2.2.1 c3.2.2.2.2.2.1 c3.2.2.2.2.2.2.1 c3.2.2.2.2.2.2.2) fun c5=>
 OB (f36 p3 c5.1 c5.2.1 c5.2.2.1 c5.2.2.2.1 c5.2.2.2.2.1 c5.2.2.2.2.2.1 c5.2.2.2.2.2.2) fun c6=>
 OB (f38 1 0 p6 0 0 1 eInt c6.2.1 c6.2.2.1 c6.2.2.2.1 c6.2.2.2.2.1 c6.2.2.2.2.2.1 c6.2.2.2.2.2.2.1 c6.2.2.2.2.2.2.2) fun c7=>
 OB (f36 p3 c7.1 c7.2.1 c7.2.2.1 c7.2.2.2.1 c7.2.2.2.2.1 c7.2.2.2.2.2.1 c7.2.2.2.2.2.2) fun c8=>
 OB (f38 1 0 p6 0 0 0 eInt c8.2.1 c8.2.2.1 c8.2.2.2.1 c8.2.2.2.2.1 c8.2.2.2.2.2.1 c8.2.2.2.2.2.2.1 c8.2.2.2.2.2.2.2) fun c9=>
 OB (f36 p3 c9.1 c9.2.1 c9.2.2.1 c9.2.2.2.1 c9.2.2.2.2.1 c9.2.2.2.2.2.1 c9.2.2.2.2.2.2) fun c10=>
 OB (f39 c5.2.2.2.2.2.1 2 p6 c6.1 c8.1 c10.2.1 c10.2.2.1 c10.2.2.2.1 c10.2.2.2.2.1 c10.2.2.2.2.2.1 c10.2.2.2.2.2.2.1 c10.2.2.2.2.2.2.2) fun c11=>
 OB (
  bif (decide (p0=8)) then
   OB (f39 c2.2.2.2.2.2.1 2 p6 c6.1 c3.1 c11.1 c11.2.1 c11.2.2.1 c11.2.2.2.1 c11.2.2.2.2.1 c11.2.2.2.2.2.1 c11.2.2.2.2.2.2) fun c12=>
   some (c12.1,c12.2.1,c12.2.2.1,c12.2.2.2.1,c12.2.2.2.2.1,c12.2.2.2.2.2.1,c12.2.2.2.2.2.2)
  else
   OB (f39 c2.2.2.2.2.2.1 2 p6 c3.1 c8.1 c11.1 c11.2.1 c11.2.2.1 c11.2.2.2.1 c11.2.2.2.2.1 c11.2.2.2.2.2.1 c11.2.2.2.2.2.2) fun c13=>
   some (c13.1,c13.2.1,c13.2.2.1,c13.2.2.2.1,c13.2.2.2.2.1,c13.2.2.2.2.2.1,c13.2.2.2.2.2.2)) fun s14=>
 OB (f39 c6.1 1 0 c10.1 0 s14.1 s14.2.1 s14.2.2.1 s14.2.2.2.1 s14.2.2.2.2.1 s14.2.2.2.2.2.1 s14.2.2.2.2.2.2) fun c15=>
 OB (f39 c8.1 1 0 c10.1 0 c15.1 c15.2.1 c15.2.2.1 c15.2.2.2.1 c15.2.2.2.2.1 c15.2.2.2.2.2.1 c15.2.2.2.2.2.2) fun c16=>
 some (c16.1,c16.2.1,c16.2.2.1,c16.2.2.2.1,c16.2.2.2.2.1,c16.2.2.2.2.2.1,c16.2.2.2.2.2.2)
def adv (QB:Yh) (aaA:T85) (aaB:T86) (p0:lZ) (p1:Int) (p2:dY) (p3:(List ay)) (p4:bg) (p5:Int) (p6:Int) (p7:Int) (p8:kR):Option (dY×(List ay)×bg×Int×Int×Int×eY×kR):=
 OB (
  aZ (fun (s0:(Int×dY×(List ay)×bg×Int×Int×Int×eY×kR))=>
   bif (decide (s0.1<(p0.length:Int))) then
    ck (inB s0.1 p0.length) <|
    let n3:=(List.getD p0 s0.1.toNat iy)
    OB (QB n3.kind n3.op n3.value n3.line n3.name n3.args (cZ (p1+s0.1)) s0.2.1 s0.2.2.1 s0.2.2.2.1 s0.2.2.2.2.1 s0.2.2.2.2.2.1 s0.2.2.2.2.2.2.1 s0.2.2.2.2.2.2.2.2) fun c5=>
    let n7:=[(cZ (p1+s0.1))]
    ck (b_ s0.2.2.2.2.2.2.2.1.length n7.length 8) <|
    some (.inl ((cZ (s0.1+1)),c5.1,c5.2.1,c5.2.2.1,c5.2.2.2.1,c5.2.2.2.2.1,c5.2.2.2.2.2.1,(s0.2.2.2.2.2.2.2.1++n7),c5.2.2.2.2.2.2))
   else
    some (.inr (s0.2.1,s0.2.2.1,s0.2.2.2.1,s0.2.2.2.2.1,s0.2.2.2.2.2.1,s0.2.2.2.2.2.2.1,s0.2.2.2.2.2.2.2.1,s0.2.2.2.2.2.2.2.2))) ((0:Int),p2,p3,p4,p5,p6,p7,eInt,p8)) fun s10=>
 some (s10.1,s10.2.1,s10.2.2.1,s10.2.2.2.1,s10.2.2.2.2.1,s10.2.2.2.2.2.1,s10.2.2.2.2.2.2.1,s10.2.2.2.2.2.2.2)
def jf:Nat→Yh×Yh×T86
 |0=>(fun _ _ _ _ _ _ _ _ _ _ _ _ _ _=>none,fun _ _ _ _ _ _ _ _ _ _ _ _ _ _=>none,fun _ _ _ _ _ _ _ _ _=>none)
 |n+1=>(adt (jf n).1 (jf n).2.1 (jf n).2.2,adu (jf n).1 (jf n).2.1 (jf n).2.2,adv (jf n).1 (jf n).2.1 (jf n).2.2)
def aaC (n:Nat):Yh:=(jf n).1
def BI (n:Nat):aX:=⟨aiX,u14 (jf n).1⟩
def agU (n:Nat):Yh:=(jf n).2.1
def EL (n:Nat):aX:=⟨aiZ,u14 (jf n).2.1⟩
def agV (n:Nat):T86:=(jf n).2.2
def EM (n:Nat):aX:=⟨ai1,u9 (jf n).2.2⟩
theorem aaD (n:Nat) (h68:au Try.prog 68 (BI n)) (h85:au Try.prog 85 (EL n)) (h86:au Try.prog 86 (EM n)):au Try.prog 68 (BI (n+1)):=
 ts [(38,aat),(69,agP),(49,aav),(50,aaw),(68,BI n),(85,EL n),(86,EM n)] aiY [] amN Try.func68 rfl ⟨FQ,VP,FT,FU,h68,h85,h86,trivial⟩
theorem aaE (n:Nat) (h68:au Try.prog 68 (BI n)) (h85:au Try.prog 85 (EL n)) (h86:au Try.prog 86 (EM n)):au Try.prog 85 (EL (n+1)):=
 ts [(36,aas),(38,aat),(39,XT),(68,BI n),(85,EL n),(86,EM n)] ai0 [] amO Try.func85 rfl ⟨FP,FQ,BH,h68,h85,h86,trivial⟩
theorem aaF (n:Nat) (h68:au Try.prog 68 (BI n)) (h85:au Try.prog 85 (EL n)) (h86:au Try.prog 86 (EM n)):au Try.prog 86 (EM (n+1)):=
 ts [(68,BI n),(85,EL n),(86,EM n)] ai2 [.tmp 6] amP Try.func86 rfl ⟨h68,h85,h86,trivial⟩
theorem EN :∀n,au Try.prog 68 (BI n)∧au Try.prog 85 (EL n)∧au Try.prog 86 (EM n)
 |0=>⟨dD Try.func68 rfl rfl (show aiX.er.ok=true by decide +kernel) fun x=>rfl,dD Try.func85 rfl rfl (show aiZ.er.ok=true by decide +kernel) fun x=>rfl,dD Try.func86 rfl rfl (show ai1.er.ok=true by decide +kernel) fun x=>rfl⟩
 |n+1=>by
  have ih:=EN n
  exact ⟨aaD n (ih.1) (ih.2.1) (ih.2.2),aaE n (ih.1) (ih.2.1) (ih.2.2),aaF n (ih.1) (ih.2.1) (ih.2.2)⟩
def f68:Yh:=aaC 1048576
def agW:aX:=BI 1048576
theorem VQ:au Try.prog 68 agW:=(EN 1048576).1
def f87 (p0:Int) (p1:Int) (p2:Int) (p3:Int) (p4:Int) (p5:Int) (p6:eY):Option eY:=
 OB (
  bif (decide (p0=2)) then
   some true
  else
   OB (
    bif (decide (p0=3)) then
     some true
    else
     OB (
      bif (decide (p0=6)) then
       some true
      else
       OB (
        bif (decide (p0=7)) then
         some true
        else
         some (decide (p0=10))) fun s5=>
       some s5) fun s6=>
     some s6) fun s7=>
   some s7) fun s8=>
 bif s8 then
  some [p3]
 else
  OB (
   bif (decide (p0=4)) then
    some true
   else
    some (decide (p0=8))) fun s12=>
  bif s12 then
   some [p3,p4]
  else
   bif (decide (p0=11)) then
    ck (b_ (List.length eInt) p6.length 8) <|
    some (eInt++p6)
   else
    bif (decide (p0=12)) then
     let n17:=[p3]
     ck (b_ n17.length p6.length 8) <|
     some (n17++p6)
    else
     some eInt
def ajK:aX:=⟨amQ,u7 f87⟩
theorem adw:au Try.prog 87 ajK:=
 ts [] ety [.tmp 2] amR Try.func87 rfl trivial
def f88 (p0:Int) (p1:Int) (p2:Int) (p3:Int) (p4:Int) (p5:Int) (p6:eY):Option (Int×Bool):=
 OB (
  bif (decide (p0=6)) then
   some true
  else
   OB (
    bif (decide (p0=8)) then
     some true
    else
     OB (
      bif (decide (p0=10)) then
       some true
      else
       some (decide (p0=13))) fun s4=>
     some s4) fun s5=>
   some s5) fun s6=>
 bif s6 then
  some ((0:Int),false)
 else
  OB (
   bif (decide (p0<1)) then
    some true
   else
    some (decide (14<p0))) fun s10=>
  bif s10 then
   some ((0:Int),false)
  else
   some (p2,true)
def ajL:aX:=⟨amS,u7 f88⟩
theorem adx:au Try.prog 88 ajL:=
 ts [] ety [.tmp 2,.tmp 3] amT Try.func88 rfl trivial
def f89 (p0:dY) (p1:N_) (p2:Int) (p3:Int) (p4:Int) (p5:Bool):Option Bool:=
 OB (
  bif (decide (0≤p4)) then
   bif (decide (p4<(p0.length:Int))) then
    ck (inB p4 p0.length) <|
    some ((decide (0<(List.getD p0 p4.toNat (aP.mk dN 0)).size))==p5)
   else
    some false
  else
   some false) fun s8=>
 some s8
def ajM:aX:=⟨amU,u6 f89⟩
theorem ady:au Try.prog 89 ajM:=
 ts [] ety [.tmp 6] amV Try.func89 rfl trivial
def agX (p0:Int) (p1:Int) (p2:Int) (p3:Int) (p4:iw) (p5:lZ) (p6:Int) (p7:Int) (p8:dY) (p9:(List ay)) (p10:Int) (p11:Int) (p12:bg):Option (dY×(List ay)×Int×Int×bg):=
 OB (
  OB (f77 p4 p8 p9 p10 p11 p12) fun c0=>
  OB (
   bif (decide (c0.1=0)) then
    OB (f75 p3 8 c0.2.1 c0.2.2.1 c0.2.2.2.1 c0.2.2.2.2.1 p12) fun c2=>
    some (c2.1,c2.2.1,c2.2.2.1,c2.2.2.2.1)
   else
    OB (
     bif (!(decide (c0.1=p6))) then
      some (!(decide (c0.1=p7)))
     else
      some false) fun s6=>
    OB (
     bif s6 then
      OB (f75 p3 10 c0.2.1 c0.2.2.1 c0.2.2.2.1 c0.2.2.2.2.1 p12) fun c7=>
      some (c7.1,c7.2.1,c7.2.2.1,c7.2.2.2.1)
     else
      some (c0.2.1,c0.2.2.1,c0.2.2.2.1,c0.2.2.2.2.1)) fun s8=>
    some (s8.1,s8.2.1,s8.2.2.1,s8.2.2.2)) fun s9=>
  some (s9.1,s9.2.1,s9.2.2.1,s9.2.2.2,p12)) fun s10=>
 ck (decide (p12.length=s10.2.2.2.2.length)) <|
 some s10
def f90 (p0:Int) (p1:Int) (p2:Int) (p3:Int) (p4:iw) (p5:lZ) (p6:Int) (p7:Int) (p8:dY) (p9:(List ay)) (p10:Int) (p11:Int) (p12:bg):Option (dY×(List ay)×Int×Int×bg):=OB (agX p0 p1 p2 p3 p4 p5 p6 p7 p8 p9 p10 p11 p12) fun (y:(dY×(List ay)×Int×Int×bg))=>vS y.2.2.2.2 p12 <| some y
def ajN:aX:=⟨amW,u13 agX⟩
theorem adz:au Try.prog 90 ajN:=
 ts [(77,aaz),(75,ads)] ety [] amX Try.func90 rfl ⟨FV,NR,trivial⟩
def agY (p0:iw) (p1:Int) (p2:dY) (p3:(List ay)) (p4:Int) (p5:Int) (p6:bg):Option (Int×Int×Int×Int×iw×dY×(List ay)×Int×Int×bg):=
 OB (
  OB (f77 p0 p2 p3 p4 p5 p6) fun c0=>
  OB (
   bif (!(decide (c0.1=1))) then
    some (3:Int)
   else
    some (2:Int)) fun s2=>
  some (s2,(0:Int),(0:Int),p1,p0,c0.2.1,c0.2.2.1,c0.2.2.2.1,c0.2.2.2.2.1,p6)) fun s3=>
 ck (decide (p6.length=s3.2.2.2.2.2.2.2.2.2.length)) <|
 some s3
def f91 (p0:iw) (p1:Int) (p2:dY) (p3:(List ay)) (p4:Int) (p5:Int) (p6:bg):Option (Int×Int×Int×Int×iw×dY×(List ay)×Int×Int×bg):=OB (agY p0 p1 p2 p3 p4 p5 p6) fun (y:(Int×Int×Int×Int×iw×dY×(List ay)×Int×Int×bg))=>vS y.2.2.2.2.2.2.2.2.2 p6 <| some y
def ajO:aX:=⟨amY,u7 agY⟩
theorem adA:au Try.prog 91 ajO:=
 ts [(77,aaz)] ety [.cell 6 132] amZ Try.func91 rfl ⟨FV,trivial⟩
def adB (afi:T76) (aaG:T92) (p0:Int) (p1:Int) (p2:Int) (p3:Int) (p4:iw) (p5:lZ) (p6:dY) (p7:(List ay)) (p8:Int) (p9:Int) (p10:bg):Option (Int×Int×Int×Int×iw×dY×(List ay)×Int×Int×bg×lZ):=
 OB (
  bif (decide (p0=13)) then
   OB (f90 p0 p1 p2 p3 p4 p5 1 2 p6 p7 p8 p9 p10) fun c1=>
   OB (f91 p4 p3 c1.1 c1.2.1 c1.2.2.1 c1.2.2.2.1 p10) fun c2=>
   some (c2.1,c2.2.1,c2.2.2.1,c2.2.2.2.1,c2.2.2.2.2.1,c2.2.2.2.2.2.1,c2.2.2.2.2.2.2.1,c2.2.2.2.2.2.2.2.1,c2.2.2.2.2.2.2.2.2.1,p10,oO)
  else
   dI (
    bif (decide (p0=4)) then
     OB (f90 p0 p1 p2 p3 p4 p5 3 3 p6 p7 p8 p9 p10) fun c4=>
     some (.inl (c4.1,c4.2.1,c4.2.2.1,c4.2.2.2.1))
    else
     dI (
      bif (decide (p0=11)) then
       OB (f90 p0 p1 p2 p3 p4 p5 4 4 p6 p7 p8 p9 p10) fun c6=>
       some (.inl (c6.1,c6.2.1,c6.2.2.1,c6.2.2.2.1))
      else
       dI (
        bif (decide (p0=9)) then
         OB (f77 p4 p6 p7 p8 p9 p10) fun c8=>
         dI (
          bif (decide (c8.1=0)) then
           OB (f75 p3 8 c8.2.1 c8.2.2.1 c8.2.2.2.1 c8.2.2.2.2.1 p10) fun c10=>
           some (.inl (c10.1,c10.2.1,c10.2.2.1,c10.2.2.2.1))
          else
           dI (
            bif (decide (c8.1=3)) then
             OB (f75 p3 10 c8.2.1 c8.2.2.1 c8.2.2.2.1 c8.2.2.2.2.1 p10) fun c12=>
             some (.inl (c12.1,c12.2.1,c12.2.2.1,c12.2.2.2.1))
            else
             bif (decide (c8.1=4)) then
              OB (f50 c8.2.1 c8.2.2.1 p4) fun c14=>
              ck (inB c14 c8.2.2.1.length) <|
              OB (
               bif (!(decide (((List.length (List.getD c8.2.2.1 c14.toNat gK).params):Int)=(p5.length:Int)))) then
                OB (f75 p3 11 c8.2.1 c8.2.2.1 c8.2.2.2.1 c8.2.2.2.2.1 p10) fun c19=>
                some (c19.1,c19.2.1,c19.2.2.1,c19.2.2.2.1)
               else
                some (c8.2.1,c8.2.2.1,c8.2.2.2.1,c8.2.2.2.2.1)) fun s20=>
              some (.inl (s20.1,s20.2.1,s20.2.2.1,s20.2.2.2))
             else
              OB (
               bif (decide (6<(p5.length:Int))) then
                OB (f75 p3 5 c8.2.1 c8.2.2.1 c8.2.2.2.1 c8.2.2.2.2.1 p10) fun c23=>
                some (c23.1,c23.2.1,c23.2.2.1,c23.2.2.2.1)
               else
                some (c8.2.1,c8.2.2.1,c8.2.2.2.1,c8.2.2.2.2.1)) fun s24=>
              OB (f91 p4 p3 s24.1 s24.2.1 s24.2.2.1 s24.2.2.2 p10) fun c25=>
              let n26:=[(bG.mk c25.1 c25.2.1 c25.2.2.1 c25.2.2.2.1 c25.2.2.2.2.1 oO)]
              OB (aaG p5 c25.2.2.2.2.2.1 c25.2.2.2.2.2.2.1 c25.2.2.2.2.2.2.2.1 c25.2.2.2.2.2.2.2.2.1 p10) fun JK=>
              ck (b_ n26.length JK.2.2.2.2.2.length 72) <|
              some (.inr (.inr (.inr (.inr (.inr ((10:Int),(0:Int),(0:Int),p3,dN,JK.1,JK.2.1,JK.2.2.1,JK.2.2.2.1,p10,(n26++JK.2.2.2.2.2)))))))) fun s29=>
           some (.inl (s29.1,s29.2.1,s29.2.2.1,s29.2.2.2))) fun mg=>
         some (.inl (mg.1,mg.2.1,mg.2.2.1,mg.2.2.2))
        else
         OB (
          bif (decide (p0=10)) then
           OB (
            bif (decide (7<(p5.length:Int))) then
             OB (f75 p3 5 p6 p7 p8 p9 p10) fun c34=>
             some (c34.1,c34.2.1,c34.2.2.1,c34.2.2.2.1)
            else
             some (p6,p7,p8,p9)) fun Q9=>
           some (Q9.1,Q9.2.1,Q9.2.2.1,Q9.2.2.2)
          else
           some (p6,p7,p8,p9)) fun s36=>
         some (.inl (s36.1,s36.2.1,s36.2.2.1,s36.2.2.2))) fun BG=>
       some (.inl (BG.1,BG.2.1,BG.2.2.1,BG.2.2.2))) fun rD=>
     some (.inl (rD.1,rD.2.1,rD.2.2.1,rD.2.2.2))) fun vV=>
   OB (aaG p5 vV.1 vV.2.1 vV.2.2.1 vV.2.2.2 p10) fun c40=>
   some (p0,p1,p2,p3,p4,c40.1,c40.2.1,c40.2.2.1,c40.2.2.2.1,p10,c40.2.2.2.2.2)) fun BO=>
 ck (decide (p10.length=BO.2.2.2.2.2.2.2.2.2.1.length)) <|
 some BO
def k76 (p0:Int) (p1:Int) (p2:Int) (p3:Int) (p4:iw) (p5:lZ) (p6:dY) (p7:(List ay)) (p8:Int) (p9:Int) (p10:bg) (r:Option (Int×Int×Int×Int×iw×dY×(List ay)×Int×Int×bg×lZ)):Option (Int×Int×Int×Int×iw×dY×(List ay)×Int×Int×bg×lZ):=OB r fun (y:(Int×Int×Int×Int×iw×dY×(List ay)×Int×Int×bg×lZ))=>vS y.2.2.2.2.2.2.2.2.2.1 p10 <| some y
def adC (afi:T76) (aaG:T92) (p0:lZ) (p1:dY) (p2:(List ay)) (p3:Int) (p4:Int) (p5:bg):Option (dY×(List ay)×Int×Int×bg×lZ):=
 OB (
  OB (
   aZ (fun (s0:(Int×dY×(List ay)×Int×Int×lZ))=>
    bif (decide (s0.1<(p0.length:Int))) then
     ck (inB s0.1 p0.length) <|
     let n3:=(List.getD p0 s0.1.toNat iy)
     OB (afi n3.kind n3.op n3.value n3.line n3.name n3.args s0.2.1 s0.2.2.1 s0.2.2.2.1 s0.2.2.2.2.1 p5) fun c4=>
     let n5:=[(bG.mk c4.1 c4.2.1 c4.2.2.1 c4.2.2.2.1 c4.2.2.2.2.1 c4.2.2.2.2.2.2.2.2.2.2)]
     ck (b_ s0.2.2.2.2.2.length n5.length 72) <|
     some (.inl ((cZ (s0.1+1)),c4.2.2.2.2.2.1,c4.2.2.2.2.2.2.1,c4.2.2.2.2.2.2.2.1,c4.2.2.2.2.2.2.2.2.1,(s0.2.2.2.2.2++n5)))
    else
     some (.inr (s0.2.1,s0.2.2.1,s0.2.2.2.1,s0.2.2.2.2.1,s0.2.2.2.2.2))) ((0:Int),p1,p2,p3,p4,oO)) fun s8=>
  some (s8.1,s8.2.1,s8.2.2.1,s8.2.2.2.1,p5,s8.2.2.2.2)) fun s9=>
 ck (decide (p5.length=s9.2.2.2.2.1.length)) <|
 some s9
def k92 (p0:lZ) (p1:dY) (p2:(List ay)) (p3:Int) (p4:Int) (p5:bg) (r:Option (dY×(List ay)×Int×Int×bg×lZ)):Option (dY×(List ay)×Int×Int×bg×lZ):=OB r fun (y:(dY×(List ay)×Int×Int×bg×lZ))=>vS y.2.2.2.2.1 p5 <| some y
def su:Nat→T76×T92
 |0=>(fun _ _ _ _ _ _ _ _ _ _ _=>none,fun _ _ _ _ _ _=>none)
 |n+1=>(adB (fun p0 p1 p2 p3 p4 p5 p6 p7 p8 p9 p10=>k76 p0 p1 p2 p3 p4 p5 p6 p7 p8 p9 p10 ((su n).1 p0 p1 p2 p3 p4 p5 p6 p7 p8 p9 p10)) (fun p0 p1 p2 p3 p4 p5=>k92 p0 p1 p2 p3 p4 p5 ((su n).2 p0 p1 p2 p3 p4 p5)),adC (fun p0 p1 p2 p3 p4 p5 p6 p7 p8 p9 p10=>k76 p0 p1 p2 p3 p4 p5 p6 p7 p8 p9 p10 ((su n).1 p0 p1 p2 p3 p4 p5 p6 p7 p8 p9 p10)) (fun p0 p1 p2 p3 p4 p5=>k92 p0 p1 p2 p3 p4 p5 ((su n).2 p0 p1 p2 p3 p4 p5)))
def adD (n:Nat):T76:=(fun p0 p1 p2 p3 p4 p5 p6 p7 p8 p9 p10=>k76 p0 p1 p2 p3 p4 p5 p6 p7 p8 p9 p10 ((su n).1 p0 p1 p2 p3 p4 p5 p6 p7 p8 p9 p10))
def I8 (n:Nat):aX:=⟨ai3,u11 (su n).1⟩
def ajP (n:Nat):T92:=(fun p0 p1 p2 p3 p4 p5=>k92 p0 p1 p2 p3 p4 p5 ((su n).2 p0 p1 p2 p3 p4 p5))
def KX (n:Nat):aX:=⟨ai4,u6 (su n).2⟩
theorem aaH (n:Nat) (h76:au Try.prog 76 (I8 n)) (h92:au Try.prog 92 (KX n)):au Try.prog 76 (I8 (n+1)):=
 ts [(90,ajN),(91,ajO),(77,aaz),(75,ads),(50,aaw),(76,I8 n),(92,KX n)] ety [.cell 4 132] am0 Try.func76 rfl ⟨adz,adA,FV,NR,FU,h76,h92,trivial⟩
theorem aaI (n:Nat) (h76:au Try.prog 76 (I8 n)) (h92:au Try.prog 92 (KX n)):au Try.prog 92 (KX (n+1)):=
 ts [(76,I8 n),(92,KX n)] ety [.tmp 4] am1 Try.func92 rfl ⟨h76,h92,trivial⟩
theorem EO :∀n,au Try.prog 76 (I8 n)∧au Try.prog 92 (KX n)
 |0=>⟨dD Try.func76 rfl rfl (show ai3.er.ok=true by decide +kernel) fun x=>rfl,dD Try.func92 rfl rfl (show ai4.er.ok=true by decide +kernel) fun x=>rfl⟩
 |n+1=>by
  have ih:=EO n
  exact ⟨aaH n (ih.1) (ih.2),aaI n (ih.1) (ih.2)⟩
def f76:T76:=adD 1048576
def ajQ:aX:=I8 1048576
theorem adE:au Try.prog 76 ajQ:=(EO 1048576).1
def f94 (p0:Int) (p1:iw) (p2:Int) (p3:Int) (p4:Int) (p5:Int) (p6:iw) (p7:lZ):Option (Int×Int×iw×lZ):=
 some (p0,(0:Int),p1,[(bG.mk p2 p3 p4 p5 p6 p7)])
def agZ:aX:=⟨am2,u8 f94⟩
theorem VR:au Try.prog 94 agZ:=
 ts [] ety [.cell 6 104] am3 Try.func94 rfl trivial
def adF (p0:Bool) (p1:Int) (p2:eY) (p3:Int) (p4:dY) (p5:(List ay)) (p6:bg):Option (iw×Bool×Int×eY×Int×dY×(List ay)×bg):=
 OB (
  OB (
   aZ (fun (s0:(Int×bg))=>
    bif (decide (s0.1<(p4.length:Int))) then
     ck (inB s0.1 p4.length) <|
     OB (
      bif ((decide (0<(List.getD p4 s0.1.toNat (aP.mk dN 0)).size))==p0) then
       ck (inB s0.1 p4.length) <|
       let n7:=[(List.getD p4 s0.1.toNat (aP.mk dN 0)).name]
       ck (b_ s0.2.length n7.length 16) <|
       some (s0.2++n7)
      else
       some s0.2) fun s9=>
     some (.inl ((cZ (s0.1+1)),s9))
    else
     some (.inr s0.2)) ((0:Int),jV)) fun s11=>
  bif (decide ((s11.length:Int)=0)) then
   some (dN,false,p1,p2,p3,p4,p5,p6)
  else
   OB (f16 (s11.length:Int) p2 p3) fun c15=>
   ck (inB c15.1 s11.length) <|
   some ((List.getD s11 c15.1.toNat dN),true,p1,c15.2.1,c15.2.2,p4,p5,p6)) fun oP=>
 ck (decide (p4.length=oP.2.2.2.2.2.1.length)) <|
 ck (decide (p5.length=oP.2.2.2.2.2.2.1.length)) <|
 ck (decide (p6.length=oP.2.2.2.2.2.2.2.length)) <|
 some oP
def f96 (p0:Bool) (p1:Int) (p2:eY) (p3:Int) (p4:dY) (p5:(List ay)) (p6:bg):Option (iw×Bool×Int×eY×Int×dY×(List ay)×bg):=OB (adF p0 p1 p2 p3 p4 p5 p6) fun (y:(iw×Bool×Int×eY×Int×dY×(List ay)×bg))=>vS y.2.2.2.2.2.1 p4 <| vS y.2.2.2.2.2.2.1 p5 <| vS y.2.2.2.2.2.2.2 p6 <| some y
def aaJ:aX:=⟨am4,u7 adF⟩
theorem FW:au Try.prog 96 aaJ:=
 ts [(16,I7)] ety [.tmp 4,.tmp 5] am5 Try.func96 rfl ⟨nY,trivial⟩
def f100:Option bg:=
 some [[(97:UInt8)],[(98:UInt8)],[(99:UInt8)],[(100:UInt8)],[(101:UInt8)],[(102:UInt8)],[(105:UInt8)],[(107:UInt8)]]
def afj:aX:=⟨ai5,fun x=>f100⟩
theorem aaK:au Try.prog 100 afj:=
 ts [] ety [.tmp 0] ai6 Try.func100 rfl trivial
def VT (p0:Int) (p1:eY) (p2:Int) (p3:dY) (p4:(List ay)) (p5:bg):Option (Int×Int×Int×Int×iw×Int×eY×Int×dY×(List ay)×bg):=
 OB (
  OB (f16 6 p1 p2) fun c0=>
  bif (decide (c0.1=0)) then
   some ((12:Int),(0:Int),(0:Int),(0:Int),dN,p0,c0.2.1,c0.2.2,p3,p4,p5)
  else
   dI (
    bif (decide (c0.1=1)) then
     OB (f96 false p0 c0.2.1 c0.2.2 p3 p4 p5) fun c3=>
     bif c3.2.1 then
      some (.inr ((13:Int),(0:Int),(0:Int),(0:Int),c3.1,c3.2.2.1,c3.2.2.2.1,c3.2.2.2.2.1,p3,p4,p5))
     else
      some (.inl (c3.2.2.1,c3.2.2.2.1,c3.2.2.2.2.1))
    else
     OB (
      bif (decide (c0.1=2)) then
       some true
      else
       some (decide (c0.1=3))) fun s6=>
     dI (
      bif s6 then
       bif (decide (0<(p5.length:Int))) then
        OB (f16 (p5.length:Int) c0.2.1 c0.2.2) fun c10=>
        ck (inB c10.1 p5.length) <|
        some (.inr (.inr ((13:Int),(0:Int),(0:Int),(0:Int),(List.getD p5 c10.1.toNat dN),p0,c10.2.1,c10.2.2,p3,p4,p5)))
       else
        some (.inl ())
      else
       some (.inl ())) fun s12=>
     some (.inl (p0,c0.2.1,c0.2.2))) fun s13=>
   OB (f16 5 s13.2.1 s13.2.2) fun c14=>
   OB (f16 12 c14.2.1 c14.2.2) fun c15=>
   OB (
    bif (decide (c15.1=11)) then
     let n17:=[(9223372036854775807:Int),(2147483648:Int),(1000:Int),(64:Int)]
     OB (f16 4 c15.2.1 c15.2.2) fun c18=>
     ck (inB c18.1 n17.length) <|
     some ((List.getD n17 c18.1.toNat 0),c18.2.1,c18.2.2)
    else
     some (c14.1,c15.2.1,c15.2.2)) fun s20=>
   some ((1:Int),(0:Int),s20.1,(0:Int),dN,s13.1,s20.2.1,s20.2.2,p3,p4,p5)) fun yE=>
 ck (decide (p3.length=yE.2.2.2.2.2.2.2.2.1.length)) <|
 ck (decide (p4.length=yE.2.2.2.2.2.2.2.2.2.1.length)) <|
 ck (decide (p5.length=yE.2.2.2.2.2.2.2.2.2.2.length)) <|
 some yE
def f101 (p0:Int) (p1:eY) (p2:Int) (p3:dY) (p4:(List ay)) (p5:bg):Option (Int×Int×Int×Int×iw×Int×eY×Int×dY×(List ay)×bg):=OB (VT p0 p1 p2 p3 p4 p5) fun (y:(Int×Int×Int×Int×iw×Int×eY×Int×dY×(List ay)×bg))=>vS y.2.2.2.2.2.2.2.2.1 p3 <| vS y.2.2.2.2.2.2.2.2.2.1 p4 <| vS y.2.2.2.2.2.2.2.2.2.2 p5 <| some y
def afk:aX:=⟨ai7,u6 VT⟩
theorem aaL:au Try.prog 101 afk:=
 ts [(16,I7),(96,aaJ)] ety [.cell 2 132] ai8 Try.func101 rfl ⟨nY,FW,trivial⟩
def f102 (p0:Int) (p1:Int) (p2:lZ):Option (Int×Int×Int×Int×iw×lZ):=
 some (p0,p1,(0:Int),(0:Int),dN,p2)
def aaM:aX:=⟨ai9,u3 f102⟩
theorem QC:au Try.prog 102 aaM:=
 ts [] ety [.cell 6 132] ai_ Try.func102 rfl trivial
def f19 (p0:iw) (p1:Int) (p2:Int) (p3:kR):Option Qv:=
 let n0:=(p3.length:Int)
 ck (vP (24:Nat) n0 n0) <|
 OB (
  aZ (fun (s3:(Int×Qv))=>
   bif (decide (s3.1<(p3.length:Int))) then
    ck (inB s3.1 p3.length) <|
    let n5:=(List.getD p3 s3.1.toNat aj)
    OB (f25 n5.bf n5.oH n5.dV n5.bK) fun c6=>
    OB (
     aZ (fun (s8:(Int×Qv))=>
      bif (decide (s8.1<(c6.length:Int))) then
       ck (inB s8.1 c6.length) <|
       let n10:=(List.getD c6 s8.1.toNat 0)
       ck (inB n10 s8.2.length) <|
       let n11:=[s3.1]
       ck (true&&(decide ((((List.length (List.getD s8.2 n10.toNat eInt))+n11.length)*(8:Nat))≤(140737488355328:Nat)))) <|
       ck (inB n10 s8.2.length) <|
       ck (Nat.beq n10.toNat n10.toNat) <|
       some (.inl ((cZ (s8.1+1)),(List.set s8.2 n10.toNat ((List.getD s8.2 n10.toNat eInt)++n11))))
      else
       some (.inr s8.2)) ((0:Int),s3.2)) fun s15=>
    some (.inl ((cZ (s3.1+1)),s15))
   else
    some (.inr s3.2)) ((0:Int),(List.replicate n0.toNat eInt))) fun oP=>
 some oP
def ag0:aX:=⟨am6,u4 f19⟩
theorem VU:au Try.prog 19 ag0:=
 ts [(25,aaq)] aja [.tmp 2] am7 Try.func19 rfl ⟨FN,trivial⟩
def f21 (p0:iw) (p1:Int) (p2:Int) (p3:kR) (p4:Int) (p5:LEd):Option Yg:=
 OB (f19 p0 p1 p2 p3) fun c0=>
 let n1:=(p3.length:Int)
 ck (vP (1:Nat) n1 n1) <|
 OB (
  aZ (fun (s4:(Int×Yg×eY))=>
   bif (decide (s4.1<(p5.length:Int))) then
    ck (inB s4.1 p5.length) <|
    let n6:=(List.getD p5 s4.1.toNat (fE.mk 0 0))
    OB (
     bif (decide (n6.to=p4)) then
      ck (inB p4 s4.2.1.length) <|
      let n9:=[n6.from']
      ck (b_ s4.2.2.length n9.length 8) <|
      some ((List.set s4.2.1 p4.toNat true),(s4.2.2++n9))
     else
      some (s4.2.1,s4.2.2)) fun s11=>
    some (.inl ((cZ (s4.1+1)),s11.1,s11.2))
   else
    some (.inr (s4.2.1,s4.2.2))) ((0:Int),(List.replicate n1.toNat false),eInt)) fun s13=>
 OB (
  aZ (fun (s14:(Qv×Yg×eY))=>
   bif (decide (0<(s14.2.2.length:Int))) then
    let n18:=(cZ ((s14.2.2.length:Int)-1))
    ck (inB n18 s14.2.2.length) <|
    let n19:=(List.getD s14.2.2 n18.toNat 0)
    let n21:=(cZ ((s14.2.2.length:Int)-1))
    ck ((decide (0≤n21))&&(decide (n21≤(s14.2.2.length:Int)))) <|
    let n22:=(List.take n21.toNat s14.2.2)
    ck (inB n19 s14.2.1.length) <|
    OB (
     bif (!(List.getD s14.2.1 n19.toNat false)) then
      ck (inB n19 s14.2.1.length) <|
      ck (inB n19 s14.1.length) <|
      ck (true&&(decide (((n22.length+(List.length (List.getD s14.1 n19.toNat eInt)))*(8:Nat))≤(140737488355328:Nat)))) <|
      some ((List.set s14.1 n19.toNat (List.getD s14.1 n19.toNat eInt)),(List.set s14.2.1 n19.toNat true),(n22++(List.getD s14.1 n19.toNat eInt)))
     else
      some (s14.1,s14.2.1,n22)) fun XR=>
    some (.inl (XR.1,XR.2.1,XR.2.2))
   else
    some (.inr s14.2.1)) (c0,s13.1,s13.2)) fun Dz=>
 some Dz
def ajR:aX:=⟨am8,u6 f21⟩
theorem adG:au Try.prog 21 ajR:=
 ts [(19,ag0)] ajb [.tmp 6] am9 Try.func21 rfl ⟨VU,trivial⟩
def ag1 (rec24:T24) (p0:Int) (p1:iw) (p2:Int) (p3:Int) (p4:kR) (p5:Yg) (p6:eY):Option (Yg×iw×Int×Int×kR×eY):=
 OB (
  ck (inB p0 p5.length) <|
  ck (inB p0 p4.length) <|
  let n1:=(List.getD p4 p0.toNat aj)
  OB (f25 n1.bf n1.oH n1.dV n1.bK) fun c2=>
  OB (
   aZ (fun (s4:(Int×Yg×iw×Int×Int×kR×eY))=>
    bif (decide (s4.1<(c2.length:Int))) then
     ck (inB s4.1 c2.length) <|
     let n6:=(List.getD c2 s4.1.toNat 0)
     ck (inB n6 s4.2.1.length) <|
     OB (
      bif (!(List.getD s4.2.1 n6.toNat false)) then
       OB (rec24 n6 s4.2.2.1 s4.2.2.2.1 s4.2.2.2.2.1 s4.2.2.2.2.2.1 s4.2.1 s4.2.2.2.2.2.2) fun c9=>
       some (c9.1,c9.2.1,c9.2.2.1,c9.2.2.2.1,c9.2.2.2.2.1,c9.2.2.2.2.2)
      else
       some (s4.2.1,s4.2.2.1,s4.2.2.2.1,s4.2.2.2.2.1,s4.2.2.2.2.2.1,s4.2.2.2.2.2.2)) fun s10=>
     some (.inl ((cZ (s4.1+1)),s10.1,s10.2.1,s10.2.2.1,s10.2.2.2.1,s10.2.2.2.2.1,s10.2.2.2.2.2))
    else
     some (.inr (s4.2.1,s4.2.2.1,s4.2.2.2.1,s4.2.2.2.2.1,s4.2.2.2.2.2.1,s4.2.2.2.2.2.2))) ((0:Int),(List.set p5 p0.toNat true),p1,p2,p3,p4,p6)) fun s12=>
  let n13:=[p0]
  ck (b_ s12.2.2.2.2.2.length n13.length 8) <|
  some (s12.1,s12.2.1,s12.2.2.1,s12.2.2.2.1,s12.2.2.2.2.1,(s12.2.2.2.2.2++n13))) fun s15=>
 ck (decide (p5.length=s15.1.length)) <|
 some s15
def Ua:Nat→T24
 |0=>(fun _ _ _ _ _ _ _=>none)
 |n+1=>(ag1 (Ua n))
def adH (n:Nat):T24:=(Ua n)
def QD (n:Nat):aX:=⟨ajc,u7 (Ua n)⟩
theorem aaN (n:Nat) (h24:au Try.prog 24 (QD n)):au Try.prog 24 (QD (n+1)):=
 ts [(25,aaq),(24,QD n)] ety [] am_ Try.func24 rfl ⟨FN,h24,trivial⟩
theorem EP :∀n,au Try.prog 24 (QD n)
 |0=>dD Try.func24 rfl rfl (show ajc.er.ok=true by decide +kernel) fun x=>rfl
 |n+1=>by
  have ih:=EP n
  exact aaN n (ih)
def f24:T24:=adH 1048576
def ajS:aX:=QD 1048576
theorem adI:au Try.prog 24 ajS:=(EP 1048576)
def f27 (p0:LEd) (p1:Int) (p2:Int):Option Bool:=
 OB (f34 p0 p1 p2) fun c0=>
 some (decide (0≤c0))
def ajT:aX:=⟨ana,u3 f27⟩
theorem adJ:au Try.prog 27 ajT:=
 ts [(34,ajB)] ety [.tmp 4] anb Try.func27 rfl ⟨adl,trivial⟩
def f32 (p0:iw) (p1:Int) (p2:Int) (p3:kR):Option (iw×Int×Int×kR):=
 OB (f43 p0 p1 p2 p3) fun c0=>
 let n1:=(c0.length:Int)
 ck (vP (8:Nat) n1 n1) <|
 OB (
  aZ (fun (s3:(Int×Int×eY))=>
   bif (decide (s3.2.1<(c0.length:Int))) then
    ck (inB s3.2.1 s3.2.2.length) <|
    ck (inB s3.2.1 c0.length) <|
    OB (
     bif (List.getD c0 s3.2.1.toNat false) then
      some (cZ (s3.1+1))
     else
      some s3.1) fun s9=>
    some (.inl (s9,(cZ (s3.2.1+1)),(List.set s3.2.2 s3.2.1.toNat s3.1)))
   else
    some (.inr s3.2.2)) ((0:Int),(0:Int),(List.replicate n1.toNat (0:Int)))) fun s11=>
 OB (
  aZ (fun (s12:(Int×iw×Int×Int×kR))=>
   bif (decide (s12.1<(c0.length:Int))) then
    OB (
     ck (inB s12.1 c0.length) <|
     bif (!(List.getD c0 s12.1.toNat false)) then
      some (s12.2.1,s12.2.2.1,s12.2.2.2.1,s12.2.2.2.2)
     else
      ck (inB s12.1 p3.length) <|
      let n17:=(List.getD p3 s12.1.toNat aj)
      OB (
       bif (!(decide (n17.bf=3))) then
        ck (inB n17.dV s11.length) <|
        some (n17.instrs,n17.bf,n17.oH,(List.getD s11 (Int.toNat n17.dV) 0),n17.bK,n17.line,n17.jG,n17.iU)
       else
        some (n17.instrs,n17.bf,n17.oH,n17.dV,n17.bK,n17.line,n17.jG,n17.iU)) fun s20=>
      OB (
       bif (decide (s20.2.1=2)) then
        ck (inB s20.2.2.2.2.1 s11.length) <|
        some (s20.1,s20.2.1,s20.2.2.1,s20.2.2.2.1,(List.getD s11 s20.2.2.2.2.1.toNat 0),s20.2.2.2.2.2.1,s20.2.2.2.2.2.2.1,s20.2.2.2.2.2.2.2)
       else
        some (s20.1,s20.2.1,s20.2.2.1,s20.2.2.2.1,s20.2.2.2.2.1,s20.2.2.2.2.2.1,s20.2.2.2.2.2.2.1,s20.2.2.2.2.2.2.2)) fun s23=>
      let n24:=[(aJ.mk s23.1 s23.2.1 s23.2.2.1 s23.2.2.2.1 s23.2.2.2.2.1 s23.2.2.2.2.2.1 s23.2.2.2.2.2.2.1 s23.2.2.2.2.2.2.2)]
      ck (b_ s12.2.2.2.2.length n24.length 80) <|
      some (s12.2.1,s12.2.2.1,s12.2.2.2.1,(s12.2.2.2.2++n24))) fun s26=>
    some (.inl ((cZ (s12.1+1)),s26.1,s26.2.1,s26.2.2.1,s26.2.2.2))
   else
    some (.inr (s12.2.1,s12.2.2.1,s12.2.2.2.1,s12.2.2.2.2))) ((0:Int),p0,p1,p2,([]:kR))) fun Dz=>
 some (Dz.1,Dz.2.1,Dz.2.2.1,Dz.2.2.2)
def ajU:aX:=⟨anc,u4 f32⟩
theorem adK:au Try.prog 32 ajU:=
 ts [(43,agH)] ety [.cell 2 33] ane Try.func32 rfl ⟨VL,trivial⟩
def f35 (p0:iw) (p1:Int) (p2:bg) (p3:oZ):Option bg:=
 ck (true&&(decide ((((List.length jV)+p2.length)*(16:Nat))≤(140737488355328:Nat)))) <|
 OB (f46 p3 (jV++p2)) fun c1=>
 some c1
def ag2:aX:=⟨anf,u4 f35⟩
theorem VW:au Try.prog 35 ag2:=
 ts [(46,ajC)] ety [.tmp 2] ang Try.func35 rfl ⟨adn,trivial⟩
def adL (KY:Yi) (VX:T47) (VY:T67) (VZ:T70) (p0:oZ) (p1:dY) (p2:(List ay)) (p3:bg) (p4:Int) (p5:Int) (p6:Int) (p7:kR):Option (Bool×dY×(List ay)×bg×Int×Int×Int×kR):=
 dI (
  aZ (fun (s0:(Int×dY×(List ay)×bg×Int×Int×Int×kR))=>
   bif (decide (s0.1<(p0.length:Int))) then
    ck (inB s0.1 p0.length) <|
    let n3:=(List.getD p0 s0.1.toNat jW)
    OB (VX n3.kind n3.line n3.name n3.exprs n3.then' n3.else' s0.2.1 s0.2.2.1 s0.2.2.2.1 s0.2.2.2.2.1 s0.2.2.2.2.2.1 s0.2.2.2.2.2.2.1 s0.2.2.2.2.2.2.2) fun c4=>
    bif (!c4.1) then
     some (.inr (.inr (false,c4.2.1,c4.2.2.1,c4.2.2.2.1,c4.2.2.2.2.1,c4.2.2.2.2.2.1,c4.2.2.2.2.2.2.1,c4.2.2.2.2.2.2.2)))
    else
     some (.inl ((cZ (s0.1+1)),c4.2.1,c4.2.2.1,c4.2.2.2.1,c4.2.2.2.2.1,c4.2.2.2.2.2.1,c4.2.2.2.2.2.2.1,c4.2.2.2.2.2.2.2))
   else
    some (.inr (.inl (s0.2.1,s0.2.2.1,s0.2.2.2.1,s0.2.2.2.2.1,s0.2.2.2.2.2.1,s0.2.2.2.2.2.2.1,s0.2.2.2.2.2.2.2)))) ((0:Int),p1,p2,p3,p4,p5,p6,p7)) fun s7=>
 some (true,s7.1,s7.2.1,s7.2.2.1,s7.2.2.2.1,s7.2.2.2.2.1,s7.2.2.2.2.2.1,s7.2.2.2.2.2.2)
def adM (KY:Yi) (VX:T47) (VY:T67) (VZ:T70) (p0:Int) (p1:Int) (p2:iw) (p3:lZ) (p4:oZ) (p5:oZ) (p6:dY) (p7:(List ay)) (p8:bg) (p9:Int) (p10:Int) (p11:Int) (p12:kR):Option (Bool×dY×(List ay)×bg×Int×Int×Int×kR):=
 let n0:=(p8.length:Int)
 bif (decide (p0=5)) then
  OB (VY p0 p1 p2 p3 p4 p5 n0 p6 p7 p8 p9 p10 p11 p12) fun c2=>
  some (true,c2.1,c2.2.1,c2.2.2.1,c2.2.2.2.1,c2.2.2.2.2.1,c2.2.2.2.2.2.1,c2.2.2.2.2.2.2)
 else
  OB (
   aZ (fun (s3:(Int×dY×(List ay)×bg×Int×Int×Int×kR))=>
    bif (decide (s3.1<(p3.length:Int))) then
     ck (inB s3.1 p3.length) <|
     let n6:=(List.getD p3 s3.1.toNat iy)
     OB (f68 n6.kind n6.op n6.value n6.line n6.name n6.args (cZ (n0+s3.1)) s3.2.1 s3.2.2.1 s3.2.2.2.1 s3.2.2.2.2.1 s3.2.2.2.2.2.1 s3.2.2.2.2.2.2.1 s3.2.2.2.2.2.2.2) fun c8=>
     some (.inl ((cZ (s3.1+1)),c8.1,c8.2.1,c8.2.2.1,c8.2.2.2.1,c8.2.2.2.2.1,c8.2.2.2.2.2.1,c8.2.2.2.2.2.2))
    else
     some (.inr (s3.2.1,s3.2.2.1,s3.2.2.2.1,s3.2.2.2.2.1,s3.2.2.2.2.2.1,s3.2.2.2.2.2.2.1,s3.2.2.2.2.2.2.2))) ((0:Int),p6,p7,p8,p9,p10,p11,p12)) fun s10=>
  OB (
   bif (decide (p0=1)) then
    some true
   else
    some (decide (p0=2))) fun s13=>
  dI (
   bif s13 then
    OB (f69 p2 s10.1 s10.2.1 s10.2.2.1 s10.2.2.2.1 s10.2.2.2.2.1 s10.2.2.2.2.2.1 s10.2.2.2.2.2.2) fun c14=>
    OB (
     bif (decide (0≤c14.1)) then
      OB (f38 2 0 c14.1 n0 0 0 eInt c14.2.1 c14.2.2.1 c14.2.2.2.1 c14.2.2.2.2.1 c14.2.2.2.2.2.1 c14.2.2.2.2.2.2.1 s10.2.2.2.2.2.2) fun c16=>
      some (c16.1,c16.2.1,c16.2.2.1,c16.2.2.2.1,c16.2.2.2.2.1,c16.2.2.2.2.2.1,c16.2.2.2.2.2.2)
     else
      OB (f49 c14.2.1 c14.2.2.1 p2) fun c17=>
      OB (f38 6 0 0 n0 0 c17 eInt c14.2.1 c14.2.2.1 c14.2.2.2.1 c14.2.2.2.2.1 c14.2.2.2.2.2.1 c14.2.2.2.2.2.2.1 s10.2.2.2.2.2.2) fun c18=>
      some (c18.1,c18.2.1,c18.2.2.1,c18.2.2.2.1,c18.2.2.2.2.1,c18.2.2.2.2.2.1,c18.2.2.2.2.2.2)) fun vK=>
    some (.inl (vK.1,vK.2.1,vK.2.2.1,vK.2.2.2.1,vK.2.2.2.2.1,vK.2.2.2.2.2.1,vK.2.2.2.2.2.2))
   else
    dI (
     bif (decide (p0=3)) then
      OB (f49 s10.1 s10.2.1 p2) fun Jm=>
      OB (f38 8 0 0 n0 (cZ (n0+1)) Jm eInt s10.1 s10.2.1 s10.2.2.1 s10.2.2.2.1 s10.2.2.2.2.1 s10.2.2.2.2.2.1 s10.2.2.2.2.2.2) fun c23=>
      some (.inl (c23.1,c23.2.1,c23.2.2.1,c23.2.2.2.1,c23.2.2.2.2.1,c23.2.2.2.2.2.1,c23.2.2.2.2.2.2))
     else
      bif (decide (p0=6)) then
       OB (f39 s10.2.2.2.2.2.1 3 n0 0 0 s10.1 s10.2.1 s10.2.2.1 s10.2.2.2.1 s10.2.2.2.2.1 s10.2.2.2.2.2.1 s10.2.2.2.2.2.2) fun c25=>
       some (.inr (.inr (false,c25.1,c25.2.1,c25.2.2.1,c25.2.2.2.1,c25.2.2.2.2.1,c25.2.2.2.2.2.1,c25.2.2.2.2.2.2)))
      else
       dI (
        bif (decide (p0=7)) then
         OB (f38 10 0 0 n0 0 0 eInt s10.1 s10.2.1 s10.2.2.1 s10.2.2.2.1 s10.2.2.2.2.1 s10.2.2.2.2.2.1 s10.2.2.2.2.2.2) fun JK=>
         some (.inl (JK.1,JK.2.1,JK.2.2.1,JK.2.2.2.1,JK.2.2.2.2.1,JK.2.2.2.2.2.1,JK.2.2.2.2.2.2))
        else
         bif (decide (p0=4)) then
          OB (VZ p0 p1 p2 p3 p4 p5 n0 s10.1 s10.2.1 s10.2.2.1 s10.2.2.2.1 s10.2.2.2.2.1 s10.2.2.2.2.2.1 s10.2.2.2.2.2.2) fun c29=>
          some (.inr (.inr (.inr (c29.1,c29.2.1,c29.2.2.1,c29.2.2.2.1,c29.2.2.2.2.1,c29.2.2.2.2.2.1,c29.2.2.2.2.2.2.1,c29.2.2.2.2.2.2.2))))
         else
          some (.inl (s10.1,s10.2.1,s10.2.2.1,s10.2.2.2.1,s10.2.2.2.2.1,s10.2.2.2.2.2.1,s10.2.2.2.2.2.2))) fun mg=>
       some (.inl (mg.1,mg.2.1,mg.2.2.1,mg.2.2.2.1,mg.2.2.2.2.1,mg.2.2.2.2.2.1,mg.2.2.2.2.2.2))) fun Fp=>
    some (.inl (Fp.1,Fp.2.1,Fp.2.2.1,Fp.2.2.2.1,Fp.2.2.2.2.1,Fp.2.2.2.2.2.1,Fp.2.2.2.2.2.2))) fun qE=>
  some (true,qE.1,qE.2.1,qE.2.2.1,qE.2.2.2.1,qE.2.2.2.2.1,qE.2.2.2.2.2.1,qE.2.2.2.2.2.2)
def adN (KY:Yi) (VX:T47) (VY:T67) (VZ:T70) (p0:Int) (p1:Int) (p2:iw) (p3:lZ) (p4:oZ) (p5:oZ) (p6:Int) (p7:dY) (p8:(List ay)) (p9:bg) (p10:Int) (p11:Int) (p12:Int) (p13:kR):Option (dY×(List ay)×bg×Int×Int×Int×kR):=
 OB (f36 p1 p7 p8 p9 p10 p11 p12 p13) fun c0=>
 OB (f39 p12 1 0 c0.1 0 c0.2.1 c0.2.2.1 c0.2.2.2.1 c0.2.2.2.2.1 c0.2.2.2.2.2.1 c0.2.2.2.2.2.2.1 c0.2.2.2.2.2.2.2) fun c1=>
 ck (inB (0:Int) p3.length) <|
 let n2:=(List.getD p3 (Int.toNat 0) iy)
 OB (f68 n2.kind n2.op n2.value n2.line n2.name n2.args p6 c1.1 c1.2.1 c1.2.2.1 c1.2.2.2.1 c1.2.2.2.2.1 c1.2.2.2.2.2.1 c1.2.2.2.2.2.2) fun c3=>
 OB (f36 p1 c3.1 c3.2.1 c3.2.2.1 c3.2.2.2.1 c3.2.2.2.2.1 c3.2.2.2.2.2.1 c3.2.2.2.2.2.2) fun c4=>
 OB (KY p4 c4.2.1 c4.2.2.1 c4.2.2.2.1 c4.2.2.2.2.1 c4.2.2.2.2.2.1 c4.2.2.2.2.2.2.1 c4.2.2.2.2.2.2.2) fun c5=>
 OB (
  bif c5.1 then
   OB (f39 c5.2.2.2.2.2.2.1 1 0 c0.1 0 c5.2.1 c5.2.2.1 c5.2.2.2.1 c5.2.2.2.2.1 c5.2.2.2.2.2.1 c5.2.2.2.2.2.2.1 c5.2.2.2.2.2.2.2) fun c6=>
   some (c6.1,c6.2.1,c6.2.2.1,c6.2.2.2.1,c6.2.2.2.2.1,c6.2.2.2.2.2.1,c6.2.2.2.2.2.2)
  else
   some (c5.2.1,c5.2.2.1,c5.2.2.2.1,c5.2.2.2.2.1,c5.2.2.2.2.2.1,c5.2.2.2.2.2.2.1,c5.2.2.2.2.2.2.2)) fun s7=>
 OB (f36 p1 s7.1 s7.2.1 s7.2.2.1 s7.2.2.2.1 s7.2.2.2.2.1 s7.2.2.2.2.2.1 s7.2.2.2.2.2.2) fun c8=>
 OB (f39 c3.2.2.2.2.2.1 2 p6 c4.1 c8.1 c8.2.1 c8.2.2.1 c8.2.2.2.1 c8.2.2.2.2.1 c8.2.2.2.2.2.1 c8.2.2.2.2.2.2.1 c8.2.2.2.2.2.2.2) fun c9=>
 some (c9.1,c9.2.1,c9.2.2.1,c9.2.2.2.1,c9.2.2.2.2.1,c9.2.2.2.2.2.1,c9.2.2.2.2.2.2)
def adO (KY:Yi) (VX:T47) (VY:T67) (VZ:T70) (p0:Int) (p1:Int) (p2:iw) (p3:lZ) (p4:oZ) (p5:oZ) (p6:Int) (p7:dY) (p8:(List ay)) (p9:bg) (p10:Int) (p11:Int) (p12:Int) (p13:kR):Option (Bool×dY×(List ay)×bg×Int×Int×Int×kR):=
 OB (f36 p1 p7 p8 p9 p10 p11 p12 p13) fun c0=>
 OB (KY p4 c0.2.1 c0.2.2.1 c0.2.2.2.1 c0.2.2.2.2.1 c0.2.2.2.2.2.1 c0.2.2.2.2.2.2.1 c0.2.2.2.2.2.2.2) fun c1=>
 bif (decide ((p5.length:Int)=0)) then
  OB (f36 p1 c1.2.1 c1.2.2.1 c1.2.2.2.1 c1.2.2.2.2.1 c1.2.2.2.2.2.1 c1.2.2.2.2.2.2.1 c1.2.2.2.2.2.2.2) fun c4=>
  OB (f39 p12 2 p6 c0.1 c4.1 c4.2.1 c4.2.2.1 c4.2.2.2.1 c4.2.2.2.2.1 c4.2.2.2.2.2.1 c4.2.2.2.2.2.2.1 c4.2.2.2.2.2.2.2) fun c5=>
  OB (
   bif c1.1 then
    OB (f39 c1.2.2.2.2.2.2.1 1 0 c4.1 0 c5.1 c5.2.1 c5.2.2.1 c5.2.2.2.1 c5.2.2.2.2.1 c5.2.2.2.2.2.1 c5.2.2.2.2.2.2) fun c6=>
    some (c6.1,c6.2.1,c6.2.2.1,c6.2.2.2.1,c6.2.2.2.2.1,c6.2.2.2.2.2.1,c6.2.2.2.2.2.2)
   else
    some (c5.1,c5.2.1,c5.2.2.1,c5.2.2.2.1,c5.2.2.2.2.1,c5.2.2.2.2.2.1,c5.2.2.2.2.2.2)) fun s7=>
  some (true,s7.1,s7.2.1,s7.2.2.1,s7.2.2.2.1,s7.2.2.2.2.1,s7.2.2.2.2.2.1,s7.2.2.2.2.2.2)
 else
  OB (f36 p1 c1.2.1 c1.2.2.1 c1.2.2.2.1 c1.2.2.2.2.1 c1.2.2.2.2.2.1 c1.2.2.2.2.2.2.1 c1.2.2.2.2.2.2.2) fun c8=>
  OB (f39 p12 2 p6 c0.1 c8.1 c8.2.1 c8.2.2.1 c8.2.2.2.1 c8.2.2.2.2.1 c8.2.2.2.2.2.1 c8.2.2.2.2.2.2.1 c8.2.2.2.2.2.2.2) fun c9=>
  OB (KY p5 c9.1 c9.2.1 c9.2.2.1 c9.2.2.2.1 c9.2.2.2.2.1 c9.2.2.2.2.2.1 c9.2.2.2.2.2.2) fun c10=>
  OB (
   bif (!c1.1) then
    some (!c10.1)
   else
    some false) fun s14=>
  bif s14 then
   some (false,c10.2.1,c10.2.2.1,c10.2.2.2.1,c10.2.2.2.2.1,c10.2.2.2.2.2.1,c10.2.2.2.2.2.2.1,c10.2.2.2.2.2.2.2)
  else
   OB (f36 p1 c10.2.1 c10.2.2.1 c10.2.2.2.1 c10.2.2.2.2.1 c10.2.2.2.2.2.1 c10.2.2.2.2.2.2.1 c10.2.2.2.2.2.2.2) fun c15=>
   OB (
    bif c1.1 then
     OB (f39 c1.2.2.2.2.2.2.1 1 0 c15.1 0 c15.2.1 c15.2.2.1 c15.2.2.2.1 c15.2.2.2.2.1 c15.2.2.2.2.2.1 c15.2.2.2.2.2.2.1 c15.2.2.2.2.2.2.2) fun c16=>
     some (c16.1,c16.2.1,c16.2.2.1,c16.2.2.2.1,c16.2.2.2.2.1,c16.2.2.2.2.2.1,c16.2.2.2.2.2.2)
    else
     some (c15.2.1,c15.2.2.1,c15.2.2.2.1,c15.2.2.2.2.1,c15.2.2.2.2.2.1,c15.2.2.2.2.2.2.1,c15.2.2.2.2.2.2.2)) fun oP=>
   OB (
    bif c10.1 then
     OB (f39 c10.2.2.2.2.2.2.1 1 0 c15.1 0 oP.1 oP.2.1 oP.2.2.1 oP.2.2.2.1 oP.2.2.2.2.1 oP.2.2.2.2.2.1 oP.2.2.2.2.2.2) fun c18=>
     some (c18.1,c18.2.1,c18.2.2.1,c18.2.2.2.1,c18.2.2.2.2.1,c18.2.2.2.2.2.1,c18.2.2.2.2.2.2)
    else
     some (oP.1,oP.2.1,oP.2.2.1,oP.2.2.2.1,oP.2.2.2.2.1,oP.2.2.2.2.2.1,oP.2.2.2.2.2.2)) fun vK=>
   some (true,vK.1,vK.2.1,vK.2.2.1,vK.2.2.2.1,vK.2.2.2.2.1,vK.2.2.2.2.2.1,vK.2.2.2.2.2.2)
def fG:Nat→Yi×T47×T67×T70
 |0=>(fun _ _ _ _ _ _ _ _=>none,fun _ _ _ _ _ _ _ _ _ _ _ _ _=>none,fun _ _ _ _ _ _ _ _ _ _ _ _ _ _=>none,fun _ _ _ _ _ _ _ _ _ _ _ _ _ _=>none)
 |n+1=>(adL (fG n).1 (fG n).2.1 (fG n).2.2.1 (fG n).2.2.2,adM (fG n).1 (fG n).2.1 (fG n).2.2.1 (fG n).2.2.2,adN (fG n).1 (fG n).2.1 (fG n).2.2.1 (fG n).2.2.2,adO (fG n).1 (fG n).2.1 (fG n).2.2.1 (fG n).2.2.2)
def XU (n:Nat):Yi:=(fG n).1
def xP (n:Nat):aX:=⟨ajd,u8 (fG n).1⟩
def adP (n:Nat):T47:=(fG n).2.1
def yU (n:Nat):aX:=⟨ajf,u13 (fG n).2.1⟩
def adQ (n:Nat):T67:=(fG n).2.2.1
def yV (n:Nat):aX:=⟨ajh,u14 (fG n).2.2.1⟩
def adR (n:Nat):T70:=(fG n).2.2.2
def yX (n:Nat):aX:=⟨ajj,u14 (fG n).2.2.2⟩
theorem aaO (n:Nat) (h37:au Try.prog 37 (xP n)) (h47:au Try.prog 47 (yU n)) (h67:au Try.prog 67 (yV n)) (h70:au Try.prog 70 (yX n)):au Try.prog 37 (xP (n+1)):=
 ts [(37,xP n),(47,yU n),(67,yV n),(70,yX n)] aje [.tmp 4] anh Try.func37 rfl ⟨h37,h47,h67,h70,trivial⟩
theorem aaP (n:Nat) (h37:au Try.prog 37 (xP n)) (h47:au Try.prog 47 (yU n)) (h67:au Try.prog 67 (yV n)) (h70:au Try.prog 70 (yX n)):au Try.prog 47 (yU (n+1)):=
 ts [(68,agW),(69,agP),(38,aat),(49,aav),(39,XT),(37,xP n),(47,yU n),(67,yV n),(70,yX n)] ajg [.tmp 4] ani Try.func47 rfl ⟨VQ,VP,FQ,FT,BH,h37,h47,h67,h70,trivial⟩
theorem aaQ (n:Nat) (h37:au Try.prog 37 (xP n)) (h47:au Try.prog 47 (yU n)) (h67:au Try.prog 67 (yV n)) (h70:au Try.prog 70 (yX n)):au Try.prog 67 (yV (n+1)):=
 ts [(36,aas),(39,XT),(68,agW),(37,xP n),(47,yU n),(67,yV n),(70,yX n)] aji [] anj Try.func67 rfl ⟨FP,BH,VQ,h37,h47,h67,h70,trivial⟩
theorem aaR (n:Nat) (h37:au Try.prog 37 (xP n)) (h47:au Try.prog 47 (yU n)) (h67:au Try.prog 67 (yV n)) (h70:au Try.prog 70 (yX n)):au Try.prog 70 (yX (n+1)):=
 ts [(36,aas),(39,XT),(37,xP n),(47,yU n),(67,yV n),(70,yX n)] ajk [.tmp 6] ank Try.func70 rfl ⟨FP,BH,h37,h47,h67,h70,trivial⟩
theorem ER :∀n,au Try.prog 37 (xP n)∧au Try.prog 47 (yU n)∧au Try.prog 67 (yV n)∧au Try.prog 70 (yX n)
 |0=>⟨dD Try.func37 rfl rfl (show ajd.er.ok=true by decide +kernel) fun x=>rfl,dD Try.func47 rfl rfl (show ajf.er.ok=true by decide +kernel) fun x=>rfl,dD Try.func67 rfl rfl (show ajh.er.ok=true by decide +kernel) fun x=>rfl,dD Try.func70 rfl rfl (show ajj.er.ok=true by decide +kernel) fun x=>rfl⟩
 |n+1=>by
  have ih:=ER n
  exact ⟨aaO n (ih.1) (ih.2.1) (ih.2.2.1) (ih.2.2.2),aaP n (ih.1) (ih.2.1) (ih.2.2.1) (ih.2.2.2),aaQ n (ih.1) (ih.2.1) (ih.2.2.1) (ih.2.2.2),aaR n (ih.1) (ih.2.1) (ih.2.2.1) (ih.2.2.2)⟩
def f37:Yi:=XU 1048576
def ajV:aX:=xP 1048576
theorem adT:au Try.prog 37 ajV:=(ER 1048576).1
def ag4 (afl:T54) (p0:oZ) (p1:dY) (p2:(List ay)) (p3:Int) (p4:Int) (p5:bg):Option (dY×(List ay)×Int×Int×oZ×bg):=
 OB (
  aZ (fun (s0:(Int×dY×(List ay)×Int×Int×oZ×bg))=>
   bif (decide (s0.1<(p0.length:Int))) then
    ck (inB s0.1 p0.length) <|
    let n3:=(List.getD p0 s0.1.toNat jW)
    OB (
     aZ (fun (s4:(Int×dY×(List ay)×Int×Int×lZ))=>
      bif (decide (s4.1<((List.length n3.exprs):Int))) then
       ck (inB s4.1 (List.length n3.exprs)) <|
       let n7:=(List.getD n3.exprs s4.1.toNat iy)
       OB (f74 n7.kind n7.op n7.value n7.line n7.name n7.args) fun c8=>
       OB (
        bif (decide (64<c8)) then
         ck (inB s4.1 (List.length n3.exprs)) <|
         OB (f75 (List.getD n3.exprs s4.1.toNat iy).line 5 s4.2.1 s4.2.2.1 s4.2.2.2.1 s4.2.2.2.2.1 s0.2.2.2.2.2.2) fun c11=>
         some (c11.1,c11.2.1,c11.2.2.1,c11.2.2.2.1)
        else
         some (s4.2.1,s4.2.2.1,s4.2.2.2.1,s4.2.2.2.2.1)) fun s12=>
       ck (inB s4.1 (List.length n3.exprs)) <|
       let n13:=(List.getD n3.exprs s4.1.toNat iy)
       OB (f76 n13.kind n13.op n13.value n13.line n13.name n13.args s12.1 s12.2.1 s12.2.2.1 s12.2.2.2 s0.2.2.2.2.2.2) fun c14=>
       let n15:=[(bG.mk c14.1 c14.2.1 c14.2.2.1 c14.2.2.2.1 c14.2.2.2.2.1 c14.2.2.2.2.2.2.2.2.2.2)]
       ck (b_ s4.2.2.2.2.2.length n15.length 72) <|
       some (.inl ((cZ (s4.1+1)),c14.2.2.2.2.2.1,c14.2.2.2.2.2.2.1,c14.2.2.2.2.2.2.2.1,c14.2.2.2.2.2.2.2.2.1,(s4.2.2.2.2.2++n15)))
      else
       some (.inr (s4.2.1,s4.2.2.1,s4.2.2.2.1,s4.2.2.2.2.1,s4.2.2.2.2.2))) ((0:Int),s0.2.1,s0.2.2.1,s0.2.2.2.1,s0.2.2.2.2.1,oO)) fun Q_=>
    OB (f77 n3.name Q_.1 Q_.2.1 Q_.2.2.1 Q_.2.2.2.1 s0.2.2.2.2.2.2) fun c19=>
    OB (
     bif (decide (n3.kind=1)) then
      OB (
       bif (!(decide (c19.1=0))) then
        OB (f75 n3.line 9 c19.2.1 c19.2.2.1 c19.2.2.2.1 c19.2.2.2.2.1 s0.2.2.2.2.2.2) fun Jm=>
        some (Jm.1,Jm.2.1,Jm.2.2.1,Jm.2.2.2.1)
       else
        some (c19.2.1,c19.2.2.1,c19.2.2.2.1,c19.2.2.2.2.1)) fun s23=>
      let n24:=[n3.name]
      ck (b_ s0.2.2.2.2.2.2.length n24.length 16) <|
      some (s23.1,s23.2.1,s23.2.2.1,s23.2.2.2,(s0.2.2.2.2.2.2++n24))
     else
      OB (
       bif (decide (n3.kind=2)) then
        some true
       else
        some (decide (n3.kind=3))) fun Dz=>
      OB (
       bif Dz then
        OB (
         bif (decide (c19.1=0)) then
          OB (f75 n3.line 8 c19.2.1 c19.2.2.1 c19.2.2.2.1 c19.2.2.2.2.1 s0.2.2.2.2.2.2) fun KU=>
          some (KU.1,KU.2.1,KU.2.2.1,KU.2.2.2.1)
         else
          OB (
           bif (decide (n3.kind=2)) then
            bif (!(decide (c19.1=1))) then
             bif (!(decide (c19.1=2))) then
              some true
             else
              bif (decide (n3.kind=3)) then
               some (!(decide (c19.1=3)))
              else
               some false
            else
             bif (decide (n3.kind=3)) then
              some (!(decide (c19.1=3)))
             else
              some false
           else
            bif (decide (n3.kind=3)) then
             some (!(decide (c19.1=3)))
            else
             some false) fun s51=>
          OB (
           bif s51 then
            OB (f75 n3.line 10 c19.2.1 c19.2.2.1 c19.2.2.2.1 c19.2.2.2.2.1 s0.2.2.2.2.2.2) fun XV=>
            some (XV.1,XV.2.1,XV.2.2.1,XV.2.2.2.1)
           else
            some (c19.2.1,c19.2.2.1,c19.2.2.2.1,c19.2.2.2.2.1)) fun s53=>
          some (s53.1,s53.2.1,s53.2.2.1,s53.2.2.2)) fun I9=>
        some (I9.1,I9.2.1,I9.2.2.1,I9.2.2.2)
       else
        some (c19.2.1,c19.2.2.1,c19.2.2.2.1,c19.2.2.2.2.1)) fun s55=>
      some (s55.1,s55.2.1,s55.2.2.1,s55.2.2.2,s0.2.2.2.2.2.2)) fun s56=>
    OB (afl n3.then' s56.1 s56.2.1 s56.2.2.1 s56.2.2.2.1 s56.2.2.2.2) fun c57=>
    OB (afl n3.else' c57.1 c57.2.1 c57.2.2.1 c57.2.2.2.1 c57.2.2.2.2.2) fun V3=>
    let n59:=[(d_.mk n3.kind n3.line n3.name Q_.2.2.2.2 c57.2.2.2.2.1 V3.2.2.2.2.1)]
    ck (b_ s0.2.2.2.2.2.1.length n59.length 104) <|
    some (.inl ((cZ (s0.1+1)),V3.1,V3.2.1,V3.2.2.1,V3.2.2.2.1,(s0.2.2.2.2.2.1++n59),V3.2.2.2.2.2))
   else
    some (.inr (s0.2.1,s0.2.2.1,s0.2.2.2.1,s0.2.2.2.2.1,s0.2.2.2.2.2.1,s0.2.2.2.2.2.2))) ((0:Int),p1,p2,p3,p4,iK,p5)) fun s62=>
 some (s62.1,s62.2.1,s62.2.2.1,s62.2.2.2.1,s62.2.2.2.2.1,s62.2.2.2.2.2)
def Ub:Nat→T54
 |0=>(fun _ _ _ _ _ _=>none)
 |n+1=>(ag4 (Ub n))
def ag5 (n:Nat):T54:=(Ub n)
def QE (n:Nat):aX:=⟨ajl,u6 (Ub n)⟩
theorem aaS (n:Nat) (h54:au Try.prog 54 (QE n)):au Try.prog 54 (QE (n+1)):=
 ts [(74,ajH),(75,ads),(76,ajQ),(77,aaz),(54,QE n)] ety [.tmp 4] anl Try.func54 rfl ⟨adr,NR,adE,FV,h54,trivial⟩
theorem ES :∀n,au Try.prog 54 (QE n)
 |0=>dD Try.func54 rfl rfl (show ajl.er.ok=true by decide +kernel) fun x=>rfl
 |n+1=>by
  have ih:=ES n
  exact aaS n (ih)
def f54:T54:=ag5 1048576
def ajX:aX:=QE 1048576
theorem adV:au Try.prog 54 ajX:=(ES 1048576)
def f72 (p0:dY) (p1:N_) (p2:Int) (p3:Int) (p4:iw) (p5:Int) (p6:Int) (p7:kR) (p8:Int) (p9:Int) (p10:Int) (p11:Int) (p12:Int) (p13:Int) (p14:eY):Option Int:=
 OB (
  bif (decide (p8<1)) then
   some true
  else
   bif (decide (14<p8)) then
    some true
   else
    bif (decide (p8=3)) then
     bif (!(decide (p9=1))) then
      bif (!(decide (p9=2))) then
       some true
      else
       bif (decide (p8=4)) then
        bif (decide (p9<3)) then
         some true
        else
         some (decide (11<p9))
       else
        some false
     else
      bif false then
       some true
      else
       bif (decide (p8=4)) then
        bif (decide (p9<3)) then
         some true
        else
         some (decide (11<p9))
       else
        some false
    else
     bif false then
      some true
     else
      bif (decide (p8=4)) then
       bif (decide (p9<3)) then
        some true
       else
        some (decide (11<p9))
      else
       some false) fun rD=>
 bif rD then
  some (17:Int)
 else
  OB (f87 p8 p9 p10 p11 p12 p13 p14) fun c39=>
  OB (f88 p8 p9 p10 p11 p12 p13 p14) fun c40=>
  OB (
   bif c40.2 then
    let n41:=[c40.1]
    ck (b_ c39.length n41.length 8) <|
    some (c39++n41)
   else
    some c39) fun s43=>
  dI (
   aZ (fun (s44:Int)=>
    bif (decide (s44<(s43.length:Int))) then
     OB (
      ck (inB s44 s43.length) <|
      bif (decide ((List.getD s43 s44.toNat 0)<0)) then
       some true
      else
       ck (inB s44 s43.length) <|
       some (decide (p6≤(List.getD s43 s44.toNat 0)))) fun s52=>
     bif s52 then
      some (.inr (.inr (14:Int)))
     else
      some (.inl (cZ (s44+1)))
    else
     some (.inr (.inl ()))) (0:Int)) fun I9=>
  OB (
   bif (decide (p8=5)) then
    some true
   else
    some (decide (p8=6))) fun s57=>
  dI (
   bif s57 then
    OB (f89 p0 p1 p2 p3 p13 false) fun V3=>
    bif (!V3) then
     some (.inr (16:Int))
    else
     some (.inl ())
   else
    OB (
     bif (decide (p8=7)) then
      some true
     else
      some (decide (p8=8))) fun s62=>
    dI (
     bif s62 then
      OB (f89 p0 p1 p2 p3 p13 true) fun c63=>
      bif (!c63) then
       some (.inr (.inr (16:Int)))
      else
       some (.inl ())
     else
      dI (
       bif (decide (p8=11)) then
        OB (
         bif (decide (p13<0)) then
          some true
         else
          some (decide ((p1.length:Int)≤p13))) fun s70=>
        bif s70 then
         some (.inr (.inr (.inr (15:Int))))
        else
         ck (inB p13 p1.length) <|
         bif (!(decide ((List.getD p1 p13.toNat aC).params=(p14.length:Int)))) then
          some (.inr (.inr (.inr (11:Int))))
         else
          some (.inl ())
       else
        dI (
         bif (decide (p8=12)) then
          bif (decide (250<(p14.length:Int))) then
           some (.inr (.inr (.inr (.inr (11:Int)))))
          else
           some (.inl ())
         else
          dI (
           bif (decide (p8=14)) then
            OB (
             bif (decide (p13<0)) then
              some true
             else
              some (decide (p2≤p13))) fun s81=>
            bif s81 then
             some (.inr (.inr (.inr (.inr (.inr (15:Int))))))
            else
             some (.inl ())
           else
            dI (
             bif (decide (p8=13)) then
              OB (
               bif (decide (p13<0)) then
                some true
               else
                some (decide (p3≤p13))) fun s86=>
              bif s86 then
               some (.inr (.inr (.inr (.inr (.inr (.inr (1:Int)))))))
              else
               some (.inl ())
             else
              some (.inl ())) fun s87=>
            some (.inl ())) fun s88=>
          some (.inl ())) fun s89=>
        some (.inl ())) fun s90=>
      some (.inl ())) fun s91=>
    some (.inl ())) fun s92=>
  some (0:Int)
def ajY:aX:=⟨anm,u15 f72⟩
theorem adX:au Try.prog 72 ajY:=
 ts [(87,ajK),(88,ajL),(89,ajM)] ety [.tmp 6] ano Try.func72 rfl ⟨adw,adx,ady,trivial⟩
def ag6 (p0:Int) (p1:eY) (p2:Int) (p3:dY) (p4:(List ay)) (p5:bg):Option (iw×Bool×Int×eY×Int×dY×(List ay)×bg):=
 OB (
  OB (f100) fun c0=>
  dI (
   aZ (fun (s1:Int)=>
    bif (decide (s1<(c0.length:Int))) then
     OB (
      aZ (fun (s4:(Bool×Int))=>
       bif (decide (s4.2<(p5.length:Int))) then
        OB (
         bif s4.1 then
          some true
         else
          ck (inB s4.2 p5.length) <|
          ck (inB s1 c0.length) <|
          some ((List.getD p5 s4.2.toNat dN)==(List.getD c0 s1.toNat dN))) fun s11=>
        some (.inl (s11,(cZ (s4.2+1))))
       else
        some (.inr s4.1)) (false,(0:Int))) fun s13=>
     bif (!s13) then
      ck (inB s1 c0.length) <|
      some (.inr (.inr ((List.getD c0 s1.toNat dN),true,p0,p1,p2,p3,p4,p5)))
     else
      some (.inl (cZ (s1+1)))
    else
     some (.inr (.inl ()))) (0:Int)) fun oP=>
  some (dN,false,p0,p1,p2,p3,p4,p5)) fun Q_=>
 ck (decide (p3.length=Q_.2.2.2.2.2.1.length)) <|
 ck (decide (p4.length=Q_.2.2.2.2.2.2.1.length)) <|
 ck (decide (p5.length=Q_.2.2.2.2.2.2.2.length)) <|
 some Q_
def f93 (p0:Int) (p1:eY) (p2:Int) (p3:dY) (p4:(List ay)) (p5:bg):Option (iw×Bool×Int×eY×Int×dY×(List ay)×bg):=OB (ag6 p0 p1 p2 p3 p4 p5) fun (y:(iw×Bool×Int×eY×Int×dY×(List ay)×bg))=>vS y.2.2.2.2.2.1 p3 <| vS y.2.2.2.2.2.2.1 p4 <| vS y.2.2.2.2.2.2.2 p5 <| some y
def ajZ:aX:=⟨anp,u6 ag6⟩
theorem adY:au Try.prog 93 ajZ:=
 ts [(100,afj)] ety [.tmp 2,.tmp 3] anq Try.func93 rfl ⟨aaK,trivial⟩
def XW (xQ:T95) (afn:T98) (p0:Int) (p1:Int) (p2:eY) (p3:Int) (p4:dY) (p5:(List ay)) (p6:bg):Option (Int×Int×Int×Int×iw×lZ×Int×eY×Int×dY×(List ay)×bg):=
 OB (
  OB (
   bif (decide (p0<1)) then
    some (true,p2,p3)
   else
    OB (f16 3 p2 p3) fun c1=>
    some ((decide (c1.1=0)),c1.2.1,c1.2.2)) fun s4=>
  bif s4.1 then
   OB (f101 p1 s4.2.1 s4.2.2 p4 p5 p6) fun c5=>
   some (c5.1,c5.2.1,c5.2.2.1,c5.2.2.2.1,c5.2.2.2.2.1,oO,c5.2.2.2.2.2.1,c5.2.2.2.2.2.2.1,c5.2.2.2.2.2.2.2.1,p4,p5,p6)
  else
   OB (f16 9 s4.2.1 s4.2.2) fun c6=>
   bif (decide (c6.1=0)) then
    OB (f16 2 c6.2.1 c6.2.2) fun c8=>
    OB (xQ (cZ (p0-1)) p1 c8.2.1 c8.2.2 p4 p5 p6) fun c11=>
    OB (f102 5 (cZ (1+c8.1)) [(bG.mk c11.1 c11.2.1 c11.2.2.1 c11.2.2.2.1 c11.2.2.2.2.1 c11.2.2.2.2.2.1)]) fun c13=>
    some (c13.1,c13.2.1,c13.2.2.1,c13.2.2.2.1,c13.2.2.2.2.1,c13.2.2.2.2.2,c11.2.2.2.2.2.2.1,c11.2.2.2.2.2.2.2.1,c11.2.2.2.2.2.2.2.2.1,p4,p5,p6)
   else
    bif (decide (c6.1=1)) then
     OB (xQ (cZ (p0-1)) p1 c6.2.1 c6.2.2 p4 p5 p6) fun c16=>
     OB (xQ (cZ (p0-1)) c16.2.2.2.2.2.2.1 c16.2.2.2.2.2.2.2.1 c16.2.2.2.2.2.2.2.2.1 p4 p5 p6) fun c18=>
     OB (f102 7 0 [(bG.mk c16.1 c16.2.1 c16.2.2.1 c16.2.2.2.1 c16.2.2.2.2.1 c16.2.2.2.2.2.1),(bG.mk c18.1 c18.2.1 c18.2.2.1 c18.2.2.2.1 c18.2.2.2.2.1 c18.2.2.2.2.2.1)]) fun c20=>
     some (c20.1,c20.2.1,c20.2.2.1,c20.2.2.2.1,c20.2.2.2.2.1,c20.2.2.2.2.2,c18.2.2.2.2.2.2.1,c18.2.2.2.2.2.2.2.1,c18.2.2.2.2.2.2.2.2.1,p4,p5,p6)
    else
     bif (decide (c6.1=2)) then
      OB (xQ (cZ (p0-1)) p1 c6.2.1 c6.2.2 p4 p5 p6) fun c23=>
      OB (xQ (cZ (p0-1)) c23.2.2.2.2.2.2.1 c23.2.2.2.2.2.2.2.1 c23.2.2.2.2.2.2.2.2.1 p4 p5 p6) fun c25=>
      OB (f102 8 0 [(bG.mk c23.1 c23.2.1 c23.2.2.1 c23.2.2.2.1 c23.2.2.2.2.1 c23.2.2.2.2.2.1),(bG.mk c25.1 c25.2.1 c25.2.2.1 c25.2.2.2.1 c25.2.2.2.2.1 c25.2.2.2.2.2.1)]) fun JK=>
      some (JK.1,JK.2.1,JK.2.2.1,JK.2.2.2.1,JK.2.2.2.2.1,JK.2.2.2.2.2,c25.2.2.2.2.2.2.1,c25.2.2.2.2.2.2.2.1,c25.2.2.2.2.2.2.2.2.1,p4,p5,p6)
     else
      OB (
       bif (decide (c6.1=3)) then
        some true
       else
        some (decide (c6.1=4))) fun mg=>
      bif mg then
       OB (afn p0 p1 c6.2.1 c6.2.2 p4 p5 p6) fun c31=>
       some (c31.1,c31.2.1,c31.2.2.1,c31.2.2.2.1,c31.2.2.2.2.1,c31.2.2.2.2.2.2.2.2.2.2.2,c31.2.2.2.2.2.1,c31.2.2.2.2.2.2.1,c31.2.2.2.2.2.2.2.1,p4,p5,p6)
      else
       dI (
        bif (decide (c6.1=5)) then
         OB (f96 true p1 c6.2.1 c6.2.2 p4 p5 p6) fun KW=>
         bif KW.2.1 then
          OB (xQ (cZ (p0-1)) KW.2.2.1 KW.2.2.2.1 KW.2.2.2.2.1 p4 p5 p6) fun DC=>
          some (.inr ((4:Int),(0:Int),(0:Int),(0:Int),KW.1,[(bG.mk DC.1 DC.2.1 DC.2.2.1 DC.2.2.2.1 DC.2.2.2.2.1 DC.2.2.2.2.2.1)],DC.2.2.2.2.2.2.1,DC.2.2.2.2.2.2.2.1,DC.2.2.2.2.2.2.2.2.1,p4,p5,p6))
         else
          some (.inl (KW.2.2.1,KW.2.2.2.1,KW.2.2.2.2.1))
        else
         some (.inl (p1,c6.2.1,c6.2.2))) fun BG=>
       OB (f16 9 BG.2.1 BG.2.2) fun c38=>
       OB (xQ (cZ (p0-1)) BG.1 c38.2.1 c38.2.2 p4 p5 p6) fun Uc=>
       OB (xQ (cZ (p0-1)) Uc.2.2.2.2.2.2.1 Uc.2.2.2.2.2.2.2.1 Uc.2.2.2.2.2.2.2.2.1 p4 p5 p6) fun V4=>
       OB (f102 6 (cZ (3+c38.1)) [(bG.mk Uc.1 Uc.2.1 Uc.2.2.1 Uc.2.2.2.1 Uc.2.2.2.2.1 Uc.2.2.2.2.2.1),(bG.mk V4.1 V4.2.1 V4.2.2.1 V4.2.2.2.1 V4.2.2.2.2.1 V4.2.2.2.2.2.1)]) fun I_=>
       some (I_.1,I_.2.1,I_.2.2.1,I_.2.2.2.1,I_.2.2.2.2.1,I_.2.2.2.2.2,V4.2.2.2.2.2.2.1,V4.2.2.2.2.2.2.2.1,V4.2.2.2.2.2.2.2.2.1,p4,p5,p6)) fun s46=>
 ck (decide (p4.length=s46.2.2.2.2.2.2.2.2.2.1.length)) <|
 ck (decide (p5.length=s46.2.2.2.2.2.2.2.2.2.2.1.length)) <|
 ck (decide (p6.length=s46.2.2.2.2.2.2.2.2.2.2.2.length)) <|
 some s46
def k95 (p0:Int) (p1:Int) (p2:eY) (p3:Int) (p4:dY) (p5:(List ay)) (p6:bg) (r:Option (Int×Int×Int×Int×iw×lZ×Int×eY×Int×dY×(List ay)×bg)):Option (Int×Int×Int×Int×iw×lZ×Int×eY×Int×dY×(List ay)×bg):=OB r fun (y:(Int×Int×Int×Int×iw×lZ×Int×eY×Int×dY×(List ay)×bg))=>vS y.2.2.2.2.2.2.2.2.2.1 p4 <| vS y.2.2.2.2.2.2.2.2.2.2.1 p5 <| vS y.2.2.2.2.2.2.2.2.2.2.2 p6 <| some y
def adZ (xQ:T95) (afn:T98) (p0:Int) (p1:Int) (p2:eY) (p3:Int) (p4:dY) (p5:(List ay)) (p6:bg):Option (Int×Int×Int×Int×iw×Int×eY×Int×dY×(List ay)×bg×lZ):=
 OB (
  OB (f16 (p5.length:Int) p2 p3) fun c1=>
  ck (inB c1.1 p5.length) <|
  let n2:=(List.getD p5 c1.1.toNat gK)
  OB (f16 3 c1.2.1 c1.2.2) fun c4=>
  let n5:=(decide (c4.1=2))
  OB (
   bif n5 then
    OB (f16 8 c4.2.1 c4.2.2) fun c6=>
    some ((decide (c6.1=7)),c6.2.1,c6.2.2)
   else
    some (false,c4.2.1,c4.2.2)) fun s9=>
  OB (
   bif s9.1 then
    OB (f16 3 s9.2.1 s9.2.2) fun c10=>
    some (c10.1,c10.2.1,c10.2.2)
   else
    some (((List.length n2.params):Int),s9.2.1,s9.2.2)) fun s11=>
  OB (
   aZ (fun (s12:(Int×Int×eY×Int×lZ))=>
    bif (decide (s12.1<s11.1)) then
     OB (xQ (cZ (p0-1)) s12.2.1 s12.2.2.1 s12.2.2.2.1 p4 p5 p6) fun c15=>
     let n16:=[(bG.mk c15.1 c15.2.1 c15.2.2.1 c15.2.2.2.1 c15.2.2.2.2.1 c15.2.2.2.2.2.1)]
     ck (b_ s12.2.2.2.2.length n16.length 72) <|
     some (.inl ((cZ (s12.1+1)),c15.2.2.2.2.2.2.1,c15.2.2.2.2.2.2.2.1,c15.2.2.2.2.2.2.2.2.1,(s12.2.2.2.2++n16)))
    else
     some (.inr (s12.2.1,s12.2.2.1,s12.2.2.2.1,s12.2.2.2.2))) ((0:Int),p1,s11.2.1,s11.2.2,oO)) fun vK=>
  bif (!n5) then
   some ((9:Int),(0:Int),(0:Int),(0:Int),n2.name,vK.1,vK.2.1,vK.2.2.1,p4,p5,p6,vK.2.2.2)
  else
   OB (f16 4 vK.2.1 vK.2.2.1) fun c21=>
   OB (
    bif (decide (c21.1=3)) then
     OB (xQ (cZ (p0-1)) vK.1 c21.2.1 c21.2.2 p4 p5 p6) fun c24=>
     some (c24.2.2.2.2.2.2.1,c24.2.2.2.2.2.2.2.1,c24.2.2.2.2.2.2.2.2.1,c24.1,c24.2.1,c24.2.2.1,c24.2.2.2.1,c24.2.2.2.2.1,c24.2.2.2.2.2.1)
    else
     some (vK.1,c21.2.1,c21.2.2,(11:Int),(0:Int),(0:Int),(0:Int),n2.name,oO)) fun vY=>
   bif (decide (vY.2.2.2.1=13)) then
    some ((9:Int),(0:Int),(0:Int),(0:Int),vY.2.2.2.2.2.2.2.1,vY.1,vY.2.1,vY.2.2.1,p4,p5,p6,vK.2.2.2)
   else
    let n27:=[(bG.mk vY.2.2.2.1 vY.2.2.2.2.1 vY.2.2.2.2.2.1 vY.2.2.2.2.2.2.1 vY.2.2.2.2.2.2.2.1 vY.2.2.2.2.2.2.2.2)]
    ck (b_ n27.length vK.2.2.2.length 72) <|
    some ((10:Int),(0:Int),(0:Int),(0:Int),dN,vY.1,vY.2.1,vY.2.2.1,p4,p5,p6,(n27++vK.2.2.2))) fun s29=>
 ck (decide (p4.length=s29.2.2.2.2.2.2.2.2.1.length)) <|
 ck (decide (p5.length=s29.2.2.2.2.2.2.2.2.2.1.length)) <|
 ck (decide (p6.length=s29.2.2.2.2.2.2.2.2.2.2.1.length)) <|
 some s29
def k98 (p0:Int) (p1:Int) (p2:eY) (p3:Int) (p4:dY) (p5:(List ay)) (p6:bg) (r:Option (Int×Int×Int×Int×iw×Int×eY×Int×dY×(List ay)×bg×lZ)):Option (Int×Int×Int×Int×iw×Int×eY×Int×dY×(List ay)×bg×lZ):=OB r fun (y:(Int×Int×Int×Int×iw×Int×eY×Int×dY×(List ay)×bg×lZ))=>vS y.2.2.2.2.2.2.2.2.1 p4 <| vS y.2.2.2.2.2.2.2.2.2.1 p5 <| vS y.2.2.2.2.2.2.2.2.2.2.1 p6 <| some y
def sD:Nat→T95×T98
 |0=>(fun _ _ _ _ _ _ _=>none,fun _ _ _ _ _ _ _=>none)
 |n+1=>(XW (fun p0 p1 p2 p3 p4 p5 p6=>k95 p0 p1 p2 p3 p4 p5 p6 ((sD n).1 p0 p1 p2 p3 p4 p5 p6)) (fun p0 p1 p2 p3 p4 p5 p6=>k98 p0 p1 p2 p3 p4 p5 p6 ((sD n).2 p0 p1 p2 p3 p4 p5 p6)),adZ (fun p0 p1 p2 p3 p4 p5 p6=>k95 p0 p1 p2 p3 p4 p5 p6 ((sD n).1 p0 p1 p2 p3 p4 p5 p6)) (fun p0 p1 p2 p3 p4 p5 p6=>k98 p0 p1 p2 p3 p4 p5 p6 ((sD n).2 p0 p1 p2 p3 p4 p5 p6)))
def ad4 (n:Nat):T95:=(fun p0 p1 p2 p3 p4 p5 p6=>k95 p0 p1 p2 p3 p4 p5 p6 ((sD n).1 p0 p1 p2 p3 p4 p5 p6))
def Ja (n:Nat):aX:=⟨ajm,u7 (sD n).1⟩
def ad5 (n:Nat):T98:=(fun p0 p1 p2 p3 p4 p5 p6=>k98 p0 p1 p2 p3 p4 p5 p6 ((sD n).2 p0 p1 p2 p3 p4 p5 p6))
def Jb (n:Nat):aX:=⟨ajn,u7 (sD n).2⟩
theorem aaT (n:Nat) (h95:au Try.prog 95 (Ja n)) (h98:au Try.prog 98 (Jb n)):au Try.prog 95 (Ja (n+1)):=
 ts [(16,I7),(101,afk),(102,aaM),(96,aaJ),(95,Ja n),(98,Jb n)] ety [.cell 4 132] anr Try.func95 rfl ⟨nY,aaL,QC,FW,h95,h98,trivial⟩
theorem aaU (n:Nat) (h95:au Try.prog 95 (Ja n)) (h98:au Try.prog 98 (Jb n)):au Try.prog 98 (Jb (n+1)):=
 ts [(16,I7),(95,Ja n),(98,Jb n)] ety [.cell 4 132] ant Try.func98 rfl ⟨nY,h95,h98,trivial⟩
theorem xR :∀n,au Try.prog 95 (Ja n)∧au Try.prog 98 (Jb n)
 |0=>⟨dD Try.func95 rfl rfl (show ajm.er.ok=true by decide +kernel) fun x=>rfl,dD Try.func98 rfl rfl (show ajn.er.ok=true by decide +kernel) fun x=>rfl⟩
 |n+1=>by
  have ih:=xR n
  exact ⟨aaT n (ih.1) (ih.2),aaU n (ih.1) (ih.2)⟩
def f95:T95:=ad4 1048576
def ag7:aX:=Ja 1048576
theorem V5:au Try.prog 95 ag7:=(xR 1048576).1
def f98:T98:=ad5 1048576
def aj0:aX:=Jb 1048576
theorem ad6:au Try.prog 98 aj0:=(xR 1048576).2
def ad7 (KZ:T55) (aaV:T78) (aaW:T97) (p0:Int) (p1:Int) (p2:Int) (p3:eY) (p4:Int) (p5:dY) (p6:(List ay)) (p7:bg):Option (Int×eY×Int×dY×(List ay)×oZ×bg):=
 OB (
  OB (
   aZ (fun (s0:(Int×Int×eY×Int×oZ×bg))=>
    OB (
     bif (decide (s0.1<p1)) then
      some (decide (0<s0.2.1))
     else
      some false) fun s4=>
    bif s4 then
     OB (aaV p0 (cZ (s0.2.1-1)) s0.2.2.1 s0.2.2.2.1 p5 p6 s0.2.2.2.2.2) fun c6=>
     let n7:=[(d_.mk c6.1 c6.2.1 c6.2.2.1 c6.2.2.2.2.2.2.2.2.1 c6.2.2.2.2.2.2.2.2.2.1 c6.2.2.2.2.2.2.2.2.2.2.1)]
     ck (b_ s0.2.2.2.2.1.length n7.length 104) <|
     some (.inl ((cZ (s0.1+1)),c6.2.2.2.1,c6.2.2.2.2.1,c6.2.2.2.2.2.1,(s0.2.2.2.2.1++n7),c6.2.2.2.2.2.2.2.2.2.2.2))
    else
     some (.inr (s0.2.1,s0.2.2.1,s0.2.2.2.1,s0.2.2.2.2.1,s0.2.2.2.2.2))) ((0:Int),p2,p3,p4,iK,p7)) fun s10=>
  some (s10.1,s10.2.1,s10.2.2.1,p5,p6,s10.2.2.2.1,s10.2.2.2.2)) fun s11=>
 ck (decide (p5.length=s11.2.2.2.1.length)) <|
 ck (decide (p6.length=s11.2.2.2.2.1.length)) <|
 some s11
def k55 (p0:Int) (p1:Int) (p2:Int) (p3:eY) (p4:Int) (p5:dY) (p6:(List ay)) (p7:bg) (r:Option (Int×eY×Int×dY×(List ay)×oZ×bg)):Option (Int×eY×Int×dY×(List ay)×oZ×bg):=OB r fun (y:(Int×eY×Int×dY×(List ay)×oZ×bg))=>vS y.2.2.2.1 p5 <| vS y.2.2.2.2.1 p6 <| some y
def ad8 (KZ:T55) (aaV:T78) (aaW:T97) (p0:Int) (p1:Int) (p2:eY) (p3:Int) (p4:dY) (p5:(List ay)) (p6:bg):Option (Int×Int×iw×Int×eY×Int×dY×(List ay)×lZ×oZ×oZ×bg):=
 OB (
  OB (f16 10 p2 p3) fun c0=>
  OB (
   bif (decide (c0.1=0)) then
    some true
   else
    some (decide (c0.1=1))) fun s3=>
  dI (
   bif s3 then
    OB (f93 p1 c0.2.1 c0.2.2 p4 p5 p6) fun c4=>
    bif c4.2.1 then
     OB (f95 2 c4.2.2.1 c4.2.2.2.1 c4.2.2.2.2.1 p4 p5 p6) fun c5=>
     OB (f94 1 c4.1 c5.1 c5.2.1 c5.2.2.1 c5.2.2.2.1 c5.2.2.2.2.1 c5.2.2.2.2.2.1) fun c6=>
     let n7:=[c4.1]
     ck (b_ p6.length n7.length 16) <|
     some (.inr (c6.1,c6.2.1,c6.2.2.1,c5.2.2.2.2.2.2.1,c5.2.2.2.2.2.2.2.1,c5.2.2.2.2.2.2.2.2.1,p4,p5,c6.2.2.2,iK,iK,(p6++n7)))
    else
     some (.inl (c4.2.2.1,c4.2.2.2.1,c4.2.2.2.2.1))
   else
    dI (
     bif (decide (c0.1=2)) then
      bif (decide (0<(p6.length:Int))) then
       OB (f16 (p6.length:Int) c0.2.1 c0.2.2) fun c13=>
       ck (inB c13.1 p6.length) <|
       OB (f95 2 p1 c13.2.1 c13.2.2 p4 p5 p6) fun c15=>
       OB (f94 2 (List.getD p6 c13.1.toNat dN) c15.1 c15.2.1 c15.2.2.1 c15.2.2.2.1 c15.2.2.2.2.1 c15.2.2.2.2.2.1) fun c16=>
       some (.inr (.inr (c16.1,c16.2.1,c16.2.2.1,c15.2.2.2.2.2.2.1,c15.2.2.2.2.2.2.2.1,c15.2.2.2.2.2.2.2.2.1,p4,p5,c16.2.2.2,iK,iK,p6)))
      else
       some (.inl (p1,c0.2.1,c0.2.2))
     else
      dI (
       bif (decide (c0.1=3)) then
        OB (f96 false p1 c0.2.1 c0.2.2 p4 p5 p6) fun c18=>
        bif c18.2.1 then
         OB (f95 2 c18.2.2.1 c18.2.2.2.1 c18.2.2.2.2.1 p4 p5 p6) fun c19=>
         OB (f94 2 c18.1 c19.1 c19.2.1 c19.2.2.1 c19.2.2.2.1 c19.2.2.2.2.1 c19.2.2.2.2.2.1) fun c20=>
         some (.inr (.inr (.inr (c20.1,c20.2.1,c20.2.2.1,c19.2.2.2.2.2.2.1,c19.2.2.2.2.2.2.2.1,c19.2.2.2.2.2.2.2.2.1,p4,p5,c20.2.2.2,iK,iK,p6))))
        else
         some (.inl (c18.2.2.1,c18.2.2.2.1,c18.2.2.2.2.1))
       else
        dI (
         bif (decide (c0.1=4)) then
          OB (f96 true p1 c0.2.1 c0.2.2 p4 p5 p6) fun Jm=>
          bif Jm.2.1 then
           OB (f95 1 Jm.2.2.1 Jm.2.2.2.1 Jm.2.2.2.2.1 p4 p5 p6) fun c23=>
           OB (f95 2 c23.2.2.2.2.2.2.1 c23.2.2.2.2.2.2.2.1 c23.2.2.2.2.2.2.2.2.1 p4 p5 p6) fun c24=>
           some (.inr (.inr (.inr (.inr ((3:Int),(0:Int),Jm.1,c24.2.2.2.2.2.2.1,c24.2.2.2.2.2.2.2.1,c24.2.2.2.2.2.2.2.2.1,p4,p5,[(bG.mk c23.1 c23.2.1 c23.2.2.1 c23.2.2.2.1 c23.2.2.2.2.1 c23.2.2.2.2.2.1),(bG.mk c24.1 c24.2.1 c24.2.2.1 c24.2.2.2.1 c24.2.2.2.2.1 c24.2.2.2.2.2.1)],iK,iK,p6)))))
          else
           some (.inl (Jm.2.2.1,Jm.2.2.2.1,Jm.2.2.2.2.1))
         else
          OB (
           bif (decide (c0.1=5)) then
            some true
           else
            some (decide (c0.1=6))) fun Dz=>
          dI (
           bif Dz then
            bif (decide (0<p0)) then
             OB (f95 2 p1 c0.2.1 c0.2.2 p4 p5 p6) fun KU=>
             OB (f94 4 dN KU.1 KU.2.1 KU.2.2.1 KU.2.2.2.1 KU.2.2.2.2.1 KU.2.2.2.2.2.1) fun c31=>
             OB (f16 2 KU.2.2.2.2.2.2.2.1 KU.2.2.2.2.2.2.2.2.1) fun KW=>
             OB (KZ (cZ (p0-1)) (cZ (1+KW.1)) KU.2.2.2.2.2.2.1 KW.2.1 KW.2.2 p4 p5 p6) fun DC=>
             OB (f16 2 DC.2.1 DC.2.2.1) fun c36=>
             OB (
              bif (decide (c36.1=1)) then
               OB (f16 2 c36.2.1 c36.2.2) fun c39=>
               OB (KZ (cZ (p0-1)) (cZ (1+c39.1)) DC.1 c39.2.1 c39.2.2 p4 p5 DC.2.2.2.2.2.2) fun Uc=>
               some (Uc.1,Uc.2.1,Uc.2.2.1,c31.1,c31.2.1,c31.2.2.1,Uc.2.2.2.2.2.2,Uc.2.2.2.2.2.1)
              else
               some (DC.1,c36.2.1,c36.2.2,c31.1,c31.2.1,c31.2.2.1,DC.2.2.2.2.2.2,iK)) fun mD=>
             some (.inr (.inr (.inr (.inr (.inr (mD.2.2.2.1,mD.2.2.2.2.1,mD.2.2.2.2.2.1,mD.1,mD.2.1,mD.2.2.1,p4,p5,c31.2.2.2,DC.2.2.2.2.2.1,mD.2.2.2.2.2.2.2,mD.2.2.2.2.2.2.1))))))
            else
             some (.inl ())
           else
            dI (
             bif (decide (c0.1=7)) then
              bif (decide (0<p0)) then
               OB (aaW p0 p1 c0.2.1 c0.2.2 p4 p5 p6) fun I_=>
               some (.inr (.inr (.inr (.inr (.inr (.inr (I_.1,I_.2.1,I_.2.2.1,I_.2.2.2.1,I_.2.2.2.2.1,I_.2.2.2.2.2.1,p4,p5,I_.2.2.2.2.2.2.2.2.1,I_.2.2.2.2.2.2.2.2.2.1,iK,I_.2.2.2.2.2.2.2.2.2.2)))))))
              else
               some (.inl ())
             else
              bif (decide (c0.1=8)) then
               OB (f16 3 c0.2.1 c0.2.2) fun c47=>
               bif (decide (c47.1=0)) then
                OB (f95 2 p1 c47.2.1 c47.2.2 p4 p5 p6) fun c49=>
                OB (f94 6 dN c49.1 c49.2.1 c49.2.2.1 c49.2.2.2.1 c49.2.2.2.2.1 c49.2.2.2.2.2.1) fun c50=>
                some (.inr (.inr (.inr (.inr (.inr (.inr (c50.1,c50.2.1,c50.2.2.1,c49.2.2.2.2.2.2.1,c49.2.2.2.2.2.2.2.1,c49.2.2.2.2.2.2.2.2.1,p4,p5,c50.2.2.2,iK,iK,p6)))))))
               else
                OB (f98 2 p1 c47.2.1 c47.2.2 p4 p5 p6) fun c51=>
                OB (f94 8 dN c51.1 c51.2.1 c51.2.2.1 c51.2.2.2.1 c51.2.2.2.2.1 c51.2.2.2.2.2.2.2.2.2.2.2) fun XV=>
                some (.inr (.inr (.inr (.inr (.inr (.inr (XV.1,XV.2.1,XV.2.2.1,c51.2.2.2.2.2.1,c51.2.2.2.2.2.2.1,c51.2.2.2.2.2.2.2.1,p4,p5,XV.2.2.2,iK,iK,p6)))))))
              else
               some (.inl ())) fun s53=>
            some (.inl ())) fun I9=>
          some (.inl (p1,c0.2.1,c0.2.2))) fun s55=>
        some (.inl (s55.1,s55.2.1,s55.2.2))) fun s56=>
      some (.inl (s56.1,s56.2.1,s56.2.2))) fun s57=>
    some (.inl (s57.1,s57.2.1,s57.2.2))) fun s58=>
  OB (f95 2 s58.1 s58.2.1 s58.2.2 p4 p5 p6) fun c59=>
  OB (f94 7 dN c59.1 c59.2.1 c59.2.2.1 c59.2.2.2.1 c59.2.2.2.2.1 c59.2.2.2.2.2.1) fun c60=>
  some (c60.1,c60.2.1,c60.2.2.1,c59.2.2.2.2.2.2.1,c59.2.2.2.2.2.2.2.1,c59.2.2.2.2.2.2.2.2.1,p4,p5,c60.2.2.2,iK,iK,p6)) fun s61=>
 ck (decide (p4.length=s61.2.2.2.2.2.2.1.length)) <|
 ck (decide (p5.length=s61.2.2.2.2.2.2.2.1.length)) <|
 some s61
def k78 (p0:Int) (p1:Int) (p2:eY) (p3:Int) (p4:dY) (p5:(List ay)) (p6:bg) (r:Option (Int×Int×iw×Int×eY×Int×dY×(List ay)×lZ×oZ×oZ×bg)):Option (Int×Int×iw×Int×eY×Int×dY×(List ay)×lZ×oZ×oZ×bg):=OB r fun (y:(Int×Int×iw×Int×eY×Int×dY×(List ay)×lZ×oZ×oZ×bg))=>vS y.2.2.2.2.2.2.1 p4 <| vS y.2.2.2.2.2.2.2.1 p5 <| some y
def ad9 (KZ:T55) (aaV:T78) (aaW:T97) (p0:Int) (p1:Int) (p2:eY) (p3:Int) (p4:dY) (p5:(List ay)) (p6:bg):Option (Int×Int×iw×Int×eY×Int×dY×(List ay)×lZ×oZ×bg):=
 OB (
  OB (f96 false p1 p2 p3 p4 p5 p6) fun c0=>
  OB (
   bif (decide (0<(p6.length:Int))) then
    OB (f16 3 c0.2.2.2.1 c0.2.2.2.2.1) fun c3=>
    some ((decide (0<c3.1)),c3.2.1,c3.2.2)
   else
    some (false,c0.2.2.2.1,c0.2.2.2.2.1)) fun s6=>
  OB (
   bif s6.1 then
    OB (f16 (p6.length:Int) s6.2.1 s6.2.2) fun c8=>
    ck (inB c8.1 p6.length) <|
    some ((List.getD p6 c8.1.toNat dN),true,c8.2.1,c8.2.2)
   else
    some (c0.1,c0.2.1,s6.2.1,s6.2.2)) fun s10=>
  OB (
   bif (!s10.2.1) then
    some (true,s10.2.2.1,s10.2.2.2)
   else
    OB (f16 8 s10.2.2.1 s10.2.2.2) fun c12=>
    some ((decide (c12.1=7)),c12.2.1,c12.2.2)) fun s15=>
  bif s15.1 then
   OB (f95 2 c0.2.2.1 s15.2.1 s15.2.2 p4 p5 p6) fun c16=>
   OB (f94 5 dN c16.1 c16.2.1 c16.2.2.1 c16.2.2.2.1 c16.2.2.2.2.1 c16.2.2.2.2.2.1) fun c17=>
   OB (f16 2 c16.2.2.2.2.2.2.2.1 c16.2.2.2.2.2.2.2.2.1) fun c19=>
   OB (KZ (cZ (p0-1)) (cZ (1+c19.1)) c16.2.2.2.2.2.2.1 c19.2.1 c19.2.2 p4 p5 p6) fun c21=>
   some (c17.1,c17.2.1,c17.2.2.1,c21.1,c21.2.1,c21.2.2.1,p4,p5,c17.2.2.2,c21.2.2.2.2.2.1,c21.2.2.2.2.2.2)
  else
   OB (f16 5 s15.2.1 s15.2.2) fun Jm=>
   OB (f102 6 8 [(bG.mk 13 0 0 0 s10.1 oO),(bG.mk 1 0 (cZ (1+Jm.1)) 0 dN oO)]) fun c25=>
   OB (f94 5 dN c25.1 c25.2.1 c25.2.2.1 c25.2.2.2.1 c25.2.2.2.2.1 c25.2.2.2.2.2) fun Q8=>
   OB (f16 3 Jm.2.1 Jm.2.2) fun c28=>
   OB (KZ (cZ (p0-1)) c28.1 c0.2.2.1 c28.2.1 c28.2.2 p4 p5 p6) fun c29=>
   OB (f102 6 3 [(bG.mk 13 0 0 0 s10.1 oO),(bG.mk 1 0 1 0 dN oO)]) fun c31=>
   OB (f94 2 s10.1 c31.1 c31.2.1 c31.2.2.1 c31.2.2.2.1 c31.2.2.2.2.1 c31.2.2.2.2.2) fun c32=>
   let n33:=[(d_.mk c32.1 c32.2.1 c32.2.2.1 c32.2.2.2 iK iK)]
   ck (b_ c29.2.2.2.2.2.1.length n33.length 104) <|
   some (Q8.1,Q8.2.1,Q8.2.2.1,c29.1,c29.2.1,c29.2.2.1,p4,p5,Q8.2.2.2,(c29.2.2.2.2.2.1++n33),c29.2.2.2.2.2.2)) fun Q9=>
 ck (decide (p4.length=Q9.2.2.2.2.2.2.1.length)) <|
 ck (decide (p5.length=Q9.2.2.2.2.2.2.2.1.length)) <|
 some Q9
def k97 (p0:Int) (p1:Int) (p2:eY) (p3:Int) (p4:dY) (p5:(List ay)) (p6:bg) (r:Option (Int×Int×iw×Int×eY×Int×dY×(List ay)×lZ×oZ×bg)):Option (Int×Int×iw×Int×eY×Int×dY×(List ay)×lZ×oZ×bg):=OB r fun (y:(Int×Int×iw×Int×eY×Int×dY×(List ay)×lZ×oZ×bg))=>vS y.2.2.2.2.2.2.1 p4 <| vS y.2.2.2.2.2.2.2.1 p5 <| some y
def jR:Nat→T55×T78×T97
 |0=>(fun _ _ _ _ _ _ _ _=>none,fun _ _ _ _ _ _ _=>none,fun _ _ _ _ _ _ _=>none)
 |n+1=>(ad7 (fun p0 p1 p2 p3 p4 p5 p6 p7=>k55 p0 p1 p2 p3 p4 p5 p6 p7 ((jR n).1 p0 p1 p2 p3 p4 p5 p6 p7)) (fun p0 p1 p2 p3 p4 p5 p6=>k78 p0 p1 p2 p3 p4 p5 p6 ((jR n).2.1 p0 p1 p2 p3 p4 p5 p6)) (fun p0 p1 p2 p3 p4 p5 p6=>k97 p0 p1 p2 p3 p4 p5 p6 ((jR n).2.2 p0 p1 p2 p3 p4 p5 p6)),ad8 (fun p0 p1 p2 p3 p4 p5 p6 p7=>k55 p0 p1 p2 p3 p4 p5 p6 p7 ((jR n).1 p0 p1 p2 p3 p4 p5 p6 p7)) (fun p0 p1 p2 p3 p4 p5 p6=>k78 p0 p1 p2 p3 p4 p5 p6 ((jR n).2.1 p0 p1 p2 p3 p4 p5 p6)) (fun p0 p1 p2 p3 p4 p5 p6=>k97 p0 p1 p2 p3 p4 p5 p6 ((jR n).2.2 p0 p1 p2 p3 p4 p5 p6)),ad9 (fun p0 p1 p2 p3 p4 p5 p6 p7=>k55 p0 p1 p2 p3 p4 p5 p6 p7 ((jR n).1 p0 p1 p2 p3 p4 p5 p6 p7)) (fun p0 p1 p2 p3 p4 p5 p6=>k78 p0 p1 p2 p3 p4 p5 p6 ((jR n).2.1 p0 p1 p2 p3 p4 p5 p6)) (fun p0 p1 p2 p3 p4 p5 p6=>k97 p0 p1 p2 p3 p4 p5 p6 ((jR n).2.2 p0 p1 p2 p3 p4 p5 p6)))
def aaY (n:Nat):T55:=(fun p0 p1 p2 p3 p4 p5 p6 p7=>k55 p0 p1 p2 p3 p4 p5 p6 p7 ((jR n).1 p0 p1 p2 p3 p4 p5 p6 p7))
def BJ (n:Nat):aX:=⟨ajo,u8 (jR n).1⟩
def ad_ (n:Nat):T78:=(fun p0 p1 p2 p3 p4 p5 p6=>k78 p0 p1 p2 p3 p4 p5 p6 ((jR n).2.1 p0 p1 p2 p3 p4 p5 p6))
def ET (n:Nat):aX:=⟨ajp,u7 (jR n).2.1⟩
def aea (n:Nat):T97:=(fun p0 p1 p2 p3 p4 p5 p6=>k97 p0 p1 p2 p3 p4 p5 p6 ((jR n).2.2 p0 p1 p2 p3 p4 p5 p6))
def EU (n:Nat):aX:=⟨ajq,u7 (jR n).2.2⟩
theorem aaZ (n:Nat) (h55:au Try.prog 55 (BJ n)) (h78:au Try.prog 78 (ET n)) (h97:au Try.prog 97 (EU n)):au Try.prog 55 (BJ (n+1)):=
 ts [(55,BJ n),(78,ET n),(97,EU n)] ety [.tmp 6] anu Try.func55 rfl ⟨h55,h78,h97,trivial⟩
theorem aa0 (n:Nat) (h55:au Try.prog 55 (BJ n)) (h78:au Try.prog 78 (ET n)) (h97:au Try.prog 97 (EU n)):au Try.prog 78 (ET (n+1)):=
 ts [(16,I7),(93,ajZ),(95,ag7),(94,agZ),(96,aaJ),(98,aj0),(55,BJ n),(78,ET n),(97,EU n)] ety [.cell 4 104] anv Try.func78 rfl ⟨nY,adY,V5,VR,FW,ad6,h55,h78,h97,trivial⟩
theorem aa1 (n:Nat) (h55:au Try.prog 55 (BJ n)) (h78:au Try.prog 78 (ET n)) (h97:au Try.prog 97 (EU n)):au Try.prog 97 (EU (n+1)):=
 ts [(96,aaJ),(16,I7),(95,ag7),(94,agZ),(102,aaM),(55,BJ n),(78,ET n),(97,EU n)] ety [.cell 4 104] anw Try.func97 rfl ⟨FW,nY,V5,VR,QC,h55,h78,h97,trivial⟩
theorem EW :∀n,au Try.prog 55 (BJ n)∧au Try.prog 78 (ET n)∧au Try.prog 97 (EU n)
 |0=>⟨dD Try.func55 rfl rfl (show ajo.er.ok=true by decide +kernel) fun x=>rfl,dD Try.func78 rfl rfl (show ajp.er.ok=true by decide +kernel) fun x=>rfl,dD Try.func97 rfl rfl (show ajq.er.ok=true by decide +kernel) fun x=>rfl⟩
 |n+1=>by
  have ih:=EW n
  exact ⟨aaZ n (ih.1) (ih.2.1) (ih.2.2),aa0 n (ih.1) (ih.2.1) (ih.2.2),aa1 n (ih.1) (ih.2.1) (ih.2.2)⟩
def f55:T55:=aaY 1048576
def aj_:aX:=BJ 1048576
theorem aeb:au Try.prog 55 aj_:=(EW 1048576).1
def f14 (p0:iw) (p1:Int) (p2:Int) (p3:kR):Option eY:=
 let n0:=(p3.length:Int)
 ck (vP (1:Nat) n0 n0) <|
 OB (
  some eInt) fun s2=>
 OB (f24 0 p0 p1 p2 p3 (List.replicate n0.toNat false) s2) fun c3=>
 OB (f26 c3.2.2.2.2.2) fun c4=>
 some c4
def ag8:aX:=⟨anx,u4 f14⟩
theorem V6:au Try.prog 14 ag8:=
 ts [(26,ajy),(24,ajS)] ety [.tmp 2] anz Try.func14 rfl ⟨adh,adI,trivial⟩
def f18 (p0:eY) (p1:Int):Option (Int×Int×eY×Int×dY×N_):=
 OB (f16 4 p0 p1) fun c0=>
 let n2:=[(aP.mk [(103:UInt8),(48:UInt8)] 0),(aP.mk [(103:UInt8),(49:UInt8)] (cZ (1+c0.1)))]
 OB (f16 3 c0.2.1 c0.2.2) fun c3=>
 let n4:=(cZ (1+c3.1))
 OB (
  aZ (fun (s5:(Int×eY×Int×Int×Int×N_))=>
   bif (decide (s5.1<n4)) then
    OB (f30 s5.1) fun c7=>
    ck (AX (List.length [(102:UInt8)]) c7.length) <|
    let n8:=([(102:UInt8)]++c7)
    OB (f16 4 s5.2.1 s5.2.2.1) fun c9=>
    let n10:=(cZ (1+c9.1))
    OB (
     bif (decide (0<s5.1)) then
      OB (f16 (cZ ((Xj n10 (2:Int))+1)) c9.2.1 c9.2.2) fun c14=>
      some (c14.2.1,c14.2.2,n8,c14.1,n10)
     else
      some (c9.2.1,c9.2.2,n8,(0:Int),n10)) fun s15=>
    let n16:=[(aV.mk s15.2.2.1 s15.2.2.2.1 s15.2.2.2.2 ([]:kR))]
    ck (b_ s5.2.2.2.2.2.length n16.length 56) <|
    some (.inl ((cZ (s5.1+1)),s15.1,s15.2.1,s5.2.2.2.1,s5.2.2.2.2.1,(s5.2.2.2.2.2++n16)))
   else
    some (.inr (s5.2.1,s5.2.2.1,s5.2.2.2.1,s5.2.2.2.2.1,s5.2.2.2.2.2))) ((0:Int),c3.2.1,c3.2.2,(0:Int),(0:Int),([]:N_))) fun vK=>
 OB (f16 (cZ (n4+1)) vK.1 vK.2.1) fun c21=>
 OB (
  aZ (fun (kY:(Int×eY×Int×N_))=>
   bif (decide (kY.1<n4)) then
    ck (inB kY.1 kY.2.2.2.length) <|
    OB (f16 6 kY.2.1 kY.2.2.1) fun c24=>
    OB (
     aZ (fun (s26:(Int×eY×Int×N_))=>
      bif (decide (0<s26.1)) then
       OB (f16 20 s26.2.1 s26.2.2.1) fun c28=>
       OB (f16 4 c28.2.1 c28.2.2) fun c31=>
       OB (
        aZ (fun (qE:(Int×eY×Int×N_×Int×Int×Int×Int×Int×Int×Int×(List fZ)))=>
         bif (decide (0<qE.1)) then
          OB (f31 n2 (List.set qE.2.2.2.1 kY.1.toNat (aV.mk (List.getD qE.2.2.2.1 kY.1.toNat aC).name (List.getD qE.2.2.2.1 kY.1.toNat aC).params (List.getD qE.2.2.2.1 kY.1.toNat aC).regs (List.getD qE.2.2.2.1 kY.1.toNat aC).blocks)) c21.1 vK.2.2.2.1 (List.getD qE.2.2.2.1 kY.1.toNat aC).name (List.getD qE.2.2.2.1 kY.1.toNat aC).params (List.getD qE.2.2.2.1 kY.1.toNat aC).regs (List.getD qE.2.2.2.1 kY.1.toNat aC).blocks qE.2.1 qE.2.2.1) fun c34=>
          let n35:=[(fZ.mk c34.1 c34.2.1 c34.2.2.1 c34.2.2.2.1 c34.2.2.2.2.1 c34.2.2.2.2.2.1 c34.2.2.2.2.2.2.2.2)]
          ck (b_ qE.2.2.2.2.2.2.2.2.2.2.2.length n35.length 72) <|
          some (.inl ((cZ (qE.1-1)),c34.2.2.2.2.2.2.1,c34.2.2.2.2.2.2.2.1,(List.set qE.2.2.2.1 kY.1.toNat (aV.mk (List.getD qE.2.2.2.1 kY.1.toNat aC).name (List.getD qE.2.2.2.1 kY.1.toNat aC).params (List.getD qE.2.2.2.1 kY.1.toNat aC).regs (List.getD qE.2.2.2.1 kY.1.toNat aC).blocks)),qE.2.2.2.2.1,qE.2.2.2.2.2.1,qE.2.2.2.2.2.2.1,qE.2.2.2.2.2.2.2.1,qE.2.2.2.2.2.2.2.2.1,qE.2.2.2.2.2.2.2.2.2.1,qE.2.2.2.2.2.2.2.2.2.2.1,(qE.2.2.2.2.2.2.2.2.2.2.2++n35)))
         else
          some (.inr (qE.2.1,qE.2.2.1,qE.2.2.2.1,qE.2.2.2.2.1,qE.2.2.2.2.2.1,qE.2.2.2.2.2.2.1,qE.2.2.2.2.2.2.2.1,qE.2.2.2.2.2.2.2.2.1,qE.2.2.2.2.2.2.2.2.2.1,qE.2.2.2.2.2.2.2.2.2.2.1,qE.2.2.2.2.2.2.2.2.2.2.2))) (c31.1,c31.2.1,c31.2.2,s26.2.2.2,(0:Int),(0:Int),(0:Int),(0:Int),c28.1,kY.1,((List.replicate (List.length (List.getD s26.2.2.2 kY.1.toNat aC).blocks) ()).length:Int),rC)) fun rD=>
       let n39:=[(aJ.mk rD.2.2.2.2.2.2.2.2.2.2 rD.2.2.2.1 rD.2.2.2.2.1 rD.2.2.2.2.2.1 rD.2.2.2.2.2.2.1 rD.2.2.2.2.2.2.2.1 rD.2.2.2.2.2.2.2.2.1 rD.2.2.2.2.2.2.2.2.2.1)]
       ck (true&&(decide ((((List.length (List.getD rD.2.2.1 kY.1.toNat aC).blocks)+n39.length)*(80:Nat))≤(140737488355328:Nat)))) <|
       ck (Nat.beq kY.1.toNat kY.1.toNat) <|
       some (.inl ((cZ (s26.1-1)),rD.1,rD.2.1,(List.set rD.2.2.1 kY.1.toNat (aV.mk (List.getD rD.2.2.1 kY.1.toNat aC).name (List.getD rD.2.2.1 kY.1.toNat aC).params (List.getD rD.2.2.1 kY.1.toNat aC).regs ((List.getD rD.2.2.1 kY.1.toNat aC).blocks++n39)))))
      else
       some (.inr (s26.2.1,s26.2.2.1,s26.2.2.2))) ((cZ (1+c24.1)),c24.2.1,c24.2.2,kY.2.2.2)) fun s43=>
    OB (
     aZ (fun (s44:(Int×eY×Int×N_))=>
      bif (decide (s44.1<((List.replicate (List.length (List.getD s44.2.2.2 kY.1.toNat aC).blocks) ()).length:Int))) then
       let n48:=[(2:Int),(1:Int),(3:Int),(2:Int)]
       OB (f16 4 s44.2.1 s44.2.2.1) fun c49=>
       ck (inB c49.1 n48.length) <|
       OB (f16 (List.getD s44.2.2.2 kY.1.toNat aC).regs c49.2.1 c49.2.2) fun XV=>
       OB (f16 ((List.replicate (List.length (List.getD s44.2.2.2 kY.1.toNat aC).blocks) ()).length:Int) XV.2.1 XV.2.2) fun c55=>
       OB (f16 ((List.replicate (List.length (List.getD s44.2.2.2 kY.1.toNat aC).blocks) ()).length:Int) c55.2.1 c55.2.2) fun V3=>
       ck (inB s44.1 (List.length (List.getD s44.2.2.2 kY.1.toNat aC).blocks)) <|
       some (.inl ((cZ (s44.1+1)),V3.2.1,V3.2.2,(List.set s44.2.2.2 kY.1.toNat (aV.mk (List.getD s44.2.2.2 kY.1.toNat aC).name (List.getD s44.2.2.2 kY.1.toNat aC).params (List.getD s44.2.2.2 kY.1.toNat aC).regs (List.set (List.getD s44.2.2.2 kY.1.toNat aC).blocks s44.1.toNat (aJ.mk (List.getD (List.getD s44.2.2.2 kY.1.toNat aC).blocks s44.1.toNat aj).instrs (List.getD n48 c49.1.toNat 0) XV.1 c55.1 V3.1 (List.getD (List.getD s44.2.2.2 kY.1.toNat aC).blocks s44.1.toNat aj).line (List.getD (List.getD s44.2.2.2 kY.1.toNat aC).blocks s44.1.toNat aj).jG (List.getD (List.getD s44.2.2.2 kY.1.toNat aC).blocks s44.1.toNat aj).iU))))))
      else
       some (.inr (s44.2.1,s44.2.2.1,s44.2.2.2))) ((0:Int),s43.1,s43.2.1,s43.2.2)) fun s61=>
    OB (f32 (List.getD s61.2.2 kY.1.toNat aC).name (List.getD s61.2.2 kY.1.toNat aC).params (List.getD s61.2.2 kY.1.toNat aC).regs (List.getD s61.2.2 kY.1.toNat aC).blocks) fun c62=>
    ck (Nat.beq kY.1.toNat kY.1.toNat) <|
    some (.inl ((cZ (kY.1+1)),s61.1,s61.2.1,(List.set s61.2.2 kY.1.toNat (aV.mk c62.1 c62.2.1 c62.2.2.1 c62.2.2.2))))
   else
    some (.inr (kY.2.1,kY.2.2.1,kY.2.2.2))) ((0:Int),c21.2.1,c21.2.2,vK.2.2.2.2)) fun s65=>
 some (c21.1,vK.2.2.2.1,s65.1,s65.2.1,n2,s65.2.2)
def akb:aX:=⟨anA,u2 f18⟩
theorem aec:au Try.prog 18 akb:=
 ts [(16,I7),(30,agG),(31,ajA),(32,ajU)] ajr [.cell 2 27] anB Try.func18 rfl ⟨nY,VK,adk,adK,trivial⟩
def f41 (p0:dY) (p1:(List ay)):Option (Int×Int×dY×(List ay)):=
 OB (
  bif (decide (64<(p1.length:Int))) then
   some true
  else
   some (decide (32<(p0.length:Int)))) fun s5=>
 bif s5 then
  some ((0:Int),(5:Int),jA,uZ)
 else
  OB (
   bif (decide ((p1.length:Int)=0)) then
    some true
   else
    ck (inB (0:Int) p1.length) <|
    bif (!((List.getD p1 (Int.toNat 0) gK).name==[(109:UInt8),(97:UInt8),(105:UInt8),(110:UInt8)])) then
     some true
    else
     ck (inB (0:Int) p1.length) <|
     some (decide (0<((List.length (List.getD p1 (Int.toNat 0) gK).params):Int)))) fun s15=>
  bif s15 then
   some ((0:Int),(12:Int),jA,uZ)
  else
   dI (
    aZ (fun (s16:Int)=>
     bif (decide (s16<(p0.length:Int))) then
      ck (inB s16 p0.length) <|
      OB (f49 p0 p1 (List.getD p0 s16.toNat (aP.mk dN 0)).name) fun c20=>
      bif (!(decide (c20=s16))) then
       some (.inr (.inr ((0:Int),(9:Int),jA,uZ)))
      else
       some (.inl (cZ (s16+1)))
     else
      some (.inr (.inl ()))) (0:Int)) fun s23=>
   dI (
    aZ (fun (s24:Int)=>
     bif (decide (s24<(p1.length:Int))) then
      OB (
       ck (inB s24 p1.length) <|
       OB (f49 p0 p1 (List.getD p1 s24.toNat gK).name) fun c28=>
       bif (decide (0≤c28)) then
        some true
       else
        ck (inB s24 p1.length) <|
        OB (f50 p0 p1 (List.getD p1 s24.toNat gK).name) fun c31=>
        some (!(decide (c31=s24)))) fun s34=>
      bif s34 then
       ck (inB s24 p1.length) <|
       some (.inr (.inr ((List.getD p1 s24.toNat gK).line,(9:Int),jA,uZ)))
      else
       some (.inl (cZ (s24+1)))
     else
      some (.inr (.inl ()))) (0:Int)) fun BG=>
   ck (b_ (List.length jA) p0.length 24) <|
   dI (
    aZ (fun (vV:(Int×(List ay)))=>
     bif (decide (vV.1<(p1.length:Int))) then
      ck (inB vV.1 p1.length) <|
      let n42:=(List.getD p1 vV.1.toNat gK)
      OB (
       bif (decide (6<((List.length n42.params):Int))) then
        some true
       else
        OB (f35 n42.name n42.line n42.params n42.body) fun I_=>
        bif (decide (32<(I_.length:Int))) then
         some true
        else
         OB (f51 n42.body) fun c49=>
         some (decide (24<c49))) fun s52=>
      bif s52 then
       some (.inr (.inr (n42.line,(5:Int),jA,uZ)))
      else
       dI (
        aZ (fun (s53:Int)=>
         bif (decide (s53<((List.length n42.params):Int))) then
          OB (
           ck (CQ (0:Int) s53 (List.length n42.params)) <|
           ck (inB s53 (List.length n42.params)) <|
           OB (f52 (List.drop (Int.toNat (0:Int)) (List.take s53.toNat n42.params)) (List.getD n42.params s53.toNat dN)) fun V3=>
           bif V3 then
            some true
           else
            ck (inB s53 (List.length n42.params)) <|
            OB (f53 p0 p1 (List.getD n42.params s53.toNat dN)) fun c60=>
            some (!(decide (c60=0)))) fun s63=>
          bif s63 then
           some (.inr (.inr (.inr (.inr (n42.line,(9:Int),jA,uZ)))))
          else
           some (.inl (cZ (s53+1)))
         else
          some (.inr (.inl ()))) (0:Int)) fun s65=>
       ck (true&&(decide ((((List.length jV)+(List.length n42.params))*(16:Nat))≤(140737488355328:Nat)))) <|
       OB (f54 n42.body p0 p1 0 0 (jV++n42.params)) fun c67=>
       bif (!(decide (c67.2.2.2.1=0))) then
        some (.inr (.inr (c67.2.2.1,c67.2.2.2.1,jA,uZ)))
       else
        ck (true&&(decide ((((List.length jV)+(List.length n42.params))*(16:Nat))≤(140737488355328:Nat)))) <|
        let n70:=[(ay.mk n42.name n42.line (jV++n42.params) c67.2.2.2.2.1)]
        ck (b_ vV.2.length n70.length 72) <|
        some (.inl ((cZ (vV.1+1)),(vV.2++n70)))
     else
      some (.inr (.inl vV.2))) ((0:Int),uZ)) fun s73=>
   some ((0:Int),(0:Int),(jA++p0),s73)
def akc:aX:=⟨anC,u2 f41⟩
theorem aed:au Try.prog 41 akc:=
 ts [(49,aav),(50,aaw),(35,ag2),(51,ajD),(52,agM),(53,agN),(54,ajX)] ety [.cell 2 71,.tmp 3,.tmp 4] anD Try.func41 rfl ⟨FT,FU,VW,ado,VN,VO,adV,trivial⟩
def f42 (p0:eY) (p1:Int):Option (eY×Int×dY×(List ay)):=
 OB (
  some ((0:Int),jA,uZ,jV)) fun s0=>
 OB (f16 3 p0 p1) fun c1=>
 OB (
  aZ (fun (s2:(Int×Int×dY))=>
   bif (decide (0<s2.1)) then
    OB (f30 (s2.2.2.length:Int)) fun c5=>
    ck (AX (List.length [(103:UInt8)]) c5.length) <|
    let n7:=[(aP.mk ([(103:UInt8)]++c5) 0)]
    ck (b_ s2.2.2.length n7.length 24) <|
    some (.inl ((cZ (s2.1-1)),s2.2.1,(s2.2.2++n7)))
   else
    some (.inr (s2.2.1,s2.2.2))) (c1.1,s0.1,s0.2.1)) fun s10=>
 OB (f16 3 c1.2.1 c1.2.2) fun c11=>
 OB (
  aZ (fun (s12:(Int×eY×Int×Int×dY))=>
   bif (decide (0<s12.1)) then
    OB (f30 (s12.2.2.2.2.length:Int)) fun c15=>
    ck (AX (List.length [(103:UInt8)]) c15.length) <|
    OB (f16 5 s12.2.1 s12.2.2.1) fun c17=>
    let n19:=[(aP.mk ([(103:UInt8)]++c15) (cZ (1+c17.1)))]
    ck (b_ s12.2.2.2.2.length n19.length 24) <|
    some (.inl ((cZ (s12.1-1)),c17.2.1,c17.2.2,s12.2.2.2.1,(s12.2.2.2.2++n19)))
   else
    some (.inr (s12.2.1,s12.2.2.1,s12.2.2.2.1,s12.2.2.2.2))) (c11.1,c11.2.1,c11.2.2,s10.1,s10.2)) fun kY=>
 OB (f16 4 kY.1 kY.2.1) fun c24=>
 OB (
  aZ (fun (vY:(Int×eY×Int×Int×(List ay)))=>
   bif (decide (0<vY.1)) then
    OB (f30 (vY.2.2.2.2.length:Int)) fun c28=>
    ck (AX (List.length [(102:UInt8)]) c28.length) <|
    OB (f16 3 vY.2.1 vY.2.2.1) fun KU=>
    OB (
     aZ (fun (Fp:(Int×iw×Int×bg))=>
      bif (decide (0<Fp.1)) then
       OB (f30 (Fp.2.2.2.length:Int)) fun c34=>
       ck (AX (List.length [(112:UInt8)]) c34.length) <|
       let n36:=[([(112:UInt8)]++c34)]
       ck (b_ Fp.2.2.2.length n36.length 16) <|
       some (.inl ((cZ (Fp.1-1)),Fp.2.1,Fp.2.2.1,(Fp.2.2.2++n36)))
      else
       some (.inr (Fp.2.1,Fp.2.2.1,Fp.2.2.2))) (KU.1,([(102:UInt8)]++c28),(0:Int),jV)) fun vV=>
    let n40:=[(ay.mk vV.1 vV.2.1 vV.2.2 iK)]
    ck (b_ vY.2.2.2.2.length n40.length 72) <|
    some (.inl ((cZ (vY.1-1)),KU.2.1,KU.2.2,vY.2.2.2.1,(vY.2.2.2.2++n40)))
   else
    some (.inr (vY.2.1,vY.2.2.1,vY.2.2.2.1,vY.2.2.2.2))) (c24.1,c24.2.1,c24.2.2,kY.2.2.1,[(ay.mk [(109:UInt8),(97:UInt8),(105:UInt8),(110:UInt8)] 0 jV iK)])) fun s43=>
 OB (
  aZ (fun (s44:(Int×eY×Int×Int×dY×(List ay)×bg))=>
   bif (decide (s44.1<(s44.2.2.2.2.2.1.length:Int))) then
    ck (inB s44.1 s44.2.2.2.2.2.1.length) <|
    let n47:=(List.getD s44.2.2.2.2.2.1 s44.1.toNat gK)
    ck (true&&(decide ((((List.length jV)+(List.length n47.params))*(16:Nat))≤(140737488355328:Nat)))) <|
    OB (f16 4 s44.2.1 s44.2.2.1) fun c49=>
    OB (f55 2 (cZ (1+c49.1)) 7 c49.2.1 c49.2.2 s44.2.2.2.2.1 s44.2.2.2.2.2.1 (jV++n47.params)) fun c51=>
    ck (inB s44.1 s44.2.2.2.2.2.1.length) <|
    some (.inl ((cZ (s44.1+1)),c51.2.1,c51.2.2.1,c51.1,s44.2.2.2.2.1,(List.set s44.2.2.2.2.2.1 s44.1.toNat (ay.mk (List.getD s44.2.2.2.2.2.1 s44.1.toNat gK).name (List.getD s44.2.2.2.2.2.1 s44.1.toNat gK).line (List.getD s44.2.2.2.2.2.1 s44.1.toNat gK).params c51.2.2.2.2.2.1)),c51.2.2.2.2.2.2))
   else
    some (.inr (s44.2.1,s44.2.2.1,s44.2.2.2.1,s44.2.2.2.2.1,s44.2.2.2.2.2.1,s44.2.2.2.2.2.2))) ((0:Int),s43.1,s43.2.1,s43.2.2.1,kY.2.2.2,s43.2.2.2,s0.2.2.2)) fun I9=>
 some (I9.1,I9.2.1,I9.2.2.2.1,I9.2.2.2.2.1)
def akd:aX:=⟨anE,u2 f42⟩
theorem aee:au Try.prog 42 akd:=
 ts [(16,I7),(30,agG),(55,aj_)] ety [.cell 2 71] anF Try.func42 rfl ⟨nY,VK,aeb,trivial⟩
def f48 (p0:dY) (p1:N_) (p2:Int) (p3:Int) (p4:iw) (p5:Int) (p6:Int) (p7:kR):Option Int:=
 OB (
  bif (decide ((p7.length:Int)<1)) then
   some true
  else
   bif (decide (256<(p7.length:Int))) then
    some true
   else
    OB (f71 p4 p5 p6 p7) fun c5=>
    some (decide (2048<c5))) fun s8=>
 bif s8 then
  some (5:Int)
 else
  OB (
   bif (decide (p6<0)) then
    some true
   else
    bif (decide (250<p6)) then
     some true
    else
     bif (decide (p5<0)) then
      some true
     else
      some (decide (p6<p5))) fun s16=>
  bif s16 then
   some (14:Int)
  else
   dI (
    aZ (fun (oP:Int)=>
     bif (decide (oP<(p7.length:Int))) then
      dI (
       aZ (fun (s20:Int)=>
        ck (inB oP p7.length) <|
        bif (decide (s20<((List.length (List.getD p7 oP.toNat aj).instrs):Int))) then
         ck (inB oP p7.length) <|
         let n24:=(List.getD p7 oP.toNat aj)
         ck (inB s20 (List.length n24.instrs)) <|
         let n25:=(List.getD n24.instrs s20.toNat (fZ.mk 0 0 0 0 0 0 eInt))
         OB (f72 p0 p1 p2 p3 p4 p5 p6 p7 n25.kind n25.op n25.dst n25.a n25.b n25.value n25.args) fun Q8=>
         bif (!(decide (Q8=0))) then
          some (.inr (.inr (.inr (.inr Q8))))
         else
          some (.inl (cZ (s20+1)))
        else
         some (.inr (.inl ()))) (0:Int)) fun s29=>
      ck (inB oP p7.length) <|
      let n30:=(List.getD p7 oP.toNat aj)
      OB (f73 p4 p5 p6 p7 n30.bf n30.oH n30.dV n30.bK) fun c31=>
      bif (!(decide (c31=0))) then
       some (.inr (.inr c31))
      else
       some (.inl (cZ (oP+1)))
     else
      some (.inr (.inl ()))) (0:Int)) fun s34=>
   OB (f43 p4 p5 p6 p7) fun DC=>
   dI (
    aZ (fun (s36:Int)=>
     bif (decide (s36<(DC.length:Int))) then
      ck (inB s36 DC.length) <|
      bif (!(List.getD DC s36.toNat false)) then
       some (.inr (.inr (13:Int)))
      else
       some (.inl (cZ (s36+1)))
     else
      some (.inr (.inl ()))) (0:Int)) fun mD=>
   some (0:Int)
def ake:aX:=⟨anG,u8 f48⟩
theorem aef:au Try.prog 48 ake:=
 ts [(71,ajE),(72,ajY),(73,ajF),(43,agH)] ety [.tmp 4] anH Try.func48 rfl ⟨adp,adX,adq,VL,trivial⟩
def f9 (p0:iw) (p1:Int) (p2:Int) (p3:kR):Option eY:=
 OB (f14 p0 p1 p2 p3) fun c0=>
 let n1:=(c0.length:Int)
 ck (vP (8:Nat) n1 n1) <|
 OB (
  aZ (fun (s4:(Int×eY))=>
   bif (decide (s4.1<(c0.length:Int))) then
    ck (inB s4.1 c0.length) <|
    let n6:=(List.getD c0 s4.1.toNat 0)
    ck (inB n6 s4.2.length) <|
    some (.inl ((cZ (s4.1+1)),(List.set s4.2 n6.toNat s4.1)))
   else
    some (.inr s4.2)) ((0:Int),(List.replicate n1.toNat (0:Int)))) fun s9=>
 OB (f19 p0 p1 p2 p3) fun c10=>
 let n11:=(c0.length:Int)
 ck (vP (8:Nat) n11 n11) <|
 let n12:=(List.replicate n11.toNat (0:Int))
 OB (
  aZ (fun (s14:(Qv×Int×eY))=>
   bif (decide (s14.2.1<(n12.length:Int))) then
    ck (inB s14.2.1 s14.2.2.length) <|
    some (.inl (s14.1,(cZ (s14.2.1+1)),(List.set s14.2.2 s14.2.1.toNat (-1:Int))))
   else
    some (.inr (s14.1,s14.2.2))) (c10,(0:Int),n12)) fun Q_=>
 OB (
  aZ (fun (vK:(Bool×eY))=>
   bif vK.1 then
    ck (CQ (1:Int) (c0.length:Int) c0.length) <|
    OB (
     aZ (fun (yE:(Bool×Int×eY))=>
      bif (decide (yE.2.1<((((Int.toNat (c0.length:Int))-(Int.toNat (1:Int))):Nat):Int))) then
       ck (inB yE.2.1 ((Int.toNat (c0.length:Int))-(Int.toNat (1:Int)))) <|
       let n23:=(List.getD c0 (Int.toNat ((((Int.toNat 1)+yE.2.1.toNat):Nat):Int)) (0:Int))
       ck (inB n23 Q_.1.length) <|
       let n24:=(List.getD Q_.1 n23.toNat eInt)
       OB (
        aZ (fun (s26:(Int×Int))=>
         bif (decide (s26.2<(n24.length:Int))) then
          ck (inB s26.2 n24.length) <|
          let n28:=(List.getD n24 s26.2.toNat 0)
          OB (
           bif (!(decide (n28=0))) then
            ck (inB n28 yE.2.2.length) <|
            some (decide ((List.getD yE.2.2 n28.toNat 0)<0))
           else
            some false) fun s33=>
          OB (
           bif s33 then
            some s26.1
           else
            OB (
             bif (decide (s26.1<0)) then
              some n28
             else
              OB (f20 s26.1 n28 s9 yE.2.2) fun DC=>
              some DC.1) fun s36=>
            some s36) fun BG=>
          some (.inl (BG,(cZ (s26.2+1))))
         else
          some (.inr s26.1)) ((-1:Int),(0:Int))) fun vV=>
       ck (inB n23 yE.2.2.length) <|
       OB (
        bif (!(decide ((List.getD yE.2.2 n23.toNat 0)=vV))) then
         ck (inB n23 yE.2.2.length) <|
         some (true,(List.set yE.2.2 n23.toNat vV))
        else
         some (yE.1,yE.2.2)) fun s43=>
       some (.inl (s43.1,(cZ (yE.2.1+1)),s43.2))
      else
       some (.inr (yE.1,yE.2.2))) (false,(0:Int),vK.2)) fun s45=>
    some (.inl (s45.1,s45.2))
   else
    some (.inr vK.2)) (true,Q_.2)) fun s46=>
 some s46
def sp9:aX:=⟨sg9,u4 f9⟩
theorem Ud:au Try.prog 9 sp9:=
 ts [(14,ag8),(19,ag0),(20,ajx)] ety [.tmp 2] an9 Try.func9 rfl ⟨V6,VU,adg,trivial⟩
def f12 (p0:iw) (p1:Int) (p2:Int) (p3:kR) (p4:Int) (p5:Int):Option Bool:=
 let n0:=(p3.length:Int)
 OB (
  bif (decide (0≤p4)) then
   bif (decide (p4<n0)) then
    bif (decide (0≤p5)) then
     bif (decide (p5<n0)) then
      OB (f9 p0 p1 p2 p3) fun c8=>
      OB (f23 c8 p4 p5) fun c9=>
      some c9
     else
      some false
    else
     some false
   else
    some false
  else
   some false) fun s11=>
 some s11
def ag9:aX:=⟨anI,u6 f12⟩
theorem V7:au Try.prog 12 ag9:=
 ts [(9,sp9),(23,agE)] ety [.tmp 6] anJ Try.func12 rfl ⟨Ud,VJ,trivial⟩
def f29 (p0:eY) (p1:Int):Option (eY×Int×dY×(List ay)):=
 OB (f42 p0 p1) fun c0=>
 OB (f41 c0.2.2.1 c0.2.2.2) fun c1=>
 some (c0.1,c0.2.1,c1.2.2.1,c1.2.2.2)
def akf:aX:=⟨anK,u2 f29⟩
theorem aeg:au Try.prog 29 akf:=
 ts [(42,akd),(41,akc)] ety [.cell 2 71] anL Try.func29 rfl ⟨aee,aed,trivial⟩
def f40 (p0:dY) (p1:N_) (p2:Int) (p3:Int):Option Int:=
 OB (
  bif (decide ((p1.length:Int)<1)) then
   some true
  else
   bif (decide (64<(p1.length:Int))) then
    some true
   else
    bif (decide (32<(p0.length:Int))) then
     some true
    else
     bif (decide (p3<0)) then
      some true
     else
      some (decide (4096<p3))) fun s12=>
 bif s12 then
  some (5:Int)
 else
  dI (
   aZ (fun (s13:Int)=>
    bif (decide (s13<(p0.length:Int))) then
     OB (
      ck (inB s13 p0.length) <|
      bif (decide ((List.getD p0 s13.toNat (aP.mk dN 0)).size<0)) then
       some true
      else
       ck (inB s13 p0.length) <|
       some (decide (1024<(List.getD p0 s13.toNat (aP.mk dN 0)).size))) fun yE=>
     bif yE then
      some (.inr (.inr (16:Int)))
     else
      some (.inl (cZ (s13+1)))
    else
     some (.inr (.inl ()))) (0:Int)) fun s23=>
  OB (
   bif (decide (p2<0)) then
    some true
   else
    some (decide ((p1.length:Int)<p2))) fun Dz=>
  bif Dz then
   some (15:Int)
  else
   ck (inB (0:Int) p1.length) <|
   bif (!(decide ((List.getD p1 (Int.toNat 0) aC).params=0))) then
    some (12:Int)
   else
    dI (
     aZ (fun (Fp:Int)=>
      bif (decide (Fp<(p1.length:Int))) then
       ck (inB Fp p1.length) <|
       let n34:=(List.getD p1 Fp.toNat aC)
       OB (f48 p0 p1 p2 p3 n34.name n34.params n34.regs n34.blocks) fun DC=>
       bif (!(decide (DC=0))) then
        some (.inr (.inr DC))
       else
        some (.inl (cZ (Fp+1)))
      else
       some (.inr (.inl ()))) (0:Int)) fun rD=>
    some (0:Int)
def akg:aX:=⟨anM,u4 f40⟩
theorem aeh:au Try.prog 40 akg:=
 ts [(48,ake)] ety [.tmp 2] anN Try.func40 rfl ⟨aef,trivial⟩
def f28 (p0:dY) (p1:(List ay)):Option (Int×Int×Int×dY×N_):=
 ck (b_ (List.length jA) p0.length 24) <|
 let n0:=(jA++p0)
 OB (
  aZ (fun (s2:(Int×Int×Int×N_))=>
   bif (decide (s2.1<(p1.length:Int))) then
    ck (inB s2.1 p1.length) <|
    let n5:=(List.getD p1 s2.1.toNat gK)
    OB (
     OB (f35 n5.name n5.line n5.params n5.body) fun c6=>
     some (p0,p1,c6,s2.1,(0:Int),(0:Int),([]:kR))) fun s7=>
    OB (f36 n5.line s7.1 s7.2.1 s7.2.2.1 s7.2.2.2.1 (s7.2.2.1.length:Int) s7.2.2.2.2.2.1 s7.2.2.2.2.2.2) fun c9=>
    OB (f37 n5.body c9.2.1 c9.2.2.1 c9.2.2.2.1 c9.2.2.2.2.1 c9.2.2.2.2.2.1 c9.2.2.2.2.2.2.1 c9.2.2.2.2.2.2.2) fun c10=>
    OB (
     bif c10.1 then
      let n11:=(c10.2.2.2.1.length:Int)
      OB (f38 1 0 n11 0 0 0 eInt c10.2.1 c10.2.2.1 c10.2.2.2.1 c10.2.2.2.2.1 (Po c10.2.2.2.2.2.1 (cZ (n11+1))) c10.2.2.2.2.2.2.1 c10.2.2.2.2.2.2.2) fun c14=>
      OB (f39 c14.2.2.2.2.2.1 3 n11 0 0 c14.1 c14.2.1 c14.2.2.1 c14.2.2.2.1 c14.2.2.2.2.1 c14.2.2.2.2.2.1 c14.2.2.2.2.2.2) fun c15=>
      some (c15.1,c15.2.1,c15.2.2.1,c15.2.2.2.1,c15.2.2.2.2.1,c15.2.2.2.2.2.1,c15.2.2.2.2.2.2)
     else
      some (c10.2.1,c10.2.2.1,c10.2.2.2.1,c10.2.2.2.2.1,c10.2.2.2.2.2.1,c10.2.2.2.2.2.2.1,c10.2.2.2.2.2.2.2)) fun s16=>
    let n18:=[(aV.mk n5.name ((List.length n5.params):Int) s16.2.2.2.2.1 s16.2.2.2.2.2.2)]
    ck (b_ s2.2.2.2.length n18.length 56) <|
    some (.inl ((cZ (s2.1+1)),s2.2.1,s2.2.2.1,(s2.2.2.2++n18)))
   else
    some (.inr (s2.2.1,s2.2.2.1,s2.2.2.2))) ((0:Int),(p1.length:Int),(0:Int),([]:N_))) fun yE=>
 OB (f40 n0 yE.2.2 yE.1 yE.2.1) fun Jm=>
 bif (!(decide (Jm=0))) then
  some ((0:Int),(0:Int),(5:Int),jA,([]:N_))
 else
  some (yE.1,yE.2.1,(0:Int),n0,yE.2.2)
def akh:aX:=⟨anO,u2 f28⟩
theorem aei:au Try.prog 28 akh:=
 ts [(35,ag2),(36,aas),(37,ajV),(38,aat),(39,XT),(40,akg)] ajs [.cell 2 27,.tmp 3] anP Try.func28 rfl ⟨VW,FP,adT,FQ,BH,aeh,trivial⟩
def f17 (p0:eY) (p1:Int):Option (Int×Int×eY×Int×dY×N_):=
 OB (f29 p0 p1) fun c0=>
 OB (f28 c0.2.2.1 c0.2.2.2) fun c1=>
 some (c1.1,c1.2.1,c0.1,c0.2.1,c1.2.2.2.1,c1.2.2.2.2)
def aki:aX:=⟨anQ,u2 f17⟩
theorem aej:au Try.prog 17 aki:=
 ts [(29,akf),(28,akh)] ety [.cell 2 27] anR Try.func17 rfl ⟨aeg,aei,trivial⟩
def f8 (p0:eY) (p1:Int):Option (N_×Int×Int×eY×Int×dY):=
 OB (f16 2 p0 p1) fun c0=>
 bif (decide (c0.1=0)) then
  OB (f17 c0.2.1 c0.2.2) fun c2=>
  some (c2.2.2.2.2.2,c2.1,c2.2.1,c2.2.2.1,c2.2.2.2.1,c2.2.2.2.2.1)
 else
  OB (f18 c0.2.1 c0.2.2) fun c3=>
  some (c3.2.2.2.2.2,c3.1,c3.2.1,c3.2.2.1,c3.2.2.2.1,c3.2.2.2.2.1)
def sp8:aX:=⟨sg8,u2 f8⟩
theorem ag_:au Try.prog 8 sp8:=
 ts [(16,I7),(17,aki),(18,akb)] ety [.cell 2 27] an8 Try.func8 rfl ⟨nY,aej,aec,trivial⟩
def f22 (p0:iw) (p1:Int) (p2:Int) (p3:kR):Option LEd:=
 OB (f9 p0 p1 p2 p3) fun c0=>
 OB (
  aZ (fun (s2:(Int×LEd))=>
   bif (decide (s2.1<(p3.length:Int))) then
    ck (inB s2.1 p3.length) <|
    let n4:=(List.getD p3 s2.1.toNat aj)
    OB (f25 n4.bf n4.oH n4.dV n4.bK) fun c5=>
    OB (f33 c5) fun c6=>
    OB (
     aZ (fun (s8:(Int×LEd))=>
      bif (decide (s8.1<(c6.length:Int))) then
       ck (inB s8.1 c6.length) <|
       let n10:=(List.getD c6 s8.1.toNat 0)
       OB (f23 c0 n10 s2.1) fun c11=>
       OB (
        bif c11 then
         let n12:=[(fE.mk s2.1 n10)]
         ck (b_ s8.2.length n12.length 16) <|
         some (s8.2++n12)
        else
         some s8.2) fun s14=>
       some (.inl ((cZ (s8.1+1)),s14))
      else
       some (.inr s8.2)) ((0:Int),s2.2)) fun s16=>
    some (.inl ((cZ (s2.1+1)),s16))
   else
    some (.inr s2.2)) ((0:Int),([]:LEd))) fun Q_=>
 some Q_
def aha:aX:=⟨anS,u4 f22⟩
theorem V8:au Try.prog 22 aha:=
 ts [(9,sp9),(25,aaq),(33,aju),(23,agE)] ety [.tmp 2] anT Try.func22 rfl ⟨Ud,FN,ac9,VJ,trivial⟩
def f11 (p0:iw) (p1:Int) (p2:Int) (p3:kR) (p4:Int):Option eY:=
 OB (f22 p0 p1 p2 p3) fun c0=>
 OB (f21 p0 p1 p2 p3 p4 c0) fun c1=>
 OB (
  aZ (fun (s3:(Int×eY))=>
   bif (decide (s3.1<(c1.length:Int))) then
    ck (inB s3.1 c1.length) <|
    OB (
     bif (List.getD c1 s3.1.toNat false) then
      let n6:=[s3.1]
      ck (b_ s3.2.length n6.length 8) <|
      some (s3.2++n6)
     else
      some s3.2) fun s8=>
    some (.inl ((cZ (s3.1+1)),s8))
   else
    some (.inr s3.2)) ((0:Int),eInt)) fun s10=>
 some s10
def akj:aX:=⟨anU,u5 f11⟩
theorem aek:au Try.prog 11 akj:=
 ts [(22,aha),(21,ajR)] ety [.tmp 4] anV Try.func11 rfl ⟨V8,adG,trivial⟩
def f15 (p0:iw) (p1:Int) (p2:Int) (p3:kR):Option Bool:=
 OB (f22 p0 p1 p2 p3) fun c0=>
 let n1:=(p3.length:Int)
 ck (vP (8:Nat) n1 n1) <|
 let n3:=(p3.length:Int)
 ck (vP (24:Nat) n3 n3) <|
 OB (
  aZ (fun (s6:(Int×eY×Qv))=>
   bif (decide (s6.1<(p3.length:Int))) then
    ck (inB s6.1 p3.length) <|
    let n8:=(List.getD p3 s6.1.toNat aj)
    OB (f25 n8.bf n8.oH n8.dV n8.bK) fun c9=>
    OB (
     aZ (fun (s11:(Int×eY×Qv))=>
      bif (decide (s11.1<(c9.length:Int))) then
       ck (inB s11.1 c9.length) <|
       let n13:=(List.getD c9 s11.1.toNat 0)
       OB (f27 c0 s6.1 n13) fun c14=>
       OB (
        bif (!c14) then
         ck (inB s6.1 s11.2.2.length) <|
         let n16:=[n13]
         ck (true&&(decide ((((List.length (List.getD s11.2.2 s6.1.toNat eInt))+n16.length)*(8:Nat))≤(140737488355328:Nat)))) <|
         ck (inB s6.1 s11.2.2.length) <|
         ck (Nat.beq s6.1.toNat s6.1.toNat) <|
         ck (inB n13 s11.2.1.length) <|
         ck (inB n13 s11.2.1.length) <|
         some ((List.set s11.2.1 n13.toNat (cZ ((List.getD s11.2.1 n13.toNat 0)+1))),(List.set s11.2.2 s6.1.toNat ((List.getD s11.2.2 s6.1.toNat eInt)++n16)))
        else
         some (s11.2.1,s11.2.2)) fun kY=>
       some (.inl ((cZ (s11.1+1)),kY.1,kY.2))
      else
       some (.inr (s11.2.1,s11.2.2))) ((0:Int),s6.2.1,s6.2.2)) fun s24=>
    some (.inl ((cZ (s6.1+1)),s24.1,s24.2))
   else
    some (.inr (s6.2.1,s6.2.2))) ((0:Int),(List.replicate n1.toNat (0:Int)),(List.replicate n3.toNat eInt))) fun s26=>
 ck (inB (0:Int) s26.1.length) <|
 bif (decide (0<(List.getD s26.1 (Int.toNat 0) (0:Int)))) then
  some false
 else
  OB (
   aZ (fun (mg:(Qv×Int×eY×eY))=>
    bif (decide (0<(mg.2.2.2.length:Int))) then
     let n34:=(cZ ((mg.2.2.2.length:Int)-1))
     ck (inB n34 mg.2.2.2.length) <|
     let n35:=(List.getD mg.2.2.2 n34.toNat 0)
     let n37:=(cZ ((mg.2.2.2.length:Int)-1))
     ck ((decide (0≤n37))&&(decide (n37≤(mg.2.2.2.length:Int)))) <|
     ck (inB n35 mg.1.length) <|
     let n40:=(List.getD mg.1 n35.toNat eInt)
     OB (
      aZ (fun (mD:(Int×eY×eY))=>
       bif (decide (mD.1<(n40.length:Int))) then
        ck (inB mD.1 n40.length) <|
        let n44:=(List.getD n40 mD.1.toNat 0)
        ck (inB n44 mD.2.1.length) <|
        ck (inB n44 mD.2.1.length) <|
        let n47:=(List.set mD.2.1 n44.toNat (cZ ((List.getD mD.2.1 n44.toNat 0)-1)))
        ck (inB n44 n47.length) <|
        OB (
         bif (decide ((List.getD n47 n44.toNat 0)=0)) then
          let n50:=[n44]
          ck (b_ mD.2.2.length n50.length 8) <|
          some (mD.2.2++n50)
         else
          some mD.2.2) fun s52=>
        some (.inl ((cZ (mD.1+1)),n47,s52))
       else
        some (.inr (mD.2.1,mD.2.2))) ((0:Int),mg.2.2.1,(List.take n37.toNat mg.2.2.2))) fun I9=>
     some (.inl (mg.1,(cZ (mg.2.1+1)),I9.1,I9.2))
    else
     some (.inr mg.2.1)) (s26.2,(0:Int),s26.1,[(0:Int)])) fun s55=>
  some (decide (s55=(p3.length:Int)))
def akk:aX:=⟨anW,u4 f15⟩
theorem ael:au Try.prog 15 akk:=
 ts [(22,aha),(25,aaq),(27,ajT)] ajt [.tmp 2] anX Try.func15 rfl ⟨V8,FN,adJ,trivial⟩
def f6:Option Bool:=
 let n0:=[(aJ.mk rC 2 0 1 2 0 0 0),(aJ.mk rC 1 0 0 0 0 0 0),(aJ.mk rC 3 0 0 0 0 0 0)]
 OB (f11 dN 0 1 n0 0) fun c1=>
 OB (
  bif (decide ((c1.length:Int)=2)) then
   ck (inB (1:Int) c1.length) <|
   bif (decide ((List.getD c1 (Int.toNat 1) (0:Int))=1)) then
    OB (f12 dN 0 1 n0 0 2) fun c7=>
    some c7
   else
    some false
  else
   some false) fun s9=>
 some s9
def sp6:aX:=⟨sg6,fun x=>f6⟩
theorem ahb:au Try.prog 6 sp6:=
 ts [(11,akj),(12,ag9)] ety [.tmp 0] an6 Try.func6 rfl ⟨aek,V7,trivial⟩
def f3 (p0:eY) (p1:eY):Option Bool:=
 OB (
  OB (f6) fun c0=>
  bif (!c0) then
   some true
  else
   some (decide (60<(p1.length:Int)))) fun s5=>
 bif s5 then
  some (decide (60<(p1.length:Int)))
 else
  OB (f7 p0 400) fun c8=>
  OB (f8 c8.1 c8.2) fun c9=>
  dI (
   aZ (fun (s10:Int)=>
    bif (decide (s10<(c9.1.length:Int))) then
     ck (inB s10 c9.1.length) <|
     let n13:=(List.getD c9.1 s10.toNat aC)
     OB (f9 n13.name n13.params n13.regs n13.blocks) fun c14=>
     OB (
      bif (!(decide ((c14.length:Int)=((List.length n13.blocks):Int)))) then
       some true
      else
       ck (inB (0:Int) c14.length) <|
       some (!(decide ((List.getD c14 (Int.toNat 0) (0:Int))=(-1:Int))))) fun yE=>
     bif yE then
      some (.inr (.inr false))
     else
      let n22:=((List.length n13.blocks):Int)
      ck (vP (1:Nat) n22 n22) <|
      dI (
       aZ (fun (s24:(Int×Int×Yg))=>
        bif (decide (s24.2.1≤(p1.length:Int))) then
         ck (inB s24.1 s24.2.2.length) <|
         let n27:=(List.set s24.2.2 s24.1.toNat true)
         dI (
          aZ (fun (Dz:Int)=>
           bif (decide (0≤Dz)) then
            OB (
             bif (decide ((n27.length:Int)≤Dz)) then
              some true
             else
              ck (inB Dz n27.length) <|
              bif (!(List.getD n27 Dz.toNat false)) then
               some true
              else
               bif (decide (0<Dz)) then
                ck (inB Dz c14.length) <|
                some (decide ((List.getD c14 Dz.toNat 0)=Dz))
               else
                some false) fun BO=>
            bif BO then
             some (.inr (.inr (.inr (.inr (.inr (.inr false))))))
            else
             ck (inB Dz c14.length) <|
             some (.inl (List.getD c14 Dz.toNat 0))
           else
            some (.inr (.inl ()))) s24.1) fun s43=>
         ck (inB s24.1 (List.length n13.blocks)) <|
         let n44:=(List.getD n13.blocks s24.1.toNat aj)
         OB (f10 n44.bf n44.oH n44.dV n44.bK) fun I_=>
         OB (
          bif (decide ((I_.length:Int)=0)) then
           some true
          else
           some (decide (s24.2.1=(p1.length:Int)))) fun s51=>
         bif s51 then
          some (.inr (.inl ()))
         else
          ck (inB s24.2.1 p1.length) <|
          let n54:=(I_.length:Int)
          ck (!(decide (n54=0))) <|
          let n55:=(Int.tmod (cZ (List.getD p1 s24.2.1.toNat 0)) n54)
          ck (inB n55 I_.length) <|
          some (.inl ((List.getD I_ n55.toNat 0),(cZ (s24.2.1+1)),n27))
        else
         some (.inr (.inl ()))) ((0:Int),(0:Int),(List.replicate n22.toNat false))) fun s58=>
      some (.inl (cZ (s10+1)))
    else
     some (.inr (.inl ()))) (0:Int)) fun s60=>
  some true
def f4 (p0:eY):Option Bool:=
 OB (f6) fun c0=>
 bif (!c0) then
  some false
 else
  OB (f7 p0 400) fun c2=>
  OB (f8 c2.1 c2.2) fun c3=>
  dI (
   aZ (fun (s4:Int)=>
    bif (decide (s4<(c3.1.length:Int))) then
     ck (inB s4 c3.1.length) <|
     let n7:=(List.getD c3.1 s4.toNat aC)
     dI (
      aZ (fun (s8:Int)=>
       bif (decide (s8<((List.length n7.blocks):Int))) then
        OB (f11 n7.name n7.params n7.regs n7.blocks s8) fun c11=>
        dI (
         aZ (fun (s12:Int)=>
          bif (decide (s12<(c11.length:Int))) then
           ck (inB s12 c11.length) <|
           OB (f12 n7.name n7.params n7.regs n7.blocks s8 (List.getD c11 s12.toNat 0)) fun c16=>
           bif (!c16) then
            some (.inr (.inr (.inr (.inr (.inr (.inr false))))))
           else
            some (.inl (cZ (s12+1)))
          else
           some (.inr (.inl ()))) (0:Int)) fun vK=>
        dI (
         aZ (fun (s20:Int)=>
          bif (decide (s20<((List.length n7.blocks):Int))) then
           ck (inB s20 (List.length n7.blocks)) <|
           let n23:=(List.getD n7.blocks s20.toNat aj)
           OB (f10 n23.bf n23.oH n23.dV n23.bK) fun c24=>
           dI (
            aZ (fun (vY:Int)=>
             bif (decide (vY<(c24.length:Int))) then
              OB (
               OB (f13 c11 s20) fun c28=>
               bif (!c28) then
                ck (inB vY c24.length) <|
                OB (f13 c11 (List.getD c24 vY.toNat 0)) fun c31=>
                bif c31 then
                 ck (inB vY c24.length) <|
                 some (!(decide ((List.getD c24 vY.toNat 0)=s8)))
                else
                 some false
               else
                some false) fun s36=>
              bif s36 then
               some (.inr (.inr (.inr (.inr (.inr (.inr (.inr (.inr false))))))))
              else
               some (.inl (cZ (vY+1)))
             else
              some (.inr (.inl ()))) (0:Int)) fun rD=>
           some (.inl (cZ (s20+1)))
          else
           some (.inr (.inl ()))) (0:Int)) fun Oa=>
        dI (
         aZ (fun (BO:Int)=>
          bif (decide (BO<s8)) then
           OB (f11 n7.name n7.params n7.regs n7.blocks BO) fun V4=>
           OB (
            aZ (fun (s44:(Int×Int))=>
             bif (decide (s44.2<(V4.length:Int))) then
              ck (inB s44.2 V4.length) <|
              OB (f13 c11 (List.getD V4 s44.2.toNat 0)) fun c48=>
              OB (
               bif c48 then
                some (cZ (s44.1+1))
               else
                some s44.1) fun s50=>
              some (.inl (s50,(cZ (s44.2+1))))
             else
              some (.inr s44.1)) ((0:Int),(0:Int))) fun s52=>
           OB (
            bif (decide (0<s52)) then
             bif (decide (s52<(c11.length:Int))) then
              some (decide (s52<(V4.length:Int)))
             else
              some false
            else
             some false) fun s60=>
           bif s60 then
            some (.inr (.inr (.inr (.inr (.inr (.inr false))))))
           else
            some (.inl (cZ (BO+1)))
          else
           some (.inr (.inl ()))) (0:Int)) fun s62=>
        some (.inl (cZ (s8+1)))
       else
        some (.inr (.inl ()))) (0:Int)) fun s64=>
     some (.inl (cZ (s4+1)))
    else
     some (.inr (.inl ()))) (0:Int)) fun s66=>
  some true
def f5 (p0:eY):Option Bool:=
 OB (f6) fun c0=>
 bif (!c0) then
  some false
 else
  OB (f7 p0 400) fun c2=>
  OB (f8 c2.1 c2.2) fun c3=>
  dI (
   aZ (fun (s4:Int)=>
    bif (decide (s4<(c3.1.length:Int))) then
     ck (inB s4 c3.1.length) <|
     let n7:=(List.getD c3.1 s4.toNat aC)
     OB (f14 n7.name n7.params n7.regs n7.blocks) fun c8=>
     OB (f9 n7.name n7.params n7.regs n7.blocks) fun c9=>
     let n10:=((List.length n7.blocks):Int)
     ck (vP (8:Nat) n10 n10) <|
     dI (
      aZ (fun (s12:(Int×eY))=>
       bif (decide (s12.1<(c8.length:Int))) then
        OB (
         ck (inB s12.1 c8.length) <|
         bif (decide ((List.getD c8 s12.1.toNat 0)<0)) then
          some true
         else
          ck (inB s12.1 c8.length) <|
          bif (decide ((s12.2.length:Int)≤(List.getD c8 s12.1.toNat 0))) then
           some true
          else
           ck (inB s12.1 c8.length) <|
           let n21:=(List.getD c8 s12.1.toNat 0)
           ck (inB n21 s12.2.length) <|
           some (decide (0<(List.getD s12.2 n21.toNat 0)))) fun vY=>
        bif vY then
         some (.inr (.inr (.inr (.inr false))))
        else
         ck (inB s12.1 c8.length) <|
         let n26:=(List.getD c8 s12.1.toNat 0)
         ck (inB n26 s12.2.length) <|
         some (.inl ((cZ (s12.1+1)),(List.set s12.2 n26.toNat (cZ (s12.1+1)))))
       else
        some (.inr (.inl s12.2))) ((0:Int),(List.replicate n10.toNat (0:Int)))) fun mg=>
     OB (
      bif (!(decide ((c8.length:Int)=((List.length n7.blocks):Int)))) then
       some true
      else
       bif (!(decide ((c9.length:Int)=(c8.length:Int)))) then
        some true
       else
        ck (inB (0:Int) c8.length) <|
        some (!(decide ((List.getD c8 (Int.toNat 0) (0:Int))=0)))) fun BO=>
     bif BO then
      some (.inr (.inr false))
     else
      dI (
       aZ (fun (mD:(Bool×Int))=>
        bif (decide (mD.2<(c8.length:Int))) then
         OB (
          bif (decide (0<mD.2)) then
           ck (inB mD.2 c9.length) <|
           let n46:=(List.getD c9 mD.2.toNat 0)
           ck (inB n46 mg.length) <|
           ck (inB mD.2 mg.length) <|
           some (decide ((List.getD mg mD.2.toNat 0)≤(List.getD mg n46.toNat 0)))
          else
           some false) fun s51=>
         bif s51 then
          some (.inr (.inr (.inr (.inr false))))
         else
          ck (inB mD.2 (List.length n7.blocks)) <|
          let n52:=(List.getD n7.blocks mD.2.toNat aj)
          OB (f10 n52.bf n52.oH n52.dV n52.bK) fun c53=>
          OB (
           aZ (fun (I9:(Bool×Int))=>
            bif (decide (I9.2<(c53.length:Int))) then
             OB (
              bif I9.1 then
               some true
              else
               ck (inB I9.2 c53.length) <|
               let n57:=(List.getD c53 I9.2.toNat 0)
               ck (inB n57 mg.length) <|
               ck (inB mD.2 mg.length) <|
               bif (decide ((List.getD mg n57.toNat 0)≤(List.getD mg mD.2.toNat 0))) then
                ck (inB I9.2 c53.length) <|
                OB (f12 n7.name n7.params n7.regs n7.blocks (List.getD c53 I9.2.toNat 0) mD.2) fun c62=>
                some (!c62)
               else
                some false) fun s67=>
             some (.inl (s67,(cZ (I9.2+1))))
            else
             some (.inr I9.1)) (mD.1,(0:Int))) fun s69=>
          some (.inl (s69,(cZ (mD.2+1))))
        else
         some (.inr (.inl mD.1))) (false,(0:Int))) fun s71=>
      OB (f15 n7.name n7.params n7.regs n7.blocks) fun c72=>
      bif (s71==c72) then
       some (.inr (.inr false))
      else
       some (.inl (cZ (s4+1)))
    else
     some (.inr (.inl ()))) (0:Int)) fun s75=>
  some true
def sp5:aX:=⟨sg5,f5⟩
theorem ahc:au Try.prog 5 sp5:=
 ts [(6,sp6),(7,sp7),(8,sp8),(14,ag8),(9,sp9),(10,adb),(12,ag9),(15,akk)] ety [.tmp 2] an5 Try.func5 rfl ⟨ahb,agC,ag_,V6,Ud,NQ,V7,ael,trivial⟩
end
end Go.Fg.Ytmgfidfcioiedaa

