/-
 What the functions of the seat compute, printed by a program (wip/gen).
-/
import Derived.Test.YtpbdikcmfgeooaaFgA
import Derived.Test.YtpbdikcmfgeooaaZd
namespace Go.Fg.Ytpbdikcmfgeooaa
open Go.Fw Go.Proofs Go.Fw.Ytpbdikcmfgeooaa
noncomputable section
set_option linter.unusedVariables false
set_option maxRecDepth 100000
abbrev iw:Type:=List (List UInt8)
abbrev yg:Type:=List jq
abbrev jy:Type:=List jS
abbrev xI:Type:=List jf
abbrev bV:Type:=List UInt8
abbrev oq:Type:=List eP
abbrev kE:Type:=List mD
abbrev dJ:Type:=List Int
abbrev OB {A B:Type}:Option A→(A→Option B)→Option B:=Option.bind
theorem ts (l:List (Nat×aU)) (e:TypeId→Option Ty) {f:FuncId} {fn:Func} {c:Code} {sp:aU} (r:List ResultVar) (a:gG) (hf:Try.prog.funcs[f]?=some fn) (hb:fn.body=some c) (hT:Xm Try.prog l) (h1:(fn.name == "runtime.NumGoroutine")=false:=by rfl) (h2:fn.results=r.toArray:=by rfl) (h3:sp.sig.er.ok=true:=by kernel_rfl) (h4:(sp.sig.aK.all fun g=>sp.sig.pin.er.nms.contains g)=true:=by rfl) (h5:sp.sig.bf≤fn.ntmps:=by exact of_decide_eq_true (by kernel_rfl)) (h6:r.length=sp.sig.bZ:=by rfl)
 (h :∀x,(Y8 (jI.of l) tt e fn.ntmps sp.sig r c a x).run=sp.f x:=by intro x;kernel_rfl):aj Try.prog f sp:=Xn (T:=jI.of l) (ety:=e) r a hf hb h1 h2 h3 h4 h5 h6 (Xm.sound hT) aip mixed h
def u2 {A0 A1 R:Type} (f:A0→A1→R) (x:A0×A1):R:=f x.1 x.2
def u3 {A0 A1 A2 R:Type} (f:A0→A1→A2→R) (x:A0×A1×A2):R:=f x.1 x.2.1 x.2.2
def u4 {A0 A1 A2 A3 R:Type} (f:A0→A1→A2→A3→R) (x:A0×A1×A2×A3):R:=f x.1 x.2.1 x.2.2.1 x.2.2.2
def u5 {A0 A1 A2 A3 A4 R:Type} (f:A0→A1→A2→A3→A4→R) (x:A0×A1×A2×A3×A4):R:=f x.1 x.2.1 x.2.2.1 x.2.2.2.1 x.2.2.2.2
def u6 {A0 A1 A2 A3 A4 A5 R:Type} (f:A0→A1→A2→A3→A4→A5→R) (x:A0×A1×A2×A3×A4×A5):R:=f x.1 x.2.1 x.2.2.1 x.2.2.2.1 x.2.2.2.2.1 x.2.2.2.2.2
def u7 {A0 A1 A2 A3 A4 A5 A6 R:Type} (f:A0→A1→A2→A3→A4→A5→A6→R) (x:A0×A1×A2×A3×A4×A5×A6):R:=f x.1 x.2.1 x.2.2.1 x.2.2.2.1 x.2.2.2.2.1 x.2.2.2.2.2.1 x.2.2.2.2.2.2
def u11 {A0 A1 A2 A3 A4 A5 A6 A7 A8 A9 IY R:Type} (f:A0→A1→A2→A3→A4→A5→A6→A7→A8→A9→IY→R) (x:A0×A1×A2×A3×A4×A5×A6×A7×A8×A9×IY):R:=f x.1 x.2.1 x.2.2.1 x.2.2.2.1 x.2.2.2.2.1 x.2.2.2.2.2.1 x.2.2.2.2.2.2.1 x.2.2.2.2.2.2.2.1 x.2.2.2.2.2.2.2.2.1 x.2.2.2.2.2.2.2.2.2.1 x.2.2.2.2.2.2.2.2.2.2
def u13 {A0 A1 A2 A3 A4 A5 A6 A7 A8 A9 IY KI KJ R:Type} (f:A0→A1→A2→A3→A4→A5→A6→A7→A8→A9→IY→KI→KJ→R) (x:A0×A1×A2×A3×A4×A5×A6×A7×A8×A9×IY×KI×KJ):R:=f x.1 x.2.1 x.2.2.1 x.2.2.2.1 x.2.2.2.2.1 x.2.2.2.2.2.1 x.2.2.2.2.2.2.1 x.2.2.2.2.2.2.2.1 x.2.2.2.2.2.2.2.2.1 x.2.2.2.2.2.2.2.2.2.1 x.2.2.2.2.2.2.2.2.2.2.1 x.2.2.2.2.2.2.2.2.2.2.2.1 x.2.2.2.2.2.2.2.2.2.2.2.2
def u14 {A0 A1 A2 A3 A4 A5 A6 A7 A8 A9 IY KI KJ Qn R:Type} (f:A0→A1→A2→A3→A4→A5→A6→A7→A8→A9→IY→KI→KJ→Qn→R) (x:A0×A1×A2×A3×A4×A5×A6×A7×A8×A9×IY×KI×KJ×Qn):R:=f x.1 x.2.1 x.2.2.1 x.2.2.2.1 x.2.2.2.2.1 x.2.2.2.2.2.1 x.2.2.2.2.2.2.1 x.2.2.2.2.2.2.2.1 x.2.2.2.2.2.2.2.2.1 x.2.2.2.2.2.2.2.2.2.1 x.2.2.2.2.2.2.2.2.2.2.1 x.2.2.2.2.2.2.2.2.2.2.2.1 x.2.2.2.2.2.2.2.2.2.2.2.2.1 x.2.2.2.2.2.2.2.2.2.2.2.2.2
def u15 {A0 A1 A2 A3 A4 A5 A6 A7 A8 A9 IY KI KJ Qn Vh R:Type} (f:A0→A1→A2→A3→A4→A5→A6→A7→A8→A9→IY→KI→KJ→Qn→Vh→R) (x:A0×A1×A2×A3×A4×A5×A6×A7×A8×A9×IY×KI×KJ×Qn×Vh):R:=f x.1 x.2.1 x.2.2.1 x.2.2.2.1 x.2.2.2.2.1 x.2.2.2.2.2.1 x.2.2.2.2.2.2.1 x.2.2.2.2.2.2.2.1 x.2.2.2.2.2.2.2.2.1 x.2.2.2.2.2.2.2.2.2.1 x.2.2.2.2.2.2.2.2.2.2.1 x.2.2.2.2.2.2.2.2.2.2.2.1 x.2.2.2.2.2.2.2.2.2.2.2.2.1 x.2.2.2.2.2.2.2.2.2.2.2.2.2.1 x.2.2.2.2.2.2.2.2.2.2.2.2.2.2
def u16 {A0 A1 A2 A3 A4 A5 A6 A7 A8 A9 IY KI KJ Qn Vh ZF R:Type} (f:A0→A1→A2→A3→A4→A5→A6→A7→A8→A9→IY→KI→KJ→Qn→Vh→ZF→R) (x:A0×A1×A2×A3×A4×A5×A6×A7×A8×A9×IY×KI×KJ×Qn×Vh×ZF):R:=f x.1 x.2.1 x.2.2.1 x.2.2.2.1 x.2.2.2.2.1 x.2.2.2.2.2.1 x.2.2.2.2.2.2.1 x.2.2.2.2.2.2.2.1 x.2.2.2.2.2.2.2.2.1 x.2.2.2.2.2.2.2.2.2.1 x.2.2.2.2.2.2.2.2.2.2.1 x.2.2.2.2.2.2.2.2.2.2.2.1 x.2.2.2.2.2.2.2.2.2.2.2.2.1 x.2.2.2.2.2.2.2.2.2.2.2.2.2.1 x.2.2.2.2.2.2.2.2.2.2.2.2.2.2.1 x.2.2.2.2.2.2.2.2.2.2.2.2.2.2.2
def u17 {A0 A1 A2 A3 A4 A5 A6 A7 A8 A9 IY KI KJ Qn Vh ZF A16 R:Type} (f:A0→A1→A2→A3→A4→A5→A6→A7→A8→A9→IY→KI→KJ→Qn→Vh→ZF→A16→R) (x:A0×A1×A2×A3×A4×A5×A6×A7×A8×A9×IY×KI×KJ×Qn×Vh×ZF×A16):R:=f x.1 x.2.1 x.2.2.1 x.2.2.2.1 x.2.2.2.2.1 x.2.2.2.2.2.1 x.2.2.2.2.2.2.1 x.2.2.2.2.2.2.2.1 x.2.2.2.2.2.2.2.2.1 x.2.2.2.2.2.2.2.2.2.1 x.2.2.2.2.2.2.2.2.2.2.1 x.2.2.2.2.2.2.2.2.2.2.2.1 x.2.2.2.2.2.2.2.2.2.2.2.2.1 x.2.2.2.2.2.2.2.2.2.2.2.2.2.1 x.2.2.2.2.2.2.2.2.2.2.2.2.2.2.1 x.2.2.2.2.2.2.2.2.2.2.2.2.2.2.2.1 x.2.2.2.2.2.2.2.2.2.2.2.2.2.2.2.2
def u22 {A0 A1 A2 A3 A4 A5 A6 A7 A8 A9 IY KI KJ Qn Vh ZF A16 A17 A18 A19 A20 A21 R:Type} (f:A0→A1→A2→A3→A4→A5→A6→A7→A8→A9→IY→KI→KJ→Qn→Vh→ZF→A16→A17→A18→A19→A20→A21→R) (x:A0×A1×A2×A3×A4×A5×A6×A7×A8×A9×IY×KI×KJ×Qn×Vh×ZF×A16×A17×A18×A19×A20×A21):R:=f x.1 x.2.1 x.2.2.1 x.2.2.2.1 x.2.2.2.2.1 x.2.2.2.2.2.1 x.2.2.2.2.2.2.1 x.2.2.2.2.2.2.2.1 x.2.2.2.2.2.2.2.2.1 x.2.2.2.2.2.2.2.2.2.1 x.2.2.2.2.2.2.2.2.2.2.1 x.2.2.2.2.2.2.2.2.2.2.2.1 x.2.2.2.2.2.2.2.2.2.2.2.2.1 x.2.2.2.2.2.2.2.2.2.2.2.2.2.1 x.2.2.2.2.2.2.2.2.2.2.2.2.2.2.1 x.2.2.2.2.2.2.2.2.2.2.2.2.2.2.2.1 x.2.2.2.2.2.2.2.2.2.2.2.2.2.2.2.2.1 x.2.2.2.2.2.2.2.2.2.2.2.2.2.2.2.2.2.1 x.2.2.2.2.2.2.2.2.2.2.2.2.2.2.2.2.2.2.1 x.2.2.2.2.2.2.2.2.2.2.2.2.2.2.2.2.2.2.2.1 x.2.2.2.2.2.2.2.2.2.2.2.2.2.2.2.2.2.2.2.2.1 x.2.2.2.2.2.2.2.2.2.2.2.2.2.2.2.2.2.2.2.2.2
def u23 {A0 A1 A2 A3 A4 A5 A6 A7 A8 A9 IY KI KJ Qn Vh ZF A16 A17 A18 A19 A20 A21 A22 R:Type} (f:A0→A1→A2→A3→A4→A5→A6→A7→A8→A9→IY→KI→KJ→Qn→Vh→ZF→A16→A17→A18→A19→A20→A21→A22→R) (x:A0×A1×A2×A3×A4×A5×A6×A7×A8×A9×IY×KI×KJ×Qn×Vh×ZF×A16×A17×A18×A19×A20×A21×A22):R:=f x.1 x.2.1 x.2.2.1 x.2.2.2.1 x.2.2.2.2.1 x.2.2.2.2.2.1 x.2.2.2.2.2.2.1 x.2.2.2.2.2.2.2.1 x.2.2.2.2.2.2.2.2.1 x.2.2.2.2.2.2.2.2.2.1 x.2.2.2.2.2.2.2.2.2.2.1 x.2.2.2.2.2.2.2.2.2.2.2.1 x.2.2.2.2.2.2.2.2.2.2.2.2.1 x.2.2.2.2.2.2.2.2.2.2.2.2.2.1 x.2.2.2.2.2.2.2.2.2.2.2.2.2.2.1 x.2.2.2.2.2.2.2.2.2.2.2.2.2.2.2.1 x.2.2.2.2.2.2.2.2.2.2.2.2.2.2.2.2.1 x.2.2.2.2.2.2.2.2.2.2.2.2.2.2.2.2.2.1 x.2.2.2.2.2.2.2.2.2.2.2.2.2.2.2.2.2.2.1 x.2.2.2.2.2.2.2.2.2.2.2.2.2.2.2.2.2.2.2.1 x.2.2.2.2.2.2.2.2.2.2.2.2.2.2.2.2.2.2.2.2.1 x.2.2.2.2.2.2.2.2.2.2.2.2.2.2.2.2.2.2.2.2.2.1 x.2.2.2.2.2.2.2.2.2.2.2.2.2.2.2.2.2.2.2.2.2.2
abbrev T37:=xI→Option Int
abbrev T52:=xI→iw→Option iw
abbrev T53:=Int→Int→Int→Int→bV→oq→Option Int
abbrev T59:=xI→Option iw
abbrev T55:=Int→Int→Int→Int→bV→oq→yg→kE→Int→Int→iw→Option (Int×Int×Int×Int×bV×yg×kE×Int×Int×iw×oq)
abbrev T72:=oq→yg→kE→Int→Int→iw→Option (yg×kE×Int×Int×iw×oq)
abbrev T28:=Int→dJ→kE→(List (bV×Int))→(List (List (bV×Int)))→dJ→(List (bV×dJ))→dJ→Int→Int→Int→Int→Int→Int→Int→dJ→Option (Int×Bool×kE×(List (bV×Int))×(List (List (bV×Int)))×dJ×(List (bV×dJ))×dJ×Int×Int×Int×Int×Int×Int×Int×dJ)
abbrev T45:=xI→kE→(List (bV×Int))→(List (List (bV×Int)))→dJ→(List (bV×dJ))→dJ→Int→Int→Int→Int→Int→Int→Int→(List (bV×Int))→dJ→dJ→Option (Int×Bool×Bool×kE×(List (bV×Int))×(List (List (bV×Int)))×dJ×(List (bV×dJ))×dJ×Int×Int×Int×Int×Int×Int×Int×(List (bV×Int))×dJ×dJ)
abbrev T60:=Int→Int→bV→oq→xI→xI→kE→(List (bV×Int))→(List (List (bV×Int)))→dJ→(List (bV×dJ))→dJ→Int→Int→Int→Int→Int→Int→Int→(List (bV×Int))→dJ→dJ→Option (Int×Bool×Bool×kE×(List (bV×Int))×(List (List (bV×Int)))×dJ×(List (bV×dJ))×dJ×Int×Int×Int×Int×Int×Int×Int×(List (bV×Int))×dJ×dJ)
abbrev T80:=oq→kE→(List (bV×Int))→(List (List (bV×Int)))→dJ→(List (bV×dJ))→dJ→Int→Int→Int→Int→Int→Int→Int→(List (bV×Int))→dJ→dJ→Option (Bool×kE×(List (bV×Int))×(List (List (bV×Int)))×dJ×(List (bV×dJ))×dJ×Int×Int×Int×Int×Int×Int×Int×(List (bV×Int))×dJ×dJ×dJ)
abbrev T81:=Int→Int→bV→oq→xI→xI→Int→kE→(List (bV×Int))→(List (List (bV×Int)))→dJ→(List (bV×dJ))→dJ→Int→Int→Int→Int→Int→Int→Int→(List (bV×Int))→dJ→dJ→Option (Int×Bool×Bool×kE×(List (bV×Int))×(List (List (bV×Int)))×dJ×(List (bV×dJ))×dJ×Int×Int×Int×Int×Int×Int×Int×(List (bV×Int))×dJ×dJ)
abbrev T87:=Int→Int→Int→Int→bV→oq→kE→(List (bV×Int))→(List (List (bV×Int)))→dJ→(List (bV×dJ))→dJ→Int→Int→Int→Int→Int→Int→Int→(List (bV×Int))→dJ→dJ→Option (Int×Bool×kE×(List (bV×Int))×(List (List (bV×Int)))×dJ×(List (bV×dJ))×dJ×Int×Int×Int×Int×Int×Int×Int×(List (bV×Int))×dJ×dJ)
abbrev T40:=xI→yg→kE→Int→Int→iw→Option (yg×kE×Int×Int×xI×iw)
abbrev NM:=jy→Int→Bool→Int→Option (Int×Int×Int×Int×bV×oq×jy×Int×Bool×Int)
abbrev T90:=jy→Int→Bool→Int→Option (Int×Int×Int×Int×bV×oq×jy×Int×Bool×Int)
abbrev T92:=jy→Int→Bool→Int→Option (Int×Int×Int×Int×bV×oq×jy×Int×Bool×Int)
abbrev T93:=jy→Int→Bool→Int→Option (Int×Int×Int×Int×bV×oq×jy×Int×Bool×Int)
abbrev T95:=jy→Int→Bool→Int→Option (Int×Int×Int×Int×bV×oq×jy×Int×Bool×Int)
abbrev T96:=jy→Int→Bool→Int→Option (Int×Int×Int×Int×bV×oq×jy×Int×Bool×Int)
abbrev T97:=jy→Int→Bool→Int→Option (Int×Int×Int×Int×bV×oq×jy×Int×Bool×Int)
abbrev T98:=jy→Int→Bool→Int→Option (Int×Int×Int×Int×bV×oq×jy×Int×Bool×Int)
abbrev T69:=jy→Int→Bool→Int→Option (jy×Int×Bool×Int×xI)
abbrev T83:=jy→Int→Bool→Int→Option (Int×Int×bV×jy×Int×Bool×Int×oq×xI×xI)
abbrev fM:bV:=[]
abbrev iV:iw:=[]
abbrev nM:oq:=[]
abbrev eInt:dJ:=[]
abbrev zI:xI:=[]
abbrev jA:yg:=[]
abbrev qy:kE:=[]
def jk (a b k:Nat):Bool:=true&&decide ((a+b)*k≤140737488355328)
def l9:mD:=mD.mk ([]:bV) (0:Int) ([]:iw) ([]:xI)
def oO:eP:=eP.mk (0:Int) (0:Int) (0:Int) (0:Int) ([]:bV) ([]:oq)
def oP:jf:=jf.mk (0:Int) (0:Int) ([]:bV) ([]:oq) ([]:xI) ([]:xI)
def f24 (p0:Bool):Option Int:=
 bif p0 then
  some (1:Int)
 else
  some (0:Int)
def abT:aU:=⟨aiA,f24⟩
theorem Ny:aj Try.prog 24 abT:=
 ts [] ety [.tmp 2] aiB Try.func24 rfl trivial
def f25 (p0:Bool):Option Int:=
 bif p0 then
  some (1:Int)
 else
  some (0:Int)
def aeD:aU:=⟨aiC,f25⟩
theorem Vj:aj Try.prog 25 aeD:=
 ts [] ety [.tmp 2] aiD Try.func25 rfl trivial
def f34 (p0:yg) (p1:kE) (p2:bV):Option Int:=
 gq (
  dN (fun (s0:Int)=>
   bif (decide (s0<(p0.length:Int))) then
    ck (inB s0 p0.length) <|
    bif ((List.getD p0 s0.toNat (jq.mk fM 0)).name==p2) then
     some (.inr (.inr s0))
    else
     some (.inl (gX (s0+1)))
   else
    some (.inr (.inl ()))) (0:Int)) fun s6=>
 some (-1:Int)
def aeE:aU:=⟨aiE,u3 f34⟩
theorem Vk:aj Try.prog 34 aeE:=
 ts [] ety [.tmp 4] aiF Try.func34 rfl trivial
def f35 (p0:yg) (p1:kE) (p2:bV):Option Int:=
 gq (
  dN (fun (s0:Int)=>
   bif (decide (s0<(p1.length:Int))) then
    ck (inB s0 p1.length) <|
    bif ((List.getD p1 s0.toNat l9).name==p2) then
     some (.inr (.inr s0))
    else
     some (.inl (gX (s0+1)))
   else
    some (.inr (.inl ()))) (0:Int)) fun s6=>
 some (-1:Int)
def abU:aU:=⟨aiG,u3 f35⟩
theorem Nz:aj Try.prog 35 abU:=
 ts [] ety [.tmp 4] aiH Try.func35 rfl trivial
def akl (adb:T37) (p0:xI):Option Int:=
 OB (
  dN (fun (s0:(Int×Int))=>
   bif (decide (s0.2<(p0.length:Int))) then
    ck (inB s0.2 p0.length) <|
    OB (adb (List.getD p0 s0.2.toNat oP).then') fun c4=>
    ck (inB s0.2 p0.length) <|
    OB (adb (List.getD p0 s0.2.toNat oP).else') fun c7=>
    some (.inl ((Ro (Ro s0.1 (gX (1+c4))) (gX (1+c7))),(gX (s0.2+1))))
   else
    some (.inr s0.1)) ((0:Int),(0:Int))) fun s11=>
 some s11
def SK:Nat→T37
 |0=>(fun _=>none)
 |n+1=>(akl (SK n))
def akm (n:Nat):T37:=(SK n)
def Qo (n:Nat):aU:=⟨af_,(SK n)⟩
theorem ZG (n:Nat) (h37:aj Try.prog 37 (Qo n)):aj Try.prog 37 (Qo (n+1)):=
 ts [(37,Qo n)] ety [.tmp 2] aiI Try.func37 rfl ⟨h37,trivial⟩
theorem Eu :∀n,aj Try.prog 37 (Qo n)
 |0=>bI Try.func37 rfl rfl (show af_.er.ok=true by decide +kernel) fun x=>rfl
 |n+1=>by
  have ih:=Eu n
  exact ZG n (ih)
def f37:T37:=akm 1048576
def agG:aU:=Qo 1048576
theorem abV:aj Try.prog 37 agG:=(Eu 1048576)
def f38 (p0:iw) (p1:bV):Option Bool:=
 gq (
  dN (fun (s0:Int)=>
   bif (decide (s0<(p0.length:Int))) then
    ck (inB s0 p0.length) <|
    bif ((List.getD p0 s0.toNat fM)==p1) then
     some (.inr (.inr true))
    else
     some (.inl (gX (s0+1)))
   else
    some (.inr (.inl ()))) (0:Int)) fun s6=>
 some false
def aeF:aU:=⟨aiJ,u2 f38⟩
theorem Vl:aj Try.prog 38 aeF:=
 ts [] ety [.tmp 4] aiK Try.func38 rfl trivial
def f39 (p0:yg) (p1:kE) (p2:bV):Option Int:=
 OB (f34 p0 p1 p2) fun c0=>
 bif (decide (0≤c0)) then
  ck (inB c0 p0.length) <|
  bif (decide (0<(List.getD p0 c0.toNat (jq.mk fM 0)).size)) then
   some (3:Int)
  else
   some (2:Int)
 else
  OB (f35 p0 p1 p2) fun c4=>
  bif (decide (0≤c4)) then
   some (4:Int)
  else
   some (0:Int)
def aeG:aU:=⟨aiL,u3 f39⟩
theorem Vm:aj Try.prog 39 aeG:=
 ts [(34,aeE),(35,abU)] ety [.tmp 4] aiM Try.func39 rfl ⟨Vk,Nz,trivial⟩
def f44 (p0:Int) (p1:Int) (p2:kE) (p3:(List (bV×Int))) (p4:(List (List (bV×Int)))) (p5:dJ) (p6:(List (bV×dJ))) (p7:dJ) (p8:Int) (p9:Int) (p10:Int) (p11:Int) (p12:Int) (p13:Int) (SL:Int) (SN:dJ):Option (Bool×kE×(List (bV×Int))×(List (List (bV×Int)))×dJ×(List (bV×dJ))×dJ×Int×Int×Int×Int×Int×Int×Int×dJ):=
 OB (
  some (false,p2,p3,p4,p5,p6,p7,p8,p9,p10,p11,p0,p13,p1,SN)) fun s0=>
 ck (decide (SN.length=s0.2.2.2.2.2.2.2.2.2.2.2.2.2.2.length)) <|
 some s0
def ZH:aU:=⟨aiN,u16 f44⟩
theorem FC:aj Try.prog 44 ZH:=
 ts [] ety [.tmp 6] aiO Try.func44 rfl trivial
def f47 (p0:jy) (p1:Int) (p2:Bool) (p3:Int):Option (Int×Int×Int×bV×jy×Int×Bool×Int):=
 ck (inB p1 p0.length) <|
 let n0:=(List.getD p0 p1.toNat (jS.mk 0 0 0 fM))
 some (n0.kind,n0.line,n0.value,n0.text,p0,p1,p2,p3)
def IZ:aU:=⟨aiP,u4 f47⟩
theorem nR:aj Try.prog 47 IZ:=
 ts [] ety [.cell 2 102] aiQ Try.func47 rfl trivial
def akn (ade:T52) (p0:xI) (p1:iw):Option iw:=
 OB (
  dN (fun (s0:(Int×iw))=>
   bif (decide (s0.1<(p0.length:Int))) then
    ck (inB s0.1 p0.length) <|
    OB (
     bif (decide ((List.getD p0 s0.1.toNat oP).kind=1)) then
      ck (inB s0.1 p0.length) <|
      let n6:=[(List.getD p0 s0.1.toNat oP).name]
      ck (jk s0.2.length n6.length 16) <|
      some (s0.2++n6)
     else
      some s0.2) fun s8=>
    ck (inB s0.1 p0.length) <|
    OB (ade (List.getD p0 s0.1.toNat oP).then' s8) fun c10=>
    ck (inB s0.1 p0.length) <|
    OB (ade (List.getD p0 s0.1.toNat oP).else' c10) fun c12=>
    some (.inl ((gX (s0.1+1)),c12))
   else
    some (.inr s0.2)) ((0:Int),p1)) fun s14=>
 some s14
def SQ:Nat→T52
 |0=>(fun _ _=>none)
 |n+1=>(akn (SQ n))
def ako (n:Nat):T52:=(SQ n)
def Qp (n:Nat):aU:=⟨aga,u2 (SQ n)⟩
theorem ZI (n:Nat) (h52:aj Try.prog 52 (Qp n)):aj Try.prog 52 (Qp (n+1)):=
 ts [(52,Qp n)] ety [.tmp 4] aiR Try.func52 rfl ⟨h52,trivial⟩
theorem Ew :∀n,aj Try.prog 52 (Qp n)
 |0=>bI Try.func52 rfl rfl (show aga.er.ok=true by decide +kernel) fun x=>rfl
 |n+1=>by
  have ih:=Ew n
  exact ZI n (ih)
def f52:T52:=ako 1048576
def agH:aU:=Qp 1048576
theorem abW:aj Try.prog 52 agH:=(Ew 1048576)
def akp (agI:T53) (p0:Int) (p1:Int) (p2:Int) (p3:Int) (p4:bV) (p5:oq):Option Int:=
 OB (
  dN (fun (s0:(Int×Int))=>
   bif (decide (s0.2<(p5.length:Int))) then
    ck (inB s0.2 p5.length) <|
    let n3:=(List.getD p5 s0.2.toNat oO)
    OB (agI n3.kind n3.op n3.value n3.line n3.name n3.args) fun c4=>
    some (.inl ((Ro s0.1 c4),(gX (s0.2+1))))
   else
    some (.inr s0.1)) ((0:Int),(0:Int))) fun s7=>
 some (gX (s7+1))
def SV:Nat→T53
 |0=>(fun _ _ _ _ _ _=>none)
 |n+1=>(akp (SV n))
def akq (n:Nat):T53:=(SV n)
def Qq (n:Nat):aU:=⟨agb,u6 (SV n)⟩
theorem ZJ (n:Nat) (h53:aj Try.prog 53 (Qq n)):aj Try.prog 53 (Qq (n+1)):=
 ts [(53,Qq n)] ety [.tmp 2] aiS Try.func53 rfl ⟨h53,trivial⟩
theorem Ey :∀n,aj Try.prog 53 (Qq n)
 |0=>bI Try.func53 rfl rfl (show agb.er.ok=true by decide +kernel) fun x=>rfl
 |n+1=>by
  have ih:=Ey n
  exact ZJ n (ih)
def f53:T53:=akq 1048576
def agJ:aU:=Qq 1048576
theorem abX:aj Try.prog 53 agJ:=(Ey 1048576)
def f54 (p0:Int) (p1:Int) (p2:yg) (p3:kE) (p4:Int) (p5:Int) (p6:iw):Option (yg×kE×Int×Int×iw):=
 OB (
  OB (
   bif (decide (p5=0)) then
    some (p2,p3,p0,p1)
   else
    some (p2,p3,p4,p5)) fun s1=>
  some (s1.1,s1.2.1,s1.2.2.1,s1.2.2.2,p6)) fun s2=>
 ck (decide (p6.length=s2.2.2.2.2.length)) <|
 some s2
def abY:aU:=⟨aiT,u7 f54⟩
theorem NC:aj Try.prog 54 abY:=
 ts [] ety [] aiU Try.func54 rfl trivial
def f56 (p0:bV) (p1:yg) (p2:kE) (p3:Int) (p4:Int) (p5:iw):Option (Int×yg×kE×Int×Int×iw):=
 OB (
  OB (f38 p5 p0) fun c0=>
  bif c0 then
   some ((1:Int),p1,p2,p3,p4,p5)
  else
   OB (f39 p1 p2 p0) fun c1=>
   some (c1,p1,p2,p3,p4,p5)) fun s2=>
 ck (decide (p5.length=s2.2.2.2.2.2.length)) <|
 some s2
def ZK:aU:=⟨aiV,u6 f56⟩
theorem FD:aj Try.prog 56 ZK:=
 ts [(38,aeF),(39,aeG)] ety [.tmp 4] aiW Try.func56 rfl ⟨Vl,Vm,trivial⟩
theorem ZL {α:Type} {p0:List α} {c:Bool} {y:List α} (h:ck c (some p0)=some y):(bif p0.isEmpty then both (some ([]:List α)) (ck c (some ([]++p0))) else ck c (some ([]++p0)))=some y:=by
  cases p0 with
  |nil=>
    cases c with
    |false=>cases h
    |true=>
      cases h
      show both (some []) (some [])=some []
      unfold both
      rw [if_pos rfl]
  |cons x l=>exact h
def agK (p0:iw):Option iw:=
 bif (List.isEmpty p0) then
  both (
   some iV) (
   ck (true&&(decide ((((List.length iV)+p0.length)*(16:Nat))≤(140737488355328:Nat)))) <|
   some (iV++p0))
 else
  ck (true&&(decide ((((List.length iV)+p0.length)*(16:Nat))≤(140737488355328:Nat)))) <|
  some (iV++p0)
def agL:aU:=⟨aex,agK⟩
theorem ZM:aj Try.prog 58 agL:=
 ts [] ety [.tmp 2] aiX Try.func58 rfl trivial
def f58 (p0:iw):Option iw:=ck (true&&(decide ((((List.length iV)+p0.length)*(16:Nat))≤(140737488355328:Nat)))) (some p0)
def agM:aU:=⟨aex,f58⟩
theorem abZ:aj Try.prog 58 agM:=aj.le (sg:=aex) (F:=f58) (F':=agK) ZM fun x y h=>ZL h
def akr (adf:T59) (p0:xI):Option iw:=
 OB (
  dN (fun (s1:(Int×iw))=>
   bif (decide (s1.1<(p0.length:Int))) then
    ck (inB s1.1 p0.length) <|
    let n3:=(List.getD p0 s1.1.toNat oP)
    OB (
     bif (decide (n3.kind=1)) then
      let n5:=[n3.name]
      ck (jk s1.2.length n5.length 16) <|
      some (s1.2++n5)
     else
      some s1.2) fun s7=>
    OB (adf n3.then') fun c8=>
    ck (jk s7.length c8.length 16) <|
    let n9:=(s7++c8)
    OB (adf n3.else') fun c10=>
    ck (jk n9.length c10.length 16) <|
    some (.inl ((gX (s1.1+1)),(n9++c10)))
   else
    some (.inr s1.2)) ((0:Int),iV)) fun s13=>
 some s13
def SX:Nat→T59
 |0=>(fun _=>none)
 |n+1=>(akr (SX n))
def aks (n:Nat):T59:=(SX n)
def Qr (n:Nat):aU:=⟨agc,(SX n)⟩
theorem ZN (n:Nat) (h59:aj Try.prog 59 (Qr n)):aj Try.prog 59 (Qr (n+1)):=
 ts [(59,Qr n)] ety [.tmp 2] aiY Try.func59 rfl ⟨h59,trivial⟩
theorem Ez :∀n,aj Try.prog 59 (Qr n)
 |0=>bI Try.func59 rfl rfl (show agc.er.ok=true by decide +kernel) fun x=>rfl
 |n+1=>by
  have ih:=Ez n
  exact ZN n (ih)
def f59:T59:=aks 1048576
def agN:aU:=Qr 1048576
theorem ab1:aj Try.prog 59 agN:=(Ez 1048576)
def f61 (p0:Int):Option Bool:=
 OB (
  bif (decide (97≤p0)) then
   bif (decide (p0≤122)) then
    some true
   else
    bif (decide (65≤p0)) then
     some (decide (p0≤90))
    else
     some false
  else
   bif (decide (65≤p0)) then
    some (decide (p0≤90))
   else
    some false) fun s13=>
 some s13
def aeH:aU:=⟨aiZ,f61⟩
theorem Vo:aj Try.prog 61 aeH:=
 ts [] ety [.tmp 2] ai0 Try.func61 rfl trivial
def f62 (p0:Int):Option Bool:=
 OB (
  bif (decide (48≤p0)) then
   some (decide (p0≤57))
  else
   some false) fun s3=>
 some s3
def aeI:aU:=⟨ai1,f62⟩
theorem Vp:aj Try.prog 62 aeI:=
 ts [] ety [.tmp 2] ai2 Try.func62 rfl trivial
def f65 (p0:bV):Option (Int×Bool):=
 gq (
  dN (fun (s0:(Int×Int))=>
   bif (decide (s0.2<(p0.length:Int))) then
    ck (inB s0.2 p0.length) <|
    let n5:=(gX (Go.IntKind.wrap .u8 (((UInt8.toNat (List.getD p0 s0.2.toNat (0:UInt8))):Int)-48)))
    bif (decide ((gX (Int.tdiv (gX (9223372036854775807-n5)) (10:Int)))<s0.1)) then
     some (.inr (.inr ((0:Int),false)))
    else
     some (.inl ((gX ((gX (10*s0.1))+n5)),(gX (s0.2+1))))
   else
    some (.inr (.inl s0.1))) ((0:Int),(0:Int))) fun s12=>
 some (s12,true)
def agO:aU:=⟨ai3,f65⟩
theorem ab2:aj Try.prog 65 agO:=
 ts [] ety [.tmp 2,.tmp 3] ai4 Try.func65 rfl trivial
def f67 (p0:bV) (p1:jy) (p2:Int) (p3:Bool) (p4:Int):Option (Bool×jy×Int×Bool×Int):=
 OB (f47 p1 p2 p3 p4) fun c0=>
 OB (
  bif (!c0.2.2.2.2.2.2.1) then
   bif (decide (c0.1=3)) then
    bif true then
     some (c0.2.2.2.1==p0)
    else
     some false
   else
    bif (decide (c0.1=4)) then
     some (c0.2.2.2.1==p0)
    else
     some false
  else
   some false) fun s11=>
 some (s11,c0.2.2.2.2)
def Xr:aU:=⟨ai5,u5 f67⟩
theorem Bq:aj Try.prog 67 Xr:=
 ts [(47,IZ)] ety [.tmp 4] ai6 Try.func67 rfl ⟨nR,trivial⟩
def f68 (p0:Int) (p1:jy) (p2:Int) (p3:Bool) (p4:Int):Option (Int×Int×Int×bV×jy×Int×Bool×Int):=
 OB (f47 p1 p2 p3 p4) fun c0=>
 OB (
  bif c0.2.2.2.2.2.2.1 then
   some true
  else
   some (!(decide (c0.1=p0)))) fun s3=>
 bif s3 then
  some ((0:Int),(0:Int),(0:Int),fM,c0.2.2.2.2.1,c0.2.2.2.2.2.1,true,c0.2.2.2.2.2.2.2)
 else
  some (c0.1,c0.2.1,c0.2.2.1,c0.2.2.2.1,c0.2.2.2.2.1,(gX (c0.2.2.2.2.2.1+1)),c0.2.2.2.2.2.2)
def ZO:aU:=⟨ai7,u5 f68⟩
theorem FH:aj Try.prog 68 ZO:=
 ts [(47,IZ)] ety [.cell 4 102] ai8 Try.func68 rfl ⟨nR,trivial⟩
def f70 (p0:Int) (p1:Int) (p2:Int) (p3:Int) (p4:bV) (p5:oq) (p6:Int) (p7:Int) (p8:yg) (p9:kE) (p10:Int) (p11:Int) (p12:iw):Option (yg×kE×Int×Int×iw):=
 OB (
  OB (f56 p4 p8 p9 p10 p11 p12) fun c0=>
  OB (
   bif (decide (c0.1=0)) then
    OB (f54 p3 8 c0.2.1 c0.2.2.1 c0.2.2.2.1 c0.2.2.2.2.1 c0.2.2.2.2.2) fun c2=>
    some c2
   else
    OB (
     bif (!(decide (c0.1=p6))) then
      some (!(decide (c0.1=p7)))
     else
      some false) fun s6=>
    OB (
     bif s6 then
      OB (f54 p3 10 c0.2.1 c0.2.2.1 c0.2.2.2.1 c0.2.2.2.2.1 c0.2.2.2.2.2) fun c7=>
      some c7
     else
      some c0.2) fun s8=>
    some s8) fun s9=>
  some s9) fun s10=>
 ck (decide (p12.length=s10.2.2.2.2.length)) <|
 some s10
def agP:aU:=⟨ai9,u13 f70⟩
theorem ab3:aj Try.prog 70 agP:=
 ts [(56,ZK),(54,abY)] ety [] ai_ Try.func70 rfl ⟨FD,NC,trivial⟩
def f71 (p0:bV) (p1:Int) (p2:yg) (p3:kE) (p4:Int) (p5:Int) (p6:iw):Option (Int×Int×Int×Int×bV×yg×kE×Int×Int×iw):=
 OB (
  OB (f56 p0 p2 p3 p4 p5 p6) fun c0=>
  OB (
   bif (!(decide (c0.1=1))) then
    some (3:Int)
   else
    some (2:Int)) fun s2=>
  some (s2,(0:Int),(0:Int),p1,p0,c0.2)) fun s3=>
 ck (decide (p6.length=s3.2.2.2.2.2.2.2.2.2.length)) <|
 some s3
def agQ:aU:=⟨aja,u7 f71⟩
theorem ab4:aj Try.prog 71 agQ:=
 ts [(56,ZK)] ety [.cell 6 116] ajb Try.func71 rfl ⟨FD,trivial⟩
def akt (adg:T55) (ZP:T72) (p0:Int) (p1:Int) (p2:Int) (p3:Int) (p4:bV) (p5:oq) (p6:yg) (p7:kE) (p8:Int) (p9:Int) (p10:iw):Option (Int×Int×Int×Int×bV×yg×kE×Int×Int×iw×oq):=
 OB (
  bif (decide (p0=13)) then
   OB (f70 p0 p1 p2 p3 p4 p5 1 2 p6 p7 p8 p9 p10) fun c1=>
   OB (f71 p4 p3 c1.1 c1.2.1 c1.2.2.1 c1.2.2.2.1 c1.2.2.2.2) fun c2=>
   some (c2.1,c2.2.1,c2.2.2.1,c2.2.2.2.1,c2.2.2.2.2.1,c2.2.2.2.2.2.1,c2.2.2.2.2.2.2.1,c2.2.2.2.2.2.2.2.1,c2.2.2.2.2.2.2.2.2.1,c2.2.2.2.2.2.2.2.2.2,nM)
  else
   gq (
    bif (decide (p0=4)) then
     OB (f70 p0 p1 p2 p3 p4 p5 3 3 p6 p7 p8 p9 p10) fun c4=>
     some (.inl c4)
    else
     gq (
      bif (decide (p0=11)) then
       OB (f70 p0 p1 p2 p3 p4 p5 4 4 p6 p7 p8 p9 p10) fun c6=>
       some (.inl c6)
      else
       gq (
        bif (decide (p0=9)) then
         OB (f56 p4 p6 p7 p8 p9 p10) fun c8=>
         gq (
          bif (decide (c8.1=0)) then
           OB (f54 p3 8 c8.2.1 c8.2.2.1 c8.2.2.2.1 c8.2.2.2.2.1 c8.2.2.2.2.2) fun c10=>
           some (.inl c10)
          else
           gq (
            bif (decide (c8.1=3)) then
             OB (f54 p3 10 c8.2.1 c8.2.2.1 c8.2.2.2.1 c8.2.2.2.2.1 c8.2.2.2.2.2) fun c12=>
             some (.inl c12)
            else
             bif (decide (c8.1=4)) then
              OB (f35 c8.2.1 c8.2.2.1 p4) fun c14=>
              ck (inB c14 c8.2.2.1.length) <|
              OB (
               bif (!(decide (((List.length (List.getD c8.2.2.1 c14.toNat l9).params):Int)=(p5.length:Int)))) then
                OB (f54 p3 11 c8.2.1 c8.2.2.1 c8.2.2.2.1 c8.2.2.2.2.1 c8.2.2.2.2.2) fun c19=>
                some c19
               else
                some c8.2) fun s20=>
              some (.inl s20)
             else
              OB (
               bif (decide (6<(p5.length:Int))) then
                OB (f54 p3 5 c8.2.1 c8.2.2.1 c8.2.2.2.1 c8.2.2.2.2.1 c8.2.2.2.2.2) fun c23=>
                some c23
               else
                some c8.2) fun s24=>
              OB (f71 p4 p3 s24.1 s24.2.1 s24.2.2.1 s24.2.2.2.1 s24.2.2.2.2) fun c25=>
              let n26:=[(eP.mk c25.1 c25.2.1 c25.2.2.1 c25.2.2.2.1 c25.2.2.2.2.1 nM)]
              OB (ZP p5 c25.2.2.2.2.2.1 c25.2.2.2.2.2.2.1 c25.2.2.2.2.2.2.2.1 c25.2.2.2.2.2.2.2.2.1 c25.2.2.2.2.2.2.2.2.2) fun BI=>
              ck (jk n26.length BI.2.2.2.2.2.length 72) <|
              some (.inr (.inr (.inr (.inr (.inr ((10:Int),(0:Int),(0:Int),p3,fM,BI.1,BI.2.1,BI.2.2.1,BI.2.2.2.1,BI.2.2.2.2.1,(n26++BI.2.2.2.2.2)))))))) fun s29=>
           some (.inl s29)) fun s30=>
         some (.inl s30)
        else
         OB (
          bif (decide (p0=10)) then
           OB (
            bif (decide (7<(p5.length:Int))) then
             OB (f54 p3 5 p6 p7 p8 p9 p10) fun c34=>
             some c34
            else
             some (p6,p7,p8,p9,p10)) fun s35=>
           some s35
          else
           some (p6,p7,p8,p9,p10)) fun s36=>
         some (.inl s36)) fun s37=>
       some (.inl s37)) fun s38=>
     some (.inl s38)) fun I4=>
   OB (ZP p5 I4.1 I4.2.1 I4.2.2.1 I4.2.2.2.1 I4.2.2.2.2) fun c40=>
   some (p0,p1,p2,p3,p4,c40)) fun SY=>
 ck (decide (p10.length=SY.2.2.2.2.2.2.2.2.2.1.length)) <|
 some SY
def akv (adg:T55) (ZP:T72) (p0:oq) (p1:yg) (p2:kE) (p3:Int) (p4:Int) (p5:iw):Option (yg×kE×Int×Int×iw×oq):=
 OB (
  OB (
   dN (fun (s0:(Int×yg×kE×Int×Int×iw×oq))=>
    bif (decide (s0.1<(p0.length:Int))) then
     ck (inB s0.1 p0.length) <|
     let n3:=(List.getD p0 s0.1.toNat oO)
     OB (adg n3.kind n3.op n3.value n3.line n3.name n3.args s0.2.1 s0.2.2.1 s0.2.2.2.1 s0.2.2.2.2.1 s0.2.2.2.2.2.1) fun c4=>
     let n5:=[(eP.mk c4.1 c4.2.1 c4.2.2.1 c4.2.2.2.1 c4.2.2.2.2.1 c4.2.2.2.2.2.2.2.2.2.2)]
     ck (jk s0.2.2.2.2.2.2.length n5.length 72) <|
     some (.inl ((gX (s0.1+1)),c4.2.2.2.2.2.1,c4.2.2.2.2.2.2.1,c4.2.2.2.2.2.2.2.1,c4.2.2.2.2.2.2.2.2.1,c4.2.2.2.2.2.2.2.2.2.1,(s0.2.2.2.2.2.2++n5)))
    else
     some (.inr s0.2)) ((0:Int),p1,p2,p3,p4,p5,nM)) fun s8=>
  some s8) fun s9=>
 ck (decide (p5.length=s9.2.2.2.2.1.length)) <|
 some s9
def zJ:Nat→T55×T72
 |0=>(fun _ _ _ _ _ _ _ _ _ _ _=>none,fun _ _ _ _ _ _=>none)
 |n+1=>(akt (zJ n).1 (zJ n).2,akv (zJ n).1 (zJ n).2)
def akw (n:Nat):T55:=(zJ n).1
def I5 (n:Nat):aU:=⟨agd,u11 (zJ n).1⟩
def KL (n:Nat):aU:=⟨agf,u6 (zJ n).2⟩
theorem ZQ (n:Nat) (h55:aj Try.prog 55 (I5 n)) (h72:aj Try.prog 72 (KL n)):aj Try.prog 55 (I5 (n+1)):=
 ts [(70,agP),(71,agQ),(56,ZK),(54,abY),(35,abU),(55,I5 n),(72,KL n)] ety [.cell 4 116] ajc Try.func55 rfl ⟨ab3,ab4,FD,NC,Nz,h55,h72,trivial⟩
theorem ZR (n:Nat) (h55:aj Try.prog 55 (I5 n)) (h72:aj Try.prog 72 (KL n)):aj Try.prog 72 (KL (n+1)):=
 ts [(55,I5 n),(72,KL n)] ety [.tmp 4] ajd Try.func72 rfl ⟨h55,h72,trivial⟩
theorem EC :∀n,aj Try.prog 55 (I5 n)∧aj Try.prog 72 (KL n)
 |0=>⟨bI Try.func55 rfl rfl (show agd.er.ok=true by decide +kernel) fun x=>rfl,bI Try.func72 rfl rfl (show agf.er.ok=true by decide +kernel) fun x=>rfl⟩
 |n+1=>by
  have ih:=EC n
  exact ⟨ZQ n (ih.1) (ih.2),ZR n (ih.1) (ih.2)⟩
def f55:T55:=akw 1048576
def agR:aU:=I5 1048576
theorem ab5:aj Try.prog 55 agR:=(EC 1048576).1
def f79 (p0:kE) (p1:(List (bV×Int))) (p2:(List (List (bV×Int)))) (p3:dJ) (p4:(List (bV×dJ))) (p5:dJ) (p6:Int) (p7:Int) (p8:Int) (p9:Int) (p10:Int) (p11:Int) (p12:Int) (p13:dJ):Option (Bool×kE×(List (bV×Int))×(List (List (bV×Int)))×dJ×(List (bV×dJ))×dJ×Int×Int×Int×Int×Int×Int×Int×dJ):=
 OB (
  bif (decide (p6≤p8)) then
   OB (f44 3 0 p0 p1 p2 p3 p4 p5 p6 p7 p8 p9 p10 p11 p12 p13) fun c1=>
   some c1
  else
   some (true,p0,p1,p2,p3,p4,p5,p6,p7,(gX (p8+1)),p9,p10,p11,p12,p13)) fun s3=>
 ck (decide (p13.length=s3.2.2.2.2.2.2.2.2.2.2.2.2.2.2.length)) <|
 some s3
def ab6:aU:=⟨aje,u14 f79⟩
theorem ND:aj Try.prog 79 ab6:=
 ts [(44,ZH)] ety [.tmp 2] ajf Try.func79 rfl ⟨FC,trivial⟩
def f82 (p0:bV) (p1:iw):Option Bool:=
 gq (
  dN (fun (s0:Int)=>
   bif (decide (s0<(p1.length:Int))) then
    ck (inB s0 p1.length) <|
    bif ((List.getD p1 s0.toNat fM)==p0) then
     some (.inr (.inr true))
    else
     some (.inl (gX (s0+1)))
   else
    some (.inr (.inl ()))) (0:Int)) fun s6=>
 some false
def aeJ:aU:=⟨ajg,u2 f82⟩
theorem Vq:aj Try.prog 82 aeJ:=
 ts [] ety [.tmp 4] ajh Try.func82 rfl trivial
def f91 (p0:Int) (p1:Int) (p2:Int) (p3:Int) (p4:Int) (p5:Int) (p6:Int) (p7:bV) (p8:oq) (p9:Int) (p10:Int) (p11:Int) (p12:Int) (p13:bV) (SL:oq):Option (Int×Int×Int×Int×bV×oq):=
 some (p0,p1,(0:Int),p2,fM,[(eP.mk p3 p4 p5 p6 p7 p8),(eP.mk p9 p10 p11 p12 p13 SL)])
def Xt:aU:=⟨aji,u15 f91⟩
theorem Bv:aj Try.prog 91 Xt:=
 ts [] ety [.cell 10 116] ajj Try.func91 rfl trivial
def f94 (p0:iw) (p1:dJ) (p2:jy) (p3:Int) (p4:Bool) (p5:Int):Option (Int×Int×jy×Int×Bool×Int):=
 gq (
  dN (fun (s0:(Int×jy×Int×Bool×Int))=>
   bif (decide (s0.1<(p0.length:Int))) then
    ck (inB s0.1 p0.length) <|
    OB (f67 (List.getD p0 s0.1.toNat fM) s0.2.1 s0.2.2.1 s0.2.2.2.1 s0.2.2.2.2) fun c4=>
    bif c4.1 then
     OB (f47 c4.2.1 c4.2.2.1 c4.2.2.2.1 c4.2.2.2.2) fun c5=>
     ck (inB s0.1 p1.length) <|
     some (.inr (.inr ((List.getD p1 s0.1.toNat 0),c5.2.1,c5.2.2.2.2.1,(gX (c5.2.2.2.2.2.1+1)),c5.2.2.2.2.2.2)))
    else
     some (.inl ((gX (s0.1+1)),c4.2))
   else
    some (.inr (.inl s0.2))) ((0:Int),p2,p3,p4,p5)) fun s9=>
 some ((0:Int),(0:Int),s9)
def ZT:aU:=⟨ajk,u6 f94⟩
theorem FK:aj Try.prog 94 ZT:=
 ts [(67,Xr),(47,IZ)] ety [.tmp 6,.tmp 7] ajl Try.func94 rfl ⟨Bq,nR,trivial⟩
def f8 (p0:Int) (p1:Int) (p2:Int):Option (Int×Bool):=
 bif (decide (p0=3)) then
  some ((gX (p1+p2)),true)
 else
  bif (decide (p0=4)) then
   some ((gX (p1-p2)),true)
  else
   bif (decide (p0=5)) then
    some ((gX (p1*p2)),true)
   else
    bif (decide (p0=8)) then
     OB (f24 (decide (p1<p2))) fun c8=>
     some (c8,true)
    else
     bif (decide (p0=9)) then
      OB (f24 (decide (p1≤p2))) fun c11=>
      some (c11,true)
     else
      bif (decide (p0=10)) then
       OB (f24 (decide (p1=p2))) fun c14=>
       some (c14,true)
      else
       bif (decide (p0=11)) then
        OB (f24 (!(decide (p1=p2)))) fun c17=>
        some (c17,true)
       else
        bif (decide (p2=0)) then
         some ((0:Int),false)
        else
         bif (decide (p0=6)) then
          ck (!(decide (p2=0))) <|
          some ((gX (Int.tdiv p1 p2)),true)
         else
          bif (decide (p0=7)) then
           ck (!(decide (p2=0))) <|
           some ((Int.tmod p1 p2),true)
          else
           some ((0:Int),false)
def sp8:aU:=⟨sg8,u3 f8⟩
theorem ZU:aj Try.prog 8 sp8:=
 ts [(24,abT)] ety [.tmp 6,.tmp 7] an8 Try.func8 rfl ⟨Ny,trivial⟩
def f9 (p0:Int) (p1:Int) (p2:Int):Option (Int×Bool):=
 bif (decide (p0=3)) then
  some ((gX (p1+p2)),true)
 else
  bif (decide (p0=4)) then
   some ((gX (p1-p2)),true)
  else
   bif (decide (p0=5)) then
    some ((gX (p1*p2)),true)
   else
    OB (
     bif (decide (p0=6)) then
      some true
     else
      some (decide (p0=7))) fun s8=>
    bif s8 then
     bif (decide (p2=0)) then
      some ((0:Int),false)
     else
      OB (
       bif (!(decide (p2=(-1:Int)))) then
        ck (!(decide (p2=0))) <|
        ck (!(decide (p2=0))) <|
        some ((gX (Int.tdiv p1 p2)),(Int.tmod p1 p2))
       else
        some ((gX (O9 p1)),(0:Int))) fun s14=>
      bif (decide (p0=6)) then
       some (s14.1,true)
      else
       some (s14.2,true)
    else
     bif (decide (p0=8)) then
      OB (f25 (decide (p1<p2))) fun c18=>
      some (c18,true)
     else
      bif (decide (p0=9)) then
       OB (f25 (decide (p1≤p2))) fun c21=>
       some (c21,true)
      else
       bif (decide (p0=10)) then
        OB (f25 (decide (p1=p2))) fun c24=>
        some (c24,true)
       else
        bif (decide (p0=11)) then
         OB (f25 (!(decide (p1=p2)))) fun BI=>
         some (BI,true)
        else
         some ((0:Int),false)
def sp9:aU:=⟨sg9,u3 f9⟩
theorem aeK:aj Try.prog 9 sp9:=
 ts [(25,aeD)] ety [.tmp 6,.tmp 7] an9 Try.func9 rfl ⟨Vj,trivial⟩
def f10 (p0:Int) (p1:Int):Option Int:=
 bif (decide (p0=1)) then
  some (gX (O9 p1))
 else
  bif (decide (p0=2)) then
   OB (f24 (decide (p1=0))) fun c4=>
   some c4
  else
   some (0:Int)
def aeL:aU:=⟨ajm,u2 f10⟩
theorem Vr:aj Try.prog 10 aeL:=
 ts [(24,abT)] ety [.tmp 4] ajn Try.func10 rfl ⟨Ny,trivial⟩
def f11 (p0:Int) (p1:Int):Option Int:=
 bif (decide (p0=1)) then
  some (gX (O9 p1))
 else
  bif (decide (p0=2)) then
   OB (f25 (decide (p1=0))) fun c4=>
   some c4
  else
   some (0:Int)
def agS:aU:=⟨ajo,u2 f11⟩
theorem ab7:aj Try.prog 11 agS:=
 ts [(25,aeD)] ety [.tmp 4] ajp Try.func11 rfl ⟨Vj,trivial⟩
def akz (I7:T28) (Bz:T45) (KN:T60) (I8:T80) (KO:T81) (BA:T87) (p0:Int) (p1:dJ) (p2:kE) (p3:(List (bV×Int))) (p4:(List (List (bV×Int)))) (p5:dJ) (p6:(List (bV×dJ))) (p7:dJ) (p8:Int) (p9:Int) (p10:Int) (p11:Int) (p12:Int) (p13:Int) (SL:Int) (SN:dJ):Option (Int×Bool×kE×(List (bV×Int))×(List (List (bV×Int)))×dJ×(List (bV×dJ))×dJ×Int×Int×Int×Int×Int×Int×Int×dJ):=
 bif (decide (p9≤p11)) then
  OB (f44 3 0 p2 p3 p4 p5 p6 p7 p8 p9 p10 p11 p12 p13 SL SN) fun c1=>
  some ((0:Int),c1)
 else
  ck (inB p0 p4.length) <|
  ck (inB p0 p5.length) <|
  let n4:=(List.getD p5 p0.toNat 0)
  ck (O_ (8:Nat) n4 n4) <|
  let n5:=(List.replicate n4.toNat (0:Int))
  ck (Nat.ble p1.length n5.length) <|
  ck (inB p0 p2.length) <|
  OB (Bz (List.getD p2 p0.toNat l9).body p2 p3 p4 p5 p6 p7 p8 p9 p10 (gX (p11+1)) p12 p13 SL (List.getD p4 p0.toNat ([]:(List (bV×Int)))) SN (ovL p1 n5)) fun c8=>
  some (c8.1,c8.2.2.1,c8.2.2.2.1,c8.2.2.2.2.1,c8.2.2.2.2.2.1,c8.2.2.2.2.2.2.1,c8.2.2.2.2.2.2.2.1,c8.2.2.2.2.2.2.2.2.1,c8.2.2.2.2.2.2.2.2.2.1,c8.2.2.2.2.2.2.2.2.2.2.1,c8.2.2.2.2.2.2.2.2.2.2.2.1,(gX (c8.2.2.2.2.2.2.2.2.2.2.2.2.1-1)),c8.2.2.2.2.2.2.2.2.2.2.2.2.2.1,c8.2.2.2.2.2.2.2.2.2.2.2.2.2.2.1,c8.2.2.2.2.2.2.2.2.2.2.2.2.2.2.2.1,c8.2.2.2.2.2.2.2.2.2.2.2.2.2.2.2.2.2.2)
def akA (I7:T28) (Bz:T45) (KN:T60) (I8:T80) (KO:T81) (BA:T87) (p0:xI) (p1:kE) (p2:(List (bV×Int))) (p3:(List (List (bV×Int)))) (p4:dJ) (p5:(List (bV×dJ))) (p6:dJ) (p7:Int) (p8:Int) (p9:Int) (p10:Int) (p11:Int) (p12:Int) (p13:Int) (SL:(List (bV×Int))) (SN:dJ) (p16:dJ):Option (Int×Bool×Bool×kE×(List (bV×Int))×(List (List (bV×Int)))×dJ×(List (bV×dJ))×dJ×Int×Int×Int×Int×Int×Int×Int×(List (bV×Int))×dJ×dJ):=
 OB (
  gq (
   dN (fun (s1:(Int×kE×(List (bV×Int))×(List (List (bV×Int)))×dJ×(List (bV×dJ))×dJ×Int×Int×Int×Int×Int×Int×Int×(List (bV×Int))×dJ×dJ))=>
    bif (decide (s1.1<(p0.length:Int))) then
     ck (inB s1.1 p0.length) <|
     let n3:=(List.getD p0 s1.1.toNat oP)
     OB (KN n3.kind n3.line n3.name n3.exprs n3.then' n3.else' s1.2.1 s1.2.2.1 s1.2.2.2.1 s1.2.2.2.2.1 s1.2.2.2.2.2.1 s1.2.2.2.2.2.2.1 s1.2.2.2.2.2.2.2.1 s1.2.2.2.2.2.2.2.2.1 s1.2.2.2.2.2.2.2.2.2.1 s1.2.2.2.2.2.2.2.2.2.2.1 s1.2.2.2.2.2.2.2.2.2.2.2.1 s1.2.2.2.2.2.2.2.2.2.2.2.2.1 s1.2.2.2.2.2.2.2.2.2.2.2.2.2.1 s1.2.2.2.2.2.2.2.2.2.2.2.2.2.2.1 s1.2.2.2.2.2.2.2.2.2.2.2.2.2.2.2.2 s1.2.2.2.2.2.2.2.2.2.2.2.2.2.2.2.1) fun c4=>
     OB (
      bif c4.2.1 then
       some true
      else
       some (!c4.2.2.1)) fun s7=>
     bif s7 then
      some (.inr (.inr c4))
     else
      some (.inl ((gX (s1.1+1)),c4.2.2.2))
    else
     some (.inr (.inl s1.2))) ((0:Int),p1,p2,p3,p4,p5,p6,p7,p8,p9,p10,p11,p12,p13,SL,p16,SN)) fun s9=>
  some ((0:Int),false,true,s9)) fun s10=>
 ck (decide (p16.length=s10.2.2.2.2.2.2.2.2.2.2.2.2.2.2.2.2.2.1.length)) <|
 some s10
def akB (I7:T28) (Bz:T45) (KN:T60) (I8:T80) (KO:T81) (BA:T87) (p0:Int) (p1:Int) (p2:bV) (p3:oq) (p4:xI) (p5:xI) (p6:kE) (p7:(List (bV×Int))) (p8:(List (List (bV×Int)))) (p9:dJ) (p10:(List (bV×dJ))) (p11:dJ) (p12:Int) (p13:Int) (SL:Int) (SN:Int) (p16:Int) (p17:Int) (p18:Int) (p19:(List (bV×Int))) (p20:dJ) (p21:dJ):Option (Int×Bool×Bool×kE×(List (bV×Int))×(List (List (bV×Int)))×dJ×(List (bV×dJ))×dJ×Int×Int×Int×Int×Int×Int×Int×(List (bV×Int))×dJ×dJ):=
 OB (
  OB (f79 p6 p7 p8 p9 p10 p11 p12 p13 SL SN p16 p17 p18 p20) fun c0=>
  bif (!c0.1) then
   some ((0:Int),false,false,c0.2.1,c0.2.2.1,c0.2.2.2.1,c0.2.2.2.2.1,c0.2.2.2.2.2.1,c0.2.2.2.2.2.2.1,c0.2.2.2.2.2.2.2.1,c0.2.2.2.2.2.2.2.2.1,c0.2.2.2.2.2.2.2.2.2.1,c0.2.2.2.2.2.2.2.2.2.2.1,c0.2.2.2.2.2.2.2.2.2.2.2.1,c0.2.2.2.2.2.2.2.2.2.2.2.2.1,c0.2.2.2.2.2.2.2.2.2.2.2.2.2.1,p19,p21,c0.2.2.2.2.2.2.2.2.2.2.2.2.2.2)
  else
   OB (I8 p3 c0.2.1 c0.2.2.1 c0.2.2.2.1 c0.2.2.2.2.1 c0.2.2.2.2.2.1 c0.2.2.2.2.2.2.1 c0.2.2.2.2.2.2.2.1 c0.2.2.2.2.2.2.2.2.1 c0.2.2.2.2.2.2.2.2.2.1 c0.2.2.2.2.2.2.2.2.2.2.1 c0.2.2.2.2.2.2.2.2.2.2.2.1 c0.2.2.2.2.2.2.2.2.2.2.2.2.1 c0.2.2.2.2.2.2.2.2.2.2.2.2.2.1 p19 c0.2.2.2.2.2.2.2.2.2.2.2.2.2.2 p21) fun c2=>
   bif (!c2.1) then
    some ((0:Int),false,false,c2.2.1,c2.2.2.1,c2.2.2.2.1,c2.2.2.2.2.1,c2.2.2.2.2.2.1,c2.2.2.2.2.2.2.1,c2.2.2.2.2.2.2.2.1,c2.2.2.2.2.2.2.2.2.1,c2.2.2.2.2.2.2.2.2.2.1,c2.2.2.2.2.2.2.2.2.2.2.1,c2.2.2.2.2.2.2.2.2.2.2.2.1,c2.2.2.2.2.2.2.2.2.2.2.2.2.1,c2.2.2.2.2.2.2.2.2.2.2.2.2.2.1,c2.2.2.2.2.2.2.2.2.2.2.2.2.2.2.1,c2.2.2.2.2.2.2.2.2.2.2.2.2.2.2.2.1,c2.2.2.2.2.2.2.2.2.2.2.2.2.2.2.2.2.2)
   else
    let n5:=(gX ((c2.2.2.2.2.2.2.2.2.2.2.2.2.2.2.2.2.1.length:Int)-1))
    ck (inB n5 c2.2.2.2.2.2.2.2.2.2.2.2.2.2.2.2.2.1.length) <|
    let n6:=(List.getD c2.2.2.2.2.2.2.2.2.2.2.2.2.2.2.2.2.1 n5.toNat 0)
    gq (
     bif (decide (p0=1)) then
      let n8:=(NJ keyS p2 (0:Int) c2.2.2.2.2.2.2.2.2.2.2.2.2.2.2.1)
      ck (inB n8 c2.2.2.2.2.2.2.2.2.2.2.2.2.2.2.2.1.length) <|
      some (.inl (c2.2.1,c2.2.2.1,c2.2.2.2.1,c2.2.2.2.2.1,c2.2.2.2.2.2.1,c2.2.2.2.2.2.2.1,c2.2.2.2.2.2.2.2.1,c2.2.2.2.2.2.2.2.2.1,c2.2.2.2.2.2.2.2.2.2.1,c2.2.2.2.2.2.2.2.2.2.2.1,c2.2.2.2.2.2.2.2.2.2.2.2.1,c2.2.2.2.2.2.2.2.2.2.2.2.2.1,c2.2.2.2.2.2.2.2.2.2.2.2.2.2.1,(List.set c2.2.2.2.2.2.2.2.2.2.2.2.2.2.2.2.1 n8.toNat n6),c2.2.2.2.2.2.2.2.2.2.2.2.2.2.2.2.2.2))
     else
      gq (
       bif (decide (p0=2)) then
        let n11:=(NJ keyS p2 (0:Int) c2.2.2.2.2.2.2.2.2.2.2.2.2.2.2.1)
        bif (Yy keyS p2 c2.2.2.2.2.2.2.2.2.2.2.2.2.2.2.1) then
         ck (inB n11 c2.2.2.2.2.2.2.2.2.2.2.2.2.2.2.2.1.length) <|
         some (.inl (c2.2.1,c2.2.2.1,c2.2.2.2.1,c2.2.2.2.2.1,c2.2.2.2.2.2.1,c2.2.2.2.2.2.2.1,c2.2.2.2.2.2.2.2.1,c2.2.2.2.2.2.2.2.2.1,c2.2.2.2.2.2.2.2.2.2.1,c2.2.2.2.2.2.2.2.2.2.2.1,c2.2.2.2.2.2.2.2.2.2.2.2.1,c2.2.2.2.2.2.2.2.2.2.2.2.2.1,c2.2.2.2.2.2.2.2.2.2.2.2.2.2.1,(List.set c2.2.2.2.2.2.2.2.2.2.2.2.2.2.2.2.1 n11.toNat n6),c2.2.2.2.2.2.2.2.2.2.2.2.2.2.2.2.2.2))
        else
         ck (inB (0:Int) (NJ keyS p2 eInt c2.2.2.2.2.2.1).length) <|
         none
       else
        bif (decide (p0=3)) then
         let n16:=(NJ keyS p2 eInt c2.2.2.2.2.2.1)
         OB (
          ck (inB (0:Int) c2.2.2.2.2.2.2.2.2.2.2.2.2.2.2.2.2.1.length) <|
          bif (decide ((List.getD c2.2.2.2.2.2.2.2.2.2.2.2.2.2.2.2.2.1 (Int.toNat 0) (0:Int))<0)) then
           some true
          else
           ck (inB (0:Int) c2.2.2.2.2.2.2.2.2.2.2.2.2.2.2.2.2.1.length) <|
           some (decide ((n16.length:Int)≤(List.getD c2.2.2.2.2.2.2.2.2.2.2.2.2.2.2.2.2.1 (Int.toNat 0) (0:Int))))) fun s23=>
         bif s23 then
          OB (f44 2 2 c2.2.1 c2.2.2.1 c2.2.2.2.1 c2.2.2.2.2.1 c2.2.2.2.2.2.1 c2.2.2.2.2.2.2.1 c2.2.2.2.2.2.2.2.1 c2.2.2.2.2.2.2.2.2.1 c2.2.2.2.2.2.2.2.2.2.1 c2.2.2.2.2.2.2.2.2.2.2.1 c2.2.2.2.2.2.2.2.2.2.2.2.1 c2.2.2.2.2.2.2.2.2.2.2.2.2.1 c2.2.2.2.2.2.2.2.2.2.2.2.2.2.1 c2.2.2.2.2.2.2.2.2.2.2.2.2.2.2.2.2.2) fun c24=>
          some (.inr (.inr ((0:Int),false,c24.1,c24.2.1,c24.2.2.1,c24.2.2.2.1,c24.2.2.2.2.1,c24.2.2.2.2.2.1,c24.2.2.2.2.2.2.1,c24.2.2.2.2.2.2.2.1,c24.2.2.2.2.2.2.2.2.1,c24.2.2.2.2.2.2.2.2.2.1,c24.2.2.2.2.2.2.2.2.2.2.1,c24.2.2.2.2.2.2.2.2.2.2.2.1,c24.2.2.2.2.2.2.2.2.2.2.2.2.1,c24.2.2.2.2.2.2.2.2.2.2.2.2.2.1,c2.2.2.2.2.2.2.2.2.2.2.2.2.2.2.1,c2.2.2.2.2.2.2.2.2.2.2.2.2.2.2.2.1,c24.2.2.2.2.2.2.2.2.2.2.2.2.2.2)))
         else
          ck (inB (0:Int) c2.2.2.2.2.2.2.2.2.2.2.2.2.2.2.2.2.1.length) <|
          ck (inB (List.getD c2.2.2.2.2.2.2.2.2.2.2.2.2.2.2.2.2.1 (Int.toNat 0) (0:Int)) n16.length) <|
          none
        else
         bif (decide (p0=4)) then
          bif (!(decide (n6=0))) then
           OB (Bz p4 c2.2.1 c2.2.2.1 c2.2.2.2.1 c2.2.2.2.2.1 c2.2.2.2.2.2.1 c2.2.2.2.2.2.2.1 c2.2.2.2.2.2.2.2.1 c2.2.2.2.2.2.2.2.2.1 c2.2.2.2.2.2.2.2.2.2.1 c2.2.2.2.2.2.2.2.2.2.2.1 c2.2.2.2.2.2.2.2.2.2.2.2.1 c2.2.2.2.2.2.2.2.2.2.2.2.2.1 c2.2.2.2.2.2.2.2.2.2.2.2.2.2.1 c2.2.2.2.2.2.2.2.2.2.2.2.2.2.2.1 c2.2.2.2.2.2.2.2.2.2.2.2.2.2.2.2.2.2 c2.2.2.2.2.2.2.2.2.2.2.2.2.2.2.2.1) fun c29=>
           some (.inr (.inr c29))
          else
           OB (Bz p5 c2.2.1 c2.2.2.1 c2.2.2.2.1 c2.2.2.2.2.1 c2.2.2.2.2.2.1 c2.2.2.2.2.2.2.1 c2.2.2.2.2.2.2.2.1 c2.2.2.2.2.2.2.2.2.1 c2.2.2.2.2.2.2.2.2.2.1 c2.2.2.2.2.2.2.2.2.2.2.1 c2.2.2.2.2.2.2.2.2.2.2.2.1 c2.2.2.2.2.2.2.2.2.2.2.2.2.1 c2.2.2.2.2.2.2.2.2.2.2.2.2.2.1 c2.2.2.2.2.2.2.2.2.2.2.2.2.2.2.1 c2.2.2.2.2.2.2.2.2.2.2.2.2.2.2.2.2.2 c2.2.2.2.2.2.2.2.2.2.2.2.2.2.2.2.1) fun c30=>
           some (.inr (.inr c30))
         else
          bif (decide (p0=5)) then
           OB (KO p0 p1 p2 p3 p4 p5 n6 c2.2.1 c2.2.2.1 c2.2.2.2.1 c2.2.2.2.2.1 c2.2.2.2.2.2.1 c2.2.2.2.2.2.2.1 c2.2.2.2.2.2.2.2.1 c2.2.2.2.2.2.2.2.2.1 c2.2.2.2.2.2.2.2.2.2.1 c2.2.2.2.2.2.2.2.2.2.2.1 c2.2.2.2.2.2.2.2.2.2.2.2.1 c2.2.2.2.2.2.2.2.2.2.2.2.2.1 c2.2.2.2.2.2.2.2.2.2.2.2.2.2.1 c2.2.2.2.2.2.2.2.2.2.2.2.2.2.2.1 c2.2.2.2.2.2.2.2.2.2.2.2.2.2.2.2.2.2 c2.2.2.2.2.2.2.2.2.2.2.2.2.2.2.2.1) fun c32=>
           some (.inr (.inr c32))
          else
           bif (decide (p0=6)) then
            some (.inr (.inr (n6,true,true,c2.2.1,c2.2.2.1,c2.2.2.2.1,c2.2.2.2.2.1,c2.2.2.2.2.2.1,c2.2.2.2.2.2.2.1,c2.2.2.2.2.2.2.2.1,c2.2.2.2.2.2.2.2.2.1,c2.2.2.2.2.2.2.2.2.2.1,c2.2.2.2.2.2.2.2.2.2.2.1,c2.2.2.2.2.2.2.2.2.2.2.2.1,c2.2.2.2.2.2.2.2.2.2.2.2.2.1,c2.2.2.2.2.2.2.2.2.2.2.2.2.2.1,c2.2.2.2.2.2.2.2.2.2.2.2.2.2.2.1,c2.2.2.2.2.2.2.2.2.2.2.2.2.2.2.2.1,c2.2.2.2.2.2.2.2.2.2.2.2.2.2.2.2.2.2)))
           else
            gq (
             bif (decide (p0=7)) then
              bif (decide (4096≤(c2.2.2.2.2.2.2.2.2.2.2.2.2.2.2.2.2.2.length:Int))) then
               OB (f44 3 0 c2.2.1 c2.2.2.1 c2.2.2.2.1 c2.2.2.2.2.1 c2.2.2.2.2.2.1 c2.2.2.2.2.2.2.1 c2.2.2.2.2.2.2.2.1 c2.2.2.2.2.2.2.2.2.1 c2.2.2.2.2.2.2.2.2.2.1 c2.2.2.2.2.2.2.2.2.2.2.1 c2.2.2.2.2.2.2.2.2.2.2.2.1 c2.2.2.2.2.2.2.2.2.2.2.2.2.1 c2.2.2.2.2.2.2.2.2.2.2.2.2.2.1 c2.2.2.2.2.2.2.2.2.2.2.2.2.2.2.2.2.2) fun c37=>
               some (.inr (.inr (.inr ((0:Int),false,c37.1,c37.2.1,c37.2.2.1,c37.2.2.2.1,c37.2.2.2.2.1,c37.2.2.2.2.2.1,c37.2.2.2.2.2.2.1,c37.2.2.2.2.2.2.2.1,c37.2.2.2.2.2.2.2.2.1,c37.2.2.2.2.2.2.2.2.2.1,c37.2.2.2.2.2.2.2.2.2.2.1,c37.2.2.2.2.2.2.2.2.2.2.2.1,c37.2.2.2.2.2.2.2.2.2.2.2.2.1,c37.2.2.2.2.2.2.2.2.2.2.2.2.2.1,c2.2.2.2.2.2.2.2.2.2.2.2.2.2.2.1,c2.2.2.2.2.2.2.2.2.2.2.2.2.2.2.2.1,c37.2.2.2.2.2.2.2.2.2.2.2.2.2.2))))
              else
               let n38:=[n6]
               ck (jk c2.2.2.2.2.2.2.2.2.2.2.2.2.2.2.2.2.2.length n38.length 8) <|
               some (.inl (c2.2.1,c2.2.2.1,c2.2.2.2.1,c2.2.2.2.2.1,c2.2.2.2.2.2.1,c2.2.2.2.2.2.2.1,c2.2.2.2.2.2.2.2.1,c2.2.2.2.2.2.2.2.2.1,c2.2.2.2.2.2.2.2.2.2.1,c2.2.2.2.2.2.2.2.2.2.2.1,c2.2.2.2.2.2.2.2.2.2.2.2.1,c2.2.2.2.2.2.2.2.2.2.2.2.2.1,c2.2.2.2.2.2.2.2.2.2.2.2.2.2.1,(c2.2.2.2.2.2.2.2.2.2.2.2.2.2.2.2.2.2++n38)))
             else
              some (.inl (c2.2.1,c2.2.2.1,c2.2.2.2.1,c2.2.2.2.2.1,c2.2.2.2.2.2.1,c2.2.2.2.2.2.2.1,c2.2.2.2.2.2.2.2.1,c2.2.2.2.2.2.2.2.2.1,c2.2.2.2.2.2.2.2.2.2.1,c2.2.2.2.2.2.2.2.2.2.2.1,c2.2.2.2.2.2.2.2.2.2.2.2.1,c2.2.2.2.2.2.2.2.2.2.2.2.2.1,c2.2.2.2.2.2.2.2.2.2.2.2.2.2.1,c2.2.2.2.2.2.2.2.2.2.2.2.2.2.2.2.2.2))) fun Qw=>
            some (.inl (Qw.1,Qw.2.1,Qw.2.2.1,Qw.2.2.2.1,Qw.2.2.2.2.1,Qw.2.2.2.2.2.1,Qw.2.2.2.2.2.2.1,Qw.2.2.2.2.2.2.2.1,Qw.2.2.2.2.2.2.2.2.1,Qw.2.2.2.2.2.2.2.2.2.1,Qw.2.2.2.2.2.2.2.2.2.2.1,Qw.2.2.2.2.2.2.2.2.2.2.2.1,Qw.2.2.2.2.2.2.2.2.2.2.2.2.1,c2.2.2.2.2.2.2.2.2.2.2.2.2.2.2.2.1,Qw.2.2.2.2.2.2.2.2.2.2.2.2.2))) fun SY=>
      some (.inl SY)) fun Vs=>
    some ((0:Int),false,true,Vs.1,Vs.2.1,Vs.2.2.1,Vs.2.2.2.1,Vs.2.2.2.2.1,Vs.2.2.2.2.2.1,Vs.2.2.2.2.2.2.1,Vs.2.2.2.2.2.2.2.1,Vs.2.2.2.2.2.2.2.2.1,Vs.2.2.2.2.2.2.2.2.2.1,Vs.2.2.2.2.2.2.2.2.2.2.1,Vs.2.2.2.2.2.2.2.2.2.2.2.1,Vs.2.2.2.2.2.2.2.2.2.2.2.2.1,c2.2.2.2.2.2.2.2.2.2.2.2.2.2.2.1,Vs.2.2.2.2.2.2.2.2.2.2.2.2.2)) fun s43=>
 ck (decide (p21.length=s43.2.2.2.2.2.2.2.2.2.2.2.2.2.2.2.2.2.1.length)) <|
 some s43
def akC (I7:T28) (Bz:T45) (KN:T60) (I8:T80) (KO:T81) (BA:T87) (p0:oq) (p1:kE) (p2:(List (bV×Int))) (p3:(List (List (bV×Int)))) (p4:dJ) (p5:(List (bV×dJ))) (p6:dJ) (p7:Int) (p8:Int) (p9:Int) (p10:Int) (p11:Int) (p12:Int) (p13:Int) (SL:(List (bV×Int))) (SN:dJ) (p16:dJ):Option (Bool×kE×(List (bV×Int))×(List (List (bV×Int)))×dJ×(List (bV×dJ))×dJ×Int×Int×Int×Int×Int×Int×Int×(List (bV×Int))×dJ×dJ×dJ):=
 OB (
  ck (O_ (8:Nat) (0:Int) (p0.length:Int)) <|
  gq (
   dN (fun (s3:(Int×kE×(List (bV×Int))×(List (List (bV×Int)))×dJ×(List (bV×dJ))×dJ×Int×Int×Int×Int×Int×Int×Int×(List (bV×Int))×dJ×dJ×dJ))=>
    bif (decide (s3.1<(p0.length:Int))) then
     ck (inB s3.1 p0.length) <|
     let n5:=(List.getD p0 s3.1.toNat oO)
     OB (BA n5.kind n5.op n5.value n5.line n5.name n5.args s3.2.1 s3.2.2.1 s3.2.2.2.1 s3.2.2.2.2.1 s3.2.2.2.2.2.1 s3.2.2.2.2.2.2.1 s3.2.2.2.2.2.2.2.1 s3.2.2.2.2.2.2.2.2.1 s3.2.2.2.2.2.2.2.2.2.1 s3.2.2.2.2.2.2.2.2.2.2.1 s3.2.2.2.2.2.2.2.2.2.2.2.1 s3.2.2.2.2.2.2.2.2.2.2.2.2.1 s3.2.2.2.2.2.2.2.2.2.2.2.2.2.1 s3.2.2.2.2.2.2.2.2.2.2.2.2.2.2.1 s3.2.2.2.2.2.2.2.2.2.2.2.2.2.2.2.2.2 s3.2.2.2.2.2.2.2.2.2.2.2.2.2.2.2.1) fun c6=>
     bif (!c6.2.1) then
      some (.inr (.inr (false,c6.2.2.1,c6.2.2.2.1,c6.2.2.2.2.1,c6.2.2.2.2.2.1,c6.2.2.2.2.2.2.1,c6.2.2.2.2.2.2.2.1,c6.2.2.2.2.2.2.2.2.1,c6.2.2.2.2.2.2.2.2.2.1,c6.2.2.2.2.2.2.2.2.2.2.1,c6.2.2.2.2.2.2.2.2.2.2.2.1,c6.2.2.2.2.2.2.2.2.2.2.2.2.1,c6.2.2.2.2.2.2.2.2.2.2.2.2.2.1,c6.2.2.2.2.2.2.2.2.2.2.2.2.2.2.1,c6.2.2.2.2.2.2.2.2.2.2.2.2.2.2.2.1,c6.2.2.2.2.2.2.2.2.2.2.2.2.2.2.2.2.1,eInt,c6.2.2.2.2.2.2.2.2.2.2.2.2.2.2.2.2.2)))
     else
      let n8:=[c6.1]
      ck (jk s3.2.2.2.2.2.2.2.2.2.2.2.2.2.2.2.2.1.length n8.length 8) <|
      some (.inl ((gX (s3.1+1)),c6.2.2.1,c6.2.2.2.1,c6.2.2.2.2.1,c6.2.2.2.2.2.1,c6.2.2.2.2.2.2.1,c6.2.2.2.2.2.2.2.1,c6.2.2.2.2.2.2.2.2.1,c6.2.2.2.2.2.2.2.2.2.1,c6.2.2.2.2.2.2.2.2.2.2.1,c6.2.2.2.2.2.2.2.2.2.2.2.1,c6.2.2.2.2.2.2.2.2.2.2.2.2.1,c6.2.2.2.2.2.2.2.2.2.2.2.2.2.1,c6.2.2.2.2.2.2.2.2.2.2.2.2.2.2.1,c6.2.2.2.2.2.2.2.2.2.2.2.2.2.2.2.1,c6.2.2.2.2.2.2.2.2.2.2.2.2.2.2.2.2.1,(s3.2.2.2.2.2.2.2.2.2.2.2.2.2.2.2.2.1++n8),c6.2.2.2.2.2.2.2.2.2.2.2.2.2.2.2.2.2))
    else
     some (.inr (.inl s3.2))) ((0:Int),p1,p2,p3,p4,p5,p6,p7,p8,p9,p10,p11,p12,p13,SL,p16,(List.replicate (Int.toNat (0:Int)) (0:Int)),SN)) fun s11=>
  some (true,s11)) fun s12=>
 ck (decide (p16.length=s12.2.2.2.2.2.2.2.2.2.2.2.2.2.2.2.1.length)) <|
 some s12
def akD (I7:T28) (Bz:T45) (KN:T60) (I8:T80) (KO:T81) (BA:T87) (p0:Int) (p1:Int) (p2:bV) (p3:oq) (p4:xI) (p5:xI) (p6:Int) (p7:kE) (p8:(List (bV×Int))) (p9:(List (List (bV×Int)))) (p10:dJ) (p11:(List (bV×dJ))) (p12:dJ) (p13:Int) (SL:Int) (SN:Int) (p16:Int) (p17:Int) (p18:Int) (p19:Int) (p20:(List (bV×Int))) (p21:dJ) (p22:dJ):Option (Int×Bool×Bool×kE×(List (bV×Int))×(List (List (bV×Int)))×dJ×(List (bV×dJ))×dJ×Int×Int×Int×Int×Int×Int×Int×(List (bV×Int))×dJ×dJ):=
 OB (
  gq (
   dN (fun (s0:(Int×kE×(List (bV×Int))×(List (List (bV×Int)))×dJ×(List (bV×dJ))×dJ×Int×Int×Int×Int×Int×Int×Int×(List (bV×Int))×dJ×dJ))=>
    bif (!(decide (s0.1=0))) then
     OB (Bz p4 s0.2.1 s0.2.2.1 s0.2.2.2.1 s0.2.2.2.2.1 s0.2.2.2.2.2.1 s0.2.2.2.2.2.2.1 s0.2.2.2.2.2.2.2.1 s0.2.2.2.2.2.2.2.2.1 s0.2.2.2.2.2.2.2.2.2.1 s0.2.2.2.2.2.2.2.2.2.2.1 s0.2.2.2.2.2.2.2.2.2.2.2.1 s0.2.2.2.2.2.2.2.2.2.2.2.2.1 s0.2.2.2.2.2.2.2.2.2.2.2.2.2.1 s0.2.2.2.2.2.2.2.2.2.2.2.2.2.2.1 s0.2.2.2.2.2.2.2.2.2.2.2.2.2.2.2.2 s0.2.2.2.2.2.2.2.2.2.2.2.2.2.2.2.1) fun c2=>
     OB (
      bif c2.2.1 then
       some true
      else
       some (!c2.2.2.1)) fun s5=>
     bif s5 then
      some (.inr (.inr c2))
     else
      OB (f79 c2.2.2.2.1 c2.2.2.2.2.1 c2.2.2.2.2.2.1 c2.2.2.2.2.2.2.1 c2.2.2.2.2.2.2.2.1 c2.2.2.2.2.2.2.2.2.1 c2.2.2.2.2.2.2.2.2.2.1 c2.2.2.2.2.2.2.2.2.2.2.1 c2.2.2.2.2.2.2.2.2.2.2.2.1 c2.2.2.2.2.2.2.2.2.2.2.2.2.1 c2.2.2.2.2.2.2.2.2.2.2.2.2.2.1 c2.2.2.2.2.2.2.2.2.2.2.2.2.2.2.1 c2.2.2.2.2.2.2.2.2.2.2.2.2.2.2.2.1 c2.2.2.2.2.2.2.2.2.2.2.2.2.2.2.2.2.2.2) fun c6=>
      bif (!c6.1) then
       some (.inr (.inr ((0:Int),false,false,c6.2.1,c6.2.2.1,c6.2.2.2.1,c6.2.2.2.2.1,c6.2.2.2.2.2.1,c6.2.2.2.2.2.2.1,c6.2.2.2.2.2.2.2.1,c6.2.2.2.2.2.2.2.2.1,c6.2.2.2.2.2.2.2.2.2.1,c6.2.2.2.2.2.2.2.2.2.2.1,c6.2.2.2.2.2.2.2.2.2.2.2.1,c6.2.2.2.2.2.2.2.2.2.2.2.2.1,c6.2.2.2.2.2.2.2.2.2.2.2.2.2.1,c2.2.2.2.2.2.2.2.2.2.2.2.2.2.2.2.2.1,c2.2.2.2.2.2.2.2.2.2.2.2.2.2.2.2.2.2.1,c6.2.2.2.2.2.2.2.2.2.2.2.2.2.2)))
      else
       ck (inB (0:Int) p3.length) <|
       let n8:=(List.getD p3 (Int.toNat 0) oO)
       OB (BA n8.kind n8.op n8.value n8.line n8.name n8.args c6.2.1 c6.2.2.1 c6.2.2.2.1 c6.2.2.2.2.1 c6.2.2.2.2.2.1 c6.2.2.2.2.2.2.1 c6.2.2.2.2.2.2.2.1 c6.2.2.2.2.2.2.2.2.1 c6.2.2.2.2.2.2.2.2.2.1 c6.2.2.2.2.2.2.2.2.2.2.1 c6.2.2.2.2.2.2.2.2.2.2.2.1 c6.2.2.2.2.2.2.2.2.2.2.2.2.1 c6.2.2.2.2.2.2.2.2.2.2.2.2.2.1 c2.2.2.2.2.2.2.2.2.2.2.2.2.2.2.2.2.1 c6.2.2.2.2.2.2.2.2.2.2.2.2.2.2 c2.2.2.2.2.2.2.2.2.2.2.2.2.2.2.2.2.2.1) fun c9=>
       bif (!c9.2.1) then
        some (.inr (.inr ((0:Int),false,false,c9.2.2)))
       else
        some (.inl (c9.1,c9.2.2.1,c9.2.2.2.1,c9.2.2.2.2.1,c9.2.2.2.2.2.1,c9.2.2.2.2.2.2.1,c9.2.2.2.2.2.2.2.1,c9.2.2.2.2.2.2.2.2.1,c9.2.2.2.2.2.2.2.2.2.1,c9.2.2.2.2.2.2.2.2.2.2.1,c9.2.2.2.2.2.2.2.2.2.2.2.1,c9.2.2.2.2.2.2.2.2.2.2.2.2.1,c9.2.2.2.2.2.2.2.2.2.2.2.2.2.1,c9.2.2.2.2.2.2.2.2.2.2.2.2.2.2.1,c9.2.2.2.2.2.2.2.2.2.2.2.2.2.2.2.1,c9.2.2.2.2.2.2.2.2.2.2.2.2.2.2.2.2.1,c9.2.2.2.2.2.2.2.2.2.2.2.2.2.2.2.2.2))
    else
     some (.inr (.inl s0.2))) (p6,p7,p8,p9,p10,p11,p12,p13,SL,SN,p16,p17,p18,p19,p20,p22,p21)) fun s11=>
  some ((0:Int),false,true,s11)) fun s12=>
 ck (decide (p22.length=s12.2.2.2.2.2.2.2.2.2.2.2.2.2.2.2.2.2.1.length)) <|
 some s12
def akE (I7:T28) (Bz:T45) (KN:T60) (I8:T80) (KO:T81) (BA:T87) (p0:Int) (p1:Int) (p2:Int) (p3:Int) (p4:bV) (p5:oq) (p6:kE) (p7:(List (bV×Int))) (p8:(List (List (bV×Int)))) (p9:dJ) (p10:(List (bV×dJ))) (p11:dJ) (p12:Int) (p13:Int) (SL:Int) (SN:Int) (p16:Int) (p17:Int) (p18:Int) (p19:(List (bV×Int))) (p20:dJ) (p21:dJ):Option (Int×Bool×kE×(List (bV×Int))×(List (List (bV×Int)))×dJ×(List (bV×dJ))×dJ×Int×Int×Int×Int×Int×Int×Int×(List (bV×Int))×dJ×dJ):=
 OB (
  OB (f79 p6 p7 p8 p9 p10 p11 p12 p13 SL SN p16 p17 p18 p20) fun c0=>
  bif (!c0.1) then
   some ((0:Int),false,c0.2.1,c0.2.2.1,c0.2.2.2.1,c0.2.2.2.2.1,c0.2.2.2.2.2.1,c0.2.2.2.2.2.2.1,c0.2.2.2.2.2.2.2.1,c0.2.2.2.2.2.2.2.2.1,c0.2.2.2.2.2.2.2.2.2.1,c0.2.2.2.2.2.2.2.2.2.2.1,c0.2.2.2.2.2.2.2.2.2.2.2.1,c0.2.2.2.2.2.2.2.2.2.2.2.2.1,c0.2.2.2.2.2.2.2.2.2.2.2.2.2.1,p19,p21,c0.2.2.2.2.2.2.2.2.2.2.2.2.2.2)
  else
   OB (
    bif (decide (p0=7)) then
     some true
    else
     some (decide (p0=8))) fun s5=>
   bif s5 then
    ck (inB (0:Int) p5.length) <|
    let n6:=(List.getD p5 (Int.toNat 0) oO)
    OB (BA n6.kind n6.op n6.value n6.line n6.name n6.args c0.2.1 c0.2.2.1 c0.2.2.2.1 c0.2.2.2.2.1 c0.2.2.2.2.2.1 c0.2.2.2.2.2.2.1 c0.2.2.2.2.2.2.2.1 c0.2.2.2.2.2.2.2.2.1 c0.2.2.2.2.2.2.2.2.2.1 c0.2.2.2.2.2.2.2.2.2.2.1 c0.2.2.2.2.2.2.2.2.2.2.2.1 c0.2.2.2.2.2.2.2.2.2.2.2.2.1 c0.2.2.2.2.2.2.2.2.2.2.2.2.2.1 p19 c0.2.2.2.2.2.2.2.2.2.2.2.2.2.2 p21) fun c7=>
    OB (
     bif c7.2.1 then
      some ((!(decide (c7.1=0)))==(decide (p0=7)))
     else
      some false) fun s12=>
    OB (
     bif s12 then
      ck (inB (1:Int) p5.length) <|
      let n13:=(List.getD p5 (Int.toNat 1) oO)
      OB (BA n13.kind n13.op n13.value n13.line n13.name n13.args c7.2.2.1 c7.2.2.2.1 c7.2.2.2.2.1 c7.2.2.2.2.2.1 c7.2.2.2.2.2.2.1 c7.2.2.2.2.2.2.2.1 c7.2.2.2.2.2.2.2.2.1 c7.2.2.2.2.2.2.2.2.2.1 c7.2.2.2.2.2.2.2.2.2.2.1 c7.2.2.2.2.2.2.2.2.2.2.2.1 c7.2.2.2.2.2.2.2.2.2.2.2.2.1 c7.2.2.2.2.2.2.2.2.2.2.2.2.2.1 c7.2.2.2.2.2.2.2.2.2.2.2.2.2.2.1 c7.2.2.2.2.2.2.2.2.2.2.2.2.2.2.2.1 c7.2.2.2.2.2.2.2.2.2.2.2.2.2.2.2.2.2 c7.2.2.2.2.2.2.2.2.2.2.2.2.2.2.2.2.1) fun c14=>
      some c14
     else
      some c7) fun s15=>
    OB (f24 (!(decide (s15.1=0)))) fun c17=>
    some (c17,s15.2)
   else
    OB (I8 p5 c0.2.1 c0.2.2.1 c0.2.2.2.1 c0.2.2.2.2.1 c0.2.2.2.2.2.1 c0.2.2.2.2.2.2.1 c0.2.2.2.2.2.2.2.1 c0.2.2.2.2.2.2.2.2.1 c0.2.2.2.2.2.2.2.2.2.1 c0.2.2.2.2.2.2.2.2.2.2.1 c0.2.2.2.2.2.2.2.2.2.2.2.1 c0.2.2.2.2.2.2.2.2.2.2.2.2.1 c0.2.2.2.2.2.2.2.2.2.2.2.2.2.1 p19 c0.2.2.2.2.2.2.2.2.2.2.2.2.2.2 p21) fun c18=>
    bif (!c18.1) then
     some ((0:Int),false,c18.2.1,c18.2.2.1,c18.2.2.2.1,c18.2.2.2.2.1,c18.2.2.2.2.2.1,c18.2.2.2.2.2.2.1,c18.2.2.2.2.2.2.2.1,c18.2.2.2.2.2.2.2.2.1,c18.2.2.2.2.2.2.2.2.2.1,c18.2.2.2.2.2.2.2.2.2.2.1,c18.2.2.2.2.2.2.2.2.2.2.2.1,c18.2.2.2.2.2.2.2.2.2.2.2.2.1,c18.2.2.2.2.2.2.2.2.2.2.2.2.2.1,c18.2.2.2.2.2.2.2.2.2.2.2.2.2.2.1,c18.2.2.2.2.2.2.2.2.2.2.2.2.2.2.2.1,c18.2.2.2.2.2.2.2.2.2.2.2.2.2.2.2.2.2)
    else
     bif (decide (p0=1)) then
      some (p2,true,c18.2.1,c18.2.2.1,c18.2.2.2.1,c18.2.2.2.2.1,c18.2.2.2.2.2.1,c18.2.2.2.2.2.2.1,c18.2.2.2.2.2.2.2.1,c18.2.2.2.2.2.2.2.2.1,c18.2.2.2.2.2.2.2.2.2.1,c18.2.2.2.2.2.2.2.2.2.2.1,c18.2.2.2.2.2.2.2.2.2.2.2.1,c18.2.2.2.2.2.2.2.2.2.2.2.2.1,c18.2.2.2.2.2.2.2.2.2.2.2.2.2.1,c18.2.2.2.2.2.2.2.2.2.2.2.2.2.2.1,c18.2.2.2.2.2.2.2.2.2.2.2.2.2.2.2.1,c18.2.2.2.2.2.2.2.2.2.2.2.2.2.2.2.2.2)
     else
      bif (decide (p0=2)) then
       let n22:=(NJ keyS p4 (0:Int) c18.2.2.2.2.2.2.2.2.2.2.2.2.2.2.1)
       ck (inB n22 c18.2.2.2.2.2.2.2.2.2.2.2.2.2.2.2.1.length) <|
       some ((List.getD c18.2.2.2.2.2.2.2.2.2.2.2.2.2.2.2.1 n22.toNat 0),true,c18.2.1,c18.2.2.1,c18.2.2.2.1,c18.2.2.2.2.1,c18.2.2.2.2.2.1,c18.2.2.2.2.2.2.1,c18.2.2.2.2.2.2.2.1,c18.2.2.2.2.2.2.2.2.1,c18.2.2.2.2.2.2.2.2.2.1,c18.2.2.2.2.2.2.2.2.2.2.1,c18.2.2.2.2.2.2.2.2.2.2.2.1,c18.2.2.2.2.2.2.2.2.2.2.2.2.1,c18.2.2.2.2.2.2.2.2.2.2.2.2.2.1,c18.2.2.2.2.2.2.2.2.2.2.2.2.2.2.1,c18.2.2.2.2.2.2.2.2.2.2.2.2.2.2.2.1,c18.2.2.2.2.2.2.2.2.2.2.2.2.2.2.2.2.2)
      else
       bif (decide (p0=3)) then
        let n25:=(NJ keyS p4 eInt c18.2.2.2.2.2.1)
        ck (inB (0:Int) n25.length) <|
        some ((List.getD n25 (Int.toNat 0) (0:Int)),true,c18.2.1,c18.2.2.1,c18.2.2.2.1,c18.2.2.2.2.1,c18.2.2.2.2.2.1,c18.2.2.2.2.2.2.1,c18.2.2.2.2.2.2.2.1,c18.2.2.2.2.2.2.2.2.1,c18.2.2.2.2.2.2.2.2.2.1,c18.2.2.2.2.2.2.2.2.2.2.1,c18.2.2.2.2.2.2.2.2.2.2.2.1,c18.2.2.2.2.2.2.2.2.2.2.2.2.1,c18.2.2.2.2.2.2.2.2.2.2.2.2.2.1,c18.2.2.2.2.2.2.2.2.2.2.2.2.2.2.1,c18.2.2.2.2.2.2.2.2.2.2.2.2.2.2.2.1,c18.2.2.2.2.2.2.2.2.2.2.2.2.2.2.2.2.2)
       else
        bif (decide (p0=4)) then
         let n28:=(NJ keyS p4 eInt c18.2.2.2.2.2.1)
         OB (
          ck (inB (0:Int) c18.2.2.2.2.2.2.2.2.2.2.2.2.2.2.2.2.1.length) <|
          bif (decide ((List.getD c18.2.2.2.2.2.2.2.2.2.2.2.2.2.2.2.2.1 (Int.toNat 0) (0:Int))<0)) then
           some true
          else
           ck (inB (0:Int) c18.2.2.2.2.2.2.2.2.2.2.2.2.2.2.2.2.1.length) <|
           some (decide ((n28.length:Int)≤(List.getD c18.2.2.2.2.2.2.2.2.2.2.2.2.2.2.2.2.1 (Int.toNat 0) (0:Int))))) fun s35=>
         bif s35 then
          OB (f44 2 2 c18.2.1 c18.2.2.1 c18.2.2.2.1 c18.2.2.2.2.1 c18.2.2.2.2.2.1 c18.2.2.2.2.2.2.1 c18.2.2.2.2.2.2.2.1 c18.2.2.2.2.2.2.2.2.1 c18.2.2.2.2.2.2.2.2.2.1 c18.2.2.2.2.2.2.2.2.2.2.1 c18.2.2.2.2.2.2.2.2.2.2.2.1 c18.2.2.2.2.2.2.2.2.2.2.2.2.1 c18.2.2.2.2.2.2.2.2.2.2.2.2.2.1 c18.2.2.2.2.2.2.2.2.2.2.2.2.2.2.2.2.2) fun S9=>
          some ((0:Int),S9.1,S9.2.1,S9.2.2.1,S9.2.2.2.1,S9.2.2.2.2.1,S9.2.2.2.2.2.1,S9.2.2.2.2.2.2.1,S9.2.2.2.2.2.2.2.1,S9.2.2.2.2.2.2.2.2.1,S9.2.2.2.2.2.2.2.2.2.1,S9.2.2.2.2.2.2.2.2.2.2.1,S9.2.2.2.2.2.2.2.2.2.2.2.1,S9.2.2.2.2.2.2.2.2.2.2.2.2.1,S9.2.2.2.2.2.2.2.2.2.2.2.2.2.1,c18.2.2.2.2.2.2.2.2.2.2.2.2.2.2.1,c18.2.2.2.2.2.2.2.2.2.2.2.2.2.2.2.1,S9.2.2.2.2.2.2.2.2.2.2.2.2.2.2)
         else
          ck (inB (0:Int) c18.2.2.2.2.2.2.2.2.2.2.2.2.2.2.2.2.1.length) <|
          let n37:=(List.getD c18.2.2.2.2.2.2.2.2.2.2.2.2.2.2.2.2.1 (Int.toNat 0) (0:Int))
          ck (inB n37 n28.length) <|
          some ((List.getD n28 n37.toNat 0),true,c18.2.1,c18.2.2.1,c18.2.2.2.1,c18.2.2.2.2.1,c18.2.2.2.2.2.1,c18.2.2.2.2.2.2.1,c18.2.2.2.2.2.2.2.1,c18.2.2.2.2.2.2.2.2.1,c18.2.2.2.2.2.2.2.2.2.1,c18.2.2.2.2.2.2.2.2.2.2.1,c18.2.2.2.2.2.2.2.2.2.2.2.1,c18.2.2.2.2.2.2.2.2.2.2.2.2.1,c18.2.2.2.2.2.2.2.2.2.2.2.2.2.1,c18.2.2.2.2.2.2.2.2.2.2.2.2.2.2.1,c18.2.2.2.2.2.2.2.2.2.2.2.2.2.2.2.1,c18.2.2.2.2.2.2.2.2.2.2.2.2.2.2.2.2.2)
        else
         bif (decide (p0=5)) then
          ck (inB (0:Int) c18.2.2.2.2.2.2.2.2.2.2.2.2.2.2.2.2.1.length) <|
          OB (f10 p1 (List.getD c18.2.2.2.2.2.2.2.2.2.2.2.2.2.2.2.2.1 (Int.toNat 0) (0:Int))) fun c41=>
          some (c41,true,c18.2.1,c18.2.2.1,c18.2.2.2.1,c18.2.2.2.2.1,c18.2.2.2.2.2.1,c18.2.2.2.2.2.2.1,c18.2.2.2.2.2.2.2.1,c18.2.2.2.2.2.2.2.2.1,c18.2.2.2.2.2.2.2.2.2.1,c18.2.2.2.2.2.2.2.2.2.2.1,c18.2.2.2.2.2.2.2.2.2.2.2.1,c18.2.2.2.2.2.2.2.2.2.2.2.2.1,c18.2.2.2.2.2.2.2.2.2.2.2.2.2.1,c18.2.2.2.2.2.2.2.2.2.2.2.2.2.2.1,c18.2.2.2.2.2.2.2.2.2.2.2.2.2.2.2.1,c18.2.2.2.2.2.2.2.2.2.2.2.2.2.2.2.2.2)
         else
          bif (decide (p0=6)) then
           ck (inB (0:Int) c18.2.2.2.2.2.2.2.2.2.2.2.2.2.2.2.2.1.length) <|
           ck (inB (1:Int) c18.2.2.2.2.2.2.2.2.2.2.2.2.2.2.2.2.1.length) <|
           OB (f8 p1 (List.getD c18.2.2.2.2.2.2.2.2.2.2.2.2.2.2.2.2.1 (Int.toNat 0) (0:Int)) (List.getD c18.2.2.2.2.2.2.2.2.2.2.2.2.2.2.2.2.1 (Int.toNat 1) (0:Int))) fun c45=>
           OB (
            bif c45.2 then
             some (c45.1,true,c18.2.1,c18.2.2.1,c18.2.2.2.1,c18.2.2.2.2.1,c18.2.2.2.2.2.1,c18.2.2.2.2.2.2.1,c18.2.2.2.2.2.2.2.1,c18.2.2.2.2.2.2.2.2.1,c18.2.2.2.2.2.2.2.2.2.1,c18.2.2.2.2.2.2.2.2.2.2.1,c18.2.2.2.2.2.2.2.2.2.2.2.1,c18.2.2.2.2.2.2.2.2.2.2.2.2.1,c18.2.2.2.2.2.2.2.2.2.2.2.2.2.1,c18.2.2.2.2.2.2.2.2.2.2.2.2.2.2.2.2.2)
            else
             OB (f44 2 1 c18.2.1 c18.2.2.1 c18.2.2.2.1 c18.2.2.2.2.1 c18.2.2.2.2.2.1 c18.2.2.2.2.2.2.1 c18.2.2.2.2.2.2.2.1 c18.2.2.2.2.2.2.2.2.1 c18.2.2.2.2.2.2.2.2.2.1 c18.2.2.2.2.2.2.2.2.2.2.1 c18.2.2.2.2.2.2.2.2.2.2.2.1 c18.2.2.2.2.2.2.2.2.2.2.2.2.1 c18.2.2.2.2.2.2.2.2.2.2.2.2.2.1 c18.2.2.2.2.2.2.2.2.2.2.2.2.2.2.2.2.2) fun c46=>
             some (c45.1,c46)) fun Qx=>
           some (Qx.1,Qx.2.1,Qx.2.2.1,Qx.2.2.2.1,Qx.2.2.2.2.1,Qx.2.2.2.2.2.1,Qx.2.2.2.2.2.2.1,Qx.2.2.2.2.2.2.2.1,Qx.2.2.2.2.2.2.2.2.1,Qx.2.2.2.2.2.2.2.2.2.1,Qx.2.2.2.2.2.2.2.2.2.2.1,Qx.2.2.2.2.2.2.2.2.2.2.2.1,Qx.2.2.2.2.2.2.2.2.2.2.2.2.1,Qx.2.2.2.2.2.2.2.2.2.2.2.2.2.1,Qx.2.2.2.2.2.2.2.2.2.2.2.2.2.2.1,c18.2.2.2.2.2.2.2.2.2.2.2.2.2.2.1,c18.2.2.2.2.2.2.2.2.2.2.2.2.2.2.2.1,Qx.2.2.2.2.2.2.2.2.2.2.2.2.2.2.2)
          else
           bif (decide (p0=9)) then
            OB (I7 (NJ keyS p4 (0:Int) c18.2.2.1) c18.2.2.2.2.2.2.2.2.2.2.2.2.2.2.2.2.1 c18.2.1 c18.2.2.1 c18.2.2.2.1 c18.2.2.2.2.1 c18.2.2.2.2.2.1 c18.2.2.2.2.2.2.1 c18.2.2.2.2.2.2.2.1 c18.2.2.2.2.2.2.2.2.1 c18.2.2.2.2.2.2.2.2.2.1 c18.2.2.2.2.2.2.2.2.2.2.1 c18.2.2.2.2.2.2.2.2.2.2.2.1 c18.2.2.2.2.2.2.2.2.2.2.2.2.1 c18.2.2.2.2.2.2.2.2.2.2.2.2.2.1 c18.2.2.2.2.2.2.2.2.2.2.2.2.2.2.2.2.2) fun c51=>
            some (c51.1,c51.2.1,c51.2.2.1,c51.2.2.2.1,c51.2.2.2.2.1,c51.2.2.2.2.2.1,c51.2.2.2.2.2.2.1,c51.2.2.2.2.2.2.2.1,c51.2.2.2.2.2.2.2.2.1,c51.2.2.2.2.2.2.2.2.2.1,c51.2.2.2.2.2.2.2.2.2.2.1,c51.2.2.2.2.2.2.2.2.2.2.2.1,c51.2.2.2.2.2.2.2.2.2.2.2.2.1,c51.2.2.2.2.2.2.2.2.2.2.2.2.2.1,c51.2.2.2.2.2.2.2.2.2.2.2.2.2.2.1,c18.2.2.2.2.2.2.2.2.2.2.2.2.2.2.1,c18.2.2.2.2.2.2.2.2.2.2.2.2.2.2.2.1,c51.2.2.2.2.2.2.2.2.2.2.2.2.2.2.2)
           else
            bif (decide (p0=10)) then
             OB (
              ck (inB (0:Int) c18.2.2.2.2.2.2.2.2.2.2.2.2.2.2.2.2.1.length) <|
              bif (decide ((List.getD c18.2.2.2.2.2.2.2.2.2.2.2.2.2.2.2.2.1 (Int.toNat 0) (0:Int))<0)) then
               some true
              else
               ck (inB (0:Int) c18.2.2.2.2.2.2.2.2.2.2.2.2.2.2.2.2.1.length) <|
               bif (decide ((c18.2.1.length:Int)≤(List.getD c18.2.2.2.2.2.2.2.2.2.2.2.2.2.2.2.2.1 (Int.toNat 0) (0:Int)))) then
                some true
               else
                ck (inB (0:Int) c18.2.2.2.2.2.2.2.2.2.2.2.2.2.2.2.2.1.length) <|
                let n59:=(List.getD c18.2.2.2.2.2.2.2.2.2.2.2.2.2.2.2.2.1 (Int.toNat 0) (0:Int))
                ck (inB n59 c18.2.1.length) <|
                some (!(decide (((List.length (List.getD c18.2.1 n59.toNat l9).params):Int)=(gX ((c18.2.2.2.2.2.2.2.2.2.2.2.2.2.2.2.2.1.length:Int)-1)))))) fun s66=>
             bif s66 then
              OB (f44 2 3 c18.2.1 c18.2.2.1 c18.2.2.2.1 c18.2.2.2.2.1 c18.2.2.2.2.2.1 c18.2.2.2.2.2.2.1 c18.2.2.2.2.2.2.2.1 c18.2.2.2.2.2.2.2.2.1 c18.2.2.2.2.2.2.2.2.2.1 c18.2.2.2.2.2.2.2.2.2.2.1 c18.2.2.2.2.2.2.2.2.2.2.2.1 c18.2.2.2.2.2.2.2.2.2.2.2.2.1 c18.2.2.2.2.2.2.2.2.2.2.2.2.2.1 c18.2.2.2.2.2.2.2.2.2.2.2.2.2.2.2.2.2) fun KP=>
              some ((0:Int),KP.1,KP.2.1,KP.2.2.1,KP.2.2.2.1,KP.2.2.2.2.1,KP.2.2.2.2.2.1,KP.2.2.2.2.2.2.1,KP.2.2.2.2.2.2.2.1,KP.2.2.2.2.2.2.2.2.1,KP.2.2.2.2.2.2.2.2.2.1,KP.2.2.2.2.2.2.2.2.2.2.1,KP.2.2.2.2.2.2.2.2.2.2.2.1,KP.2.2.2.2.2.2.2.2.2.2.2.2.1,KP.2.2.2.2.2.2.2.2.2.2.2.2.2.1,c18.2.2.2.2.2.2.2.2.2.2.2.2.2.2.1,c18.2.2.2.2.2.2.2.2.2.2.2.2.2.2.2.1,KP.2.2.2.2.2.2.2.2.2.2.2.2.2.2)
             else
              ck (inB (0:Int) c18.2.2.2.2.2.2.2.2.2.2.2.2.2.2.2.2.1.length) <|
              ck (AA (1:Int) (c18.2.2.2.2.2.2.2.2.2.2.2.2.2.2.2.2.1.length:Int) c18.2.2.2.2.2.2.2.2.2.2.2.2.2.2.2.2.1.length) <|
              OB (I7 (List.getD c18.2.2.2.2.2.2.2.2.2.2.2.2.2.2.2.2.1 (Int.toNat 0) (0:Int)) (List.drop (Int.toNat (1:Int)) (List.take (Int.toNat (c18.2.2.2.2.2.2.2.2.2.2.2.2.2.2.2.2.1.length:Int)) c18.2.2.2.2.2.2.2.2.2.2.2.2.2.2.2.2.1)) c18.2.1 c18.2.2.1 c18.2.2.2.1 c18.2.2.2.2.1 c18.2.2.2.2.2.1 c18.2.2.2.2.2.2.1 c18.2.2.2.2.2.2.2.1 c18.2.2.2.2.2.2.2.2.1 c18.2.2.2.2.2.2.2.2.2.1 c18.2.2.2.2.2.2.2.2.2.2.1 c18.2.2.2.2.2.2.2.2.2.2.2.1 c18.2.2.2.2.2.2.2.2.2.2.2.2.1 c18.2.2.2.2.2.2.2.2.2.2.2.2.2.1 c18.2.2.2.2.2.2.2.2.2.2.2.2.2.2.2.2.2) fun Qy=>
              some (Qy.1,Qy.2.1,Qy.2.2.1,Qy.2.2.2.1,Qy.2.2.2.2.1,Qy.2.2.2.2.2.1,Qy.2.2.2.2.2.2.1,Qy.2.2.2.2.2.2.2.1,Qy.2.2.2.2.2.2.2.2.1,Qy.2.2.2.2.2.2.2.2.2.1,Qy.2.2.2.2.2.2.2.2.2.2.1,Qy.2.2.2.2.2.2.2.2.2.2.2.1,Qy.2.2.2.2.2.2.2.2.2.2.2.2.1,Qy.2.2.2.2.2.2.2.2.2.2.2.2.2.1,Qy.2.2.2.2.2.2.2.2.2.2.2.2.2.2.1,c18.2.2.2.2.2.2.2.2.2.2.2.2.2.2.1,c18.2.2.2.2.2.2.2.2.2.2.2.2.2.2.2.1,Qy.2.2.2.2.2.2.2.2.2.2.2.2.2.2.2)
            else
             bif (decide (p0=11)) then
              some ((NJ keyS p4 (0:Int) c18.2.2.1),true,c18.2.1,c18.2.2.1,c18.2.2.2.1,c18.2.2.2.2.1,c18.2.2.2.2.2.1,c18.2.2.2.2.2.2.1,c18.2.2.2.2.2.2.2.1,c18.2.2.2.2.2.2.2.2.1,c18.2.2.2.2.2.2.2.2.2.1,c18.2.2.2.2.2.2.2.2.2.2.1,c18.2.2.2.2.2.2.2.2.2.2.2.1,c18.2.2.2.2.2.2.2.2.2.2.2.2.1,c18.2.2.2.2.2.2.2.2.2.2.2.2.2.1,c18.2.2.2.2.2.2.2.2.2.2.2.2.2.2.1,c18.2.2.2.2.2.2.2.2.2.2.2.2.2.2.2.1,c18.2.2.2.2.2.2.2.2.2.2.2.2.2.2.2.2.2)
             else
              bif (decide (p0=12)) then
               bif (decide ((c18.2.2.2.2.2.2.1.length:Int)=0)) then
                some ((0:Int),true,c18.2.1,c18.2.2.1,c18.2.2.2.1,c18.2.2.2.2.1,c18.2.2.2.2.2.1,c18.2.2.2.2.2.2.1,c18.2.2.2.2.2.2.2.1,c18.2.2.2.2.2.2.2.2.1,c18.2.2.2.2.2.2.2.2.2.1,c18.2.2.2.2.2.2.2.2.2.2.1,c18.2.2.2.2.2.2.2.2.2.2.2.1,c18.2.2.2.2.2.2.2.2.2.2.2.2.1,c18.2.2.2.2.2.2.2.2.2.2.2.2.2.1,c18.2.2.2.2.2.2.2.2.2.2.2.2.2.2.1,c18.2.2.2.2.2.2.2.2.2.2.2.2.2.2.2.1,c18.2.2.2.2.2.2.2.2.2.2.2.2.2.2.2.2.2)
               else
                ck (inB (0:Int) c18.2.2.2.2.2.2.1.length) <|
                ck (AA (1:Int) (c18.2.2.2.2.2.2.1.length:Int) c18.2.2.2.2.2.2.1.length) <|
                some ((List.getD c18.2.2.2.2.2.2.1 (Int.toNat 0) (0:Int)),true,c18.2.1,c18.2.2.1,c18.2.2.2.1,c18.2.2.2.2.1,c18.2.2.2.2.2.1,(List.drop (Int.toNat (1:Int)) (List.take (Int.toNat (c18.2.2.2.2.2.2.1.length:Int)) c18.2.2.2.2.2.2.1)),c18.2.2.2.2.2.2.2.1,c18.2.2.2.2.2.2.2.2.1,c18.2.2.2.2.2.2.2.2.2.1,c18.2.2.2.2.2.2.2.2.2.2.1,c18.2.2.2.2.2.2.2.2.2.2.2.1,c18.2.2.2.2.2.2.2.2.2.2.2.2.1,c18.2.2.2.2.2.2.2.2.2.2.2.2.2.1,c18.2.2.2.2.2.2.2.2.2.2.2.2.2.2.1,c18.2.2.2.2.2.2.2.2.2.2.2.2.2.2.2.1,c18.2.2.2.2.2.2.2.2.2.2.2.2.2.2.2.2.2)
              else
               some ((0:Int),true,c18.2.1,c18.2.2.1,c18.2.2.2.1,c18.2.2.2.2.1,c18.2.2.2.2.2.1,c18.2.2.2.2.2.2.1,c18.2.2.2.2.2.2.2.1,c18.2.2.2.2.2.2.2.2.1,c18.2.2.2.2.2.2.2.2.2.1,c18.2.2.2.2.2.2.2.2.2.2.1,c18.2.2.2.2.2.2.2.2.2.2.2.1,c18.2.2.2.2.2.2.2.2.2.2.2.2.1,c18.2.2.2.2.2.2.2.2.2.2.2.2.2.1,c18.2.2.2.2.2.2.2.2.2.2.2.2.2.2.1,c18.2.2.2.2.2.2.2.2.2.2.2.2.2.2.2.1,c18.2.2.2.2.2.2.2.2.2.2.2.2.2.2.2.2.2)) fun s77=>
 ck (decide (p21.length=s77.2.2.2.2.2.2.2.2.2.2.2.2.2.2.2.2.1.length)) <|
 some s77
def cZ:Nat→T28×T45×T60×T80×T81×T87
 |0=>(fun _ _ _ _ _ _ _ _ _ _ _ _ _ _ _ _=>none,fun _ _ _ _ _ _ _ _ _ _ _ _ _ _ _ _ _=>none,fun _ _ _ _ _ _ _ _ _ _ _ _ _ _ _ _ _ _ _ _ _ _=>none,fun _ _ _ _ _ _ _ _ _ _ _ _ _ _ _ _ _=>none,fun _ _ _ _ _ _ _ _ _ _ _ _ _ _ _ _ _ _ _ _ _ _ _=>none,fun _ _ _ _ _ _ _ _ _ _ _ _ _ _ _ _ _ _ _ _ _ _=>none)
 |n+1=>(akz (cZ n).1 (cZ n).2.1 (cZ n).2.2.1 (cZ n).2.2.2.1 (cZ n).2.2.2.2.1 (cZ n).2.2.2.2.2,akA (cZ n).1 (cZ n).2.1 (cZ n).2.2.1 (cZ n).2.2.2.1 (cZ n).2.2.2.2.1 (cZ n).2.2.2.2.2,akB (cZ n).1 (cZ n).2.1 (cZ n).2.2.1 (cZ n).2.2.2.1 (cZ n).2.2.2.2.1 (cZ n).2.2.2.2.2,akC (cZ n).1 (cZ n).2.1 (cZ n).2.2.1 (cZ n).2.2.2.1 (cZ n).2.2.2.2.1 (cZ n).2.2.2.2.2,akD (cZ n).1 (cZ n).2.1 (cZ n).2.2.1 (cZ n).2.2.2.1 (cZ n).2.2.2.2.1 (cZ n).2.2.2.2.2,akE (cZ n).1 (cZ n).2.1 (cZ n).2.2.1 (cZ n).2.2.2.1 (cZ n).2.2.2.2.1 (cZ n).2.2.2.2.2)
def akF (n:Nat):T28:=(cZ n).1
def qA (n:Nat):aU:=⟨agh,u16 (cZ n).1⟩
def rC (n:Nat):aU:=⟨agi,u17 (cZ n).2.1⟩
def rD (n:Nat):aU:=⟨agj,u22 (cZ n).2.2.1⟩
def rE (n:Nat):aU:=⟨agk,u17 (cZ n).2.2.2.1⟩
def rF (n:Nat):aU:=⟨agl,u23 (cZ n).2.2.2.2.1⟩
def rG (n:Nat):aU:=⟨agm,u22 (cZ n).2.2.2.2.2⟩
theorem ZV (n:Nat) (h28:aj Try.prog 28 (qA n)) (h45:aj Try.prog 45 (rC n)) (h60:aj Try.prog 60 (rD n)) (h80:aj Try.prog 80 (rE n)) (ZW:aj Try.prog 81 (rF n)) (h87:aj Try.prog 87 (rG n)):aj Try.prog 28 (qA (n+1)):=
 ts [(44,ZH),(28,qA n),(45,rC n),(60,rD n),(80,rE n),(81,rF n),(87,rG n)] ety [.tmp 6,.tmp 7] ajq Try.func28 rfl ⟨FC,h28,h45,h60,h80,ZW,h87,trivial⟩
theorem ZX (n:Nat) (h28:aj Try.prog 28 (qA n)) (h45:aj Try.prog 45 (rC n)) (h60:aj Try.prog 60 (rD n)) (h80:aj Try.prog 80 (rE n)) (ZW:aj Try.prog 81 (rF n)) (h87:aj Try.prog 87 (rG n)):aj Try.prog 45 (rC (n+1)):=
 ts [(28,qA n),(45,rC n),(60,rD n),(80,rE n),(81,rF n),(87,rG n)] ety [.tmp 6,.tmp 7,.tmp 8] ajr Try.func45 rfl ⟨h28,h45,h60,h80,ZW,h87,trivial⟩
theorem ZY (n:Nat) (h28:aj Try.prog 28 (qA n)) (h45:aj Try.prog 45 (rC n)) (h60:aj Try.prog 60 (rD n)) (h80:aj Try.prog 80 (rE n)) (ZW:aj Try.prog 81 (rF n)) (h87:aj Try.prog 87 (rG n)):aj Try.prog 60 (rD (n+1)):=
 ts [(79,ab6),(44,ZH),(28,qA n),(45,rC n),(60,rD n),(80,rE n),(81,rF n),(87,rG n)] ety [.tmp 6,.tmp 7,.tmp 8] ajs Try.func60 rfl ⟨ND,FC,h28,h45,h60,h80,ZW,h87,trivial⟩
theorem Z4 (n:Nat) (h28:aj Try.prog 28 (qA n)) (h45:aj Try.prog 45 (rC n)) (h60:aj Try.prog 60 (rD n)) (h80:aj Try.prog 80 (rE n)) (ZW:aj Try.prog 81 (rF n)) (h87:aj Try.prog 87 (rG n)):aj Try.prog 80 (rE (n+1)):=
 ts [(28,qA n),(45,rC n),(60,rD n),(80,rE n),(81,rF n),(87,rG n)] ety [.tmp 6,.tmp 7] ajt Try.func80 rfl ⟨h28,h45,h60,h80,ZW,h87,trivial⟩
theorem Z5 (n:Nat) (h28:aj Try.prog 28 (qA n)) (h45:aj Try.prog 45 (rC n)) (h60:aj Try.prog 60 (rD n)) (h80:aj Try.prog 80 (rE n)) (ZW:aj Try.prog 81 (rF n)) (h87:aj Try.prog 87 (rG n)):aj Try.prog 81 (rF (n+1)):=
 ts [(79,ab6),(28,qA n),(45,rC n),(60,rD n),(80,rE n),(81,rF n),(87,rG n)] ety [.tmp 8,.tmp 9,.tmp 10] aju Try.func81 rfl ⟨ND,h28,h45,h60,h80,ZW,h87,trivial⟩
theorem Z7 (n:Nat) (h28:aj Try.prog 28 (qA n)) (h45:aj Try.prog 45 (rC n)) (h60:aj Try.prog 60 (rD n)) (h80:aj Try.prog 80 (rE n)) (ZW:aj Try.prog 81 (rF n)) (h87:aj Try.prog 87 (rG n)):aj Try.prog 87 (rG (n+1)):=
 ts [(79,ab6),(24,abT),(44,ZH),(10,aeL),(8,sp8),(28,qA n),(45,rC n),(60,rD n),(80,rE n),(81,rF n),(87,rG n)] ety [.tmp 6,.tmp 7] ajv Try.func87 rfl ⟨ND,Ny,FC,Vr,ZU,h28,h45,h60,h80,ZW,h87,trivial⟩
theorem ED :∀n,aj Try.prog 28 (qA n)∧aj Try.prog 45 (rC n)∧aj Try.prog 60 (rD n)∧aj Try.prog 80 (rE n)∧aj Try.prog 81 (rF n)∧aj Try.prog 87 (rG n)
 |0=>⟨bI Try.func28 rfl rfl (show agh.er.ok=true by decide +kernel) fun x=>rfl,bI Try.func45 rfl rfl (show agi.er.ok=true by decide +kernel) fun x=>rfl,bI Try.func60 rfl rfl (show agj.er.ok=true by decide +kernel) fun x=>rfl,bI Try.func80 rfl rfl (show agk.er.ok=true by decide +kernel) fun x=>rfl,bI Try.func81 rfl rfl (show agl.er.ok=true by decide +kernel) fun x=>rfl,bI Try.func87 rfl rfl (show agm.er.ok=true by decide +kernel) fun x=>rfl⟩
 |n+1=>by
  have ih:=ED n
  exact ⟨ZV n (ih.1) (ih.2.1) (ih.2.2.1) (ih.2.2.2.1) (ih.2.2.2.2.1) (ih.2.2.2.2.2),ZX n (ih.1) (ih.2.1) (ih.2.2.1) (ih.2.2.2.1) (ih.2.2.2.2.1) (ih.2.2.2.2.2),ZY n (ih.1) (ih.2.1) (ih.2.2.1) (ih.2.2.2.1) (ih.2.2.2.2.1) (ih.2.2.2.2.2),Z4 n (ih.1) (ih.2.1) (ih.2.2.1) (ih.2.2.2.1) (ih.2.2.2.2.1) (ih.2.2.2.2.2),Z5 n (ih.1) (ih.2.1) (ih.2.2.1) (ih.2.2.2.1) (ih.2.2.2.2.1) (ih.2.2.2.2.2),Z7 n (ih.1) (ih.2.1) (ih.2.2.1) (ih.2.2.2.1) (ih.2.2.2.2.1) (ih.2.2.2.2.2)⟩
def f28:T28:=akF 1048576
def agX:aU:=qA 1048576
theorem ab8:aj Try.prog 28 agX:=(ED 1048576).1
def f33 (p0:jy) (p1:Int) (p2:Bool) (p3:Int):Option (Int×Int×jy×Int×Bool×Int):=
 OB (
  bif p2 then
   some (true,p0,p1,p2,p3)
  else
   OB (f47 p0 p1 p2 p3) fun c0=>
   some ((!(decide (c0.1=0))),c0.2.2.2.2)) fun s3=>
 bif s3.1 then
  OB (f47 s3.2.1 s3.2.2.1 s3.2.2.2.1 s3.2.2.2.2) fun c4=>
  some (c4.2.1,(7:Int),c4.2.2.2.2)
 else
  bif (decide (0<s3.2.2.2.2)) then
   some (s3.2.2.2.2,(1:Int),s3.2)
  else
   some ((0:Int),(0:Int),s3.2)
def agY:aU:=⟨ajw,u4 f33⟩
theorem ab9:aj Try.prog 33 agY:=
 ts [(47,IZ)] ety [.tmp 2,.tmp 3] ajx Try.func33 rfl ⟨nR,trivial⟩
def f36 (p0:bV) (p1:Int) (p2:iw) (p3:xI):Option iw:=
 ck (true&&(decide ((((List.length iV)+p2.length)*(16:Nat))≤(140737488355328:Nat)))) <|
 OB (f52 p3 (iV++p2)) fun c1=>
 some c1
def agZ:aU:=⟨ajy,u4 f36⟩
theorem ab_:aj Try.prog 36 agZ:=
 ts [(52,agH)] ety [.tmp 2] ajz Try.func36 rfl ⟨abW,trivial⟩
def akG (adk:T40) (p0:xI) (p1:yg) (p2:kE) (p3:Int) (p4:Int) (p5:iw):Option (yg×kE×Int×Int×xI×iw):=
 OB (
  dN (fun (s0:(Int×yg×kE×Int×Int×xI×iw))=>
   bif (decide (s0.1<(p0.length:Int))) then
    ck (inB s0.1 p0.length) <|
    let n3:=(List.getD p0 s0.1.toNat oP)
    OB (
     dN (fun (s4:(Int×yg×kE×Int×Int×oq×iw))=>
      bif (decide (s4.1<((List.length n3.exprs):Int))) then
       ck (inB s4.1 (List.length n3.exprs)) <|
       let n7:=(List.getD n3.exprs s4.1.toNat oO)
       OB (f53 n7.kind n7.op n7.value n7.line n7.name n7.args) fun c8=>
       OB (
        bif (decide (64<c8)) then
         ck (inB s4.1 (List.length n3.exprs)) <|
         OB (f54 (List.getD n3.exprs s4.1.toNat oO).line 5 s4.2.1 s4.2.2.1 s4.2.2.2.1 s4.2.2.2.2.1 s4.2.2.2.2.2.2) fun c11=>
         some c11
        else
         some (s4.2.1,s4.2.2.1,s4.2.2.2.1,s4.2.2.2.2.1,s4.2.2.2.2.2.2)) fun s12=>
       ck (inB s4.1 (List.length n3.exprs)) <|
       let n13:=(List.getD n3.exprs s4.1.toNat oO)
       OB (f55 n13.kind n13.op n13.value n13.line n13.name n13.args s12.1 s12.2.1 s12.2.2.1 s12.2.2.2.1 s12.2.2.2.2) fun c14=>
       let n15:=[(eP.mk c14.1 c14.2.1 c14.2.2.1 c14.2.2.2.1 c14.2.2.2.2.1 c14.2.2.2.2.2.2.2.2.2.2)]
       ck (jk s4.2.2.2.2.2.1.length n15.length 72) <|
       some (.inl ((gX (s4.1+1)),c14.2.2.2.2.2.1,c14.2.2.2.2.2.2.1,c14.2.2.2.2.2.2.2.1,c14.2.2.2.2.2.2.2.2.1,(s4.2.2.2.2.2.1++n15),c14.2.2.2.2.2.2.2.2.2.1))
      else
       some (.inr s4.2)) ((0:Int),s0.2.1,s0.2.2.1,s0.2.2.2.1,s0.2.2.2.2.1,nM,s0.2.2.2.2.2.2)) fun Dw=>
    OB (f56 n3.name Dw.1 Dw.2.1 Dw.2.2.1 Dw.2.2.2.1 Dw.2.2.2.2.2) fun c19=>
    OB (
     bif (decide (n3.kind=1)) then
      OB (
       bif (!(decide (c19.1=0))) then
        OB (f54 n3.line 9 c19.2.1 c19.2.2.1 c19.2.2.2.1 c19.2.2.2.2.1 c19.2.2.2.2.2) fun c22=>
        some c22
       else
        some c19.2) fun s23=>
      let n24:=[n3.name]
      ck (jk s23.2.2.2.2.length n24.length 16) <|
      some (s23.1,s23.2.1,s23.2.2.1,s23.2.2.2.1,(s23.2.2.2.2++n24))
     else
      OB (
       bif (decide (n3.kind=2)) then
        some true
       else
        some (decide (n3.kind=3))) fun XC=>
      OB (
       bif XC then
        OB (
         bif (decide (c19.1=0)) then
          OB (f54 n3.line 8 c19.2.1 c19.2.2.1 c19.2.2.2.1 c19.2.2.2.2.1 c19.2.2.2.2.2) fun c30=>
          some c30
         else
          OB (
           bif (decide (n3.kind=2)) then
            bif (!(decide (c19.1=1))) then
             bif (!(decide (c19.1=2))) then
              some true
             else
              bif (decide (n3.kind=3)) then
               some (!(decide (c19.1=3)))
              else
               some false
            else
             bif (decide (n3.kind=3)) then
              some (!(decide (c19.1=3)))
             else
              some false
           else
            bif (decide (n3.kind=3)) then
             some (!(decide (c19.1=3)))
            else
             some false) fun s51=>
          OB (
           bif s51 then
            OB (f54 n3.line 10 c19.2.1 c19.2.2.1 c19.2.2.2.1 c19.2.2.2.2.1 c19.2.2.2.2.2) fun c52=>
            some c52
           else
            some c19.2) fun s53=>
          some s53) fun s54=>
        some s54
       else
        some c19.2) fun s55=>
      some s55) fun s56=>
    OB (adk n3.then' s56.1 s56.2.1 s56.2.2.1 s56.2.2.2.1 s56.2.2.2.2) fun c57=>
    OB (adk n3.else' c57.1 c57.2.1 c57.2.2.1 c57.2.2.2.1 c57.2.2.2.2.2) fun c58=>
    let n59:=[(jf.mk n3.kind n3.line n3.name Dw.2.2.2.2.1 c57.2.2.2.2.1 c58.2.2.2.2.1)]
    ck (jk s0.2.2.2.2.2.1.length n59.length 104) <|
    some (.inl ((gX (s0.1+1)),c58.1,c58.2.1,c58.2.2.1,c58.2.2.2.1,(s0.2.2.2.2.2.1++n59),c58.2.2.2.2.2))
   else
    some (.inr s0.2)) ((0:Int),p1,p2,p3,p4,zI,p5)) fun s62=>
 some s62
def S_:Nat→T40
 |0=>(fun _ _ _ _ _ _=>none)
 |n+1=>(akG (S_ n))
def akH (n:Nat):T40:=(S_ n)
def Qs (n:Nat):aU:=⟨agn,u6 (S_ n)⟩
theorem Z8 (n:Nat) (h40:aj Try.prog 40 (Qs n)):aj Try.prog 40 (Qs (n+1)):=
 ts [(53,agJ),(54,abY),(55,agR),(56,ZK),(40,Qs n)] ety [.tmp 4] ajA Try.func40 rfl ⟨abX,NC,ab5,FD,h40,trivial⟩
theorem EF :∀n,aj Try.prog 40 (Qs n)
 |0=>bI Try.func40 rfl rfl (show agn.er.ok=true by decide +kernel) fun x=>rfl
 |n+1=>by
  have ih:=EF n
  exact Z8 n (ih)
def f40:T40:=akH 1048576
def ag1:aU:=Qs 1048576
theorem acd:aj Try.prog 40 ag1:=(EF 1048576)
def f43 (p0:bV) (p1:Int) (p2:iw) (p3:xI):Option iw:=
 OB (f58 p2) fun c0=>
 OB (f59 p3) fun c1=>
 ck (jk c0.length c1.length 16) <|
 some (c0++c1)
def ag2:aU:=⟨ajB,u4 f43⟩
theorem ace:aj Try.prog 43 ag2:=
 ts [(58,agM),(59,agN)] ety [.tmp 2] ajC Try.func43 rfl ⟨abZ,ab1,trivial⟩
def f48 (p0:bV) (p1:jy) (p2:Int) (p3:Bool) (p4:Int):Option (Bool×jy×Int×Bool×Int):=
 OB (f67 p0 p1 p2 p3 p4) fun c0=>
 bif c0.1 then
  some (true,c0.2.1,(gX (c0.2.2.1+1)),c0.2.2.2)
 else
  some (false,c0.2)
def NG:aU:=⟨ajD,u5 f48⟩
theorem rH:aj Try.prog 48 NG:=
 ts [(67,Xr)] ety [.tmp 4] ajE Try.func48 rfl ⟨Bq,trivial⟩
def f50 (p0:bV) (p1:jy) (p2:Int) (p3:Bool) (p4:Int):Option (jy×Int×Bool×Int):=
 OB (f48 p0 p1 p2 p3 p4) fun c0=>
 OB (
  bif (!c0.1) then
   some (c0.2.1,c0.2.2.1,true,c0.2.2.2.2)
  else
   some c0.2) fun s2=>
 some s2
def NH:aU:=⟨ajF,u5 f50⟩
theorem rJ:aj Try.prog 50 NH:=
 ts [(48,NG)] ety [] ajG Try.func50 rfl ⟨rH,trivial⟩
def f63 (p0:bV):Option Bool:=
 OB (f82 p0 [[(102:UInt8),(117:UInt8),(110:UInt8),(99:UInt8)],[(103:UInt8),(108:UInt8),(111:UInt8),(98:UInt8),(97:UInt8),(108:UInt8)],[(118:UInt8),(97:UInt8),(114:UInt8)],[(105:UInt8),(102:UInt8)],[(101:UInt8),(108:UInt8),(115:UInt8),(101:UInt8)],[(119:UInt8),(104:UInt8),(105:UInt8),(108:UInt8),(101:UInt8)],[(114:UInt8),(101:UInt8),(116:UInt8),(117:UInt8),(114:UInt8),(110:UInt8)],[(112:UInt8),(114:UInt8),(105:UInt8),(110:UInt8),(116:UInt8)],[(99:UInt8),(97:UInt8),(108:UInt8),(108:UInt8)],[(114:UInt8),(101:UInt8),(97:UInt8),(100:UInt8)]]) fun c1=>
 some c1
def aeM:aU:=⟨ajH,f63⟩
theorem Vt:aj Try.prog 63 aeM:=
 ts [(82,aeJ)] ety [.tmp 2] ajI Try.func63 rfl ⟨Vq,trivial⟩
def f64 (p0:bV):Option Bool:=
 OB (
  bif (decide ((p0.length:Int)=0)) then
   some true
  else
   bif (decide (32<(p0.length:Int))) then
    some true
   else
    ck (inB (0:Int) p0.length) <|
    OB (f61 ((UInt8.toNat (List.getD p0 (Int.toNat 0) (0:UInt8))):Int)) fun c6=>
    bif (!c6) then
     some true
    else
     OB (f63 p0) fun c9=>
     some c9) fun s11=>
 bif s11 then
  some false
 else
  gq (
   dN (fun (s12:Int)=>
    bif (decide (s12<(p0.length:Int))) then
     OB (
      ck (inB s12 p0.length) <|
      OB (f61 ((UInt8.toNat (List.getD p0 s12.toNat (0:UInt8))):Int)) fun c16=>
      bif (!c16) then
       ck (inB s12 p0.length) <|
       OB (f62 ((UInt8.toNat (List.getD p0 s12.toNat (0:UInt8))):Int)) fun c19=>
       bif (!c19) then
        ck (inB s12 p0.length) <|
        some (!(decide (((UInt8.toNat (List.getD p0 s12.toNat (0:UInt8))):Int)=95)))
       else
        some false
      else
       some false) fun s25=>
     bif s25 then
      some (.inr (.inr false))
     else
      some (.inl (gX (s12+1)))
    else
     some (.inr (.inl ()))) (0:Int)) fun s27=>
  some true
def ag3:aU:=⟨ajJ,f64⟩
theorem acf:aj Try.prog 64 ag3:=
 ts [(61,aeH),(63,aeM),(62,aeI)] ety [.tmp 2] ajK Try.func64 rfl ⟨Vo,Vt,Vp,trivial⟩
def f66 (p0:bV):Option Bool:=
 OB (f82 p0 [[(40:UInt8)],[(41:UInt8)],[(123:UInt8)],[(125:UInt8)],[(91:UInt8)],[(93:UInt8)],[(44:UInt8)],[(59:UInt8)],[(61:UInt8)],[(43:UInt8)],[(45:UInt8)],[(42:UInt8)],[(47:UInt8)],[(37:UInt8)],[(60:UInt8)],[(60:UInt8),(61:UInt8)],[(61:UInt8),(61:UInt8)],[(33:UInt8),(61:UInt8)],[(38:UInt8),(38:UInt8)],[(124:UInt8),(124:UInt8)],[(33:UInt8)],[(38:UInt8)]]) fun c1=>
 some c1
def ag4:aU:=⟨ajL,f66⟩
theorem acg:aj Try.prog 66 ag4:=
 ts [(82,aeJ)] ety [.tmp 2] ajM Try.func66 rfl ⟨Vq,trivial⟩
def akI (xJ:NM) (BD:T90) (BF:T92) (BG:T93) (BH:T95) (yI:T96) (EG:T97) (EH:T98) (p0:jy) (p1:Int) (p2:Bool) (p3:Int):Option (Int×Int×Int×Int×bV×oq×jy×Int×Bool×Int):=
 OB (BD p0 p1 p2 p3) fun c0=>
 OB (
  dN (fun (s1:(jy×Int×Bool×Int×Int×Int×Int×Int×bV×oq))=>
   OB (f67 [(124:UInt8),(124:UInt8)] s1.1 s1.2.1 s1.2.2.1 s1.2.2.2.1) fun c2=>
   bif c2.1 then
    OB (f47 c2.2.1 c2.2.2.1 c2.2.2.2.1 c2.2.2.2.2) fun c3=>
    OB (BD c3.2.2.2.2.1 (gX (c3.2.2.2.2.2.1+1)) c3.2.2.2.2.2.2.1 c3.2.2.2.2.2.2.2) fun c5=>
    OB (f91 8 0 c3.2.1 s1.2.2.2.2.1 s1.2.2.2.2.2.1 s1.2.2.2.2.2.2.1 s1.2.2.2.2.2.2.2.1 s1.2.2.2.2.2.2.2.2.1 s1.2.2.2.2.2.2.2.2.2 c5.1 c5.2.1 c5.2.2.1 c5.2.2.2.1 c5.2.2.2.2.1 c5.2.2.2.2.2.1) fun c6=>
    some (.inl (c5.2.2.2.2.2.2.1,c5.2.2.2.2.2.2.2.1,c5.2.2.2.2.2.2.2.2.1,c5.2.2.2.2.2.2.2.2.2,c6))
   else
    some (.inr (c2.2.1,c2.2.2.1,c2.2.2.2.1,c2.2.2.2.2,s1.2.2.2.2))) (c0.2.2.2.2.2.2.1,c0.2.2.2.2.2.2.2.1,c0.2.2.2.2.2.2.2.2.1,c0.2.2.2.2.2.2.2.2.2,c0.1,c0.2.1,c0.2.2.1,c0.2.2.2.1,c0.2.2.2.2.1,c0.2.2.2.2.2.1)) fun s7=>
 some (s7.2.2.2.2.1,s7.2.2.2.2.2.1,s7.2.2.2.2.2.2.1,s7.2.2.2.2.2.2.2.1,s7.2.2.2.2.2.2.2.2.1,s7.2.2.2.2.2.2.2.2.2,s7.1,s7.2.1,s7.2.2.1,s7.2.2.2.1)
def akJ (xJ:NM) (BD:T90) (BF:T92) (BG:T93) (BH:T95) (yI:T96) (EG:T97) (EH:T98) (p0:jy) (p1:Int) (p2:Bool) (p3:Int):Option (Int×Int×Int×Int×bV×oq×jy×Int×Bool×Int):=
 OB (BF p0 p1 p2 p3) fun c0=>
 OB (
  dN (fun (s1:(jy×Int×Bool×Int×Int×Int×Int×Int×bV×oq))=>
   OB (f67 [(38:UInt8),(38:UInt8)] s1.1 s1.2.1 s1.2.2.1 s1.2.2.2.1) fun c2=>
   bif c2.1 then
    OB (f47 c2.2.1 c2.2.2.1 c2.2.2.2.1 c2.2.2.2.2) fun c3=>
    OB (BF c3.2.2.2.2.1 (gX (c3.2.2.2.2.2.1+1)) c3.2.2.2.2.2.2.1 c3.2.2.2.2.2.2.2) fun c5=>
    OB (f91 7 0 c3.2.1 s1.2.2.2.2.1 s1.2.2.2.2.2.1 s1.2.2.2.2.2.2.1 s1.2.2.2.2.2.2.2.1 s1.2.2.2.2.2.2.2.2.1 s1.2.2.2.2.2.2.2.2.2 c5.1 c5.2.1 c5.2.2.1 c5.2.2.2.1 c5.2.2.2.2.1 c5.2.2.2.2.2.1) fun c6=>
    some (.inl (c5.2.2.2.2.2.2.1,c5.2.2.2.2.2.2.2.1,c5.2.2.2.2.2.2.2.2.1,c5.2.2.2.2.2.2.2.2.2,c6))
   else
    some (.inr (c2.2.1,c2.2.2.1,c2.2.2.2.1,c2.2.2.2.2,s1.2.2.2.2))) (c0.2.2.2.2.2.2.1,c0.2.2.2.2.2.2.2.1,c0.2.2.2.2.2.2.2.2.1,c0.2.2.2.2.2.2.2.2.2,c0.1,c0.2.1,c0.2.2.1,c0.2.2.2.1,c0.2.2.2.2.1,c0.2.2.2.2.2.1)) fun s7=>
 some (s7.2.2.2.2.1,s7.2.2.2.2.2.1,s7.2.2.2.2.2.2.1,s7.2.2.2.2.2.2.2.1,s7.2.2.2.2.2.2.2.2.1,s7.2.2.2.2.2.2.2.2.2,s7.1,s7.2.1,s7.2.2.1,s7.2.2.2.1)
def akK (xJ:NM) (BD:T90) (BF:T92) (BG:T93) (BH:T95) (yI:T96) (EG:T97) (EH:T98) (p0:jy) (p1:Int) (p2:Bool) (p3:Int):Option (Int×Int×Int×Int×bV×oq×jy×Int×Bool×Int):=
 OB (BG p0 p1 p2 p3) fun c0=>
 OB (f94 [[(60:UInt8)],[(60:UInt8),(61:UInt8)],[(61:UInt8),(61:UInt8)],[(33:UInt8),(61:UInt8)]] [(8:Int),(9:Int),(10:Int),(11:Int)] c0.2.2.2.2.2.2.1 c0.2.2.2.2.2.2.2.1 c0.2.2.2.2.2.2.2.2.1 c0.2.2.2.2.2.2.2.2.2) fun c3=>
 bif (decide (0<c3.1)) then
  OB (BG c3.2.2.1 c3.2.2.2.1 c3.2.2.2.2.1 c3.2.2.2.2.2) fun c5=>
  OB (f91 6 c3.1 c3.2.1 c0.1 c0.2.1 c0.2.2.1 c0.2.2.2.1 c0.2.2.2.2.1 c0.2.2.2.2.2.1 c5.1 c5.2.1 c5.2.2.1 c5.2.2.2.1 c5.2.2.2.2.1 c5.2.2.2.2.2.1) fun c6=>
  some (c6.1,c6.2.1,c6.2.2.1,c6.2.2.2.1,c6.2.2.2.2.1,c6.2.2.2.2.2,c5.2.2.2.2.2.2)
 else
  some (c0.1,c0.2.1,c0.2.2.1,c0.2.2.2.1,c0.2.2.2.2.1,c0.2.2.2.2.2.1,c3.2.2)
def akL (xJ:NM) (BD:T90) (BF:T92) (BG:T93) (BH:T95) (yI:T96) (EG:T97) (EH:T98) (p0:jy) (p1:Int) (p2:Bool) (p3:Int):Option (Int×Int×Int×Int×bV×oq×jy×Int×Bool×Int):=
 OB (BH p0 p1 p2 p3) fun c0=>
 dN (fun (s1:(jy×Int×Bool×Int×Int×Int×Int×Int×bV×oq))=>
  OB (f94 [[(43:UInt8)],[(45:UInt8)]] [(3:Int),(4:Int)] s1.1 s1.2.1 s1.2.2.1 s1.2.2.2.1) fun c4=>
  bif (decide (c4.1=0)) then
   some (.inr (s1.2.2.2.2.1,s1.2.2.2.2.2.1,s1.2.2.2.2.2.2.1,s1.2.2.2.2.2.2.2.1,s1.2.2.2.2.2.2.2.2.1,s1.2.2.2.2.2.2.2.2.2,c4.2.2))
  else
   OB (BH c4.2.2.1 c4.2.2.2.1 c4.2.2.2.2.1 c4.2.2.2.2.2) fun c6=>
   OB (f91 6 c4.1 c4.2.1 s1.2.2.2.2.1 s1.2.2.2.2.2.1 s1.2.2.2.2.2.2.1 s1.2.2.2.2.2.2.2.1 s1.2.2.2.2.2.2.2.2.1 s1.2.2.2.2.2.2.2.2.2 c6.1 c6.2.1 c6.2.2.1 c6.2.2.2.1 c6.2.2.2.2.1 c6.2.2.2.2.2.1) fun c7=>
   some (.inl (c6.2.2.2.2.2.2.1,c6.2.2.2.2.2.2.2.1,c6.2.2.2.2.2.2.2.2.1,c6.2.2.2.2.2.2.2.2.2,c7))) (c0.2.2.2.2.2.2.1,c0.2.2.2.2.2.2.2.1,c0.2.2.2.2.2.2.2.2.1,c0.2.2.2.2.2.2.2.2.2,c0.1,c0.2.1,c0.2.2.1,c0.2.2.2.1,c0.2.2.2.2.1,c0.2.2.2.2.2.1)
def akM (xJ:NM) (BD:T90) (BF:T92) (BG:T93) (BH:T95) (yI:T96) (EG:T97) (EH:T98) (p0:jy) (p1:Int) (p2:Bool) (p3:Int):Option (Int×Int×Int×Int×bV×oq×jy×Int×Bool×Int):=
 OB (yI p0 p1 p2 p3) fun c0=>
 dN (fun (s1:(jy×Int×Bool×Int×Int×Int×Int×Int×bV×oq))=>
  OB (f94 [[(42:UInt8)],[(47:UInt8)],[(37:UInt8)]] [(5:Int),(6:Int),(7:Int)] s1.1 s1.2.1 s1.2.2.1 s1.2.2.2.1) fun c4=>
  bif (decide (c4.1=0)) then
   some (.inr (s1.2.2.2.2.1,s1.2.2.2.2.2.1,s1.2.2.2.2.2.2.1,s1.2.2.2.2.2.2.2.1,s1.2.2.2.2.2.2.2.2.1,s1.2.2.2.2.2.2.2.2.2,c4.2.2))
  else
   OB (yI c4.2.2.1 c4.2.2.2.1 c4.2.2.2.2.1 c4.2.2.2.2.2) fun c6=>
   OB (f91 6 c4.1 c4.2.1 s1.2.2.2.2.1 s1.2.2.2.2.2.1 s1.2.2.2.2.2.2.1 s1.2.2.2.2.2.2.2.1 s1.2.2.2.2.2.2.2.2.1 s1.2.2.2.2.2.2.2.2.2 c6.1 c6.2.1 c6.2.2.1 c6.2.2.2.1 c6.2.2.2.2.1 c6.2.2.2.2.2.1) fun c7=>
   some (.inl (c6.2.2.2.2.2.2.1,c6.2.2.2.2.2.2.2.1,c6.2.2.2.2.2.2.2.2.1,c6.2.2.2.2.2.2.2.2.2,c7))) (c0.2.2.2.2.2.2.1,c0.2.2.2.2.2.2.2.1,c0.2.2.2.2.2.2.2.2.1,c0.2.2.2.2.2.2.2.2.2,c0.1,c0.2.1,c0.2.2.1,c0.2.2.2.1,c0.2.2.2.2.1,c0.2.2.2.2.2.1)
def akN (xJ:NM) (BD:T90) (BF:T92) (BG:T93) (BH:T95) (yI:T96) (EG:T97) (EH:T98) (p0:jy) (p1:Int) (p2:Bool) (p3:Int):Option (Int×Int×Int×Int×bV×oq×jy×Int×Bool×Int):=
 OB (f94 [[(45:UInt8)],[(33:UInt8)]] [(1:Int),(2:Int)] p0 p1 p2 p3) fun c2=>
 bif (decide (0<c2.1)) then
  OB (yI c2.2.2.1 c2.2.2.2.1 c2.2.2.2.2.1 c2.2.2.2.2.2) fun c4=>
  some ((5:Int),c2.1,(0:Int),c2.2.1,fM,[(eP.mk c4.1 c4.2.1 c4.2.2.1 c4.2.2.2.1 c4.2.2.2.2.1 c4.2.2.2.2.2.1)],c4.2.2.2.2.2.2)
 else
  OB (EG c2.2.2.1 c2.2.2.2.1 c2.2.2.2.2.1 c2.2.2.2.2.2) fun c6=>
  some c6
def akO (xJ:NM) (BD:T90) (BF:T92) (BG:T93) (BH:T95) (yI:T96) (EG:T97) (EH:T98) (p0:jy) (p1:Int) (p2:Bool) (p3:Int):Option (Int×Int×Int×Int×bV×oq×jy×Int×Bool×Int):=
 OB (f47 p0 p1 p2 p3) fun c0=>
 OB (EH c0.2.2.2.2.1 c0.2.2.2.2.2.1 c0.2.2.2.2.2.2.1 c0.2.2.2.2.2.2.2) fun c1=>
 OB (
  dN (fun (s2:(jy×Int×Bool×Int×Int×Int×Int×Int×bV×oq))=>
   OB (f67 [(40:UInt8)] s2.1 s2.2.1 s2.2.2.1 s2.2.2.2.1) fun c3=>
   bif c3.1 then
    OB (f47 c3.2.1 c3.2.2.1 c3.2.2.2.1 c3.2.2.2.2) fun c4=>
    OB (f48 [(41:UInt8)] c4.2.2.2.2.1 (gX (c4.2.2.2.2.2.1+1)) c4.2.2.2.2.2.2.1 c4.2.2.2.2.2.2.2) fun c6=>
    OB (
     bif (!c6.1) then
      OB (xJ c6.2.1 c6.2.2.1 c6.2.2.2.1 c6.2.2.2.2) fun c8=>
      let n9:=[(eP.mk c8.1 c8.2.1 c8.2.2.1 c8.2.2.2.1 c8.2.2.2.2.1 c8.2.2.2.2.2.1)]
      ck (jk (List.length nM) n9.length 72) <|
      OB (
       dN (fun (s11:(jy×Int×Bool×Int×oq))=>
        OB (f48 [(44:UInt8)] s11.1 s11.2.1 s11.2.2.1 s11.2.2.2.1) fun c12=>
        bif c12.1 then
         OB (xJ c12.2.1 c12.2.2.1 c12.2.2.2.1 c12.2.2.2.2) fun c13=>
         let n14:=[(eP.mk c13.1 c13.2.1 c13.2.2.1 c13.2.2.2.1 c13.2.2.2.2.1 c13.2.2.2.2.2.1)]
         ck (jk s11.2.2.2.2.length n14.length 72) <|
         some (.inl (c13.2.2.2.2.2.2.1,c13.2.2.2.2.2.2.2.1,c13.2.2.2.2.2.2.2.2.1,c13.2.2.2.2.2.2.2.2.2,(s11.2.2.2.2++n14)))
        else
         some (.inr (c12.2.1,c12.2.2.1,c12.2.2.2.1,c12.2.2.2.2,s11.2.2.2.2))) (c8.2.2.2.2.2.2.1,c8.2.2.2.2.2.2.2.1,c8.2.2.2.2.2.2.2.2.1,c8.2.2.2.2.2.2.2.2.2,(nM++n9))) fun s16=>
      OB (f50 [(41:UInt8)] s16.1 s16.2.1 s16.2.2.1 s16.2.2.2.1) fun c17=>
      some (c17.1,c17.2.1,c17.2.2.1,c17.2.2.2,s16.2.2.2.2)
     else
      some (c6.2.1,c6.2.2.1,c6.2.2.2.1,c6.2.2.2.2,nM)) fun Dw=>
    OB (
     bif (decide (s2.2.2.2.2.1=13)) then
      some (decide (c0.1=1))
     else
      some false) fun s22=>
    OB (
     bif s22 then
      some ((9:Int),(0:Int),(0:Int),c4.2.1,s2.2.2.2.2.2.2.2.2.1,Dw.2.2.2.2)
     else
      let n23:=[(eP.mk s2.2.2.2.2.1 s2.2.2.2.2.2.1 s2.2.2.2.2.2.2.1 s2.2.2.2.2.2.2.2.1 s2.2.2.2.2.2.2.2.2.1 s2.2.2.2.2.2.2.2.2.2)]
      ck (jk n23.length Dw.2.2.2.2.length 72) <|
      some ((10:Int),(0:Int),(0:Int),c4.2.1,fM,(n23++Dw.2.2.2.2))) fun s25=>
    some (.inl (Dw.1,Dw.2.1,Dw.2.2.1,Dw.2.2.2.1,s25))
   else
    some (.inr (c3.2.1,c3.2.2.1,c3.2.2.2.1,c3.2.2.2.2,s2.2.2.2.2))) (c1.2.2.2.2.2.2.1,c1.2.2.2.2.2.2.2.1,c1.2.2.2.2.2.2.2.2.1,c1.2.2.2.2.2.2.2.2.2,c1.1,c1.2.1,c1.2.2.1,c1.2.2.2.1,c1.2.2.2.2.1,c1.2.2.2.2.2.1)) fun s26=>
 some (s26.2.2.2.2.1,s26.2.2.2.2.2.1,s26.2.2.2.2.2.2.1,s26.2.2.2.2.2.2.2.1,s26.2.2.2.2.2.2.2.2.1,s26.2.2.2.2.2.2.2.2.2,s26.1,s26.2.1,s26.2.2.1,s26.2.2.2.1)
def akP (xJ:NM) (BD:T90) (BF:T92) (BG:T93) (BH:T95) (yI:T96) (EG:T97) (EH:T98) (p0:jy) (p1:Int) (p2:Bool) (p3:Int):Option (Int×Int×Int×Int×bV×oq×jy×Int×Bool×Int):=
 OB (f47 p0 p1 p2 p3) fun c0=>
 bif c0.2.2.2.2.2.2.1 then
  some ((0:Int),(0:Int),(0:Int),(0:Int),fM,nM,c0.2.2.2.2)
 else
  bif (decide (c0.1=2)) then
   some ((1:Int),(0:Int),c0.2.2.1,c0.2.1,fM,nM,c0.2.2.2.2.1,(gX (c0.2.2.2.2.2.1+1)),c0.2.2.2.2.2.2)
  else
   bif (decide (c0.1=1)) then
    OB (f48 [(91:UInt8)] c0.2.2.2.2.1 (gX (c0.2.2.2.2.2.1+1)) c0.2.2.2.2.2.2.1 c0.2.2.2.2.2.2.2) fun c5=>
    bif c5.1 then
     OB (xJ c5.2.1 c5.2.2.1 c5.2.2.2.1 c5.2.2.2.2) fun c6=>
     OB (f50 [(93:UInt8)] c6.2.2.2.2.2.2.1 c6.2.2.2.2.2.2.2.1 c6.2.2.2.2.2.2.2.2.1 c6.2.2.2.2.2.2.2.2.2) fun c7=>
     some ((4:Int),(0:Int),(0:Int),c0.2.1,c0.2.2.2.1,[(eP.mk c6.1 c6.2.1 c6.2.2.1 c6.2.2.2.1 c6.2.2.2.2.1 c6.2.2.2.2.2.1)],c7)
    else
     some ((13:Int),(0:Int),(0:Int),c0.2.1,c0.2.2.2.1,nM,c5.2)
   else
    OB (f48 [(38:UInt8)] c0.2.2.2.2.1 c0.2.2.2.2.2.1 c0.2.2.2.2.2.2.1 c0.2.2.2.2.2.2.2) fun c9=>
    bif c9.1 then
     OB (f68 1 c9.2.1 c9.2.2.1 c9.2.2.2.1 c9.2.2.2.2) fun c10=>
     some ((11:Int),(0:Int),(0:Int),c0.2.1,c10.2.2.2.1,nM,c10.2.2.2.2)
    else
     OB (f48 [(114:UInt8),(101:UInt8),(97:UInt8),(100:UInt8)] c9.2.1 c9.2.2.1 c9.2.2.2.1 c9.2.2.2.2) fun c11=>
     bif c11.1 then
      some ((12:Int),(0:Int),(0:Int),c0.2.1,fM,nM,c11.2)
     else
      OB (f50 [(40:UInt8)] c11.2.1 c11.2.2.1 c11.2.2.2.1 c11.2.2.2.2) fun c12=>
      OB (xJ c12.1 c12.2.1 c12.2.2.1 c12.2.2.2) fun c13=>
      OB (f50 [(41:UInt8)] c13.2.2.2.2.2.2.1 c13.2.2.2.2.2.2.2.1 c13.2.2.2.2.2.2.2.2.1 c13.2.2.2.2.2.2.2.2.2) fun c14=>
      some (c13.1,c13.2.1,c13.2.2.1,c13.2.2.2.1,c13.2.2.2.2.1,c13.2.2.2.2.2.1,c14)
def aS:Nat→NM×NM×NM×NM×NM×NM×NM×NM
 |0=>(fun _ _ _ _=>none,fun _ _ _ _=>none,fun _ _ _ _=>none,fun _ _ _ _=>none,fun _ _ _ _=>none,fun _ _ _ _=>none,fun _ _ _ _=>none,fun _ _ _ _=>none)
 |n+1=>(akI (aS n).1 (aS n).2.1 (aS n).2.2.1 (aS n).2.2.2.1 (aS n).2.2.2.2.1 (aS n).2.2.2.2.2.1 (aS n).2.2.2.2.2.2.1 (aS n).2.2.2.2.2.2.2,akJ (aS n).1 (aS n).2.1 (aS n).2.2.1 (aS n).2.2.2.1 (aS n).2.2.2.2.1 (aS n).2.2.2.2.2.1 (aS n).2.2.2.2.2.2.1 (aS n).2.2.2.2.2.2.2,akK (aS n).1 (aS n).2.1 (aS n).2.2.1 (aS n).2.2.2.1 (aS n).2.2.2.2.1 (aS n).2.2.2.2.2.1 (aS n).2.2.2.2.2.2.1 (aS n).2.2.2.2.2.2.2,akL (aS n).1 (aS n).2.1 (aS n).2.2.1 (aS n).2.2.2.1 (aS n).2.2.2.2.1 (aS n).2.2.2.2.2.1 (aS n).2.2.2.2.2.2.1 (aS n).2.2.2.2.2.2.2,akM (aS n).1 (aS n).2.1 (aS n).2.2.1 (aS n).2.2.2.1 (aS n).2.2.2.2.1 (aS n).2.2.2.2.2.1 (aS n).2.2.2.2.2.2.1 (aS n).2.2.2.2.2.2.2,akN (aS n).1 (aS n).2.1 (aS n).2.2.1 (aS n).2.2.2.1 (aS n).2.2.2.2.1 (aS n).2.2.2.2.2.1 (aS n).2.2.2.2.2.2.1 (aS n).2.2.2.2.2.2.2,akO (aS n).1 (aS n).2.1 (aS n).2.2.1 (aS n).2.2.2.1 (aS n).2.2.2.2.1 (aS n).2.2.2.2.2.1 (aS n).2.2.2.2.2.2.1 (aS n).2.2.2.2.2.2.2,akP (aS n).1 (aS n).2.1 (aS n).2.2.1 (aS n).2.2.2.1 (aS n).2.2.2.2.1 (aS n).2.2.2.2.2.1 (aS n).2.2.2.2.2.2.1 (aS n).2.2.2.2.2.2.2)
def akQ (n:Nat):NM:=(aS n).1
def mg (n:Nat):aU:=⟨agp,u4 (aS n).1⟩
def mF (n:Nat):aU:=⟨agq,u4 (aS n).2.1⟩
def mG (n:Nat):aU:=⟨agr,u4 (aS n).2.2.1⟩
def mJ (n:Nat):aU:=⟨ags,u4 (aS n).2.2.2.1⟩
def mM (n:Nat):aU:=⟨agt,u4 (aS n).2.2.2.2.1⟩
def mO (n:Nat):aU:=⟨agu,u4 (aS n).2.2.2.2.2.1⟩
def mP (n:Nat):aU:=⟨agv,u4 (aS n).2.2.2.2.2.2.1⟩
def mQ (n:Nat):aU:=⟨agw,u4 (aS n).2.2.2.2.2.2.2⟩
theorem Z9 (n:Nat) (Tc:aj Try.prog 89 (mg n)) (Td:aj Try.prog 90 (mF n)) (Tf:aj Try.prog 92 (mG n)) (Ti:aj Try.prog 93 (mJ n)) (h95:aj Try.prog 95 (mM n)) (Tj:aj Try.prog 96 (mO n)) (h97:aj Try.prog 97 (mP n)) (Tn:aj Try.prog 98 (mQ n)):aj Try.prog 89 (mg (n+1)):=
 ts [(67,Xr),(47,IZ),(91,Xt),(89,mg n),(90,mF n),(92,mG n),(93,mJ n),(95,mM n),(96,mO n),(97,mP n),(98,mQ n)] ety [.cell 2 116] ajN Try.func89 rfl ⟨Bq,nR,Bv,Tc,Td,Tf,Ti,h95,Tj,h97,Tn,trivial⟩
theorem Z_ (n:Nat) (Tc:aj Try.prog 89 (mg n)) (Td:aj Try.prog 90 (mF n)) (Tf:aj Try.prog 92 (mG n)) (Ti:aj Try.prog 93 (mJ n)) (h95:aj Try.prog 95 (mM n)) (Tj:aj Try.prog 96 (mO n)) (h97:aj Try.prog 97 (mP n)) (Tn:aj Try.prog 98 (mQ n)):aj Try.prog 90 (mF (n+1)):=
 ts [(67,Xr),(47,IZ),(91,Xt),(89,mg n),(90,mF n),(92,mG n),(93,mJ n),(95,mM n),(96,mO n),(97,mP n),(98,mQ n)] ety [.cell 2 116] ajO Try.func90 rfl ⟨Bq,nR,Bv,Tc,Td,Tf,Ti,h95,Tj,h97,Tn,trivial⟩
theorem aac (n:Nat) (Tc:aj Try.prog 89 (mg n)) (Td:aj Try.prog 90 (mF n)) (Tf:aj Try.prog 92 (mG n)) (Ti:aj Try.prog 93 (mJ n)) (h95:aj Try.prog 95 (mM n)) (Tj:aj Try.prog 96 (mO n)) (h97:aj Try.prog 97 (mP n)) (Tn:aj Try.prog 98 (mQ n)):aj Try.prog 92 (mG (n+1)):=
 ts [(94,ZT),(91,Xt),(89,mg n),(90,mF n),(92,mG n),(93,mJ n),(95,mM n),(96,mO n),(97,mP n),(98,mQ n)] ety [.cell 2 116] ajP Try.func92 rfl ⟨FK,Bv,Tc,Td,Tf,Ti,h95,Tj,h97,Tn,trivial⟩
theorem aad (n:Nat) (Tc:aj Try.prog 89 (mg n)) (Td:aj Try.prog 90 (mF n)) (Tf:aj Try.prog 92 (mG n)) (Ti:aj Try.prog 93 (mJ n)) (h95:aj Try.prog 95 (mM n)) (Tj:aj Try.prog 96 (mO n)) (h97:aj Try.prog 97 (mP n)) (Tn:aj Try.prog 98 (mQ n)):aj Try.prog 93 (mJ (n+1)):=
 ts [(94,ZT),(91,Xt),(89,mg n),(90,mF n),(92,mG n),(93,mJ n),(95,mM n),(96,mO n),(97,mP n),(98,mQ n)] ety [.cell 2 116] ajQ Try.func93 rfl ⟨FK,Bv,Tc,Td,Tf,Ti,h95,Tj,h97,Tn,trivial⟩
theorem aae (n:Nat) (Tc:aj Try.prog 89 (mg n)) (Td:aj Try.prog 90 (mF n)) (Tf:aj Try.prog 92 (mG n)) (Ti:aj Try.prog 93 (mJ n)) (h95:aj Try.prog 95 (mM n)) (Tj:aj Try.prog 96 (mO n)) (h97:aj Try.prog 97 (mP n)) (Tn:aj Try.prog 98 (mQ n)):aj Try.prog 95 (mM (n+1)):=
 ts [(94,ZT),(91,Xt),(89,mg n),(90,mF n),(92,mG n),(93,mJ n),(95,mM n),(96,mO n),(97,mP n),(98,mQ n)] ety [.cell 2 116] ajR Try.func95 rfl ⟨FK,Bv,Tc,Td,Tf,Ti,h95,Tj,h97,Tn,trivial⟩
theorem aaf (n:Nat) (Tc:aj Try.prog 89 (mg n)) (Td:aj Try.prog 90 (mF n)) (Tf:aj Try.prog 92 (mG n)) (Ti:aj Try.prog 93 (mJ n)) (h95:aj Try.prog 95 (mM n)) (Tj:aj Try.prog 96 (mO n)) (h97:aj Try.prog 97 (mP n)) (Tn:aj Try.prog 98 (mQ n)):aj Try.prog 96 (mO (n+1)):=
 ts [(94,ZT),(89,mg n),(90,mF n),(92,mG n),(93,mJ n),(95,mM n),(96,mO n),(97,mP n),(98,mQ n)] ety [.cell 2 116] ajS Try.func96 rfl ⟨FK,Tc,Td,Tf,Ti,h95,Tj,h97,Tn,trivial⟩
theorem aag (n:Nat) (Tc:aj Try.prog 89 (mg n)) (Td:aj Try.prog 90 (mF n)) (Tf:aj Try.prog 92 (mG n)) (Ti:aj Try.prog 93 (mJ n)) (h95:aj Try.prog 95 (mM n)) (Tj:aj Try.prog 96 (mO n)) (h97:aj Try.prog 97 (mP n)) (Tn:aj Try.prog 98 (mQ n)):aj Try.prog 97 (mP (n+1)):=
 ts [(47,IZ),(67,Xr),(48,NG),(50,NH),(89,mg n),(90,mF n),(92,mG n),(93,mJ n),(95,mM n),(96,mO n),(97,mP n),(98,mQ n)] ety [.cell 2 116] ajT Try.func97 rfl ⟨nR,Bq,rH,rJ,Tc,Td,Tf,Ti,h95,Tj,h97,Tn,trivial⟩
theorem aah (n:Nat) (Tc:aj Try.prog 89 (mg n)) (Td:aj Try.prog 90 (mF n)) (Tf:aj Try.prog 92 (mG n)) (Ti:aj Try.prog 93 (mJ n)) (h95:aj Try.prog 95 (mM n)) (Tj:aj Try.prog 96 (mO n)) (h97:aj Try.prog 97 (mP n)) (Tn:aj Try.prog 98 (mQ n)):aj Try.prog 98 (mQ (n+1)):=
 ts [(47,IZ),(48,NG),(50,NH),(68,ZO),(89,mg n),(90,mF n),(92,mG n),(93,mJ n),(95,mM n),(96,mO n),(97,mP n),(98,mQ n)] ety [.cell 2 116] ajU Try.func98 rfl ⟨nR,rH,rJ,FH,Tc,Td,Tf,Ti,h95,Tj,h97,Tn,trivial⟩
theorem EI :∀n,aj Try.prog 89 (mg n)∧aj Try.prog 90 (mF n)∧aj Try.prog 92 (mG n)∧aj Try.prog 93 (mJ n)∧aj Try.prog 95 (mM n)∧aj Try.prog 96 (mO n)∧aj Try.prog 97 (mP n)∧aj Try.prog 98 (mQ n)
 |0=>⟨bI Try.func89 rfl rfl (show agp.er.ok=true by decide +kernel) fun x=>rfl,bI Try.func90 rfl rfl (show agq.er.ok=true by decide +kernel) fun x=>rfl,bI Try.func92 rfl rfl (show agr.er.ok=true by decide +kernel) fun x=>rfl,bI Try.func93 rfl rfl (show ags.er.ok=true by decide +kernel) fun x=>rfl,bI Try.func95 rfl rfl (show agt.er.ok=true by decide +kernel) fun x=>rfl,bI Try.func96 rfl rfl (show agu.er.ok=true by decide +kernel) fun x=>rfl,bI Try.func97 rfl rfl (show agv.er.ok=true by decide +kernel) fun x=>rfl,bI Try.func98 rfl rfl (show agw.er.ok=true by decide +kernel) fun x=>rfl⟩
 |n+1=>by
  have ih:=EI n
  exact ⟨Z9 n (ih.1) (ih.2.1) (ih.2.2.1) (ih.2.2.2.1) (ih.2.2.2.2.1) (ih.2.2.2.2.2.1) (ih.2.2.2.2.2.2.1) (ih.2.2.2.2.2.2.2),Z_ n (ih.1) (ih.2.1) (ih.2.2.1) (ih.2.2.2.1) (ih.2.2.2.2.1) (ih.2.2.2.2.2.1) (ih.2.2.2.2.2.2.1) (ih.2.2.2.2.2.2.2),aac n (ih.1) (ih.2.1) (ih.2.2.1) (ih.2.2.2.1) (ih.2.2.2.2.1) (ih.2.2.2.2.2.1) (ih.2.2.2.2.2.2.1) (ih.2.2.2.2.2.2.2),aad n (ih.1) (ih.2.1) (ih.2.2.1) (ih.2.2.2.1) (ih.2.2.2.2.1) (ih.2.2.2.2.2.1) (ih.2.2.2.2.2.2.1) (ih.2.2.2.2.2.2.2),aae n (ih.1) (ih.2.1) (ih.2.2.1) (ih.2.2.2.1) (ih.2.2.2.2.1) (ih.2.2.2.2.2.1) (ih.2.2.2.2.2.2.1) (ih.2.2.2.2.2.2.2),aaf n (ih.1) (ih.2.1) (ih.2.2.1) (ih.2.2.2.1) (ih.2.2.2.2.1) (ih.2.2.2.2.2.1) (ih.2.2.2.2.2.2.1) (ih.2.2.2.2.2.2.2),aag n (ih.1) (ih.2.1) (ih.2.2.1) (ih.2.2.2.1) (ih.2.2.2.2.1) (ih.2.2.2.2.2.1) (ih.2.2.2.2.2.2.1) (ih.2.2.2.2.2.2.2),aah n (ih.1) (ih.2.1) (ih.2.2.1) (ih.2.2.2.1) (ih.2.2.2.2.1) (ih.2.2.2.2.2.1) (ih.2.2.2.2.2.2.1) (ih.2.2.2.2.2.2.2)⟩
def f89:NM:=akQ 1048576
def aeN:aU:=mg 1048576
theorem Vu:aj Try.prog 89 aeN:=(EI 1048576).1
def f23 (p0:yg) (p1:kE):Option (Int×Int×yg×kE):=
 OB (
  bif (decide (64<(p1.length:Int))) then
   some true
  else
   some (decide (32<(p0.length:Int)))) fun s5=>
 bif s5 then
  some ((0:Int),(5:Int),jA,qy)
 else
  OB (
   bif (decide ((p1.length:Int)=0)) then
    some true
   else
    ck (inB (0:Int) p1.length) <|
    bif (!((List.getD p1 (Int.toNat 0) l9).name==[(109:UInt8),(97:UInt8),(105:UInt8),(110:UInt8)])) then
     some true
    else
     ck (inB (0:Int) p1.length) <|
     some (decide (0<((List.length (List.getD p1 (Int.toNat 0) l9).params):Int)))) fun s15=>
  bif s15 then
   some ((0:Int),(12:Int),jA,qy)
  else
   gq (
    dN (fun (s16:Int)=>
     bif (decide (s16<(p0.length:Int))) then
      ck (inB s16 p0.length) <|
      OB (f34 p0 p1 (List.getD p0 s16.toNat (jq.mk fM 0)).name) fun c20=>
      bif (!(decide (c20=s16))) then
       some (.inr (.inr ((0:Int),(9:Int),jA,qy)))
      else
       some (.inl (gX (s16+1)))
     else
      some (.inr (.inl ()))) (0:Int)) fun s23=>
   gq (
    dN (fun (s24:Int)=>
     bif (decide (s24<(p1.length:Int))) then
      OB (
       ck (inB s24 p1.length) <|
       OB (f34 p0 p1 (List.getD p1 s24.toNat l9).name) fun c28=>
       bif (decide (0≤c28)) then
        some true
       else
        ck (inB s24 p1.length) <|
        OB (f35 p0 p1 (List.getD p1 s24.toNat l9).name) fun c31=>
        some (!(decide (c31=s24)))) fun s34=>
      bif s34 then
       ck (inB s24 p1.length) <|
       some (.inr (.inr ((List.getD p1 s24.toNat l9).line,(9:Int),jA,qy)))
      else
       some (.inl (gX (s24+1)))
     else
      some (.inr (.inl ()))) (0:Int)) fun s37=>
   ck (jk (List.length jA) p0.length 24) <|
   gq (
    dN (fun (I4:(Int×kE))=>
     bif (decide (I4.1<(p1.length:Int))) then
      ck (inB I4.1 p1.length) <|
      let n42:=(List.getD p1 I4.1.toNat l9)
      OB (
       bif (decide (6<((List.length n42.params):Int))) then
        some true
       else
        OB (f36 n42.name n42.line n42.params n42.body) fun c45=>
        bif (decide (32<(c45.length:Int))) then
         some true
        else
         OB (f37 n42.body) fun c49=>
         some (decide (24<c49))) fun s52=>
      bif s52 then
       some (.inr (.inr (n42.line,(5:Int),jA,qy)))
      else
       gq (
        dN (fun (s53:Int)=>
         bif (decide (s53<((List.length n42.params):Int))) then
          OB (
           ck (AA (0:Int) s53 (List.length n42.params)) <|
           ck (inB s53 (List.length n42.params)) <|
           OB (f38 (List.drop (Int.toNat (0:Int)) (List.take s53.toNat n42.params)) (List.getD n42.params s53.toNat fM)) fun c58=>
           bif c58 then
            some true
           else
            ck (inB s53 (List.length n42.params)) <|
            OB (f39 p0 p1 (List.getD n42.params s53.toNat fM)) fun c60=>
            some (!(decide (c60=0)))) fun s63=>
          bif s63 then
           some (.inr (.inr (.inr (.inr (n42.line,(9:Int),jA,qy)))))
          else
           some (.inl (gX (s53+1)))
         else
          some (.inr (.inl ()))) (0:Int)) fun s65=>
       ck (true&&(decide ((((List.length iV)+(List.length n42.params))*(16:Nat))≤(140737488355328:Nat)))) <|
       OB (f40 n42.body p0 p1 0 0 (iV++n42.params)) fun KP=>
       bif (!(decide (KP.2.2.2.1=0))) then
        some (.inr (.inr (KP.2.2.1,KP.2.2.2.1,jA,qy)))
       else
        ck (true&&(decide ((((List.length iV)+(List.length n42.params))*(16:Nat))≤(140737488355328:Nat)))) <|
        let n70:=[(mD.mk n42.name n42.line (iV++n42.params) KP.2.2.2.2.1)]
        ck (jk I4.2.length n70.length 72) <|
        some (.inl ((gX (I4.1+1)),(I4.2++n70)))
     else
      some (.inr (.inl I4.2))) ((0:Int),qy)) fun s73=>
   some ((0:Int),(0:Int),(jA++p0),s73)
def ag5:aU:=⟨ajV,u2 f23⟩
theorem aci:aj Try.prog 23 ag5:=
 ts [(34,aeE),(35,abU),(36,agZ),(37,agG),(38,aeF),(39,aeG),(40,ag1)] ety [.cell 2 34,.tmp 3,.tmp 4] ajW Try.func23 rfl ⟨Vk,Nz,ab_,abV,Vl,Vm,acd,trivial⟩
def f27 (p0:yg) (p1:kE):Option (kE×(List (bV×Int))×(List (List (bV×Int)))×dJ×(List (bV×dJ))):=
 OB (
  dN (fun (s1:(Int×(List (bV×dJ))))=>
   bif (decide (s1.1<(p0.length:Int))) then
    ck (inB s1.1 p0.length) <|
    let n3:=(List.getD p0 s1.1.toNat (jq.mk fM 0))
    let n4:=(Ro (1:Int) n3.size)
    ck (O_ (8:Nat) n4 n4) <|
    some (.inl ((gX (s1.1+1)),(Ru keyS n3.name (List.replicate n4.toNat (0:Int)) s1.2)))
   else
    some (.inr s1.2)) ((0:Int),([]:(List (bV×dJ))))) fun s8=>
 OB (
  dN (fun (s10:(Int×kE×(List (bV×Int))×(List (List (bV×Int)))×dJ))=>
   bif (decide (s10.1<(p1.length:Int))) then
    ck (inB s10.1 p1.length) <|
    let n12:=(List.getD p1 s10.1.toNat l9)
    OB (f43 n12.name n12.line n12.params n12.body) fun c14=>
    OB (
     dN (fun (s16:(Int×(List (bV×Int))))=>
      bif (decide (s16.1<(c14.length:Int))) then
       ck (inB s16.1 c14.length) <|
       some (.inl ((gX (s16.1+1)),(Ru keyS (List.getD c14 s16.1.toNat fM) s16.1 s16.2)))
      else
       some (.inr s16.2)) ((0:Int),([]:(List (bV×Int))))) fun s21=>
    let n22:=[s21]
    ck (jk s10.2.2.2.1.length n22.length 8) <|
    let n25:=[(c14.length:Int)]
    ck (jk s10.2.2.2.2.length n25.length 8) <|
    some (.inl ((gX (s10.1+1)),s10.2.1,(Ru keyS n12.name s10.1 s10.2.2.1),(s10.2.2.2.1++n22),(s10.2.2.2.2++n25)))
   else
    some (.inr s10.2)) ((0:Int),p1,([]:(List (bV×Int))),([]:(List (List (bV×Int)))),eInt)) fun XC=>
 some (XC.1,XC.2.1,XC.2.2.1,XC.2.2.2,s8)
def ag6:aU:=⟨ajX,u2 f27⟩
theorem acj:aj Try.prog 27 ag6:=
 ts [(43,ag2)] ety [.cell 2 63] ajY Try.func27 rfl ⟨ace,trivial⟩
def f46 (p0:bV) (p1:Int) (p2:Int):Option (Int×Int×Int×bV×Int×Bool):=
 ck (inB p1 p0.length) <|
 OB (f61 ((UInt8.toNat (List.getD p0 p1.toNat (0:UInt8))):Int)) fun c1=>
 bif c1 then
  OB (
   dN (fun (s2:Int)=>
    OB (
     bif (decide (s2<(p0.length:Int))) then
      ck (inB s2 p0.length) <|
      OB (f61 ((UInt8.toNat (List.getD p0 s2.toNat (0:UInt8))):Int)) fun c6=>
      bif c6 then
       some true
      else
       ck (inB s2 p0.length) <|
       OB (f62 ((UInt8.toNat (List.getD p0 s2.toNat (0:UInt8))):Int)) fun c9=>
       bif c9 then
        some true
       else
        ck (inB s2 p0.length) <|
        some (decide (((UInt8.toNat (List.getD p0 s2.toNat (0:UInt8))):Int)=95))
     else
      some false) fun s16=>
    bif s16 then
     some (.inl (gX (s2+1)))
    else
     some (.inr s2)) p1) fun Dw=>
  ck (AA p1 Dw p0.length) <|
  let n19:=(List.drop p1.toNat (List.take Dw.toNat p0))
  OB (f63 n19) fun c20=>
  OB (
   bif c20 then
    some ((3:Int),p2,(0:Int),n19)
   else
    some ((1:Int),p2,(0:Int),n19)) fun s21=>
  OB (
   bif (decide (s21.1=3)) then
    some (Dw,true,s21)
   else
    OB (f64 s21.2.2.2) fun c23=>
    some (Dw,c23,s21)) fun s25=>
  some (s25.2.2.1,s25.2.2.2.1,s25.2.2.2.2.1,s25.2.2.2.2.2,s25.1,s25.2.1)
 else
  ck (inB p1 p0.length) <|
  OB (f62 ((UInt8.toNat (List.getD p0 p1.toNat (0:UInt8))):Int)) fun BI=>
  bif BI then
   OB (
    dN (fun (XC:Int)=>
     OB (
      bif (decide (XC<(p0.length:Int))) then
       ck (inB XC p0.length) <|
       OB (f62 ((UInt8.toNat (List.getD p0 XC.toNat (0:UInt8))):Int)) fun c32=>
       some c32
      else
       some false) fun s34=>
     bif s34 then
      some (.inl (gX (XC+1)))
     else
      some (.inr XC)) p1) fun s36=>
   ck (AA p1 s36 p0.length) <|
   let n37:=(List.drop p1.toNat (List.take s36.toNat p0))
   OB (f65 n37) fun c38=>
   OB (
    bif (decide (s36<(p0.length:Int))) then
     ck (inB s36 p0.length) <|
     OB (f61 ((UInt8.toNat (List.getD p0 s36.toNat (0:UInt8))):Int)) fun c42=>
     bif c42 then
      bif true then
       some true
      else
       ck (inB p1 p0.length) <|
       bif (decide (((UInt8.toNat (List.getD p0 p1.toNat (0:UInt8))):Int)=48)) then
        some (decide ((gX (p1+1))<s36))
       else
        some false
     else
      ck (inB s36 p0.length) <|
      bif (decide (((UInt8.toNat (List.getD p0 s36.toNat (0:UInt8))):Int)=95)) then
       some true
      else
       ck (inB p1 p0.length) <|
       bif (decide (((UInt8.toNat (List.getD p0 p1.toNat (0:UInt8))):Int)=48)) then
        some (decide ((gX (p1+1))<s36))
       else
        some false
    else
     ck (inB p1 p0.length) <|
     bif (decide (((UInt8.toNat (List.getD p0 p1.toNat (0:UInt8))):Int)=48)) then
      some (decide ((gX (p1+1))<s36))
     else
      some false) fun s69=>
   OB (
    bif s69 then
     some false
    else
     some c38.2) fun s70=>
   some ((2:Int),p2,c38.1,n37,s36,s70)
  else
   gq (
    dN (fun (s71:Int)=>
     bif (decide (0<s71)) then
      OB (
       bif (decide ((gX (p1+s71))≤(p0.length:Int))) then
        let n76:=(gX (p1+s71))
        ck (AA p1 n76 p0.length) <|
        OB (f66 (List.drop p1.toNat (List.take n76.toNat p0))) fun c78=>
        some c78
       else
        some false) fun s80=>
      bif s80 then
       let n81:=(gX (p1+s71))
       ck (AA p1 n81 p0.length) <|
       some (.inr (.inr ((4:Int),p2,(0:Int),(List.drop p1.toNat (List.take n81.toNat p0)),(gX (p1+s71)),true)))
      else
       some (.inl (gX (s71-1)))
     else
      some (.inr (.inl ()))) (2:Int)) fun s85=>
   some ((0:Int),(0:Int),(0:Int),fM,(0:Int),false)
def ag7:aU:=⟨ajZ,u3 f46⟩
theorem acn:aj Try.prog 46 ag7:=
 ts [(61,aeH),(62,aeI),(63,aeM),(64,ag3),(65,agO),(66,ag4)] ety [.cell 6 102,.tmp 7,.tmp 8] aj0 Try.func46 rfl ⟨Vo,Vp,Vt,acf,ab2,acg,trivial⟩
def f49 (p0:jy) (p1:Int) (p2:Bool) (p3:Int):Option (bV×Int×jy×Int×Bool×Int):=
 OB (f68 1 p0 p1 p2 p3) fun c0=>
 OB (f48 [(91:UInt8)] c0.2.2.2.2.1 c0.2.2.2.2.2.1 c0.2.2.2.2.2.2.1 c0.2.2.2.2.2.2.2) fun c1=>
 OB (
  bif c1.1 then
   OB (f68 2 c1.2.1 c1.2.2.1 c1.2.2.2.1 c1.2.2.2.2) fun c2=>
   OB (
    bif (!c2.2.2.2.2.2.2.1) then
     bif (decide (c2.2.2.1<1)) then
      bif true then
       some (decide (c2.2.2.2.2.2.2.2=0))
      else
       some false
     else
      bif (decide (1024<c2.2.2.1)) then
       some (decide (c2.2.2.2.2.2.2.2=0))
      else
       some false
    else
     some false) fun s13=>
   OB (
    bif s13 then
     some (c2.2.2.2.2.1,c2.2.2.2.2.2.1,c2.2.2.2.2.2.2.1,c2.2.1)
    else
     some c2.2.2.2.2) fun s14=>
   OB (f50 [(93:UInt8)] s14.1 s14.2.1 s14.2.2.1 s14.2.2.2) fun c15=>
   some (c15.1,c15.2.1,c15.2.2.1,c15.2.2.2,c0.2.2.2.1,c2.2.2.1)
  else
   some (c1.2.1,c1.2.2.1,c1.2.2.2.1,c1.2.2.2.2,c0.2.2.2.1,(0:Int))) fun s16=>
 OB (f50 [(59:UInt8)] s16.1 s16.2.1 s16.2.2.1 s16.2.2.2.1) fun c17=>
 some (s16.2.2.2.2.1,s16.2.2.2.2.2,c17)
def ag8:aU:=⟨aj1,u4 f49⟩
theorem aco:aj Try.prog 49 ag8:=
 ts [(68,ZO),(48,NG),(50,NH)] ety [.cell 2 82] aj2 Try.func49 rfl ⟨FH,rH,rJ,trivial⟩
def f88 (p0:jy) (p1:Int) (p2:Bool) (p3:Int):Option (Int×Int×Int×Int×bV×oq×jy×Int×Bool×Int):=
 OB (f89 p0 p1 p2 p3) fun c0=>
 OB (f50 [(59:UInt8)] c0.2.2.2.2.2.2.1 c0.2.2.2.2.2.2.2.1 c0.2.2.2.2.2.2.2.2.1 c0.2.2.2.2.2.2.2.2.2) fun c1=>
 some (c0.1,c0.2.1,c0.2.2.1,c0.2.2.2.1,c0.2.2.2.2.1,c0.2.2.2.2.2.1,c1)
def ag9:aU:=⟨aj3,u4 f88⟩
theorem acp:aj Try.prog 88 ag9:=
 ts [(89,aeN),(50,NH)] ety [.cell 2 116] aj6 Try.func88 rfl ⟨Vu,rJ,trivial⟩
def f15 (p0:yg) (p1:kE) (p2:dJ) (p3:Int) (p4:Int):Option (Int×Int×Int×Int×dJ):=
 OB (
  OB (f27 p0 p1) fun c2=>
  some (c2.1,c2.2.1,c2.2.2.1,c2.2.2.2.1,c2.2.2.2.2,p2,(Yt p3 (1099511627776:Int)),(Yt p4 (400:Int)),(0:Int),(0:Int),(0:Int),(0:Int),(0:Int),eInt)) fun s3=>
 OB (f28 0 eInt s3.1 s3.2.1 s3.2.2.1 s3.2.2.2.1 s3.2.2.2.2.1 s3.2.2.2.2.2.1 s3.2.2.2.2.2.2.1 s3.2.2.2.2.2.2.2.1 s3.2.2.2.2.2.2.2.2.1 s3.2.2.2.2.2.2.2.2.2.1 s3.2.2.2.2.2.2.2.2.2.2.1 s3.2.2.2.2.2.2.2.2.2.2.2.1 s3.2.2.2.2.2.2.2.2.2.2.2.2.1 s3.2.2.2.2.2.2.2.2.2.2.2.2.2) fun c4=>
 OB (
  bif c4.2.1 then
   some (c4.2.2.1,c4.2.2.2.1,c4.2.2.2.2.1,c4.2.2.2.2.2.1,c4.2.2.2.2.2.2.1,c4.2.2.2.2.2.2.2.1,c4.2.2.2.2.2.2.2.2.1,c4.2.2.2.2.2.2.2.2.2.1,c4.2.2.2.2.2.2.2.2.2.2.1,c4.2.2.2.2.2.2.2.2.2.2.2.1,(1:Int),c4.1,c4.2.2.2.2.2.2.2.2.2.2.2.2.2.2.1)
  else
   some (c4.2.2.1,c4.2.2.2.1,c4.2.2.2.2.1,c4.2.2.2.2.2.1,c4.2.2.2.2.2.2.1,c4.2.2.2.2.2.2.2.1,c4.2.2.2.2.2.2.2.2.1,c4.2.2.2.2.2.2.2.2.2.1,c4.2.2.2.2.2.2.2.2.2.2.1,c4.2.2.2.2.2.2.2.2.2.2.2.1,c4.2.2.2.2.2.2.2.2.2.2.2.2.1,c4.2.2.2.2.2.2.2.2.2.2.2.2.2.1,c4.2.2.2.2.2.2.2.2.2.2.2.2.2.2.1)) fun s5=>
 some (s5.2.2.2.2.2.2.2.2.2.2.1,s5.2.2.2.2.2.2.2.2.2.2.2.1,s5.2.2.2.2.2.2.2.2.2.2.2.2,s5.2.2.2.2.2.2.2.2.1,c4.2.2.2.2.2.2.2.2.2.2.2.2.2.2.2)
def ag_:aU:=⟨aj7,u5 f15⟩
theorem acr:aj Try.prog 15 ag_:=
 ts [(27,ag6),(28,agX)] ety [.cell 6 40,.tmp 7] aj8 Try.func15 rfl ⟨acj,ab8,trivial⟩
def f31 (p0:bV):Option (Int×Int×jy):=
 bif (decide (65536<(p0.length:Int))) then
  some ((0:Int),(5:Int),([]:jy))
 else
  gq (
   dN (fun (s2:(Int×Int×jy))=>
    bif (decide (s2.2.1<(p0.length:Int))) then
     ck (inB s2.2.1 p0.length) <|
     gq (
      bif (decide (((UInt8.toNat (List.getD p0 s2.2.1.toNat (0:UInt8))):Int)=10)) then
       some (.inl ((gX (s2.1+1)),(gX (s2.2.1+1)),s2.2.2))
      else
       OB (
        ck (inB s2.2.1 p0.length) <|
        bif (decide (((UInt8.toNat (List.getD p0 s2.2.1.toNat (0:UInt8))):Int)=32)) then
         some true
        else
         ck (inB s2.2.1 p0.length) <|
         some (decide (((UInt8.toNat (List.getD p0 s2.2.1.toNat (0:UInt8))):Int)=9))) fun s14=>
       gq (
        bif s14 then
         some (.inl ((gX (s2.2.1+1)),s2.2.2))
        else
         ck (inB s2.2.1 p0.length) <|
         gq (
          bif (decide (((UInt8.toNat (List.getD p0 s2.2.1.toNat (0:UInt8))):Int)=35)) then
           OB (
            dN (fun (Dw:Int)=>
             OB (
              bif (decide (Dw<(p0.length:Int))) then
               ck (inB Dw p0.length) <|
               some (!(decide (((UInt8.toNat (List.getD p0 Dw.toNat (0:UInt8))):Int)=10)))
              else
               some false) fun s24=>
             bif s24 then
              some (.inl (gX (Dw+1)))
             else
              some (.inr Dw)) s2.2.1) fun s26=>
           some (.inl (s26,s2.2.2))
          else
           OB (f46 p0 s2.2.1 s2.1) fun BI=>
           bif (!BI.2.2.2.2.2) then
            some (.inr (.inr (.inr (.inr (.inr (s2.1,(6:Int),([]:jy)))))))
           else
            let n29:=[(jS.mk BI.1 BI.2.1 BI.2.2.1 BI.2.2.2.1)]
            ck (jk s2.2.2.length n29.length 40) <|
            some (.inl (BI.2.2.2.2.1,(s2.2.2++n29)))) fun s31=>
         some (.inl s31)) fun s32=>
       some (.inl (s2.1,s32))) fun s33=>
     some (.inl s33)
    else
     some (.inr (.inl (s2.1,s2.2.2)))) ((1:Int),(0:Int),([]:jy))) fun s34=>
  let n35:=[(jS.mk 0 s34.1 0 fM)]
  ck (jk s34.2.length n35.length 40) <|
  some ((0:Int),(0:Int),(s34.2++n35))
def aha:aU:=⟨aj9,f31⟩
theorem acs:aj Try.prog 31 aha:=
 ts [(46,ag7)] ety [.tmp 2,.tmp 3,.tmp 4] aj_ Try.func31 rfl ⟨acn,trivial⟩
def akR (Vx:T69) (adn:T83) (p0:jy) (p1:Int) (p2:Bool) (p3:Int):Option (jy×Int×Bool×Int×xI):=
 OB (f50 [(123:UInt8)] p0 p1 p2 p3) fun c0=>
 OB (
  dN (fun (s1:(jy×Int×Bool×Int×xI))=>
   OB (
    bif (!s1.2.2.1) then
     OB (f48 [(125:UInt8)] s1.1 s1.2.1 s1.2.2.1 s1.2.2.2.1) fun c3=>
     some ((!c3.1),c3.2)
    else
     some (false,s1.1,s1.2.1,s1.2.2.1,s1.2.2.2.1)) fun s6=>
   bif s6.1 then
    OB (adn s6.2.1 s6.2.2.1 s6.2.2.2.1 s6.2.2.2.2) fun c7=>
    let n8:=[(jf.mk c7.1 c7.2.1 c7.2.2.1 c7.2.2.2.2.2.2.2.1 c7.2.2.2.2.2.2.2.2.1 c7.2.2.2.2.2.2.2.2.2)]
    ck (jk s1.2.2.2.2.length n8.length 104) <|
    some (.inl (c7.2.2.2.1,c7.2.2.2.2.1,c7.2.2.2.2.2.1,c7.2.2.2.2.2.2.1,(s1.2.2.2.2++n8)))
   else
    some (.inr (s6.2.1,s6.2.2.1,s6.2.2.2.1,s6.2.2.2.2,s1.2.2.2.2))) (c0.1,c0.2.1,c0.2.2.1,c0.2.2.2,zI)) fun s10=>
 some s10
def akS (Vx:T69) (adn:T83) (p0:jy) (p1:Int) (p2:Bool) (p3:Int):Option (Int×Int×bV×jy×Int×Bool×Int×oq×xI×xI):=
 OB (f47 p0 p1 p2 p3) fun c0=>
 OB (f48 [(118:UInt8),(97:UInt8),(114:UInt8)] c0.2.2.2.2.1 c0.2.2.2.2.2.1 c0.2.2.2.2.2.2.1 c0.2.2.2.2.2.2.2) fun c1=>
 OB (
  bif c1.1 then
   OB (f68 1 c1.2.1 c1.2.2.1 c1.2.2.2.1 c1.2.2.2.2) fun c2=>
   OB (f50 [(61:UInt8)] c2.2.2.2.2.1 c2.2.2.2.2.2.1 c2.2.2.2.2.2.2.1 c2.2.2.2.2.2.2.2) fun c3=>
   OB (f88 c3.1 c3.2.1 c3.2.2.1 c3.2.2.2) fun c4=>
   some (c4.2.2.2.2.2.2.1,c4.2.2.2.2.2.2.2.1,c4.2.2.2.2.2.2.2.2.1,c4.2.2.2.2.2.2.2.2.2,(1:Int),c0.2.1,c2.2.2.2.1,[(eP.mk c4.1 c4.2.1 c4.2.2.1 c4.2.2.2.1 c4.2.2.2.2.1 c4.2.2.2.2.2.1)],zI,zI)
  else
   OB (f48 [(105:UInt8),(102:UInt8)] c1.2.1 c1.2.2.1 c1.2.2.2.1 c1.2.2.2.2) fun c6=>
   OB (
    bif c6.1 then
     OB (f89 c6.2.1 c6.2.2.1 c6.2.2.2.1 c6.2.2.2.2) fun c7=>
     OB (Vx c7.2.2.2.2.2.2.1 c7.2.2.2.2.2.2.2.1 c7.2.2.2.2.2.2.2.2.1 c7.2.2.2.2.2.2.2.2.2) fun c9=>
     OB (f48 [(101:UInt8),(108:UInt8),(115:UInt8),(101:UInt8)] c9.1 c9.2.1 c9.2.2.1 c9.2.2.2.1) fun c10=>
     OB (
      bif c10.1 then
       OB (Vx c10.2.1 c10.2.2.1 c10.2.2.2.1 c10.2.2.2.2) fun c11=>
       some (c11.1,c11.2.1,c11.2.2.1,c11.2.2.2.1,(4:Int),c0.2.1,fM,c11.2.2.2.2)
      else
       some (c10.2.1,c10.2.2.1,c10.2.2.2.1,c10.2.2.2.2,(4:Int),c0.2.1,fM,zI)) fun s12=>
     some (s12.1,s12.2.1,s12.2.2.1,s12.2.2.2.1,s12.2.2.2.2.1,s12.2.2.2.2.2.1,s12.2.2.2.2.2.2.1,[(eP.mk c7.1 c7.2.1 c7.2.2.1 c7.2.2.2.1 c7.2.2.2.2.1 c7.2.2.2.2.2.1)],c9.2.2.2.2,s12.2.2.2.2.2.2.2)
    else
     OB (f48 [(119:UInt8),(104:UInt8),(105:UInt8),(108:UInt8),(101:UInt8)] c6.2.1 c6.2.2.1 c6.2.2.2.1 c6.2.2.2.2) fun c13=>
     OB (
      bif c13.1 then
       OB (f89 c13.2.1 c13.2.2.1 c13.2.2.2.1 c13.2.2.2.2) fun c14=>
       OB (Vx c14.2.2.2.2.2.2.1 c14.2.2.2.2.2.2.2.1 c14.2.2.2.2.2.2.2.2.1 c14.2.2.2.2.2.2.2.2.2) fun c16=>
       some (c16.1,c16.2.1,c16.2.2.1,c16.2.2.2.1,(5:Int),c0.2.1,fM,[(eP.mk c14.1 c14.2.1 c14.2.2.1 c14.2.2.2.1 c14.2.2.2.2.1 c14.2.2.2.2.2.1)],c16.2.2.2.2)
      else
       OB (f48 [(114:UInt8),(101:UInt8),(116:UInt8),(117:UInt8),(114:UInt8),(110:UInt8)] c13.2.1 c13.2.2.1 c13.2.2.2.1 c13.2.2.2.2) fun c17=>
       OB (
        bif c17.1 then
         OB (f88 c17.2.1 c17.2.2.1 c17.2.2.2.1 c17.2.2.2.2) fun c18=>
         some (c18.2.2.2.2.2.2.1,c18.2.2.2.2.2.2.2.1,c18.2.2.2.2.2.2.2.2.1,c18.2.2.2.2.2.2.2.2.2,(6:Int),c0.2.1,fM,[(eP.mk c18.1 c18.2.1 c18.2.2.1 c18.2.2.2.1 c18.2.2.2.2.1 c18.2.2.2.2.2.1)])
        else
         OB (f48 [(112:UInt8),(114:UInt8),(105:UInt8),(110:UInt8),(116:UInt8)] c17.2.1 c17.2.2.1 c17.2.2.2.1 c17.2.2.2.2) fun c20=>
         OB (
          bif c20.1 then
           OB (f88 c20.2.1 c20.2.2.1 c20.2.2.2.1 c20.2.2.2.2) fun c21=>
           some (c21.2.2.2.2.2.2.1,c21.2.2.2.2.2.2.2.1,c21.2.2.2.2.2.2.2.2.1,c21.2.2.2.2.2.2.2.2.2,(7:Int),c0.2.1,fM,[(eP.mk c21.1 c21.2.1 c21.2.2.1 c21.2.2.2.1 c21.2.2.2.2.1 c21.2.2.2.2.2.1)])
          else
           OB (f48 [(99:UInt8),(97:UInt8),(108:UInt8),(108:UInt8)] c20.2.1 c20.2.2.1 c20.2.2.2.1 c20.2.2.2.2) fun c23=>
           OB (
            bif c23.1 then
             OB (f88 c23.2.1 c23.2.2.1 c23.2.2.2.1 c23.2.2.2.2) fun c24=>
             some (c24.2.2.2.2.2.2.1,c24.2.2.2.2.2.2.2.1,c24.2.2.2.2.2.2.2.2.1,c24.2.2.2.2.2.2.2.2.2,(8:Int),c0.2.1,fM,[(eP.mk c24.1 c24.2.1 c24.2.2.1 c24.2.2.2.1 c24.2.2.2.2.1 c24.2.2.2.2.2.1)])
            else
             OB (f68 1 c23.2.1 c23.2.2.1 c23.2.2.2.1 c23.2.2.2.2) fun c26=>
             OB (f48 [(91:UInt8)] c26.2.2.2.2.1 c26.2.2.2.2.2.1 c26.2.2.2.2.2.2.1 c26.2.2.2.2.2.2.2) fun BI=>
             OB (
              bif BI.1 then
               OB (f89 BI.2.1 BI.2.2.1 BI.2.2.2.1 BI.2.2.2.2) fun c28=>
               OB (f50 [(93:UInt8)] c28.2.2.2.2.2.2.1 c28.2.2.2.2.2.2.2.1 c28.2.2.2.2.2.2.2.2.1 c28.2.2.2.2.2.2.2.2.2) fun c30=>
               some (c30.1,c30.2.1,c30.2.2.1,c30.2.2.2,(3:Int),c0.2.1,c26.2.2.2.1,[(eP.mk c28.1 c28.2.1 c28.2.2.1 c28.2.2.2.1 c28.2.2.2.2.1 c28.2.2.2.2.2.1)])
              else
               some (BI.2.1,BI.2.2.1,BI.2.2.2.1,BI.2.2.2.2,(2:Int),c0.2.1,c26.2.2.2.1,nM)) fun s31=>
             OB (f50 [(61:UInt8)] s31.1 s31.2.1 s31.2.2.1 s31.2.2.2.1) fun c32=>
             OB (f88 c32.1 c32.2.1 c32.2.2.1 c32.2.2.2) fun c33=>
             let n34:=[(eP.mk c33.1 c33.2.1 c33.2.2.1 c33.2.2.2.1 c33.2.2.2.2.1 c33.2.2.2.2.2.1)]
             ck (jk s31.2.2.2.2.2.2.2.length n34.length 72) <|
             some (c33.2.2.2.2.2.2.1,c33.2.2.2.2.2.2.2.1,c33.2.2.2.2.2.2.2.2.1,c33.2.2.2.2.2.2.2.2.2,s31.2.2.2.2.1,s31.2.2.2.2.2.1,s31.2.2.2.2.2.2.1,(s31.2.2.2.2.2.2.2++n34))) fun s36=>
           some s36) fun s37=>
         some s37) fun s38=>
       some (s38.1,s38.2.1,s38.2.2.1,s38.2.2.2.1,s38.2.2.2.2.1,s38.2.2.2.2.2.1,s38.2.2.2.2.2.2.1,s38.2.2.2.2.2.2.2,zI)) fun I4=>
     some (I4.1,I4.2.1,I4.2.2.1,I4.2.2.2.1,I4.2.2.2.2.1,I4.2.2.2.2.2.1,I4.2.2.2.2.2.2.1,I4.2.2.2.2.2.2.2.1,I4.2.2.2.2.2.2.2.2,zI)) fun Qw=>
   some Qw) fun SY=>
 some (SY.2.2.2.2.1,SY.2.2.2.2.2.1,SY.2.2.2.2.2.2.1,SY.1,SY.2.1,SY.2.2.1,SY.2.2.2.1,SY.2.2.2.2.2.2.2.1,SY.2.2.2.2.2.2.2.2.1,SY.2.2.2.2.2.2.2.2.2)
def zK:Nat→T69×T83
 |0=>(fun _ _ _ _=>none,fun _ _ _ _=>none)
 |n+1=>(akR (zK n).1 (zK n).2,akS (zK n).1 (zK n).2)
def akT (n:Nat):T69:=(zK n).1
def I9 (n:Nat):aU:=⟨agx,u4 (zK n).1⟩
def KQ (n:Nat):aU:=⟨agy,u4 (zK n).2⟩
theorem aaj (n:Nat) (h69:aj Try.prog 69 (I9 n)) (h83:aj Try.prog 83 (KQ n)):aj Try.prog 69 (I9 (n+1)):=
 ts [(50,NH),(48,NG),(69,I9 n),(83,KQ n)] ety [.tmp 2] akb Try.func69 rfl ⟨rJ,rH,h69,h83,trivial⟩
theorem aak (n:Nat) (h69:aj Try.prog 69 (I9 n)) (h83:aj Try.prog 83 (KQ n)):aj Try.prog 83 (KQ (n+1)):=
 ts [(47,IZ),(48,NG),(68,ZO),(50,NH),(88,ag9),(89,aeN),(69,I9 n),(83,KQ n)] ety [.cell 2 113] akc Try.func83 rfl ⟨nR,rH,FH,rJ,acp,Vu,h69,h83,trivial⟩
theorem EJ :∀n,aj Try.prog 69 (I9 n)∧aj Try.prog 83 (KQ n)
 |0=>⟨bI Try.func69 rfl rfl (show agx.er.ok=true by decide +kernel) fun x=>rfl,bI Try.func83 rfl rfl (show agy.er.ok=true by decide +kernel) fun x=>rfl⟩
 |n+1=>by
  have ih:=EJ n
  exact ⟨aaj n (ih.1) (ih.2),aak n (ih.1) (ih.2)⟩
def f69:T69:=akT 1048576
def ahb:aU:=I9 1048576
theorem acu:aj Try.prog 69 ahb:=(EJ 1048576).1
def f51 (p0:jy) (p1:Int) (p2:Bool) (p3:Int):Option (bV×Int×jy×Int×Bool×Int×iw×xI):=
 OB (f68 1 p0 p1 p2 p3) fun c0=>
 OB (f50 [(40:UInt8)] c0.2.2.2.2.1 c0.2.2.2.2.2.1 c0.2.2.2.2.2.2.1 c0.2.2.2.2.2.2.2) fun c1=>
 OB (f48 [(41:UInt8)] c1.1 c1.2.1 c1.2.2.1 c1.2.2.2) fun c2=>
 OB (
  bif (!c2.1) then
   OB (f68 1 c2.2.1 c2.2.2.1 c2.2.2.2.1 c2.2.2.2.2) fun c4=>
   let n5:=[c4.2.2.2.1]
   ck (true&&(decide ((((List.length iV)+n5.length)*(16:Nat))≤(140737488355328:Nat)))) <|
   OB (
    dN (fun (s7:(jy×Int×Bool×Int×bV×Int×iw))=>
     OB (f48 [(44:UInt8)] s7.1 s7.2.1 s7.2.2.1 s7.2.2.2.1) fun c8=>
     bif c8.1 then
      OB (f68 1 c8.2.1 c8.2.2.1 c8.2.2.2.1 c8.2.2.2.2) fun c9=>
      let n10:=[c9.2.2.2.1]
      ck (jk s7.2.2.2.2.2.2.length n10.length 16) <|
      some (.inl (c9.2.2.2.2.1,c9.2.2.2.2.2.1,c9.2.2.2.2.2.2.1,c9.2.2.2.2.2.2.2,s7.2.2.2.2.1,s7.2.2.2.2.2.1,(s7.2.2.2.2.2.2++n10)))
     else
      some (.inr (c8.2.1,c8.2.2.1,c8.2.2.2.1,c8.2.2.2.2,s7.2.2.2.2))) (c4.2.2.2.2.1,c4.2.2.2.2.2.1,c4.2.2.2.2.2.2.1,c4.2.2.2.2.2.2.2,c0.2.2.2.1,(0:Int),(iV++n5))) fun s12=>
   OB (f50 [(41:UInt8)] s12.1 s12.2.1 s12.2.2.1 s12.2.2.2.1) fun c13=>
   some (c13.1,c13.2.1,c13.2.2.1,c13.2.2.2,s12.2.2.2.2)
  else
   some (c2.2.1,c2.2.2.1,c2.2.2.2.1,c2.2.2.2.2,c0.2.2.2.1,(0:Int),iV)) fun s14=>
 OB (f69 s14.1 s14.2.1 s14.2.2.1 s14.2.2.2.1) fun c15=>
 some (s14.2.2.2.2.1,s14.2.2.2.2.2.1,c15.1,c15.2.1,c15.2.2.1,c15.2.2.2.1,s14.2.2.2.2.2.2,c15.2.2.2.2)
def ahc:aU:=⟨akd,u4 f51⟩
theorem acv:aj Try.prog 51 ahc:=
 ts [(68,ZO),(50,NH),(48,NG),(69,ahb)] ety [.cell 2 79] ake Try.func51 rfl ⟨FH,rJ,rH,acu,trivial⟩
def f32 (p0:jy) (p1:Int) (p2:Bool) (p3:Int):Option (jy×Int×Bool×Int×yg×kE):=
 OB (
  dN (fun (s0:(jy×Int×Bool×Int×yg×kE))=>
   OB (
    bif (!s0.2.2.1) then
     OB (f47 s0.1 s0.2.1 s0.2.2.1 s0.2.2.2.1) fun c2=>
     some ((!(decide (c2.1=0))),c2.2.2.2.2)
    else
     some (false,s0.1,s0.2.1,s0.2.2.1,s0.2.2.2.1)) fun s5=>
   bif s5.1 then
    OB (
     OB (f48 [(103:UInt8),(108:UInt8),(111:UInt8),(98:UInt8),(97:UInt8),(108:UInt8)] s5.2.1 s5.2.2.1 s5.2.2.2.1 s5.2.2.2.2) fun c6=>
     bif c6.1 then
      OB (f49 c6.2.1 c6.2.2.1 c6.2.2.2.1 c6.2.2.2.2) fun c7=>
      let n8:=[(jq.mk c7.1 c7.2.1)]
      ck (jk s0.2.2.2.2.1.length n8.length 24) <|
      some (c7.2.2.1,c7.2.2.2.1,c7.2.2.2.2.1,c7.2.2.2.2.2,(s0.2.2.2.2.1++n8),s0.2.2.2.2.2)
     else
      OB (f47 c6.2.1 c6.2.2.1 c6.2.2.2.1 c6.2.2.2.2) fun c10=>
      OB (f50 [(102:UInt8),(117:UInt8),(110:UInt8),(99:UInt8)] c10.2.2.2.2.1 c10.2.2.2.2.2.1 c10.2.2.2.2.2.2.1 c10.2.2.2.2.2.2.2) fun c11=>
      OB (f51 c11.1 c11.2.1 c11.2.2.1 c11.2.2.2) fun c12=>
      let n13:=[(mD.mk c12.1 c10.2.1 c12.2.2.2.2.2.2.1 c12.2.2.2.2.2.2.2)]
      ck (jk s0.2.2.2.2.2.length n13.length 72) <|
      some (c12.2.2.1,c12.2.2.2.1,c12.2.2.2.2.1,c12.2.2.2.2.2.1,s0.2.2.2.2.1,(s0.2.2.2.2.2++n13))) fun s15=>
    some (.inl s15)
   else
    some (.inr (s5.2.1,s5.2.2.1,s5.2.2.2.1,s5.2.2.2.2,s0.2.2.2.2))) (p0,p1,p2,p3,jA,qy)) fun s16=>
 some s16
def ahd:aU:=⟨akf,u4 f32⟩
theorem acw:aj Try.prog 32 ahd:=
 ts [(47,IZ),(48,NG),(49,ag8),(50,NH),(51,ahc)] ety [.cell 2 34] akg Try.func32 rfl ⟨nR,rH,aco,rJ,acv,trivial⟩
def f22 (p0:bV):Option (Int×Int×yg×kE):=
 OB (f31 p0) fun c0=>
 bif (!(decide (c0.2.1=0))) then
  some (c0.1,c0.2.1,jA,qy)
 else
  OB (
   some (c0.2.2,(0:Int),false,(0:Int))) fun s2=>
  OB (f32 s2.1 s2.2.1 s2.2.2.1 s2.2.2.2) fun c3=>
  OB (f33 c3.1 c3.2.1 c3.2.2.1 c3.2.2.2.1) fun c4=>
  bif (!(decide (c4.2.1=0))) then
   some (c4.1,c4.2.1,jA,qy)
  else
   some ((0:Int),(0:Int),c3.2.2.2.2)
def ahe:aU:=⟨akh,f22⟩
theorem acy:aj Try.prog 22 ahe:=
 ts [(31,aha),(32,ahd),(33,agY)] ety [.cell 2 34,.tmp 3,.tmp 4] aki Try.func22 rfl ⟨acs,acw,ab9,trivial⟩
def f7:Option Bool:=
 OB (f22 [(102:UInt8),(117:UInt8),(110:UInt8),(99:UInt8),(32:UInt8),(109:UInt8),(97:UInt8),(105:UInt8),(110:UInt8),(40:UInt8),(41:UInt8),(32:UInt8),(123:UInt8),(32:UInt8),(112:UInt8),(114:UInt8),(105:UInt8),(110:UInt8),(116:UInt8),(32:UInt8),(55:UInt8),(32:UInt8),(47:UInt8),(32:UInt8),(50:UInt8),(59:UInt8),(32:UInt8),(114:UInt8),(101:UInt8),(116:UInt8),(117:UInt8),(114:UInt8),(110:UInt8),(32:UInt8),(48:UInt8),(32:UInt8),(45:UInt8),(32:UInt8),(55:UInt8),(32:UInt8),(37:UInt8),(32:UInt8),(50:UInt8),(59:UInt8),(32:UInt8),(125:UInt8)]) fun c0=>
 OB (f23 c0.2.2.1 c0.2.2.2) fun c1=>
 OB (f15 c1.2.2.1 c1.2.2.2 eInt 100 2) fun c2=>
 OB (
  bif (decide (c2.1=1)) then
   bif (decide (c2.2.1=(-1:Int))) then
    bif (decide ((c2.2.2.2.2.length:Int)=1)) then
     ck (inB (0:Int) c2.2.2.2.2.length) <|
     some (decide ((List.getD c2.2.2.2.2 (Int.toNat 0) (0:Int))=3))
    else
     some false
   else
    some false
  else
   some false) fun s12=>
 some s12
def sp7:aU:=⟨sg7,fun x=>f7⟩
theorem aeO:aj Try.prog 7 sp7:=
 ts [(22,ahe),(23,ag5),(15,ag_)] ety [.tmp 0] an7 Try.func7 rfl ⟨acy,aci,acr,trivial⟩
def f3 (p0:Int) (p1:Int) (p2:Int) (p3:Int):Option Bool:=
 OB (f7) fun c0=>
 bif (!c0) then
  some false
 else
  let n4:=[p0,(Int.tmod (gX p3) (14:Int))]
  gq (
   dN (fun (s6:Int)=>
    bif (decide (s6<(n4.length:Int))) then
     ck (inB s6 n4.length) <|
     let n8:=(List.getD n4 s6.toNat 0)
     OB (f8 n8 p1 p2) fun c9=>
     OB (f9 n8 p1 p2) fun c10=>
     OB (
      bif (!(decide (c9.1=c10.1))) then
       some true
      else
       bif (c9.2 != c10.2) then
        some true
       else
        OB (f10 n8 p1) fun c14=>
        OB (f11 n8 p1) fun c15=>
        some (!(decide (c14=c15)))) fun Dw=>
     bif Dw then
      some (.inr (.inr false))
     else
      some (.inl (gX (s6+1)))
    else
     some (.inr (.inl ()))) (0:Int)) fun s20=>
  OB (f8 6 p1 p2) fun c21=>
  OB (f8 7 p1 p2) fun c22=>
  OB (
   bif (c21.2==(!(decide (p2=0)))) then
    bif (c22.2==c21.2) then
     bif (!c21.2) then
      some true
     else
      some (decide ((gX ((gX (c21.1*p2))+c22.1))=p1))
    else
     some false
   else
    some false) fun s34=>
  some s34
def sp3:aU:=⟨sg3,u4 f3⟩
theorem aeP:aj Try.prog 3 sp3:=
 ts [(7,sp7),(8,sp8),(9,sp9),(10,aeL),(11,agS)] ety [.tmp 8] an3 Try.func3 rfl ⟨aeO,ZU,aeK,Vr,ab7,trivial⟩
end
end Go.Fg.Ytpbdikcmfgeooaa

