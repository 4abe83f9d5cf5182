/-
 What the functions of the seat compute, printed by a program (wip/gen).
-/
import Derived.Test.YtpbdikcmfgeooaaFgA
import Derived.Test.YtpbdikcmfgeooaaZd
namespace Go.Fg.Ytpbdikcmfgeooaa
open Go.Fw Go.Proofs Go.Fw.Ytpbdikcmfgeooaa
noncomputable section
set_option linter.unusedVariables false
set_option maxRecDepth 100000
abbrev iy:Type:=List (List UInt8)
abbrev yF:Type:=List jo
abbrev jy:Type:=List jS
abbrev xZ:Type:=List jg
abbrev bW:Type:=List UInt8
abbrev oD:Type:=List eU
abbrev kE:Type:=List mJ
abbrev cO:Type:=List Int
abbrev OB {A B:Type}:Option A→(A→Option B)→Option B:=Option.bind
theorem ts (l:List (Nat×aO)) (e:TypeId→Option Ty) {f:FuncId} {fn:Func} {c:Code} {sp:aO} (r:List ResultVar) (a:fZ) (hf:Try.prog.funcs[f]?=some fn) (hb:fn.body=some c) (hT:X6 Try.prog l) (h1:(fn.name == "runtime.NumGoroutine")=false:=by rfl) (h2:fn.results=r.toArray:=by rfl) (h3:sp.sig.er.ok=true:=by kernel_rfl) (h4:(sp.sig.aN.all fun g=>sp.sig.pin.er.nms.contains g)=true:=by rfl) (h5:sp.sig.aZ≤fn.ntmps:=by exact of_decide_eq_true (by kernel_rfl)) (h6:r.length=sp.sig.bY:=by rfl)
 (h :∀x,(ZU (jI.of l) tt e fn.ntmps sp.sig r c a x).run=sp.f x:=by intro x;kernel_rfl):aj Try.prog f sp:=X7 (T:=jI.of l) (ety:=e) r a hf hb h1 h2 h3 h4 h5 h6 (X6.sound hT) ajB mixed h
def u2 {A0 A1 R:Type} (f:A0→A1→R) (x:A0×A1):R:=f x.1 x.2
def u3 {A0 A1 A2 R:Type} (f:A0→A1→A2→R) (x:A0×A1×A2):R:=f x.1 x.2.1 x.2.2
def u4 {A0 A1 A2 A3 R:Type} (f:A0→A1→A2→A3→R) (x:A0×A1×A2×A3):R:=f x.1 x.2.1 x.2.2.1 x.2.2.2
def u5 {A0 A1 A2 A3 A4 R:Type} (f:A0→A1→A2→A3→A4→R) (x:A0×A1×A2×A3×A4):R:=f x.1 x.2.1 x.2.2.1 x.2.2.2.1 x.2.2.2.2
def u6 {A0 A1 A2 A3 A4 A5 R:Type} (f:A0→A1→A2→A3→A4→A5→R) (x:A0×A1×A2×A3×A4×A5):R:=f x.1 x.2.1 x.2.2.1 x.2.2.2.1 x.2.2.2.2.1 x.2.2.2.2.2
def u7 {A0 A1 A2 A3 A4 A5 A6 R:Type} (f:A0→A1→A2→A3→A4→A5→A6→R) (x:A0×A1×A2×A3×A4×A5×A6):R:=f x.1 x.2.1 x.2.2.1 x.2.2.2.1 x.2.2.2.2.1 x.2.2.2.2.2.1 x.2.2.2.2.2.2
def u8 {A0 A1 A2 A3 A4 A5 A6 A7 R:Type} (f:A0→A1→A2→A3→A4→A5→A6→A7→R) (x:A0×A1×A2×A3×A4×A5×A6×A7):R:=f x.1 x.2.1 x.2.2.1 x.2.2.2.1 x.2.2.2.2.1 x.2.2.2.2.2.1 x.2.2.2.2.2.2.1 x.2.2.2.2.2.2.2
def u9 {A0 A1 A2 A3 A4 A5 A6 A7 A8 R:Type} (f:A0→A1→A2→A3→A4→A5→A6→A7→A8→R) (x:A0×A1×A2×A3×A4×A5×A6×A7×A8):R:=f x.1 x.2.1 x.2.2.1 x.2.2.2.1 x.2.2.2.2.1 x.2.2.2.2.2.1 x.2.2.2.2.2.2.1 x.2.2.2.2.2.2.2.1 x.2.2.2.2.2.2.2.2
def u11 {A0 A1 A2 A3 A4 A5 A6 A7 A8 A9 Jq R:Type} (f:A0→A1→A2→A3→A4→A5→A6→A7→A8→A9→Jq→R) (x:A0×A1×A2×A3×A4×A5×A6×A7×A8×A9×Jq):R:=f x.1 x.2.1 x.2.2.1 x.2.2.2.1 x.2.2.2.2.1 x.2.2.2.2.2.1 x.2.2.2.2.2.2.1 x.2.2.2.2.2.2.2.1 x.2.2.2.2.2.2.2.2.1 x.2.2.2.2.2.2.2.2.2.1 x.2.2.2.2.2.2.2.2.2.2
def u13 {A0 A1 A2 A3 A4 A5 A6 A7 A8 A9 Jq LC LD R:Type} (f:A0→A1→A2→A3→A4→A5→A6→A7→A8→A9→Jq→LC→LD→R) (x:A0×A1×A2×A3×A4×A5×A6×A7×A8×A9×Jq×LC×LD):R:=f x.1 x.2.1 x.2.2.1 x.2.2.2.1 x.2.2.2.2.1 x.2.2.2.2.2.1 x.2.2.2.2.2.2.1 x.2.2.2.2.2.2.2.1 x.2.2.2.2.2.2.2.2.1 x.2.2.2.2.2.2.2.2.2.1 x.2.2.2.2.2.2.2.2.2.2.1 x.2.2.2.2.2.2.2.2.2.2.2.1 x.2.2.2.2.2.2.2.2.2.2.2.2
def u14 {A0 A1 A2 A3 A4 A5 A6 A7 A8 A9 Jq LC LD QY R:Type} (f:A0→A1→A2→A3→A4→A5→A6→A7→A8→A9→Jq→LC→LD→QY→R) (x:A0×A1×A2×A3×A4×A5×A6×A7×A8×A9×Jq×LC×LD×QY):R:=f x.1 x.2.1 x.2.2.1 x.2.2.2.1 x.2.2.2.2.1 x.2.2.2.2.2.1 x.2.2.2.2.2.2.1 x.2.2.2.2.2.2.2.1 x.2.2.2.2.2.2.2.2.1 x.2.2.2.2.2.2.2.2.2.1 x.2.2.2.2.2.2.2.2.2.2.1 x.2.2.2.2.2.2.2.2.2.2.2.1 x.2.2.2.2.2.2.2.2.2.2.2.2.1 x.2.2.2.2.2.2.2.2.2.2.2.2.2
def u15 {A0 A1 A2 A3 A4 A5 A6 A7 A8 A9 Jq LC LD QY V6 R:Type} (f:A0→A1→A2→A3→A4→A5→A6→A7→A8→A9→Jq→LC→LD→QY→V6→R) (x:A0×A1×A2×A3×A4×A5×A6×A7×A8×A9×Jq×LC×LD×QY×V6):R:=f x.1 x.2.1 x.2.2.1 x.2.2.2.1 x.2.2.2.2.1 x.2.2.2.2.2.1 x.2.2.2.2.2.2.1 x.2.2.2.2.2.2.2.1 x.2.2.2.2.2.2.2.2.1 x.2.2.2.2.2.2.2.2.2.1 x.2.2.2.2.2.2.2.2.2.2.1 x.2.2.2.2.2.2.2.2.2.2.2.1 x.2.2.2.2.2.2.2.2.2.2.2.2.1 x.2.2.2.2.2.2.2.2.2.2.2.2.2.1 x.2.2.2.2.2.2.2.2.2.2.2.2.2.2
def u16 {A0 A1 A2 A3 A4 A5 A6 A7 A8 A9 Jq LC LD QY V6 A15 R:Type} (f:A0→A1→A2→A3→A4→A5→A6→A7→A8→A9→Jq→LC→LD→QY→V6→A15→R) (x:A0×A1×A2×A3×A4×A5×A6×A7×A8×A9×Jq×LC×LD×QY×V6×A15):R:=f x.1 x.2.1 x.2.2.1 x.2.2.2.1 x.2.2.2.2.1 x.2.2.2.2.2.1 x.2.2.2.2.2.2.1 x.2.2.2.2.2.2.2.1 x.2.2.2.2.2.2.2.2.1 x.2.2.2.2.2.2.2.2.2.1 x.2.2.2.2.2.2.2.2.2.2.1 x.2.2.2.2.2.2.2.2.2.2.2.1 x.2.2.2.2.2.2.2.2.2.2.2.2.1 x.2.2.2.2.2.2.2.2.2.2.2.2.2.1 x.2.2.2.2.2.2.2.2.2.2.2.2.2.2.1 x.2.2.2.2.2.2.2.2.2.2.2.2.2.2.2
def u17 {A0 A1 A2 A3 A4 A5 A6 A7 A8 A9 Jq LC LD QY V6 A15 A16 R:Type} (f:A0→A1→A2→A3→A4→A5→A6→A7→A8→A9→Jq→LC→LD→QY→V6→A15→A16→R) (x:A0×A1×A2×A3×A4×A5×A6×A7×A8×A9×Jq×LC×LD×QY×V6×A15×A16):R:=f x.1 x.2.1 x.2.2.1 x.2.2.2.1 x.2.2.2.2.1 x.2.2.2.2.2.1 x.2.2.2.2.2.2.1 x.2.2.2.2.2.2.2.1 x.2.2.2.2.2.2.2.2.1 x.2.2.2.2.2.2.2.2.2.1 x.2.2.2.2.2.2.2.2.2.2.1 x.2.2.2.2.2.2.2.2.2.2.2.1 x.2.2.2.2.2.2.2.2.2.2.2.2.1 x.2.2.2.2.2.2.2.2.2.2.2.2.2.1 x.2.2.2.2.2.2.2.2.2.2.2.2.2.2.1 x.2.2.2.2.2.2.2.2.2.2.2.2.2.2.2.1 x.2.2.2.2.2.2.2.2.2.2.2.2.2.2.2.2
def u22 {A0 A1 A2 A3 A4 A5 A6 A7 A8 A9 Jq LC LD QY V6 A15 A16 A17 A18 A19 A20 A21 R:Type} (f:A0→A1→A2→A3→A4→A5→A6→A7→A8→A9→Jq→LC→LD→QY→V6→A15→A16→A17→A18→A19→A20→A21→R) (x:A0×A1×A2×A3×A4×A5×A6×A7×A8×A9×Jq×LC×LD×QY×V6×A15×A16×A17×A18×A19×A20×A21):R:=f x.1 x.2.1 x.2.2.1 x.2.2.2.1 x.2.2.2.2.1 x.2.2.2.2.2.1 x.2.2.2.2.2.2.1 x.2.2.2.2.2.2.2.1 x.2.2.2.2.2.2.2.2.1 x.2.2.2.2.2.2.2.2.2.1 x.2.2.2.2.2.2.2.2.2.2.1 x.2.2.2.2.2.2.2.2.2.2.2.1 x.2.2.2.2.2.2.2.2.2.2.2.2.1 x.2.2.2.2.2.2.2.2.2.2.2.2.2.1 x.2.2.2.2.2.2.2.2.2.2.2.2.2.2.1 x.2.2.2.2.2.2.2.2.2.2.2.2.2.2.2.1 x.2.2.2.2.2.2.2.2.2.2.2.2.2.2.2.2.1 x.2.2.2.2.2.2.2.2.2.2.2.2.2.2.2.2.2.1 x.2.2.2.2.2.2.2.2.2.2.2.2.2.2.2.2.2.2.1 x.2.2.2.2.2.2.2.2.2.2.2.2.2.2.2.2.2.2.2.1 x.2.2.2.2.2.2.2.2.2.2.2.2.2.2.2.2.2.2.2.2.1 x.2.2.2.2.2.2.2.2.2.2.2.2.2.2.2.2.2.2.2.2.2
def u23 {A0 A1 A2 A3 A4 A5 A6 A7 A8 A9 Jq LC LD QY V6 A15 A16 A17 A18 A19 A20 A21 A22 R:Type} (f:A0→A1→A2→A3→A4→A5→A6→A7→A8→A9→Jq→LC→LD→QY→V6→A15→A16→A17→A18→A19→A20→A21→A22→R) (x:A0×A1×A2×A3×A4×A5×A6×A7×A8×A9×Jq×LC×LD×QY×V6×A15×A16×A17×A18×A19×A20×A21×A22):R:=f x.1 x.2.1 x.2.2.1 x.2.2.2.1 x.2.2.2.2.1 x.2.2.2.2.2.1 x.2.2.2.2.2.2.1 x.2.2.2.2.2.2.2.1 x.2.2.2.2.2.2.2.2.1 x.2.2.2.2.2.2.2.2.2.1 x.2.2.2.2.2.2.2.2.2.2.1 x.2.2.2.2.2.2.2.2.2.2.2.1 x.2.2.2.2.2.2.2.2.2.2.2.2.1 x.2.2.2.2.2.2.2.2.2.2.2.2.2.1 x.2.2.2.2.2.2.2.2.2.2.2.2.2.2.1 x.2.2.2.2.2.2.2.2.2.2.2.2.2.2.2.1 x.2.2.2.2.2.2.2.2.2.2.2.2.2.2.2.2.1 x.2.2.2.2.2.2.2.2.2.2.2.2.2.2.2.2.2.1 x.2.2.2.2.2.2.2.2.2.2.2.2.2.2.2.2.2.2.1 x.2.2.2.2.2.2.2.2.2.2.2.2.2.2.2.2.2.2.2.1 x.2.2.2.2.2.2.2.2.2.2.2.2.2.2.2.2.2.2.2.2.1 x.2.2.2.2.2.2.2.2.2.2.2.2.2.2.2.2.2.2.2.2.2.1 x.2.2.2.2.2.2.2.2.2.2.2.2.2.2.2.2.2.2.2.2.2.2
abbrev T19:=Int→cO→Int→Option (Int×cO×Int)
abbrev T37:=xZ→Option Int
abbrev T52:=xZ→iy→Option iy
abbrev T53:=Int→Int→Int→Int→bW→oD→Option Int
abbrev T59:=xZ→Option iy
abbrev T55:=Int→Int→Int→Int→bW→oD→yF→kE→Int→Int→iy→Option (Int×Int×Int×Int×bW×yF×kE×Int×Int×iy×oD)
abbrev T72:=oD→yF→kE→Int→Int→iy→Option (yF×kE×Int×Int×iy×oD)
abbrev T28:=Int→cO→kE→(List (bW×Int))→(List (List (bW×Int)))→cO→(List (bW×cO))→cO→Int→Int→Int→Int→Int→Int→Int→cO→Option (Int×Bool×kE×(List (bW×Int))×(List (List (bW×Int)))×cO×(List (bW×cO))×cO×Int×Int×Int×Int×Int×Int×Int×cO)
abbrev T45:=xZ→kE→(List (bW×Int))→(List (List (bW×Int)))→cO→(List (bW×cO))→cO→Int→Int→Int→Int→Int→Int→Int→(List (bW×Int))→cO→cO→Option (Int×Bool×Bool×kE×(List (bW×Int))×(List (List (bW×Int)))×cO×(List (bW×cO))×cO×Int×Int×Int×Int×Int×Int×Int×(List (bW×Int))×cO×cO)
abbrev T60:=Int→Int→bW→oD→xZ→xZ→kE→(List (bW×Int))→(List (List (bW×Int)))→cO→(List (bW×cO))→cO→Int→Int→Int→Int→Int→Int→Int→(List (bW×Int))→cO→cO→Option (Int×Bool×Bool×kE×(List (bW×Int))×(List (List (bW×Int)))×cO×(List (bW×cO))×cO×Int×Int×Int×Int×Int×Int×Int×(List (bW×Int))×cO×cO)
abbrev T80:=oD→kE→(List (bW×Int))→(List (List (bW×Int)))→cO→(List (bW×cO))→cO→Int→Int→Int→Int→Int→Int→Int→(List (bW×Int))→cO→cO→Option (Bool×kE×(List (bW×Int))×(List (List (bW×Int)))×cO×(List (bW×cO))×cO×Int×Int×Int×Int×Int×Int×Int×(List (bW×Int))×cO×cO×cO)
abbrev T81:=Int→Int→bW→oD→xZ→xZ→Int→kE→(List (bW×Int))→(List (List (bW×Int)))→cO→(List (bW×cO))→cO→Int→Int→Int→Int→Int→Int→Int→(List (bW×Int))→cO→cO→Option (Int×Bool×Bool×kE×(List (bW×Int))×(List (List (bW×Int)))×cO×(List (bW×cO))×cO×Int×Int×Int×Int×Int×Int×Int×(List (bW×Int))×cO×cO)
abbrev T87:=Int→Int→Int→Int→bW→oD→kE→(List (bW×Int))→(List (List (bW×Int)))→cO→(List (bW×cO))→cO→Int→Int→Int→Int→Int→Int→Int→(List (bW×Int))→cO→cO→Option (Int×Bool×kE×(List (bW×Int))×(List (List (bW×Int)))×cO×(List (bW×cO))×cO×Int×Int×Int×Int×Int×Int×Int×(List (bW×Int))×cO×cO)
abbrev T40:=xZ→yF→kE→Int→Int→iy→Option (yF×kE×Int×Int×xZ×iy)
abbrev Oz:=jy→Int→Bool→Int→Option (Int×Int×Int×Int×bW×oD×jy×Int×Bool×Int)
abbrev T90:=jy→Int→Bool→Int→Option (Int×Int×Int×Int×bW×oD×jy×Int×Bool×Int)
abbrev T92:=jy→Int→Bool→Int→Option (Int×Int×Int×Int×bW×oD×jy×Int×Bool×Int)
abbrev T93:=jy→Int→Bool→Int→Option (Int×Int×Int×Int×bW×oD×jy×Int×Bool×Int)
abbrev T95:=jy→Int→Bool→Int→Option (Int×Int×Int×Int×bW×oD×jy×Int×Bool×Int)
abbrev T96:=jy→Int→Bool→Int→Option (Int×Int×Int×Int×bW×oD×jy×Int×Bool×Int)
abbrev T97:=jy→Int→Bool→Int→Option (Int×Int×Int×Int×bW×oD×jy×Int×Bool×Int)
abbrev T98:=jy→Int→Bool→Int→Option (Int×Int×Int×Int×bW×oD×jy×Int×Bool×Int)
abbrev T69:=jy→Int→Bool→Int→Option (jy×Int×Bool×Int×xZ)
abbrev T83:=jy→Int→Bool→Int→Option (Int×Int×bW×jy×Int×Bool×Int×oD×xZ×xZ)
abbrev fQ:bW:=[]
abbrev iW:iy:=[]
abbrev nP:oD:=[]
abbrev eInt:cO:=[]
abbrev Aa:xZ:=[]
abbrev jA:yF:=[]
abbrev qH:kE:=[]
def iC (a b k:Nat):Bool:=true&&decide ((a+b)*k≤140737488355328)
def qI:bF:=bF.mk (0:Int) (0:Int) (0:Int) ([]:cO)
def mF:mJ:=mJ.mk ([]:bW) (0:Int) ([]:iy) ([]:xZ)
def oZ:eU:=eU.mk (0:Int) (0:Int) (0:Int) (0:Int) ([]:bW) ([]:oD)
def o7:jg:=jg.mk (0:Int) (0:Int) ([]:bW) ([]:oD) ([]:xZ) ([]:xZ)
def f12 (p0:cO) (p1:Int):Option (cO×Int):=
 OB (
  bif (decide (p1<(p0.length:Int))) then
   ck (sU (0:Int) p1 p0.length) <|
   some (List.drop (Int.toNat (0:Int)) (List.take p1.toNat p0))
  else
   some p0) fun s3=>
 some (s3,(0:Int))
def ahB:aO:=⟨ajK,u2 f12⟩
theorem acM:aj Try.prog 12 ahB:=
 ts [] ety [.tmp 4] ajL Try.func12 rfl trivial
def f17 (p0:cO) (p1:cO):Option Bool:=
 bif (!(decide ((p0.length:Int)=(p1.length:Int)))) then
  some false
 else
  fG (
   dB (fun (s3:Int)=>
    bif (decide (s3<(p0.length:Int))) then
     ck (inB s3 p0.length) <|
     ck (inB s3 p1.length) <|
     bif (!(decide ((List.getD p0 s3.toNat 0)=(List.getD p1 s3.toNat 0)))) then
      some (.inr (.inr false))
     else
      some (.inl (jv (s3+1)))
    else
     some (.inr (.inl ()))) (0:Int)) fun s10=>
  some true
def afr:aO:=⟨ajM,u2 f17⟩
theorem V7:aj Try.prog 17 afr:=
 ts [] ety [.tmp 4] ajN Try.func17 rfl trivial
def afs (ahC:T19) (p0:Int) (p1:cO) (p2:Int):Option (Int×cO×Int):=
 OB (
  bif (decide ((p1.length:Int)≤p2)) then
   some true
  else
   some (decide (p0<1))) fun s4=>
 bif s4 then
  some ((0:Int),p1,p2)
 else
  ck (inB p2 p1.length) <|
  let n6:=(jv (List.getD p1 p2.toNat 0))
  let n7:=(jv (p2+1))
  bif (decide (256<p0)) then
   OB (ahC 256 p1 n7) fun c10=>
   ck (!(decide (p0=0))) <|
   some ((Int.tmod (jv ((jv (256*n6))+c10.1)) p0),c10.2)
  else
   ck (!(decide (p0=0))) <|
   some ((Int.tmod n6 p0),p1,n7)
def Og:Nat→T19
 |0=>(fun _ _ _=>none)
 |n+1=>(afs (Og n))
def alL (n:Nat):T19:=(Og n)
def QZ (n:Nat):aO:=⟨ag7,u3 (Og n)⟩
theorem aaC (n:Nat) (h19:aj Try.prog 19 (QZ n)):aj Try.prog 19 (QZ (n+1)):=
 ts [(19,QZ n)] ety [.tmp 4] ajO Try.func19 rfl ⟨h19,trivial⟩
theorem EN :∀n,aj Try.prog 19 (QZ n)
 |0=>bH Try.func19 rfl rfl (show ag7.er.ok=true by decide +kernel) fun x=>rfl
 |n+1=>by
  have ih:=EN n
  exact aaC n (ih)
def f19:T19:=alL 1048576
def ahD:aO:=QZ 1048576
theorem acN:aj Try.prog 19 ahD:=(EN 1048576)
def f20 (p0:Int) (p1:Int) (p2:Int) (p3:cO) (p4:Int) (p5:Int) (p6:Int) (p7:cO):Option Bool:=
 OB (
  bif (decide (p0=p4)) then
   bif (decide (p1=p5)) then
    bif (decide (p2=p6)) then
     OB (f17 p3 p7) fun c5=>
     some c5
    else
     some false
   else
    some false
  else
   some false) fun s7=>
 some s7
def aft:aO:=⟨ajP,u8 f20⟩
theorem V8:aj Try.prog 20 aft:=
 ts [(17,afr)] ety [.tmp 4] ajQ Try.func20 rfl ⟨V7,trivial⟩
def f24 (p0:Bool):Option Int:=
 bif p0 then
  some (1:Int)
 else
  some (0:Int)
def acO:aO:=⟨ajR,f24⟩
theorem Oh:aj Try.prog 24 acO:=
 ts [] ety [.tmp 2] ajS Try.func24 rfl trivial
def f29 (p0:cO) (p1:cO):Option Bool:=
 bif (!(decide ((p0.length:Int)=(p1.length:Int)))) then
  some false
 else
  fG (
   dB (fun (s4:Int)=>
    bif (decide (s4<(p0.length:Int))) then
     ck (inB s4 p0.length) <|
     ck (inB s4 p1.length) <|
     bif (!(decide ((List.getD p0 s4.toNat 0)=(List.getD p1 s4.toNat 0)))) then
      some (.inr (.inr false))
     else
      some (.inl (jv (s4+1)))
    else
     some (.inr (.inl ()))) (0:Int)) fun s10=>
  some true
def afu:aO:=⟨ajT,u2 f29⟩
theorem V9:aj Try.prog 29 afu:=
 ts [] ety [.tmp 4] ajU Try.func29 rfl trivial
def f30 (p0:cO) (p1:cO):Option Bool:=
 OB (
  bif (decide ((p0.length:Int)≤(p1.length:Int))) then
   let n3:=(p0.length:Int)
   ck (sU (0:Int) n3 p1.length) <|
   OB (f17 p0 (List.drop (Int.toNat (0:Int)) (List.take n3.toNat p1))) fun c5=>
   some c5
  else
   some false) fun s7=>
 some s7
def ahE:aO:=⟨ajV,u2 f30⟩
theorem acP:aj Try.prog 30 ahE:=
 ts [(17,afr)] ety [.tmp 4] ajW Try.func30 rfl ⟨V7,trivial⟩
def f34 (p0:yF) (p1:kE) (p2:bW):Option Int:=
 fG (
  dB (fun (s0:Int)=>
   bif (decide (s0<(p0.length:Int))) then
    ck (inB s0 p0.length) <|
    bif ((List.getD p0 s0.toNat (jo.mk fQ 0)).name==p2) then
     some (.inr (.inr s0))
    else
     some (.inl (jv (s0+1)))
   else
    some (.inr (.inl ()))) (0:Int)) fun s6=>
 some (-1:Int)
def afv:aO:=⟨ajX,u3 f34⟩
theorem V_:aj Try.prog 34 afv:=
 ts [] ety [.tmp 4] ajY Try.func34 rfl trivial
def f35 (p0:yF) (p1:kE) (p2:bW):Option Int:=
 fG (
  dB (fun (s0:Int)=>
   bif (decide (s0<(p1.length:Int))) then
    ck (inB s0 p1.length) <|
    bif ((List.getD p1 s0.toNat mF).name==p2) then
     some (.inr (.inr s0))
    else
     some (.inl (jv (s0+1)))
   else
    some (.inr (.inl ()))) (0:Int)) fun s6=>
 some (-1:Int)
def acQ:aO:=⟨ajZ,u3 f35⟩
theorem Oi:aj Try.prog 35 acQ:=
 ts [] ety [.tmp 4] aj0 Try.func35 rfl trivial
def alM (ad9:T37) (p0:xZ):Option Int:=
 OB (
  dB (fun (s0:(Int×Int))=>
   bif (decide (s0.2<(p0.length:Int))) then
    ck (inB s0.2 p0.length) <|
    OB (ad9 (List.getD p0 s0.2.toNat o7).then') fun c4=>
    ck (inB s0.2 p0.length) <|
    OB (ad9 (List.getD p0 s0.2.toNat o7).else') fun c7=>
    some (.inl ((SH (SH s0.1 (jv (1+c4))) (jv (1+c7))),(jv (s0.2+1))))
   else
    some (.inr s0.1)) ((0:Int),(0:Int))) fun s11=>
 some s11
def Ue:Nat→T37
 |0=>(fun _=>none)
 |n+1=>(alM (Ue n))
def alN (n:Nat):T37:=(Ue n)
def Q5 (n:Nat):aO:=⟨ag8,(Ue n)⟩
theorem aaD (n:Nat) (h37:aj Try.prog 37 (Q5 n)):aj Try.prog 37 (Q5 (n+1)):=
 ts [(37,Q5 n)] ety [.tmp 2] aj1 Try.func37 rfl ⟨h37,trivial⟩
theorem EO :∀n,aj Try.prog 37 (Q5 n)
 |0=>bH Try.func37 rfl rfl (show ag8.er.ok=true by decide +kernel) fun x=>rfl
 |n+1=>by
  have ih:=EO n
  exact aaD n (ih)
def f37:T37:=alN 1048576
def ahF:aO:=Q5 1048576
theorem acR:aj Try.prog 37 ahF:=(EO 1048576)
def f38 (p0:iy) (p1:bW):Option Bool:=
 fG (
  dB (fun (s0:Int)=>
   bif (decide (s0<(p0.length:Int))) then
    ck (inB s0 p0.length) <|
    bif ((List.getD p0 s0.toNat fQ)==p1) then
     some (.inr (.inr true))
    else
     some (.inl (jv (s0+1)))
   else
    some (.inr (.inl ()))) (0:Int)) fun s6=>
 some false
def afw:aO:=⟨aj2,u2 f38⟩
theorem Wh:aj Try.prog 38 afw:=
 ts [] ety [.tmp 4] aj3 Try.func38 rfl trivial
def f39 (p0:yF) (p1:kE) (p2:bW):Option Int:=
 OB (f34 p0 p1 p2) fun c0=>
 bif (decide (0≤c0)) then
  ck (inB c0 p0.length) <|
  bif (decide (0<(List.getD p0 c0.toNat (jo.mk fQ 0)).size)) then
   some (3:Int)
  else
   some (2:Int)
 else
  OB (f35 p0 p1 p2) fun c4=>
  bif (decide (0≤c4)) then
   some (4:Int)
  else
   some (0:Int)
def afx:aO:=⟨aj6,u3 f39⟩
theorem Wi:aj Try.prog 39 afx:=
 ts [(34,afv),(35,acQ)] ety [.tmp 4] aj7 Try.func39 rfl ⟨V_,Oi,trivial⟩
def f44 (p0:Int) (p1:Int) (p2:kE) (p3:(List (bW×Int))) (p4:(List (List (bW×Int)))) (p5:cO) (p6:(List (bW×cO))) (p7:cO) (p8:Int) (p9:Int) (p10:Int) (p11:Int) (p12:Int) (p13:Int) (Uf:Int) (Ug:cO):Option (Bool×kE×(List (bW×Int))×(List (List (bW×Int)))×cO×(List (bW×cO))×cO×Int×Int×Int×Int×Int×Int×Int×cO):=
 OB (
  some (false,p2,p3,p4,p5,p6,p7,p8,p9,p10,p11,p0,p13,p1,Ug)) fun s0=>
 ck (decide (Ug.length=s0.2.2.2.2.2.2.2.2.2.2.2.2.2.2.length)) <|
 some s0
def aaE:aO:=⟨aj8,u16 f44⟩
theorem Gg:aj Try.prog 44 aaE:=
 ts [] ety [.tmp 6] aj9 Try.func44 rfl trivial
def f47 (p0:jy) (p1:Int) (p2:Bool) (p3:Int):Option (Int×Int×Int×bW×jy×Int×Bool×Int):=
 ck (inB p1 p0.length) <|
 let n0:=(List.getD p0 p1.toNat (jS.mk 0 0 0 fQ))
 some (n0.kind,n0.line,n0.value,n0.text,p0,p1,p2,p3)
def Jr:aO:=⟨aj_,u4 f47⟩
theorem nU:aj Try.prog 47 Jr:=
 ts [] ety [.cell 2 102] akb Try.func47 rfl trivial
def alO (ad_:T52) (p0:xZ) (p1:iy):Option iy:=
 OB (
  dB (fun (s0:(Int×iy))=>
   bif (decide (s0.1<(p0.length:Int))) then
    ck (inB s0.1 p0.length) <|
    OB (
     bif (decide ((List.getD p0 s0.1.toNat o7).kind=1)) then
      ck (inB s0.1 p0.length) <|
      let n6:=[(List.getD p0 s0.1.toNat o7).name]
      ck (iC s0.2.length n6.length 16) <|
      some (s0.2++n6)
     else
      some s0.2) fun s8=>
    ck (inB s0.1 p0.length) <|
    OB (ad_ (List.getD p0 s0.1.toNat o7).then' s8) fun c10=>
    ck (inB s0.1 p0.length) <|
    OB (ad_ (List.getD p0 s0.1.toNat o7).else' c10) fun c12=>
    some (.inl ((jv (s0.1+1)),c12))
   else
    some (.inr s0.2)) ((0:Int),p1)) fun s14=>
 some s14
def Uh:Nat→T52
 |0=>(fun _ _=>none)
 |n+1=>(alO (Uh n))
def alP (n:Nat):T52:=(Uh n)
def Q7 (n:Nat):aO:=⟨ag9,u2 (Uh n)⟩
theorem aaF (n:Nat) (h52:aj Try.prog 52 (Q7 n)):aj Try.prog 52 (Q7 (n+1)):=
 ts [(52,Q7 n)] ety [.tmp 4] akc Try.func52 rfl ⟨h52,trivial⟩
theorem EP :∀n,aj Try.prog 52 (Q7 n)
 |0=>bH Try.func52 rfl rfl (show ag9.er.ok=true by decide +kernel) fun x=>rfl
 |n+1=>by
  have ih:=EP n
  exact aaF n (ih)
def f52:T52:=alP 1048576
def ahG:aO:=Q7 1048576
theorem acS:aj Try.prog 52 ahG:=(EP 1048576)
def alQ (ahH:T53) (p0:Int) (p1:Int) (p2:Int) (p3:Int) (p4:bW) (p5:oD):Option Int:=
 OB (
  dB (fun (s0:(Int×Int))=>
   bif (decide (s0.2<(p5.length:Int))) then
    ck (inB s0.2 p5.length) <|
    let n3:=(List.getD p5 s0.2.toNat oZ)
    OB (ahH n3.kind n3.op n3.value n3.line n3.name n3.args) fun c4=>
    some (.inl ((SH s0.1 c4),(jv (s0.2+1))))
   else
    some (.inr s0.1)) ((0:Int),(0:Int))) fun s7=>
 some (jv (s7+1))
def Ui:Nat→T53
 |0=>(fun _ _ _ _ _ _=>none)
 |n+1=>(alQ (Ui n))
def alR (n:Nat):T53:=(Ui n)
def Q8 (n:Nat):aO:=⟨ag_,u6 (Ui n)⟩
theorem aaG (n:Nat) (h53:aj Try.prog 53 (Q8 n)):aj Try.prog 53 (Q8 (n+1)):=
 ts [(53,Q8 n)] ety [.tmp 2] akd Try.func53 rfl ⟨h53,trivial⟩
theorem ER :∀n,aj Try.prog 53 (Q8 n)
 |0=>bH Try.func53 rfl rfl (show ag_.er.ok=true by decide +kernel) fun x=>rfl
 |n+1=>by
  have ih:=ER n
  exact aaG n (ih)
def f53:T53:=alR 1048576
def ahI:aO:=Q8 1048576
theorem acT:aj Try.prog 53 ahI:=(ER 1048576)
def f54 (p0:Int) (p1:Int) (p2:yF) (p3:kE) (p4:Int) (p5:Int) (p6:iy):Option (yF×kE×Int×Int×iy):=
 OB (
  OB (
   bif (decide (p5=0)) then
    some (p2,p3,p0,p1)
   else
    some (p2,p3,p4,p5)) fun s1=>
  some (s1.1,s1.2.1,s1.2.2.1,s1.2.2.2,p6)) fun s2=>
 ck (decide (p6.length=s2.2.2.2.2.length)) <|
 some s2
def acU:aO:=⟨ake,u7 f54⟩
theorem Oj:aj Try.prog 54 acU:=
 ts [] ety [] akf Try.func54 rfl trivial
def f56 (p0:bW) (p1:yF) (p2:kE) (p3:Int) (p4:Int) (p5:iy):Option (Int×yF×kE×Int×Int×iy):=
 OB (
  OB (f38 p5 p0) fun c0=>
  bif c0 then
   some ((1:Int),p1,p2,p3,p4,p5)
  else
   OB (f39 p1 p2 p0) fun c1=>
   some (c1,p1,p2,p3,p4,p5)) fun s2=>
 ck (decide (p5.length=s2.2.2.2.2.2.length)) <|
 some s2
def aaH:aO:=⟨akg,u6 f56⟩
theorem Gi:aj Try.prog 56 aaH:=
 ts [(38,afw),(39,afx)] ety [.tmp 4] akh Try.func56 rfl ⟨Wh,Wi,trivial⟩
theorem aaI {α:Type} {p0:List α} {c:Bool} {y:List α} (h:ck c (some p0)=some y):(bif p0.isEmpty then both (some ([]:List α)) (ck c (some ([]++p0))) else ck c (some ([]++p0)))=some y:=by
  cases p0 with
  |nil=>
    cases c with
    |false=>cases h
    |true=>
      cases h
      show both (some []) (some [])=some []
      unfold both
      rw [if_pos rfl]
  |cons x l=>exact h
def ahJ (p0:iy):Option iy:=
 bif (List.isEmpty p0) then
  both (
   some iW) (
   ck (true&&(decide ((((List.length iW)+p0.length)*(16:Nat))≤(140737488355328:Nat)))) <|
   some (iW++p0))
 else
  ck (true&&(decide ((((List.length iW)+p0.length)*(16:Nat))≤(140737488355328:Nat)))) <|
  some (iW++p0)
def ahK:aO:=⟨afl,ahJ⟩
theorem aaJ:aj Try.prog 58 ahK:=
 ts [] ety [.tmp 2] aki Try.func58 rfl trivial
def f58 (p0:iy):Option iy:=ck (true&&(decide ((((List.length iW)+p0.length)*(16:Nat))≤(140737488355328:Nat)))) (some p0)
def ahL:aO:=⟨afl,f58⟩
theorem acV:aj Try.prog 58 ahL:=aj.le (sg:=afl) (F:=f58) (F':=ahJ) aaJ fun x y h=>aaI h
def alS (aea:T59) (p0:xZ):Option iy:=
 OB (
  dB (fun (s1:(Int×iy))=>
   bif (decide (s1.1<(p0.length:Int))) then
    ck (inB s1.1 p0.length) <|
    let n3:=(List.getD p0 s1.1.toNat o7)
    OB (
     bif (decide (n3.kind=1)) then
      let n5:=[n3.name]
      ck (iC s1.2.length n5.length 16) <|
      some (s1.2++n5)
     else
      some s1.2) fun s7=>
    OB (aea n3.then') fun c8=>
    ck (iC s7.length c8.length 16) <|
    let n9:=(s7++c8)
    OB (aea n3.else') fun c10=>
    ck (iC n9.length c10.length 16) <|
    some (.inl ((jv (s1.1+1)),(n9++c10)))
   else
    some (.inr s1.2)) ((0:Int),iW)) fun s13=>
 some s13
def Uj:Nat→T59
 |0=>(fun _=>none)
 |n+1=>(alS (Uj n))
def alT (n:Nat):T59:=(Uj n)
def Q9 (n:Nat):aO:=⟨aha,(Uj n)⟩
theorem aaK (n:Nat) (h59:aj Try.prog 59 (Q9 n)):aj Try.prog 59 (Q9 (n+1)):=
 ts [(59,Q9 n)] ety [.tmp 2] akj Try.func59 rfl ⟨h59,trivial⟩
theorem ES :∀n,aj Try.prog 59 (Q9 n)
 |0=>bH Try.func59 rfl rfl (show aha.er.ok=true by decide +kernel) fun x=>rfl
 |n+1=>by
  have ih:=ES n
  exact aaK n (ih)
def f59:T59:=alT 1048576
def ahM:aO:=Q9 1048576
theorem acW:aj Try.prog 59 ahM:=(ES 1048576)
def f61 (p0:Int):Option Bool:=
 OB (
  bif (decide (97≤p0)) then
   bif (decide (p0≤122)) then
    some true
   else
    bif (decide (65≤p0)) then
     some (decide (p0≤90))
    else
     some false
  else
   bif (decide (65≤p0)) then
    some (decide (p0≤90))
   else
    some false) fun s13=>
 some s13
def afy:aO:=⟨akk,f61⟩
theorem Wj:aj Try.prog 61 afy:=
 ts [] ety [.tmp 2] akl Try.func61 rfl trivial
def f62 (p0:Int):Option Bool:=
 OB (
  bif (decide (48≤p0)) then
   some (decide (p0≤57))
  else
   some false) fun s3=>
 some s3
def afz:aO:=⟨akm,f62⟩
theorem Wn:aj Try.prog 62 afz:=
 ts [] ety [.tmp 2] akn Try.func62 rfl trivial
def f65 (p0:bW):Option (Int×Bool):=
 fG (
  dB (fun (s0:(Int×Int))=>
   bif (decide (s0.2<(p0.length:Int))) then
    ck (inB s0.2 p0.length) <|
    let n5:=(jv (Go.IntKind.wrap .u8 (((UInt8.toNat (List.getD p0 s0.2.toNat (0:UInt8))):Int)-48)))
    bif (decide ((jv (Int.tdiv (jv (9223372036854775807-n5)) (10:Int)))<s0.1)) then
     some (.inr (.inr ((0:Int),false)))
    else
     some (.inl ((jv ((jv (10*s0.1))+n5)),(jv (s0.2+1))))
   else
    some (.inr (.inl s0.1))) ((0:Int),(0:Int))) fun s12=>
 some (s12,true)
def ahN:aO:=⟨ako,f65⟩
theorem acX:aj Try.prog 65 ahN:=
 ts [] ety [.tmp 2,.tmp 3] akp Try.func65 rfl trivial
def f67 (p0:bW) (p1:jy) (p2:Int) (p3:Bool) (p4:Int):Option (Bool×jy×Int×Bool×Int):=
 OB (f47 p1 p2 p3 p4) fun c0=>
 OB (
  bif (!c0.2.2.2.2.2.2.1) then
   bif (decide (c0.1=3)) then
    bif true then
     some (c0.2.2.2.1==p0)
    else
     some false
   else
    bif (decide (c0.1=4)) then
     some (c0.2.2.2.1==p0)
    else
     some false
  else
   some false) fun s11=>
 some (s11,c0.2.2.2.2)
def Yc:aO:=⟨akq,u5 f67⟩
theorem BQ:aj Try.prog 67 Yc:=
 ts [(47,Jr)] ety [.tmp 4] akr Try.func67 rfl ⟨nU,trivial⟩
def f68 (p0:Int) (p1:jy) (p2:Int) (p3:Bool) (p4:Int):Option (Int×Int×Int×bW×jy×Int×Bool×Int):=
 OB (f47 p1 p2 p3 p4) fun c0=>
 OB (
  bif c0.2.2.2.2.2.2.1 then
   some true
  else
   some (!(decide (c0.1=p0)))) fun s3=>
 bif s3 then
  some ((0:Int),(0:Int),(0:Int),fQ,c0.2.2.2.2.1,c0.2.2.2.2.2.1,true,c0.2.2.2.2.2.2.2)
 else
  some (c0.1,c0.2.1,c0.2.2.1,c0.2.2.2.1,c0.2.2.2.2.1,(jv (c0.2.2.2.2.2.1+1)),c0.2.2.2.2.2.2)
def aaL:aO:=⟨aks,u5 f68⟩
theorem Gj:aj Try.prog 68 aaL:=
 ts [(47,Jr)] ety [.cell 4 102] akt Try.func68 rfl ⟨nU,trivial⟩
def f70 (p0:Int) (p1:Int) (p2:Int) (p3:Int) (p4:bW) (p5:oD) (p6:Int) (p7:Int) (p8:yF) (p9:kE) (p10:Int) (p11:Int) (p12:iy):Option (yF×kE×Int×Int×iy):=
 OB (
  OB (f56 p4 p8 p9 p10 p11 p12) fun c0=>
  OB (
   bif (decide (c0.1=0)) then
    OB (f54 p3 8 c0.2.1 c0.2.2.1 c0.2.2.2.1 c0.2.2.2.2.1 c0.2.2.2.2.2) fun c2=>
    some c2
   else
    OB (
     bif (!(decide (c0.1=p6))) then
      some (!(decide (c0.1=p7)))
     else
      some false) fun s6=>
    OB (
     bif s6 then
      OB (f54 p3 10 c0.2.1 c0.2.2.1 c0.2.2.2.1 c0.2.2.2.2.1 c0.2.2.2.2.2) fun c7=>
      some c7
     else
      some c0.2) fun s8=>
    some s8) fun s9=>
  some s9) fun s10=>
 ck (decide (p12.length=s10.2.2.2.2.length)) <|
 some s10
def ahO:aO:=⟨aku,u13 f70⟩
theorem acY:aj Try.prog 70 ahO:=
 ts [(56,aaH),(54,acU)] ety [] akv Try.func70 rfl ⟨Gi,Oj,trivial⟩
def f71 (p0:bW) (p1:Int) (p2:yF) (p3:kE) (p4:Int) (p5:Int) (p6:iy):Option (Int×Int×Int×Int×bW×yF×kE×Int×Int×iy):=
 OB (
  OB (f56 p0 p2 p3 p4 p5 p6) fun c0=>
  OB (
   bif (!(decide (c0.1=1))) then
    some (3:Int)
   else
    some (2:Int)) fun s2=>
  some (s2,(0:Int),(0:Int),p1,p0,c0.2)) fun s3=>
 ck (decide (p6.length=s3.2.2.2.2.2.2.2.2.2.length)) <|
 some s3
def ahP:aO:=⟨akw,u7 f71⟩
theorem acZ:aj Try.prog 71 ahP:=
 ts [(56,aaH)] ety [.cell 6 116] akx Try.func71 rfl ⟨Gi,trivial⟩
def alU (aeb:T55) (aaM:T72) (p0:Int) (p1:Int) (p2:Int) (p3:Int) (p4:bW) (p5:oD) (p6:yF) (p7:kE) (p8:Int) (p9:Int) (p10:iy):Option (Int×Int×Int×Int×bW×yF×kE×Int×Int×iy×oD):=
 OB (
  bif (decide (p0=13)) then
   OB (f70 p0 p1 p2 p3 p4 p5 1 2 p6 p7 p8 p9 p10) fun c1=>
   OB (f71 p4 p3 c1.1 c1.2.1 c1.2.2.1 c1.2.2.2.1 c1.2.2.2.2) fun c2=>
   some (c2.1,c2.2.1,c2.2.2.1,c2.2.2.2.1,c2.2.2.2.2.1,c2.2.2.2.2.2.1,c2.2.2.2.2.2.2.1,c2.2.2.2.2.2.2.2.1,c2.2.2.2.2.2.2.2.2.1,c2.2.2.2.2.2.2.2.2.2,nP)
  else
   fG (
    bif (decide (p0=4)) then
     OB (f70 p0 p1 p2 p3 p4 p5 3 3 p6 p7 p8 p9 p10) fun c4=>
     some (.inl c4)
    else
     fG (
      bif (decide (p0=11)) then
       OB (f70 p0 p1 p2 p3 p4 p5 4 4 p6 p7 p8 p9 p10) fun c6=>
       some (.inl c6)
      else
       fG (
        bif (decide (p0=9)) then
         OB (f56 p4 p6 p7 p8 p9 p10) fun c8=>
         fG (
          bif (decide (c8.1=0)) then
           OB (f54 p3 8 c8.2.1 c8.2.2.1 c8.2.2.2.1 c8.2.2.2.2.1 c8.2.2.2.2.2) fun c10=>
           some (.inl c10)
          else
           fG (
            bif (decide (c8.1=3)) then
             OB (f54 p3 10 c8.2.1 c8.2.2.1 c8.2.2.2.1 c8.2.2.2.2.1 c8.2.2.2.2.2) fun c12=>
             some (.inl c12)
            else
             bif (decide (c8.1=4)) then
              OB (f35 c8.2.1 c8.2.2.1 p4) fun c14=>
              ck (inB c14 c8.2.2.1.length) <|
              OB (
               bif (!(decide (((List.length (List.getD c8.2.2.1 c14.toNat mF).params):Int)=(p5.length:Int)))) then
                OB (f54 p3 11 c8.2.1 c8.2.2.1 c8.2.2.2.1 c8.2.2.2.2.1 c8.2.2.2.2.2) fun c19=>
                some c19
               else
                some c8.2) fun s20=>
              some (.inl s20)
             else
              OB (
               bif (decide (6<(p5.length:Int))) then
                OB (f54 p3 5 c8.2.1 c8.2.2.1 c8.2.2.2.1 c8.2.2.2.2.1 c8.2.2.2.2.2) fun c23=>
                some c23
               else
                some c8.2) fun s24=>
              OB (f71 p4 p3 s24.1 s24.2.1 s24.2.2.1 s24.2.2.2.1 s24.2.2.2.2) fun c25=>
              let n26:=[(eU.mk c25.1 c25.2.1 c25.2.2.1 c25.2.2.2.1 c25.2.2.2.2.1 nP)]
              OB (aaM p5 c25.2.2.2.2.2.1 c25.2.2.2.2.2.2.1 c25.2.2.2.2.2.2.2.1 c25.2.2.2.2.2.2.2.2.1 c25.2.2.2.2.2.2.2.2.2) fun ET=>
              ck (iC n26.length ET.2.2.2.2.2.length 72) <|
              some (.inr (.inr (.inr (.inr (.inr ((10:Int),(0:Int),(0:Int),p3,fQ,ET.1,ET.2.1,ET.2.2.1,ET.2.2.2.1,ET.2.2.2.2.1,(n26++ET.2.2.2.2.2)))))))) fun s29=>
           some (.inl s29)) fun s30=>
         some (.inl s30)
        else
         OB (
          bif (decide (p0=10)) then
           OB (
            bif (decide (7<(p5.length:Int))) then
             OB (f54 p3 5 p6 p7 p8 p9 p10) fun c34=>
             some c34
            else
             some (p6,p7,p8,p9,p10)) fun Yq=>
           some Yq
          else
           some (p6,p7,p8,p9,p10)) fun s36=>
         some (.inl s36)) fun s37=>
       some (.inl s37)) fun Uk=>
     some (.inl Uk)) fun Js=>
   OB (aaM p5 Js.1 Js.2.1 Js.2.2.1 Js.2.2.2.1 Js.2.2.2.2) fun c40=>
   some (p0,p1,p2,p3,p4,c40)) fun Ul=>
 ck (decide (p10.length=Ul.2.2.2.2.2.2.2.2.2.1.length)) <|
 some Ul
def alV (aeb:T55) (aaM:T72) (p0:oD) (p1:yF) (p2:kE) (p3:Int) (p4:Int) (p5:iy):Option (yF×kE×Int×Int×iy×oD):=
 OB (
  OB (
   dB (fun (s0:(Int×yF×kE×Int×Int×iy×oD))=>
    bif (decide (s0.1<(p0.length:Int))) then
     ck (inB s0.1 p0.length) <|
     let n3:=(List.getD p0 s0.1.toNat oZ)
     OB (aeb n3.kind n3.op n3.value n3.line n3.name n3.args s0.2.1 s0.2.2.1 s0.2.2.2.1 s0.2.2.2.2.1 s0.2.2.2.2.2.1) fun c4=>
     let n5:=[(eU.mk c4.1 c4.2.1 c4.2.2.1 c4.2.2.2.1 c4.2.2.2.2.1 c4.2.2.2.2.2.2.2.2.2.2)]
     ck (iC s0.2.2.2.2.2.2.length n5.length 72) <|
     some (.inl ((jv (s0.1+1)),c4.2.2.2.2.2.1,c4.2.2.2.2.2.2.1,c4.2.2.2.2.2.2.2.1,c4.2.2.2.2.2.2.2.2.1,c4.2.2.2.2.2.2.2.2.2.1,(s0.2.2.2.2.2.2++n5)))
    else
     some (.inr s0.2)) ((0:Int),p1,p2,p3,p4,p5,nP)) fun s8=>
  some s8) fun s9=>
 ck (decide (p5.length=s9.2.2.2.2.1.length)) <|
 some s9
def Ac:Nat→T55×T72
 |0=>(fun _ _ _ _ _ _ _ _ _ _ _=>none,fun _ _ _ _ _ _=>none)
 |n+1=>(alU (Ac n).1 (Ac n).2,alV (Ac n).1 (Ac n).2)
def alW (n:Nat):T55:=(Ac n).1
def Jt (n:Nat):aO:=⟨ahb,u11 (Ac n).1⟩
def LG (n:Nat):aO:=⟨ahc,u6 (Ac n).2⟩
theorem aaN (n:Nat) (h55:aj Try.prog 55 (Jt n)) (h72:aj Try.prog 72 (LG n)):aj Try.prog 55 (Jt (n+1)):=
 ts [(70,ahO),(71,ahP),(56,aaH),(54,acU),(35,acQ),(55,Jt n),(72,LG n)] ety [.cell 4 116] aky Try.func55 rfl ⟨acY,acZ,Gi,Oj,Oi,h55,h72,trivial⟩
theorem aaO (n:Nat) (h55:aj Try.prog 55 (Jt n)) (h72:aj Try.prog 72 (LG n)):aj Try.prog 72 (LG (n+1)):=
 ts [(55,Jt n),(72,LG n)] ety [.tmp 4] akz Try.func72 rfl ⟨h55,h72,trivial⟩
theorem EU :∀n,aj Try.prog 55 (Jt n)∧aj Try.prog 72 (LG n)
 |0=>⟨bH Try.func55 rfl rfl (show ahb.er.ok=true by decide +kernel) fun x=>rfl,bH Try.func72 rfl rfl (show ahc.er.ok=true by decide +kernel) fun x=>rfl⟩
 |n+1=>by
  have ih:=EU n
  exact ⟨aaN n (ih.1) (ih.2),aaO n (ih.1) (ih.2)⟩
def f55:T55:=alW 1048576
def ahQ:aO:=Jt 1048576
theorem ac0:aj Try.prog 55 ahQ:=(EU 1048576).1
def f79 (p0:kE) (p1:(List (bW×Int))) (p2:(List (List (bW×Int)))) (p3:cO) (p4:(List (bW×cO))) (p5:cO) (p6:Int) (p7:Int) (p8:Int) (p9:Int) (p10:Int) (p11:Int) (p12:Int) (p13:cO):Option (Bool×kE×(List (bW×Int))×(List (List (bW×Int)))×cO×(List (bW×cO))×cO×Int×Int×Int×Int×Int×Int×Int×cO):=
 OB (
  bif (decide (p6≤p8)) then
   OB (f44 3 0 p0 p1 p2 p3 p4 p5 p6 p7 p8 p9 p10 p11 p12 p13) fun c1=>
   some c1
  else
   some (true,p0,p1,p2,p3,p4,p5,p6,p7,(jv (p8+1)),p9,p10,p11,p12,p13)) fun s3=>
 ck (decide (p13.length=s3.2.2.2.2.2.2.2.2.2.2.2.2.2.2.length)) <|
 some s3
def ac1:aO:=⟨akA,u14 f79⟩
theorem Ol:aj Try.prog 79 ac1:=
 ts [(44,aaE)] ety [.tmp 2] akB Try.func79 rfl ⟨Gg,trivial⟩
def f82 (p0:bW) (p1:iy):Option Bool:=
 fG (
  dB (fun (s0:Int)=>
   bif (decide (s0<(p1.length:Int))) then
    ck (inB s0 p1.length) <|
    bif ((List.getD p1 s0.toNat fQ)==p0) then
     some (.inr (.inr true))
    else
     some (.inl (jv (s0+1)))
   else
    some (.inr (.inl ()))) (0:Int)) fun s6=>
 some false
def afA:aO:=⟨akC,u2 f82⟩
theorem Wp:aj Try.prog 82 afA:=
 ts [] ety [.tmp 4] akD Try.func82 rfl trivial
def f91 (p0:Int) (p1:Int) (p2:Int) (p3:Int) (p4:Int) (p5:Int) (p6:Int) (p7:bW) (p8:oD) (p9:Int) (p10:Int) (p11:Int) (p12:Int) (p13:bW) (Uf:oD):Option (Int×Int×Int×Int×bW×oD):=
 some (p0,p1,(0:Int),p2,fQ,[(eU.mk p3 p4 p5 p6 p7 p8),(eU.mk p9 p10 p11 p12 p13 Uf)])
def Yd:aO:=⟨akE,u15 f91⟩
theorem BR:aj Try.prog 91 Yd:=
 ts [] ety [.cell 10 116] akF Try.func91 rfl trivial
def f94 (p0:iy) (p1:cO) (p2:jy) (p3:Int) (p4:Bool) (p5:Int):Option (Int×Int×jy×Int×Bool×Int):=
 fG (
  dB (fun (s0:(Int×jy×Int×Bool×Int))=>
   bif (decide (s0.1<(p0.length:Int))) then
    ck (inB s0.1 p0.length) <|
    OB (f67 (List.getD p0 s0.1.toNat fQ) s0.2.1 s0.2.2.1 s0.2.2.2.1 s0.2.2.2.2) fun c4=>
    bif c4.1 then
     OB (f47 c4.2.1 c4.2.2.1 c4.2.2.2.1 c4.2.2.2.2) fun c5=>
     ck (inB s0.1 p1.length) <|
     some (.inr (.inr ((List.getD p1 s0.1.toNat 0),c5.2.1,c5.2.2.2.2.1,(jv (c5.2.2.2.2.2.1+1)),c5.2.2.2.2.2.2)))
    else
     some (.inl ((jv (s0.1+1)),c4.2))
   else
    some (.inr (.inl s0.2))) ((0:Int),p2,p3,p4,p5)) fun s9=>
 some ((0:Int),(0:Int),s9)
def aaP:aO:=⟨akG,u6 f94⟩
theorem Gl:aj Try.prog 94 aaP:=
 ts [(67,Yc),(47,Jr)] ety [.tmp 6,.tmp 7] akH Try.func94 rfl ⟨BQ,nU,trivial⟩
def f8 (p0:Int) (p1:Int) (p2:Int):Option (Int×Bool):=
 bif (decide (p0=3)) then
  some ((jv (p1+p2)),true)
 else
  bif (decide (p0=4)) then
   some ((jv (p1-p2)),true)
  else
   bif (decide (p0=5)) then
    some ((jv (p1*p2)),true)
   else
    bif (decide (p0=8)) then
     OB (f24 (decide (p1<p2))) fun c8=>
     some (c8,true)
    else
     bif (decide (p0=9)) then
      OB (f24 (decide (p1≤p2))) fun c11=>
      some (c11,true)
     else
      bif (decide (p0=10)) then
       OB (f24 (decide (p1=p2))) fun c14=>
       some (c14,true)
      else
       bif (decide (p0=11)) then
        OB (f24 (!(decide (p1=p2)))) fun c17=>
        some (c17,true)
       else
        bif (decide (p2=0)) then
         some ((0:Int),false)
        else
         bif (decide (p0=6)) then
          ck (!(decide (p2=0))) <|
          some ((jv (Int.tdiv p1 p2)),true)
         else
          bif (decide (p0=7)) then
           ck (!(decide (p2=0))) <|
           some ((Int.tmod p1 p2),true)
          else
           some ((0:Int),false)
def sp8:aO:=⟨sg8,u3 f8⟩
theorem afB:aj Try.prog 8 sp8:=
 ts [(24,acO)] ety [.tmp 6,.tmp 7] an8 Try.func8 rfl ⟨Oh,trivial⟩
def f10 (p0:Int) (p1:Int):Option Int:=
 bif (decide (p0=1)) then
  some (jv (agK p1))
 else
  bif (decide (p0=2)) then
   OB (f24 (decide (p1=0))) fun c4=>
   some c4
  else
   some (0:Int)
def ahR:aO:=⟨akI,u2 f10⟩
theorem ac2:aj Try.prog 10 ahR:=
 ts [(24,acO)] ety [.tmp 4] akJ Try.func10 rfl ⟨Oh,trivial⟩
def f16 (p0:Int) (p1:Int) (p2:Int) (p3:cO) (p4:Int) (p5:Int) (p6:Int) (p7:cO):Option Bool:=
 OB (
  bif (decide (p0=p4)) then
   bif (decide (p1=p5)) then
    bif (decide (p2=p6)) then
     OB (f29 p3 p7) fun c5=>
     some c5
    else
     some false
   else
    some false
  else
   some false) fun s7=>
 some s7
def afC:aO:=⟨akK,u8 f16⟩
theorem Wq:aj Try.prog 16 afC:=
 ts [(29,afu)] ety [.tmp 4] akL Try.func16 rfl ⟨V9,trivial⟩
def f18 (p0:Int) (p1:Int) (p2:Int) (p3:cO) (p4:Int) (p5:Int) (p6:Int) (p7:cO):Option Bool:=
 bif (!(decide (p0=3))) then
  OB (f16 p0 p1 p2 p3 p4 p5 p6 p7) fun c1=>
  some c1
 else
  let n4:=(Qa (p3.length:Int) (p7.length:Int))
  ck (sU (0:Int) n4 p3.length) <|
  ck (sU (0:Int) n4 p7.length) <|
  OB (f29 (List.drop (Int.toNat (0:Int)) (List.take n4.toNat p3)) (List.drop (Int.toNat (0:Int)) (List.take n4.toNat p7))) fun c7=>
  some c7
def ahS:aO:=⟨akM,u8 f18⟩
theorem ac3:aj Try.prog 18 ahS:=
 ts [(16,afC),(29,afu)] ety [.tmp 4] akN Try.func18 rfl ⟨Wq,V9,trivial⟩
def f21 (p0:Int) (p1:Int) (p2:Int) (p3:cO) (p4:Int) (p5:Int) (p6:Int) (p7:cO):Option Bool:=
 bif (decide (p0=3)) then
  OB (
   OB (f30 p3 p7) fun c1=>
   bif c1 then
    some true
   else
    OB (f30 p7 p3) fun c2=>
    some c2) fun s4=>
  some s4
 else
  OB (f20 p0 p1 p2 p3 p4 p5 p6 p7) fun c5=>
  some c5
def ahT:aO:=⟨akO,u8 f21⟩
theorem ac4:aj Try.prog 21 ahT:=
 ts [(30,ahE),(20,aft)] ety [.tmp 4] akP Try.func21 rfl ⟨acP,V8,trivial⟩
def alY (Ju:T28) (BU:T45) (LH:T60) (Jv:T80) (LJ:T81) (BX:T87) (p0:Int) (p1:cO) (p2:kE) (p3:(List (bW×Int))) (p4:(List (List (bW×Int)))) (p5:cO) (p6:(List (bW×cO))) (p7:cO) (p8:Int) (p9:Int) (p10:Int) (p11:Int) (p12:Int) (p13:Int) (Uf:Int) (Ug:cO):Option (Int×Bool×kE×(List (bW×Int))×(List (List (bW×Int)))×cO×(List (bW×cO))×cO×Int×Int×Int×Int×Int×Int×Int×cO):=
 bif (decide (p9≤p11)) then
  OB (f44 3 0 p2 p3 p4 p5 p6 p7 p8 p9 p10 p11 p12 p13 Uf Ug) fun c1=>
  some ((0:Int),c1)
 else
  ck (inB p0 p4.length) <|
  ck (inB p0 p5.length) <|
  let n4:=(List.getD p5 p0.toNat 0)
  ck (P_ (8:Nat) n4 n4) <|
  let n5:=(List.replicate n4.toNat (0:Int))
  ck (Nat.ble p1.length n5.length) <|
  ck (inB p0 p2.length) <|
  OB (BU (List.getD p2 p0.toNat mF).body p2 p3 p4 p5 p6 p7 p8 p9 p10 (jv (p11+1)) p12 p13 Uf (List.getD p4 p0.toNat ([]:(List (bW×Int)))) Ug (ovL p1 n5)) fun c8=>
  some (c8.1,c8.2.2.1,c8.2.2.2.1,c8.2.2.2.2.1,c8.2.2.2.2.2.1,c8.2.2.2.2.2.2.1,c8.2.2.2.2.2.2.2.1,c8.2.2.2.2.2.2.2.2.1,c8.2.2.2.2.2.2.2.2.2.1,c8.2.2.2.2.2.2.2.2.2.2.1,c8.2.2.2.2.2.2.2.2.2.2.2.1,(jv (c8.2.2.2.2.2.2.2.2.2.2.2.2.1-1)),c8.2.2.2.2.2.2.2.2.2.2.2.2.2.1,c8.2.2.2.2.2.2.2.2.2.2.2.2.2.2.1,c8.2.2.2.2.2.2.2.2.2.2.2.2.2.2.2.1,c8.2.2.2.2.2.2.2.2.2.2.2.2.2.2.2.2.2.2)
def alZ (Ju:T28) (BU:T45) (LH:T60) (Jv:T80) (LJ:T81) (BX:T87) (p0:xZ) (p1:kE) (p2:(List (bW×Int))) (p3:(List (List (bW×Int)))) (p4:cO) (p5:(List (bW×cO))) (p6:cO) (p7:Int) (p8:Int) (p9:Int) (p10:Int) (p11:Int) (p12:Int) (p13:Int) (Uf:(List (bW×Int))) (Ug:cO) (p16:cO):Option (Int×Bool×Bool×kE×(List (bW×Int))×(List (List (bW×Int)))×cO×(List (bW×cO))×cO×Int×Int×Int×Int×Int×Int×Int×(List (bW×Int))×cO×cO):=
 OB (
  fG (
   dB (fun (s1:(Int×kE×(List (bW×Int))×(List (List (bW×Int)))×cO×(List (bW×cO))×cO×Int×Int×Int×Int×Int×Int×Int×(List (bW×Int))×cO×cO))=>
    bif (decide (s1.1<(p0.length:Int))) then
     ck (inB s1.1 p0.length) <|
     let n3:=(List.getD p0 s1.1.toNat o7)
     OB (LH n3.kind n3.line n3.name n3.exprs n3.then' n3.else' s1.2.1 s1.2.2.1 s1.2.2.2.1 s1.2.2.2.2.1 s1.2.2.2.2.2.1 s1.2.2.2.2.2.2.1 s1.2.2.2.2.2.2.2.1 s1.2.2.2.2.2.2.2.2.1 s1.2.2.2.2.2.2.2.2.2.1 s1.2.2.2.2.2.2.2.2.2.2.1 s1.2.2.2.2.2.2.2.2.2.2.2.1 s1.2.2.2.2.2.2.2.2.2.2.2.2.1 s1.2.2.2.2.2.2.2.2.2.2.2.2.2.1 s1.2.2.2.2.2.2.2.2.2.2.2.2.2.2.1 s1.2.2.2.2.2.2.2.2.2.2.2.2.2.2.2.2 s1.2.2.2.2.2.2.2.2.2.2.2.2.2.2.2.1) fun c4=>
     OB (
      bif c4.2.1 then
       some true
      else
       some (!c4.2.2.1)) fun s7=>
     bif s7 then
      some (.inr (.inr c4))
     else
      some (.inl ((jv (s1.1+1)),c4.2.2.2))
    else
     some (.inr (.inl s1.2))) ((0:Int),p1,p2,p3,p4,p5,p6,p7,p8,p9,p10,p11,p12,p13,Uf,p16,Ug)) fun s9=>
  some ((0:Int),false,true,s9)) fun s10=>
 ck (decide (p16.length=s10.2.2.2.2.2.2.2.2.2.2.2.2.2.2.2.2.2.1.length)) <|
 some s10
def al0 (Ju:T28) (BU:T45) (LH:T60) (Jv:T80) (LJ:T81) (BX:T87) (p0:Int) (p1:Int) (p2:bW) (p3:oD) (p4:xZ) (p5:xZ) (p6:kE) (p7:(List (bW×Int))) (p8:(List (List (bW×Int)))) (p9:cO) (p10:(List (bW×cO))) (p11:cO) (p12:Int) (p13:Int) (Uf:Int) (Ug:Int) (p16:Int) (p17:Int) (p18:Int) (p19:(List (bW×Int))) (p20:cO) (p21:cO):Option (Int×Bool×Bool×kE×(List (bW×Int))×(List (List (bW×Int)))×cO×(List (bW×cO))×cO×Int×Int×Int×Int×Int×Int×Int×(List (bW×Int))×cO×cO):=
 OB (
  OB (f79 p6 p7 p8 p9 p10 p11 p12 p13 Uf Ug p16 p17 p18 p20) fun c0=>
  bif (!c0.1) then
   some ((0:Int),false,false,c0.2.1,c0.2.2.1,c0.2.2.2.1,c0.2.2.2.2.1,c0.2.2.2.2.2.1,c0.2.2.2.2.2.2.1,c0.2.2.2.2.2.2.2.1,c0.2.2.2.2.2.2.2.2.1,c0.2.2.2.2.2.2.2.2.2.1,c0.2.2.2.2.2.2.2.2.2.2.1,c0.2.2.2.2.2.2.2.2.2.2.2.1,c0.2.2.2.2.2.2.2.2.2.2.2.2.1,c0.2.2.2.2.2.2.2.2.2.2.2.2.2.1,p19,p21,c0.2.2.2.2.2.2.2.2.2.2.2.2.2.2)
  else
   OB (Jv p3 c0.2.1 c0.2.2.1 c0.2.2.2.1 c0.2.2.2.2.1 c0.2.2.2.2.2.1 c0.2.2.2.2.2.2.1 c0.2.2.2.2.2.2.2.1 c0.2.2.2.2.2.2.2.2.1 c0.2.2.2.2.2.2.2.2.2.1 c0.2.2.2.2.2.2.2.2.2.2.1 c0.2.2.2.2.2.2.2.2.2.2.2.1 c0.2.2.2.2.2.2.2.2.2.2.2.2.1 c0.2.2.2.2.2.2.2.2.2.2.2.2.2.1 p19 c0.2.2.2.2.2.2.2.2.2.2.2.2.2.2 p21) fun c2=>
   bif (!c2.1) then
    some ((0:Int),false,false,c2.2.1,c2.2.2.1,c2.2.2.2.1,c2.2.2.2.2.1,c2.2.2.2.2.2.1,c2.2.2.2.2.2.2.1,c2.2.2.2.2.2.2.2.1,c2.2.2.2.2.2.2.2.2.1,c2.2.2.2.2.2.2.2.2.2.1,c2.2.2.2.2.2.2.2.2.2.2.1,c2.2.2.2.2.2.2.2.2.2.2.2.1,c2.2.2.2.2.2.2.2.2.2.2.2.2.1,c2.2.2.2.2.2.2.2.2.2.2.2.2.2.1,c2.2.2.2.2.2.2.2.2.2.2.2.2.2.2.1,c2.2.2.2.2.2.2.2.2.2.2.2.2.2.2.2.1,c2.2.2.2.2.2.2.2.2.2.2.2.2.2.2.2.2.2)
   else
    let n5:=(jv ((c2.2.2.2.2.2.2.2.2.2.2.2.2.2.2.2.2.1.length:Int)-1))
    ck (inB n5 c2.2.2.2.2.2.2.2.2.2.2.2.2.2.2.2.2.1.length) <|
    let n6:=(List.getD c2.2.2.2.2.2.2.2.2.2.2.2.2.2.2.2.2.1 n5.toNat 0)
    fG (
     bif (decide (p0=1)) then
      let n8:=(Ox keyS p2 (0:Int) c2.2.2.2.2.2.2.2.2.2.2.2.2.2.2.1)
      ck (inB n8 c2.2.2.2.2.2.2.2.2.2.2.2.2.2.2.2.1.length) <|
      some (.inl (c2.2.1,c2.2.2.1,c2.2.2.2.1,c2.2.2.2.2.1,c2.2.2.2.2.2.1,c2.2.2.2.2.2.2.1,c2.2.2.2.2.2.2.2.1,c2.2.2.2.2.2.2.2.2.1,c2.2.2.2.2.2.2.2.2.2.1,c2.2.2.2.2.2.2.2.2.2.2.1,c2.2.2.2.2.2.2.2.2.2.2.2.1,c2.2.2.2.2.2.2.2.2.2.2.2.2.1,c2.2.2.2.2.2.2.2.2.2.2.2.2.2.1,(List.set c2.2.2.2.2.2.2.2.2.2.2.2.2.2.2.2.1 n8.toNat n6),c2.2.2.2.2.2.2.2.2.2.2.2.2.2.2.2.2.2))
     else
      fG (
       bif (decide (p0=2)) then
        let n11:=(Ox keyS p2 (0:Int) c2.2.2.2.2.2.2.2.2.2.2.2.2.2.2.1)
        bif (Zi keyS p2 c2.2.2.2.2.2.2.2.2.2.2.2.2.2.2.1) then
         ck (inB n11 c2.2.2.2.2.2.2.2.2.2.2.2.2.2.2.2.1.length) <|
         some (.inl (c2.2.1,c2.2.2.1,c2.2.2.2.1,c2.2.2.2.2.1,c2.2.2.2.2.2.1,c2.2.2.2.2.2.2.1,c2.2.2.2.2.2.2.2.1,c2.2.2.2.2.2.2.2.2.1,c2.2.2.2.2.2.2.2.2.2.1,c2.2.2.2.2.2.2.2.2.2.2.1,c2.2.2.2.2.2.2.2.2.2.2.2.1,c2.2.2.2.2.2.2.2.2.2.2.2.2.1,c2.2.2.2.2.2.2.2.2.2.2.2.2.2.1,(List.set c2.2.2.2.2.2.2.2.2.2.2.2.2.2.2.2.1 n11.toNat n6),c2.2.2.2.2.2.2.2.2.2.2.2.2.2.2.2.2.2))
        else
         ck (inB (0:Int) (Ox keyS p2 eInt c2.2.2.2.2.2.1).length) <|
         none
       else
        bif (decide (p0=3)) then
         let n16:=(Ox keyS p2 eInt c2.2.2.2.2.2.1)
         OB (
          ck (inB (0:Int) c2.2.2.2.2.2.2.2.2.2.2.2.2.2.2.2.2.1.length) <|
          bif (decide ((List.getD c2.2.2.2.2.2.2.2.2.2.2.2.2.2.2.2.2.1 (Int.toNat 0) (0:Int))<0)) then
           some true
          else
           ck (inB (0:Int) c2.2.2.2.2.2.2.2.2.2.2.2.2.2.2.2.2.1.length) <|
           some (decide ((n16.length:Int)≤(List.getD c2.2.2.2.2.2.2.2.2.2.2.2.2.2.2.2.2.1 (Int.toNat 0) (0:Int))))) fun s23=>
         bif s23 then
          OB (f44 2 2 c2.2.1 c2.2.2.1 c2.2.2.2.1 c2.2.2.2.2.1 c2.2.2.2.2.2.1 c2.2.2.2.2.2.2.1 c2.2.2.2.2.2.2.2.1 c2.2.2.2.2.2.2.2.2.1 c2.2.2.2.2.2.2.2.2.2.1 c2.2.2.2.2.2.2.2.2.2.2.1 c2.2.2.2.2.2.2.2.2.2.2.2.1 c2.2.2.2.2.2.2.2.2.2.2.2.2.1 c2.2.2.2.2.2.2.2.2.2.2.2.2.2.1 c2.2.2.2.2.2.2.2.2.2.2.2.2.2.2.2.2.2) fun c24=>
          some (.inr (.inr ((0:Int),false,c24.1,c24.2.1,c24.2.2.1,c24.2.2.2.1,c24.2.2.2.2.1,c24.2.2.2.2.2.1,c24.2.2.2.2.2.2.1,c24.2.2.2.2.2.2.2.1,c24.2.2.2.2.2.2.2.2.1,c24.2.2.2.2.2.2.2.2.2.1,c24.2.2.2.2.2.2.2.2.2.2.1,c24.2.2.2.2.2.2.2.2.2.2.2.1,c24.2.2.2.2.2.2.2.2.2.2.2.2.1,c24.2.2.2.2.2.2.2.2.2.2.2.2.2.1,c2.2.2.2.2.2.2.2.2.2.2.2.2.2.2.1,c2.2.2.2.2.2.2.2.2.2.2.2.2.2.2.2.1,c24.2.2.2.2.2.2.2.2.2.2.2.2.2.2)))
         else
          ck (inB (0:Int) c2.2.2.2.2.2.2.2.2.2.2.2.2.2.2.2.2.1.length) <|
          ck (inB (List.getD c2.2.2.2.2.2.2.2.2.2.2.2.2.2.2.2.2.1 (Int.toNat 0) (0:Int)) n16.length) <|
          none
        else
         bif (decide (p0=4)) then
          bif (!(decide (n6=0))) then
           OB (BU p4 c2.2.1 c2.2.2.1 c2.2.2.2.1 c2.2.2.2.2.1 c2.2.2.2.2.2.1 c2.2.2.2.2.2.2.1 c2.2.2.2.2.2.2.2.1 c2.2.2.2.2.2.2.2.2.1 c2.2.2.2.2.2.2.2.2.2.1 c2.2.2.2.2.2.2.2.2.2.2.1 c2.2.2.2.2.2.2.2.2.2.2.2.1 c2.2.2.2.2.2.2.2.2.2.2.2.2.1 c2.2.2.2.2.2.2.2.2.2.2.2.2.2.1 c2.2.2.2.2.2.2.2.2.2.2.2.2.2.2.1 c2.2.2.2.2.2.2.2.2.2.2.2.2.2.2.2.2.2 c2.2.2.2.2.2.2.2.2.2.2.2.2.2.2.2.1) fun c29=>
           some (.inr (.inr c29))
          else
           OB (BU p5 c2.2.1 c2.2.2.1 c2.2.2.2.1 c2.2.2.2.2.1 c2.2.2.2.2.2.1 c2.2.2.2.2.2.2.1 c2.2.2.2.2.2.2.2.1 c2.2.2.2.2.2.2.2.2.1 c2.2.2.2.2.2.2.2.2.2.1 c2.2.2.2.2.2.2.2.2.2.2.1 c2.2.2.2.2.2.2.2.2.2.2.2.1 c2.2.2.2.2.2.2.2.2.2.2.2.2.1 c2.2.2.2.2.2.2.2.2.2.2.2.2.2.1 c2.2.2.2.2.2.2.2.2.2.2.2.2.2.2.1 c2.2.2.2.2.2.2.2.2.2.2.2.2.2.2.2.2.2 c2.2.2.2.2.2.2.2.2.2.2.2.2.2.2.2.1) fun c30=>
           some (.inr (.inr c30))
         else
          bif (decide (p0=5)) then
           OB (LJ p0 p1 p2 p3 p4 p5 n6 c2.2.1 c2.2.2.1 c2.2.2.2.1 c2.2.2.2.2.1 c2.2.2.2.2.2.1 c2.2.2.2.2.2.2.1 c2.2.2.2.2.2.2.2.1 c2.2.2.2.2.2.2.2.2.1 c2.2.2.2.2.2.2.2.2.2.1 c2.2.2.2.2.2.2.2.2.2.2.1 c2.2.2.2.2.2.2.2.2.2.2.2.1 c2.2.2.2.2.2.2.2.2.2.2.2.2.1 c2.2.2.2.2.2.2.2.2.2.2.2.2.2.1 c2.2.2.2.2.2.2.2.2.2.2.2.2.2.2.1 c2.2.2.2.2.2.2.2.2.2.2.2.2.2.2.2.2.2 c2.2.2.2.2.2.2.2.2.2.2.2.2.2.2.2.1) fun c32=>
           some (.inr (.inr c32))
          else
           bif (decide (p0=6)) then
            some (.inr (.inr (n6,true,true,c2.2.1,c2.2.2.1,c2.2.2.2.1,c2.2.2.2.2.1,c2.2.2.2.2.2.1,c2.2.2.2.2.2.2.1,c2.2.2.2.2.2.2.2.1,c2.2.2.2.2.2.2.2.2.1,c2.2.2.2.2.2.2.2.2.2.1,c2.2.2.2.2.2.2.2.2.2.2.1,c2.2.2.2.2.2.2.2.2.2.2.2.1,c2.2.2.2.2.2.2.2.2.2.2.2.2.1,c2.2.2.2.2.2.2.2.2.2.2.2.2.2.1,c2.2.2.2.2.2.2.2.2.2.2.2.2.2.2.1,c2.2.2.2.2.2.2.2.2.2.2.2.2.2.2.2.1,c2.2.2.2.2.2.2.2.2.2.2.2.2.2.2.2.2.2)))
           else
            fG (
             bif (decide (p0=7)) then
              bif (decide (4096≤(c2.2.2.2.2.2.2.2.2.2.2.2.2.2.2.2.2.2.length:Int))) then
               OB (f44 3 0 c2.2.1 c2.2.2.1 c2.2.2.2.1 c2.2.2.2.2.1 c2.2.2.2.2.2.1 c2.2.2.2.2.2.2.1 c2.2.2.2.2.2.2.2.1 c2.2.2.2.2.2.2.2.2.1 c2.2.2.2.2.2.2.2.2.2.1 c2.2.2.2.2.2.2.2.2.2.2.1 c2.2.2.2.2.2.2.2.2.2.2.2.1 c2.2.2.2.2.2.2.2.2.2.2.2.2.1 c2.2.2.2.2.2.2.2.2.2.2.2.2.2.1 c2.2.2.2.2.2.2.2.2.2.2.2.2.2.2.2.2.2) fun c37=>
               some (.inr (.inr (.inr ((0:Int),false,c37.1,c37.2.1,c37.2.2.1,c37.2.2.2.1,c37.2.2.2.2.1,c37.2.2.2.2.2.1,c37.2.2.2.2.2.2.1,c37.2.2.2.2.2.2.2.1,c37.2.2.2.2.2.2.2.2.1,c37.2.2.2.2.2.2.2.2.2.1,c37.2.2.2.2.2.2.2.2.2.2.1,c37.2.2.2.2.2.2.2.2.2.2.2.1,c37.2.2.2.2.2.2.2.2.2.2.2.2.1,c37.2.2.2.2.2.2.2.2.2.2.2.2.2.1,c2.2.2.2.2.2.2.2.2.2.2.2.2.2.2.1,c2.2.2.2.2.2.2.2.2.2.2.2.2.2.2.2.1,c37.2.2.2.2.2.2.2.2.2.2.2.2.2.2))))
              else
               let n38:=[n6]
               ck (iC c2.2.2.2.2.2.2.2.2.2.2.2.2.2.2.2.2.2.length n38.length 8) <|
               some (.inl (c2.2.1,c2.2.2.1,c2.2.2.2.1,c2.2.2.2.2.1,c2.2.2.2.2.2.1,c2.2.2.2.2.2.2.1,c2.2.2.2.2.2.2.2.1,c2.2.2.2.2.2.2.2.2.1,c2.2.2.2.2.2.2.2.2.2.1,c2.2.2.2.2.2.2.2.2.2.2.1,c2.2.2.2.2.2.2.2.2.2.2.2.1,c2.2.2.2.2.2.2.2.2.2.2.2.2.1,c2.2.2.2.2.2.2.2.2.2.2.2.2.2.1,(c2.2.2.2.2.2.2.2.2.2.2.2.2.2.2.2.2.2++n38)))
             else
              some (.inl (c2.2.1,c2.2.2.1,c2.2.2.2.1,c2.2.2.2.2.1,c2.2.2.2.2.2.1,c2.2.2.2.2.2.2.1,c2.2.2.2.2.2.2.2.1,c2.2.2.2.2.2.2.2.2.1,c2.2.2.2.2.2.2.2.2.2.1,c2.2.2.2.2.2.2.2.2.2.2.1,c2.2.2.2.2.2.2.2.2.2.2.2.1,c2.2.2.2.2.2.2.2.2.2.2.2.2.1,c2.2.2.2.2.2.2.2.2.2.2.2.2.2.1,c2.2.2.2.2.2.2.2.2.2.2.2.2.2.2.2.2.2))) fun Rk=>
            some (.inl (Rk.1,Rk.2.1,Rk.2.2.1,Rk.2.2.2.1,Rk.2.2.2.2.1,Rk.2.2.2.2.2.1,Rk.2.2.2.2.2.2.1,Rk.2.2.2.2.2.2.2.1,Rk.2.2.2.2.2.2.2.2.1,Rk.2.2.2.2.2.2.2.2.2.1,Rk.2.2.2.2.2.2.2.2.2.2.1,Rk.2.2.2.2.2.2.2.2.2.2.2.1,Rk.2.2.2.2.2.2.2.2.2.2.2.2.1,c2.2.2.2.2.2.2.2.2.2.2.2.2.2.2.2.1,Rk.2.2.2.2.2.2.2.2.2.2.2.2.2))) fun Ul=>
      some (.inl Ul)) fun Ws=>
    some ((0:Int),false,true,Ws.1,Ws.2.1,Ws.2.2.1,Ws.2.2.2.1,Ws.2.2.2.2.1,Ws.2.2.2.2.2.1,Ws.2.2.2.2.2.2.1,Ws.2.2.2.2.2.2.2.1,Ws.2.2.2.2.2.2.2.2.1,Ws.2.2.2.2.2.2.2.2.2.1,Ws.2.2.2.2.2.2.2.2.2.2.1,Ws.2.2.2.2.2.2.2.2.2.2.2.1,Ws.2.2.2.2.2.2.2.2.2.2.2.2.1,c2.2.2.2.2.2.2.2.2.2.2.2.2.2.2.1,Ws.2.2.2.2.2.2.2.2.2.2.2.2.2)) fun s43=>
 ck (decide (p21.length=s43.2.2.2.2.2.2.2.2.2.2.2.2.2.2.2.2.2.1.length)) <|
 some s43
def al1 (Ju:T28) (BU:T45) (LH:T60) (Jv:T80) (LJ:T81) (BX:T87) (p0:oD) (p1:kE) (p2:(List (bW×Int))) (p3:(List (List (bW×Int)))) (p4:cO) (p5:(List (bW×cO))) (p6:cO) (p7:Int) (p8:Int) (p9:Int) (p10:Int) (p11:Int) (p12:Int) (p13:Int) (Uf:(List (bW×Int))) (Ug:cO) (p16:cO):Option (Bool×kE×(List (bW×Int))×(List (List (bW×Int)))×cO×(List (bW×cO))×cO×Int×Int×Int×Int×Int×Int×Int×(List (bW×Int))×cO×cO×cO):=
 OB (
  ck (P_ (8:Nat) (0:Int) (p0.length:Int)) <|
  fG (
   dB (fun (s3:(Int×kE×(List (bW×Int))×(List (List (bW×Int)))×cO×(List (bW×cO))×cO×Int×Int×Int×Int×Int×Int×Int×(List (bW×Int))×cO×cO×cO))=>
    bif (decide (s3.1<(p0.length:Int))) then
     ck (inB s3.1 p0.length) <|
     let n5:=(List.getD p0 s3.1.toNat oZ)
     OB (BX n5.kind n5.op n5.value n5.line n5.name n5.args s3.2.1 s3.2.2.1 s3.2.2.2.1 s3.2.2.2.2.1 s3.2.2.2.2.2.1 s3.2.2.2.2.2.2.1 s3.2.2.2.2.2.2.2.1 s3.2.2.2.2.2.2.2.2.1 s3.2.2.2.2.2.2.2.2.2.1 s3.2.2.2.2.2.2.2.2.2.2.1 s3.2.2.2.2.2.2.2.2.2.2.2.1 s3.2.2.2.2.2.2.2.2.2.2.2.2.1 s3.2.2.2.2.2.2.2.2.2.2.2.2.2.1 s3.2.2.2.2.2.2.2.2.2.2.2.2.2.2.1 s3.2.2.2.2.2.2.2.2.2.2.2.2.2.2.2.2.2 s3.2.2.2.2.2.2.2.2.2.2.2.2.2.2.2.1) fun c6=>
     bif (!c6.2.1) then
      some (.inr (.inr (false,c6.2.2.1,c6.2.2.2.1,c6.2.2.2.2.1,c6.2.2.2.2.2.1,c6.2.2.2.2.2.2.1,c6.2.2.2.2.2.2.2.1,c6.2.2.2.2.2.2.2.2.1,c6.2.2.2.2.2.2.2.2.2.1,c6.2.2.2.2.2.2.2.2.2.2.1,c6.2.2.2.2.2.2.2.2.2.2.2.1,c6.2.2.2.2.2.2.2.2.2.2.2.2.1,c6.2.2.2.2.2.2.2.2.2.2.2.2.2.1,c6.2.2.2.2.2.2.2.2.2.2.2.2.2.2.1,c6.2.2.2.2.2.2.2.2.2.2.2.2.2.2.2.1,c6.2.2.2.2.2.2.2.2.2.2.2.2.2.2.2.2.1,eInt,c6.2.2.2.2.2.2.2.2.2.2.2.2.2.2.2.2.2)))
     else
      let n8:=[c6.1]
      ck (iC s3.2.2.2.2.2.2.2.2.2.2.2.2.2.2.2.2.1.length n8.length 8) <|
      some (.inl ((jv (s3.1+1)),c6.2.2.1,c6.2.2.2.1,c6.2.2.2.2.1,c6.2.2.2.2.2.1,c6.2.2.2.2.2.2.1,c6.2.2.2.2.2.2.2.1,c6.2.2.2.2.2.2.2.2.1,c6.2.2.2.2.2.2.2.2.2.1,c6.2.2.2.2.2.2.2.2.2.2.1,c6.2.2.2.2.2.2.2.2.2.2.2.1,c6.2.2.2.2.2.2.2.2.2.2.2.2.1,c6.2.2.2.2.2.2.2.2.2.2.2.2.2.1,c6.2.2.2.2.2.2.2.2.2.2.2.2.2.2.1,c6.2.2.2.2.2.2.2.2.2.2.2.2.2.2.2.1,c6.2.2.2.2.2.2.2.2.2.2.2.2.2.2.2.2.1,(s3.2.2.2.2.2.2.2.2.2.2.2.2.2.2.2.2.1++n8),c6.2.2.2.2.2.2.2.2.2.2.2.2.2.2.2.2.2))
    else
     some (.inr (.inl s3.2))) ((0:Int),p1,p2,p3,p4,p5,p6,p7,p8,p9,p10,p11,p12,p13,Uf,p16,(List.replicate (Int.toNat (0:Int)) (0:Int)),Ug)) fun s11=>
  some (true,s11)) fun s12=>
 ck (decide (p16.length=s12.2.2.2.2.2.2.2.2.2.2.2.2.2.2.2.1.length)) <|
 some s12
def al2 (Ju:T28) (BU:T45) (LH:T60) (Jv:T80) (LJ:T81) (BX:T87) (p0:Int) (p1:Int) (p2:bW) (p3:oD) (p4:xZ) (p5:xZ) (p6:Int) (p7:kE) (p8:(List (bW×Int))) (p9:(List (List (bW×Int)))) (p10:cO) (p11:(List (bW×cO))) (p12:cO) (p13:Int) (Uf:Int) (Ug:Int) (p16:Int) (p17:Int) (p18:Int) (p19:Int) (p20:(List (bW×Int))) (p21:cO) (p22:cO):Option (Int×Bool×Bool×kE×(List (bW×Int))×(List (List (bW×Int)))×cO×(List (bW×cO))×cO×Int×Int×Int×Int×Int×Int×Int×(List (bW×Int))×cO×cO):=
 OB (
  fG (
   dB (fun (s0:(Int×kE×(List (bW×Int))×(List (List (bW×Int)))×cO×(List (bW×cO))×cO×Int×Int×Int×Int×Int×Int×Int×(List (bW×Int))×cO×cO))=>
    bif (!(decide (s0.1=0))) then
     OB (BU p4 s0.2.1 s0.2.2.1 s0.2.2.2.1 s0.2.2.2.2.1 s0.2.2.2.2.2.1 s0.2.2.2.2.2.2.1 s0.2.2.2.2.2.2.2.1 s0.2.2.2.2.2.2.2.2.1 s0.2.2.2.2.2.2.2.2.2.1 s0.2.2.2.2.2.2.2.2.2.2.1 s0.2.2.2.2.2.2.2.2.2.2.2.1 s0.2.2.2.2.2.2.2.2.2.2.2.2.1 s0.2.2.2.2.2.2.2.2.2.2.2.2.2.1 s0.2.2.2.2.2.2.2.2.2.2.2.2.2.2.1 s0.2.2.2.2.2.2.2.2.2.2.2.2.2.2.2.2 s0.2.2.2.2.2.2.2.2.2.2.2.2.2.2.2.1) fun c2=>
     OB (
      bif c2.2.1 then
       some true
      else
       some (!c2.2.2.1)) fun s5=>
     bif s5 then
      some (.inr (.inr c2))
     else
      OB (f79 c2.2.2.2.1 c2.2.2.2.2.1 c2.2.2.2.2.2.1 c2.2.2.2.2.2.2.1 c2.2.2.2.2.2.2.2.1 c2.2.2.2.2.2.2.2.2.1 c2.2.2.2.2.2.2.2.2.2.1 c2.2.2.2.2.2.2.2.2.2.2.1 c2.2.2.2.2.2.2.2.2.2.2.2.1 c2.2.2.2.2.2.2.2.2.2.2.2.2.1 c2.2.2.2.2.2.2.2.2.2.2.2.2.2.1 c2.2.2.2.2.2.2.2.2.2.2.2.2.2.2.1 c2.2.2.2.2.2.2.2.2.2.2.2.2.2.2.2.1 c2.2.2.2.2.2.2.2.2.2.2.2.2.2.2.2.2.2.2) fun c6=>
      bif (!c6.1) then
       some (.inr (.inr ((0:Int),false,false,c6.2.1,c6.2.2.1,c6.2.2.2.1,c6.2.2.2.2.1,c6.2.2.2.2.2.1,c6.2.2.2.2.2.2.1,c6.2.2.2.2.2.2.2.1,c6.2.2.2.2.2.2.2.2.1,c6.2.2.2.2.2.2.2.2.2.1,c6.2.2.2.2.2.2.2.2.2.2.1,c6.2.2.2.2.2.2.2.2.2.2.2.1,c6.2.2.2.2.2.2.2.2.2.2.2.2.1,c6.2.2.2.2.2.2.2.2.2.2.2.2.2.1,c2.2.2.2.2.2.2.2.2.2.2.2.2.2.2.2.2.1,c2.2.2.2.2.2.2.2.2.2.2.2.2.2.2.2.2.2.1,c6.2.2.2.2.2.2.2.2.2.2.2.2.2.2)))
      else
       ck (inB (0:Int) p3.length) <|
       let n8:=(List.getD p3 (Int.toNat 0) oZ)
       OB (BX n8.kind n8.op n8.value n8.line n8.name n8.args c6.2.1 c6.2.2.1 c6.2.2.2.1 c6.2.2.2.2.1 c6.2.2.2.2.2.1 c6.2.2.2.2.2.2.1 c6.2.2.2.2.2.2.2.1 c6.2.2.2.2.2.2.2.2.1 c6.2.2.2.2.2.2.2.2.2.1 c6.2.2.2.2.2.2.2.2.2.2.1 c6.2.2.2.2.2.2.2.2.2.2.2.1 c6.2.2.2.2.2.2.2.2.2.2.2.2.1 c6.2.2.2.2.2.2.2.2.2.2.2.2.2.1 c2.2.2.2.2.2.2.2.2.2.2.2.2.2.2.2.2.1 c6.2.2.2.2.2.2.2.2.2.2.2.2.2.2 c2.2.2.2.2.2.2.2.2.2.2.2.2.2.2.2.2.2.1) fun c9=>
       bif (!c9.2.1) then
        some (.inr (.inr ((0:Int),false,false,c9.2.2)))
       else
        some (.inl (c9.1,c9.2.2.1,c9.2.2.2.1,c9.2.2.2.2.1,c9.2.2.2.2.2.1,c9.2.2.2.2.2.2.1,c9.2.2.2.2.2.2.2.1,c9.2.2.2.2.2.2.2.2.1,c9.2.2.2.2.2.2.2.2.2.1,c9.2.2.2.2.2.2.2.2.2.2.1,c9.2.2.2.2.2.2.2.2.2.2.2.1,c9.2.2.2.2.2.2.2.2.2.2.2.2.1,c9.2.2.2.2.2.2.2.2.2.2.2.2.2.1,c9.2.2.2.2.2.2.2.2.2.2.2.2.2.2.1,c9.2.2.2.2.2.2.2.2.2.2.2.2.2.2.2.1,c9.2.2.2.2.2.2.2.2.2.2.2.2.2.2.2.2.1,c9.2.2.2.2.2.2.2.2.2.2.2.2.2.2.2.2.2))
    else
     some (.inr (.inl s0.2))) (p6,p7,p8,p9,p10,p11,p12,p13,Uf,Ug,p16,p17,p18,p19,p20,p22,p21)) fun s11=>
  some ((0:Int),false,true,s11)) fun s12=>
 ck (decide (p22.length=s12.2.2.2.2.2.2.2.2.2.2.2.2.2.2.2.2.2.1.length)) <|
 some s12
def al3 (Ju:T28) (BU:T45) (LH:T60) (Jv:T80) (LJ:T81) (BX:T87) (p0:Int) (p1:Int) (p2:Int) (p3:Int) (p4:bW) (p5:oD) (p6:kE) (p7:(List (bW×Int))) (p8:(List (List (bW×Int)))) (p9:cO) (p10:(List (bW×cO))) (p11:cO) (p12:Int) (p13:Int) (Uf:Int) (Ug:Int) (p16:Int) (p17:Int) (p18:Int) (p19:(List (bW×Int))) (p20:cO) (p21:cO):Option (Int×Bool×kE×(List (bW×Int))×(List (List (bW×Int)))×cO×(List (bW×cO))×cO×Int×Int×Int×Int×Int×Int×Int×(List (bW×Int))×cO×cO):=
 OB (
  OB (f79 p6 p7 p8 p9 p10 p11 p12 p13 Uf Ug p16 p17 p18 p20) fun c0=>
  bif (!c0.1) then
   some ((0:Int),false,c0.2.1,c0.2.2.1,c0.2.2.2.1,c0.2.2.2.2.1,c0.2.2.2.2.2.1,c0.2.2.2.2.2.2.1,c0.2.2.2.2.2.2.2.1,c0.2.2.2.2.2.2.2.2.1,c0.2.2.2.2.2.2.2.2.2.1,c0.2.2.2.2.2.2.2.2.2.2.1,c0.2.2.2.2.2.2.2.2.2.2.2.1,c0.2.2.2.2.2.2.2.2.2.2.2.2.1,c0.2.2.2.2.2.2.2.2.2.2.2.2.2.1,p19,p21,c0.2.2.2.2.2.2.2.2.2.2.2.2.2.2)
  else
   OB (
    bif (decide (p0=7)) then
     some true
    else
     some (decide (p0=8))) fun s5=>
   bif s5 then
    ck (inB (0:Int) p5.length) <|
    let n6:=(List.getD p5 (Int.toNat 0) oZ)
    OB (BX n6.kind n6.op n6.value n6.line n6.name n6.args c0.2.1 c0.2.2.1 c0.2.2.2.1 c0.2.2.2.2.1 c0.2.2.2.2.2.1 c0.2.2.2.2.2.2.1 c0.2.2.2.2.2.2.2.1 c0.2.2.2.2.2.2.2.2.1 c0.2.2.2.2.2.2.2.2.2.1 c0.2.2.2.2.2.2.2.2.2.2.1 c0.2.2.2.2.2.2.2.2.2.2.2.1 c0.2.2.2.2.2.2.2.2.2.2.2.2.1 c0.2.2.2.2.2.2.2.2.2.2.2.2.2.1 p19 c0.2.2.2.2.2.2.2.2.2.2.2.2.2.2 p21) fun c7=>
    OB (
     bif c7.2.1 then
      some ((!(decide (c7.1=0)))==(decide (p0=7)))
     else
      some false) fun s12=>
    OB (
     bif s12 then
      ck (inB (1:Int) p5.length) <|
      let n13:=(List.getD p5 (Int.toNat 1) oZ)
      OB (BX n13.kind n13.op n13.value n13.line n13.name n13.args c7.2.2.1 c7.2.2.2.1 c7.2.2.2.2.1 c7.2.2.2.2.2.1 c7.2.2.2.2.2.2.1 c7.2.2.2.2.2.2.2.1 c7.2.2.2.2.2.2.2.2.1 c7.2.2.2.2.2.2.2.2.2.1 c7.2.2.2.2.2.2.2.2.2.2.1 c7.2.2.2.2.2.2.2.2.2.2.2.1 c7.2.2.2.2.2.2.2.2.2.2.2.2.1 c7.2.2.2.2.2.2.2.2.2.2.2.2.2.1 c7.2.2.2.2.2.2.2.2.2.2.2.2.2.2.1 c7.2.2.2.2.2.2.2.2.2.2.2.2.2.2.2.1 c7.2.2.2.2.2.2.2.2.2.2.2.2.2.2.2.2.2 c7.2.2.2.2.2.2.2.2.2.2.2.2.2.2.2.2.1) fun c14=>
      some c14
     else
      some c7) fun s15=>
    OB (f24 (!(decide (s15.1=0)))) fun c17=>
    some (c17,s15.2)
   else
    OB (Jv p5 c0.2.1 c0.2.2.1 c0.2.2.2.1 c0.2.2.2.2.1 c0.2.2.2.2.2.1 c0.2.2.2.2.2.2.1 c0.2.2.2.2.2.2.2.1 c0.2.2.2.2.2.2.2.2.1 c0.2.2.2.2.2.2.2.2.2.1 c0.2.2.2.2.2.2.2.2.2.2.1 c0.2.2.2.2.2.2.2.2.2.2.2.1 c0.2.2.2.2.2.2.2.2.2.2.2.2.1 c0.2.2.2.2.2.2.2.2.2.2.2.2.2.1 p19 c0.2.2.2.2.2.2.2.2.2.2.2.2.2.2 p21) fun c18=>
    bif (!c18.1) then
     some ((0:Int),false,c18.2.1,c18.2.2.1,c18.2.2.2.1,c18.2.2.2.2.1,c18.2.2.2.2.2.1,c18.2.2.2.2.2.2.1,c18.2.2.2.2.2.2.2.1,c18.2.2.2.2.2.2.2.2.1,c18.2.2.2.2.2.2.2.2.2.1,c18.2.2.2.2.2.2.2.2.2.2.1,c18.2.2.2.2.2.2.2.2.2.2.2.1,c18.2.2.2.2.2.2.2.2.2.2.2.2.1,c18.2.2.2.2.2.2.2.2.2.2.2.2.2.1,c18.2.2.2.2.2.2.2.2.2.2.2.2.2.2.1,c18.2.2.2.2.2.2.2.2.2.2.2.2.2.2.2.1,c18.2.2.2.2.2.2.2.2.2.2.2.2.2.2.2.2.2)
    else
     bif (decide (p0=1)) then
      some (p2,true,c18.2.1,c18.2.2.1,c18.2.2.2.1,c18.2.2.2.2.1,c18.2.2.2.2.2.1,c18.2.2.2.2.2.2.1,c18.2.2.2.2.2.2.2.1,c18.2.2.2.2.2.2.2.2.1,c18.2.2.2.2.2.2.2.2.2.1,c18.2.2.2.2.2.2.2.2.2.2.1,c18.2.2.2.2.2.2.2.2.2.2.2.1,c18.2.2.2.2.2.2.2.2.2.2.2.2.1,c18.2.2.2.2.2.2.2.2.2.2.2.2.2.1,c18.2.2.2.2.2.2.2.2.2.2.2.2.2.2.1,c18.2.2.2.2.2.2.2.2.2.2.2.2.2.2.2.1,c18.2.2.2.2.2.2.2.2.2.2.2.2.2.2.2.2.2)
     else
      bif (decide (p0=2)) then
       let n22:=(Ox keyS p4 (0:Int) c18.2.2.2.2.2.2.2.2.2.2.2.2.2.2.1)
       ck (inB n22 c18.2.2.2.2.2.2.2.2.2.2.2.2.2.2.2.1.length) <|
       some ((List.getD c18.2.2.2.2.2.2.2.2.2.2.2.2.2.2.2.1 n22.toNat 0),true,c18.2.1,c18.2.2.1,c18.2.2.2.1,c18.2.2.2.2.1,c18.2.2.2.2.2.1,c18.2.2.2.2.2.2.1,c18.2.2.2.2.2.2.2.1,c18.2.2.2.2.2.2.2.2.1,c18.2.2.2.2.2.2.2.2.2.1,c18.2.2.2.2.2.2.2.2.2.2.1,c18.2.2.2.2.2.2.2.2.2.2.2.1,c18.2.2.2.2.2.2.2.2.2.2.2.2.1,c18.2.2.2.2.2.2.2.2.2.2.2.2.2.1,c18.2.2.2.2.2.2.2.2.2.2.2.2.2.2.1,c18.2.2.2.2.2.2.2.2.2.2.2.2.2.2.2.1,c18.2.2.2.2.2.2.2.2.2.2.2.2.2.2.2.2.2)
      else
       bif (decide (p0=3)) then
        let n25:=(Ox keyS p4 eInt c18.2.2.2.2.2.1)
        ck (inB (0:Int) n25.length) <|
        some ((List.getD n25 (Int.toNat 0) (0:Int)),true,c18.2.1,c18.2.2.1,c18.2.2.2.1,c18.2.2.2.2.1,c18.2.2.2.2.2.1,c18.2.2.2.2.2.2.1,c18.2.2.2.2.2.2.2.1,c18.2.2.2.2.2.2.2.2.1,c18.2.2.2.2.2.2.2.2.2.1,c18.2.2.2.2.2.2.2.2.2.2.1,c18.2.2.2.2.2.2.2.2.2.2.2.1,c18.2.2.2.2.2.2.2.2.2.2.2.2.1,c18.2.2.2.2.2.2.2.2.2.2.2.2.2.1,c18.2.2.2.2.2.2.2.2.2.2.2.2.2.2.1,c18.2.2.2.2.2.2.2.2.2.2.2.2.2.2.2.1,c18.2.2.2.2.2.2.2.2.2.2.2.2.2.2.2.2.2)
       else
        bif (decide (p0=4)) then
         let n28:=(Ox keyS p4 eInt c18.2.2.2.2.2.1)
         OB (
          ck (inB (0:Int) c18.2.2.2.2.2.2.2.2.2.2.2.2.2.2.2.2.1.length) <|
          bif (decide ((List.getD c18.2.2.2.2.2.2.2.2.2.2.2.2.2.2.2.2.1 (Int.toNat 0) (0:Int))<0)) then
           some true
          else
           ck (inB (0:Int) c18.2.2.2.2.2.2.2.2.2.2.2.2.2.2.2.2.1.length) <|
           some (decide ((n28.length:Int)≤(List.getD c18.2.2.2.2.2.2.2.2.2.2.2.2.2.2.2.2.1 (Int.toNat 0) (0:Int))))) fun Yq=>
         bif Yq then
          OB (f44 2 2 c18.2.1 c18.2.2.1 c18.2.2.2.1 c18.2.2.2.2.1 c18.2.2.2.2.2.1 c18.2.2.2.2.2.2.1 c18.2.2.2.2.2.2.2.1 c18.2.2.2.2.2.2.2.2.1 c18.2.2.2.2.2.2.2.2.2.1 c18.2.2.2.2.2.2.2.2.2.2.1 c18.2.2.2.2.2.2.2.2.2.2.2.1 c18.2.2.2.2.2.2.2.2.2.2.2.2.1 c18.2.2.2.2.2.2.2.2.2.2.2.2.2.1 c18.2.2.2.2.2.2.2.2.2.2.2.2.2.2.2.2.2) fun Um=>
          some ((0:Int),Um.1,Um.2.1,Um.2.2.1,Um.2.2.2.1,Um.2.2.2.2.1,Um.2.2.2.2.2.1,Um.2.2.2.2.2.2.1,Um.2.2.2.2.2.2.2.1,Um.2.2.2.2.2.2.2.2.1,Um.2.2.2.2.2.2.2.2.2.1,Um.2.2.2.2.2.2.2.2.2.2.1,Um.2.2.2.2.2.2.2.2.2.2.2.1,Um.2.2.2.2.2.2.2.2.2.2.2.2.1,Um.2.2.2.2.2.2.2.2.2.2.2.2.2.1,c18.2.2.2.2.2.2.2.2.2.2.2.2.2.2.1,c18.2.2.2.2.2.2.2.2.2.2.2.2.2.2.2.1,Um.2.2.2.2.2.2.2.2.2.2.2.2.2.2)
         else
          ck (inB (0:Int) c18.2.2.2.2.2.2.2.2.2.2.2.2.2.2.2.2.1.length) <|
          let n37:=(List.getD c18.2.2.2.2.2.2.2.2.2.2.2.2.2.2.2.2.1 (Int.toNat 0) (0:Int))
          ck (inB n37 n28.length) <|
          some ((List.getD n28 n37.toNat 0),true,c18.2.1,c18.2.2.1,c18.2.2.2.1,c18.2.2.2.2.1,c18.2.2.2.2.2.1,c18.2.2.2.2.2.2.1,c18.2.2.2.2.2.2.2.1,c18.2.2.2.2.2.2.2.2.1,c18.2.2.2.2.2.2.2.2.2.1,c18.2.2.2.2.2.2.2.2.2.2.1,c18.2.2.2.2.2.2.2.2.2.2.2.1,c18.2.2.2.2.2.2.2.2.2.2.2.2.1,c18.2.2.2.2.2.2.2.2.2.2.2.2.2.1,c18.2.2.2.2.2.2.2.2.2.2.2.2.2.2.1,c18.2.2.2.2.2.2.2.2.2.2.2.2.2.2.2.1,c18.2.2.2.2.2.2.2.2.2.2.2.2.2.2.2.2.2)
        else
         bif (decide (p0=5)) then
          ck (inB (0:Int) c18.2.2.2.2.2.2.2.2.2.2.2.2.2.2.2.2.1.length) <|
          OB (f10 p1 (List.getD c18.2.2.2.2.2.2.2.2.2.2.2.2.2.2.2.2.1 (Int.toNat 0) (0:Int))) fun c41=>
          some (c41,true,c18.2.1,c18.2.2.1,c18.2.2.2.1,c18.2.2.2.2.1,c18.2.2.2.2.2.1,c18.2.2.2.2.2.2.1,c18.2.2.2.2.2.2.2.1,c18.2.2.2.2.2.2.2.2.1,c18.2.2.2.2.2.2.2.2.2.1,c18.2.2.2.2.2.2.2.2.2.2.1,c18.2.2.2.2.2.2.2.2.2.2.2.1,c18.2.2.2.2.2.2.2.2.2.2.2.2.1,c18.2.2.2.2.2.2.2.2.2.2.2.2.2.1,c18.2.2.2.2.2.2.2.2.2.2.2.2.2.2.1,c18.2.2.2.2.2.2.2.2.2.2.2.2.2.2.2.1,c18.2.2.2.2.2.2.2.2.2.2.2.2.2.2.2.2.2)
         else
          bif (decide (p0=6)) then
           ck (inB (0:Int) c18.2.2.2.2.2.2.2.2.2.2.2.2.2.2.2.2.1.length) <|
           ck (inB (1:Int) c18.2.2.2.2.2.2.2.2.2.2.2.2.2.2.2.2.1.length) <|
           OB (f8 p1 (List.getD c18.2.2.2.2.2.2.2.2.2.2.2.2.2.2.2.2.1 (Int.toNat 0) (0:Int)) (List.getD c18.2.2.2.2.2.2.2.2.2.2.2.2.2.2.2.2.1 (Int.toNat 1) (0:Int))) fun c45=>
           OB (
            bif c45.2 then
             some (c45.1,true,c18.2.1,c18.2.2.1,c18.2.2.2.1,c18.2.2.2.2.1,c18.2.2.2.2.2.1,c18.2.2.2.2.2.2.1,c18.2.2.2.2.2.2.2.1,c18.2.2.2.2.2.2.2.2.1,c18.2.2.2.2.2.2.2.2.2.1,c18.2.2.2.2.2.2.2.2.2.2.1,c18.2.2.2.2.2.2.2.2.2.2.2.1,c18.2.2.2.2.2.2.2.2.2.2.2.2.1,c18.2.2.2.2.2.2.2.2.2.2.2.2.2.1,c18.2.2.2.2.2.2.2.2.2.2.2.2.2.2.2.2.2)
            else
             OB (f44 2 1 c18.2.1 c18.2.2.1 c18.2.2.2.1 c18.2.2.2.2.1 c18.2.2.2.2.2.1 c18.2.2.2.2.2.2.1 c18.2.2.2.2.2.2.2.1 c18.2.2.2.2.2.2.2.2.1 c18.2.2.2.2.2.2.2.2.2.1 c18.2.2.2.2.2.2.2.2.2.2.1 c18.2.2.2.2.2.2.2.2.2.2.2.1 c18.2.2.2.2.2.2.2.2.2.2.2.2.1 c18.2.2.2.2.2.2.2.2.2.2.2.2.2.1 c18.2.2.2.2.2.2.2.2.2.2.2.2.2.2.2.2.2) fun c46=>
             some (c45.1,c46)) fun Rl=>
           some (Rl.1,Rl.2.1,Rl.2.2.1,Rl.2.2.2.1,Rl.2.2.2.2.1,Rl.2.2.2.2.2.1,Rl.2.2.2.2.2.2.1,Rl.2.2.2.2.2.2.2.1,Rl.2.2.2.2.2.2.2.2.1,Rl.2.2.2.2.2.2.2.2.2.1,Rl.2.2.2.2.2.2.2.2.2.2.1,Rl.2.2.2.2.2.2.2.2.2.2.2.1,Rl.2.2.2.2.2.2.2.2.2.2.2.2.1,Rl.2.2.2.2.2.2.2.2.2.2.2.2.2.1,Rl.2.2.2.2.2.2.2.2.2.2.2.2.2.2.1,c18.2.2.2.2.2.2.2.2.2.2.2.2.2.2.1,c18.2.2.2.2.2.2.2.2.2.2.2.2.2.2.2.1,Rl.2.2.2.2.2.2.2.2.2.2.2.2.2.2.2)
          else
           bif (decide (p0=9)) then
            OB (Ju (Ox keyS p4 (0:Int) c18.2.2.1) c18.2.2.2.2.2.2.2.2.2.2.2.2.2.2.2.2.1 c18.2.1 c18.2.2.1 c18.2.2.2.1 c18.2.2.2.2.1 c18.2.2.2.2.2.1 c18.2.2.2.2.2.2.1 c18.2.2.2.2.2.2.2.1 c18.2.2.2.2.2.2.2.2.1 c18.2.2.2.2.2.2.2.2.2.1 c18.2.2.2.2.2.2.2.2.2.2.1 c18.2.2.2.2.2.2.2.2.2.2.2.1 c18.2.2.2.2.2.2.2.2.2.2.2.2.1 c18.2.2.2.2.2.2.2.2.2.2.2.2.2.1 c18.2.2.2.2.2.2.2.2.2.2.2.2.2.2.2.2.2) fun c51=>
            some (c51.1,c51.2.1,c51.2.2.1,c51.2.2.2.1,c51.2.2.2.2.1,c51.2.2.2.2.2.1,c51.2.2.2.2.2.2.1,c51.2.2.2.2.2.2.2.1,c51.2.2.2.2.2.2.2.2.1,c51.2.2.2.2.2.2.2.2.2.1,c51.2.2.2.2.2.2.2.2.2.2.1,c51.2.2.2.2.2.2.2.2.2.2.2.1,c51.2.2.2.2.2.2.2.2.2.2.2.2.1,c51.2.2.2.2.2.2.2.2.2.2.2.2.2.1,c51.2.2.2.2.2.2.2.2.2.2.2.2.2.2.1,c18.2.2.2.2.2.2.2.2.2.2.2.2.2.2.1,c18.2.2.2.2.2.2.2.2.2.2.2.2.2.2.2.1,c51.2.2.2.2.2.2.2.2.2.2.2.2.2.2.2)
           else
            bif (decide (p0=10)) then
             OB (
              ck (inB (0:Int) c18.2.2.2.2.2.2.2.2.2.2.2.2.2.2.2.2.1.length) <|
              bif (decide ((List.getD c18.2.2.2.2.2.2.2.2.2.2.2.2.2.2.2.2.1 (Int.toNat 0) (0:Int))<0)) then
               some true
              else
               ck (inB (0:Int) c18.2.2.2.2.2.2.2.2.2.2.2.2.2.2.2.2.1.length) <|
               bif (decide ((c18.2.1.length:Int)≤(List.getD c18.2.2.2.2.2.2.2.2.2.2.2.2.2.2.2.2.1 (Int.toNat 0) (0:Int)))) then
                some true
               else
                ck (inB (0:Int) c18.2.2.2.2.2.2.2.2.2.2.2.2.2.2.2.2.1.length) <|
                let n59:=(List.getD c18.2.2.2.2.2.2.2.2.2.2.2.2.2.2.2.2.1 (Int.toNat 0) (0:Int))
                ck (inB n59 c18.2.1.length) <|
                some (!(decide (((List.length (List.getD c18.2.1 n59.toNat mF).params):Int)=(jv ((c18.2.2.2.2.2.2.2.2.2.2.2.2.2.2.2.2.1.length:Int)-1)))))) fun s66=>
             bif s66 then
              OB (f44 2 3 c18.2.1 c18.2.2.1 c18.2.2.2.1 c18.2.2.2.2.1 c18.2.2.2.2.2.1 c18.2.2.2.2.2.2.1 c18.2.2.2.2.2.2.2.1 c18.2.2.2.2.2.2.2.2.1 c18.2.2.2.2.2.2.2.2.2.1 c18.2.2.2.2.2.2.2.2.2.2.1 c18.2.2.2.2.2.2.2.2.2.2.2.1 c18.2.2.2.2.2.2.2.2.2.2.2.2.1 c18.2.2.2.2.2.2.2.2.2.2.2.2.2.1 c18.2.2.2.2.2.2.2.2.2.2.2.2.2.2.2.2.2) fun LK=>
              some ((0:Int),LK.1,LK.2.1,LK.2.2.1,LK.2.2.2.1,LK.2.2.2.2.1,LK.2.2.2.2.2.1,LK.2.2.2.2.2.2.1,LK.2.2.2.2.2.2.2.1,LK.2.2.2.2.2.2.2.2.1,LK.2.2.2.2.2.2.2.2.2.1,LK.2.2.2.2.2.2.2.2.2.2.1,LK.2.2.2.2.2.2.2.2.2.2.2.1,LK.2.2.2.2.2.2.2.2.2.2.2.2.1,LK.2.2.2.2.2.2.2.2.2.2.2.2.2.1,c18.2.2.2.2.2.2.2.2.2.2.2.2.2.2.1,c18.2.2.2.2.2.2.2.2.2.2.2.2.2.2.2.1,LK.2.2.2.2.2.2.2.2.2.2.2.2.2.2)
             else
              ck (inB (0:Int) c18.2.2.2.2.2.2.2.2.2.2.2.2.2.2.2.2.1.length) <|
              ck (sU (1:Int) (c18.2.2.2.2.2.2.2.2.2.2.2.2.2.2.2.2.1.length:Int) c18.2.2.2.2.2.2.2.2.2.2.2.2.2.2.2.2.1.length) <|
              OB (Ju (List.getD c18.2.2.2.2.2.2.2.2.2.2.2.2.2.2.2.2.1 (Int.toNat 0) (0:Int)) (List.drop (Int.toNat (1:Int)) (List.take (Int.toNat (c18.2.2.2.2.2.2.2.2.2.2.2.2.2.2.2.2.1.length:Int)) c18.2.2.2.2.2.2.2.2.2.2.2.2.2.2.2.2.1)) c18.2.1 c18.2.2.1 c18.2.2.2.1 c18.2.2.2.2.1 c18.2.2.2.2.2.1 c18.2.2.2.2.2.2.1 c18.2.2.2.2.2.2.2.1 c18.2.2.2.2.2.2.2.2.1 c18.2.2.2.2.2.2.2.2.2.1 c18.2.2.2.2.2.2.2.2.2.2.1 c18.2.2.2.2.2.2.2.2.2.2.2.1 c18.2.2.2.2.2.2.2.2.2.2.2.2.1 c18.2.2.2.2.2.2.2.2.2.2.2.2.2.1 c18.2.2.2.2.2.2.2.2.2.2.2.2.2.2.2.2.2) fun Rn=>
              some (Rn.1,Rn.2.1,Rn.2.2.1,Rn.2.2.2.1,Rn.2.2.2.2.1,Rn.2.2.2.2.2.1,Rn.2.2.2.2.2.2.1,Rn.2.2.2.2.2.2.2.1,Rn.2.2.2.2.2.2.2.2.1,Rn.2.2.2.2.2.2.2.2.2.1,Rn.2.2.2.2.2.2.2.2.2.2.1,Rn.2.2.2.2.2.2.2.2.2.2.2.1,Rn.2.2.2.2.2.2.2.2.2.2.2.2.1,Rn.2.2.2.2.2.2.2.2.2.2.2.2.2.1,Rn.2.2.2.2.2.2.2.2.2.2.2.2.2.2.1,c18.2.2.2.2.2.2.2.2.2.2.2.2.2.2.1,c18.2.2.2.2.2.2.2.2.2.2.2.2.2.2.2.1,Rn.2.2.2.2.2.2.2.2.2.2.2.2.2.2.2)
            else
             bif (decide (p0=11)) then
              some ((Ox keyS p4 (0:Int) c18.2.2.1),true,c18.2.1,c18.2.2.1,c18.2.2.2.1,c18.2.2.2.2.1,c18.2.2.2.2.2.1,c18.2.2.2.2.2.2.1,c18.2.2.2.2.2.2.2.1,c18.2.2.2.2.2.2.2.2.1,c18.2.2.2.2.2.2.2.2.2.1,c18.2.2.2.2.2.2.2.2.2.2.1,c18.2.2.2.2.2.2.2.2.2.2.2.1,c18.2.2.2.2.2.2.2.2.2.2.2.2.1,c18.2.2.2.2.2.2.2.2.2.2.2.2.2.1,c18.2.2.2.2.2.2.2.2.2.2.2.2.2.2.1,c18.2.2.2.2.2.2.2.2.2.2.2.2.2.2.2.1,c18.2.2.2.2.2.2.2.2.2.2.2.2.2.2.2.2.2)
             else
              bif (decide (p0=12)) then
               bif (decide ((c18.2.2.2.2.2.2.1.length:Int)=0)) then
                some ((0:Int),true,c18.2.1,c18.2.2.1,c18.2.2.2.1,c18.2.2.2.2.1,c18.2.2.2.2.2.1,c18.2.2.2.2.2.2.1,c18.2.2.2.2.2.2.2.1,c18.2.2.2.2.2.2.2.2.1,c18.2.2.2.2.2.2.2.2.2.1,c18.2.2.2.2.2.2.2.2.2.2.1,c18.2.2.2.2.2.2.2.2.2.2.2.1,c18.2.2.2.2.2.2.2.2.2.2.2.2.1,c18.2.2.2.2.2.2.2.2.2.2.2.2.2.1,c18.2.2.2.2.2.2.2.2.2.2.2.2.2.2.1,c18.2.2.2.2.2.2.2.2.2.2.2.2.2.2.2.1,c18.2.2.2.2.2.2.2.2.2.2.2.2.2.2.2.2.2)
               else
                ck (inB (0:Int) c18.2.2.2.2.2.2.1.length) <|
                ck (sU (1:Int) (c18.2.2.2.2.2.2.1.length:Int) c18.2.2.2.2.2.2.1.length) <|
                some ((List.getD c18.2.2.2.2.2.2.1 (Int.toNat 0) (0:Int)),true,c18.2.1,c18.2.2.1,c18.2.2.2.1,c18.2.2.2.2.1,c18.2.2.2.2.2.1,(List.drop (Int.toNat (1:Int)) (List.take (Int.toNat (c18.2.2.2.2.2.2.1.length:Int)) c18.2.2.2.2.2.2.1)),c18.2.2.2.2.2.2.2.1,c18.2.2.2.2.2.2.2.2.1,c18.2.2.2.2.2.2.2.2.2.1,c18.2.2.2.2.2.2.2.2.2.2.1,c18.2.2.2.2.2.2.2.2.2.2.2.1,c18.2.2.2.2.2.2.2.2.2.2.2.2.1,c18.2.2.2.2.2.2.2.2.2.2.2.2.2.1,c18.2.2.2.2.2.2.2.2.2.2.2.2.2.2.1,c18.2.2.2.2.2.2.2.2.2.2.2.2.2.2.2.1,c18.2.2.2.2.2.2.2.2.2.2.2.2.2.2.2.2.2)
              else
               some ((0:Int),true,c18.2.1,c18.2.2.1,c18.2.2.2.1,c18.2.2.2.2.1,c18.2.2.2.2.2.1,c18.2.2.2.2.2.2.1,c18.2.2.2.2.2.2.2.1,c18.2.2.2.2.2.2.2.2.1,c18.2.2.2.2.2.2.2.2.2.1,c18.2.2.2.2.2.2.2.2.2.2.1,c18.2.2.2.2.2.2.2.2.2.2.2.1,c18.2.2.2.2.2.2.2.2.2.2.2.2.1,c18.2.2.2.2.2.2.2.2.2.2.2.2.2.1,c18.2.2.2.2.2.2.2.2.2.2.2.2.2.2.1,c18.2.2.2.2.2.2.2.2.2.2.2.2.2.2.2.1,c18.2.2.2.2.2.2.2.2.2.2.2.2.2.2.2.2.2)) fun s77=>
 ck (decide (p21.length=s77.2.2.2.2.2.2.2.2.2.2.2.2.2.2.2.2.1.length)) <|
 some s77
def dn:Nat→T28×T45×T60×T80×T81×T87
 |0=>(fun _ _ _ _ _ _ _ _ _ _ _ _ _ _ _ _=>none,fun _ _ _ _ _ _ _ _ _ _ _ _ _ _ _ _ _=>none,fun _ _ _ _ _ _ _ _ _ _ _ _ _ _ _ _ _ _ _ _ _ _=>none,fun _ _ _ _ _ _ _ _ _ _ _ _ _ _ _ _ _=>none,fun _ _ _ _ _ _ _ _ _ _ _ _ _ _ _ _ _ _ _ _ _ _ _=>none,fun _ _ _ _ _ _ _ _ _ _ _ _ _ _ _ _ _ _ _ _ _ _=>none)
 |n+1=>(alY (dn n).1 (dn n).2.1 (dn n).2.2.1 (dn n).2.2.2.1 (dn n).2.2.2.2.1 (dn n).2.2.2.2.2,alZ (dn n).1 (dn n).2.1 (dn n).2.2.1 (dn n).2.2.2.1 (dn n).2.2.2.2.1 (dn n).2.2.2.2.2,al0 (dn n).1 (dn n).2.1 (dn n).2.2.1 (dn n).2.2.2.1 (dn n).2.2.2.2.1 (dn n).2.2.2.2.2,al1 (dn n).1 (dn n).2.1 (dn n).2.2.1 (dn n).2.2.2.1 (dn n).2.2.2.2.1 (dn n).2.2.2.2.2,al2 (dn n).1 (dn n).2.1 (dn n).2.2.1 (dn n).2.2.2.1 (dn n).2.2.2.2.1 (dn n).2.2.2.2.2,al3 (dn n).1 (dn n).2.1 (dn n).2.2.1 (dn n).2.2.2.1 (dn n).2.2.2.2.1 (dn n).2.2.2.2.2)
def al4 (n:Nat):T28:=(dn n).1
def qJ (n:Nat):aO:=⟨ahd,u16 (dn n).1⟩
def rM (n:Nat):aO:=⟨ahe,u17 (dn n).2.1⟩
def rO (n:Nat):aO:=⟨ahf,u22 (dn n).2.2.1⟩
def rP (n:Nat):aO:=⟨ahg,u17 (dn n).2.2.2.1⟩
def rQ (n:Nat):aO:=⟨ahh,u23 (dn n).2.2.2.2.1⟩
def rU (n:Nat):aO:=⟨ahi,u22 (dn n).2.2.2.2.2⟩
theorem aaQ (n:Nat) (h28:aj Try.prog 28 (qJ n)) (h45:aj Try.prog 45 (rM n)) (h60:aj Try.prog 60 (rO n)) (h80:aj Try.prog 80 (rP n)) (h81:aj Try.prog 81 (rQ n)) (h87:aj Try.prog 87 (rU n)):aj Try.prog 28 (qJ (n+1)):=
 ts [(44,aaE),(28,qJ n),(45,rM n),(60,rO n),(80,rP n),(81,rQ n),(87,rU n)] ety [.tmp 6,.tmp 7] akQ Try.func28 rfl ⟨Gg,h28,h45,h60,h80,h81,h87,trivial⟩
theorem aaS (n:Nat) (h28:aj Try.prog 28 (qJ n)) (h45:aj Try.prog 45 (rM n)) (h60:aj Try.prog 60 (rO n)) (h80:aj Try.prog 80 (rP n)) (h81:aj Try.prog 81 (rQ n)) (h87:aj Try.prog 87 (rU n)):aj Try.prog 45 (rM (n+1)):=
 ts [(28,qJ n),(45,rM n),(60,rO n),(80,rP n),(81,rQ n),(87,rU n)] ety [.tmp 6,.tmp 7,.tmp 8] akR Try.func45 rfl ⟨h28,h45,h60,h80,h81,h87,trivial⟩
theorem aaT (n:Nat) (h28:aj Try.prog 28 (qJ n)) (h45:aj Try.prog 45 (rM n)) (h60:aj Try.prog 60 (rO n)) (h80:aj Try.prog 80 (rP n)) (h81:aj Try.prog 81 (rQ n)) (h87:aj Try.prog 87 (rU n)):aj Try.prog 60 (rO (n+1)):=
 ts [(79,ac1),(44,aaE),(28,qJ n),(45,rM n),(60,rO n),(80,rP n),(81,rQ n),(87,rU n)] ety [.tmp 6,.tmp 7,.tmp 8] akS Try.func60 rfl ⟨Ol,Gg,h28,h45,h60,h80,h81,h87,trivial⟩
theorem aaU (n:Nat) (h28:aj Try.prog 28 (qJ n)) (h45:aj Try.prog 45 (rM n)) (h60:aj Try.prog 60 (rO n)) (h80:aj Try.prog 80 (rP n)) (h81:aj Try.prog 81 (rQ n)) (h87:aj Try.prog 87 (rU n)):aj Try.prog 80 (rP (n+1)):=
 ts [(28,qJ n),(45,rM n),(60,rO n),(80,rP n),(81,rQ n),(87,rU n)] ety [.tmp 6,.tmp 7] akT Try.func80 rfl ⟨h28,h45,h60,h80,h81,h87,trivial⟩
theorem aaV (n:Nat) (h28:aj Try.prog 28 (qJ n)) (h45:aj Try.prog 45 (rM n)) (h60:aj Try.prog 60 (rO n)) (h80:aj Try.prog 80 (rP n)) (h81:aj Try.prog 81 (rQ n)) (h87:aj Try.prog 87 (rU n)):aj Try.prog 81 (rQ (n+1)):=
 ts [(79,ac1),(28,qJ n),(45,rM n),(60,rO n),(80,rP n),(81,rQ n),(87,rU n)] ety [.tmp 8,.tmp 9,.tmp 10] akU Try.func81 rfl ⟨Ol,h28,h45,h60,h80,h81,h87,trivial⟩
theorem aaW (n:Nat) (h28:aj Try.prog 28 (qJ n)) (h45:aj Try.prog 45 (rM n)) (h60:aj Try.prog 60 (rO n)) (h80:aj Try.prog 80 (rP n)) (h81:aj Try.prog 81 (rQ n)) (h87:aj Try.prog 87 (rU n)):aj Try.prog 87 (rU (n+1)):=
 ts [(79,ac1),(24,acO),(44,aaE),(10,ahR),(8,sp8),(28,qJ n),(45,rM n),(60,rO n),(80,rP n),(81,rQ n),(87,rU n)] ety [.tmp 6,.tmp 7] akV Try.func87 rfl ⟨Ol,Oh,Gg,ac2,afB,h28,h45,h60,h80,h81,h87,trivial⟩
theorem EW :∀n,aj Try.prog 28 (qJ n)∧aj Try.prog 45 (rM n)∧aj Try.prog 60 (rO n)∧aj Try.prog 80 (rP n)∧aj Try.prog 81 (rQ n)∧aj Try.prog 87 (rU n)
 |0=>⟨bH Try.func28 rfl rfl (show ahd.er.ok=true by decide +kernel) fun x=>rfl,bH Try.func45 rfl rfl (show ahe.er.ok=true by decide +kernel) fun x=>rfl,bH Try.func60 rfl rfl (show ahf.er.ok=true by decide +kernel) fun x=>rfl,bH Try.func80 rfl rfl (show ahg.er.ok=true by decide +kernel) fun x=>rfl,bH Try.func81 rfl rfl (show ahh.er.ok=true by decide +kernel) fun x=>rfl,bH Try.func87 rfl rfl (show ahi.er.ok=true by decide +kernel) fun x=>rfl⟩
 |n+1=>by
  have ih:=EW n
  exact ⟨aaQ n (ih.1) (ih.2.1) (ih.2.2.1) (ih.2.2.2.1) (ih.2.2.2.2.1) (ih.2.2.2.2.2),aaS n (ih.1) (ih.2.1) (ih.2.2.1) (ih.2.2.2.1) (ih.2.2.2.2.1) (ih.2.2.2.2.2),aaT n (ih.1) (ih.2.1) (ih.2.2.1) (ih.2.2.2.1) (ih.2.2.2.2.1) (ih.2.2.2.2.2),aaU n (ih.1) (ih.2.1) (ih.2.2.1) (ih.2.2.2.1) (ih.2.2.2.2.1) (ih.2.2.2.2.2),aaV n (ih.1) (ih.2.1) (ih.2.2.1) (ih.2.2.2.1) (ih.2.2.2.2.1) (ih.2.2.2.2.2),aaW n (ih.1) (ih.2.1) (ih.2.2.1) (ih.2.2.2.1) (ih.2.2.2.2.1) (ih.2.2.2.2.2)⟩
def f28:T28:=al4 1048576
def ahY:aO:=qJ 1048576
theorem ac5:aj Try.prog 28 ahY:=(EW 1048576).1
def f33 (p0:jy) (p1:Int) (p2:Bool) (p3:Int):Option (Int×Int×jy×Int×Bool×Int):=
 OB (
  bif p2 then
   some (true,p0,p1,p2,p3)
  else
   OB (f47 p0 p1 p2 p3) fun c0=>
   some ((!(decide (c0.1=0))),c0.2.2.2.2)) fun s3=>
 bif s3.1 then
  OB (f47 s3.2.1 s3.2.2.1 s3.2.2.2.1 s3.2.2.2.2) fun c4=>
  some (c4.2.1,(7:Int),c4.2.2.2.2)
 else
  bif (decide (0<s3.2.2.2.2)) then
   some (s3.2.2.2.2,(1:Int),s3.2)
  else
   some ((0:Int),(0:Int),s3.2)
def ahZ:aO:=⟨akW,u4 f33⟩
theorem ac6:aj Try.prog 33 ahZ:=
 ts [(47,Jr)] ety [.tmp 2,.tmp 3] akX Try.func33 rfl ⟨nU,trivial⟩
def f36 (p0:bW) (p1:Int) (p2:iy) (p3:xZ):Option iy:=
 ck (true&&(decide ((((List.length iW)+p2.length)*(16:Nat))≤(140737488355328:Nat)))) <|
 OB (f52 p3 (iW++p2)) fun c1=>
 some c1
def ah0:aO:=⟨akY,u4 f36⟩
theorem ac7:aj Try.prog 36 ah0:=
 ts [(52,ahG)] ety [.tmp 2] akZ Try.func36 rfl ⟨acS,trivial⟩
def al5 (aee:T40) (p0:xZ) (p1:yF) (p2:kE) (p3:Int) (p4:Int) (p5:iy):Option (yF×kE×Int×Int×xZ×iy):=
 OB (
  dB (fun (s0:(Int×yF×kE×Int×Int×xZ×iy))=>
   bif (decide (s0.1<(p0.length:Int))) then
    ck (inB s0.1 p0.length) <|
    let n3:=(List.getD p0 s0.1.toNat o7)
    OB (
     dB (fun (s4:(Int×yF×kE×Int×Int×oD×iy))=>
      bif (decide (s4.1<((List.length n3.exprs):Int))) then
       ck (inB s4.1 (List.length n3.exprs)) <|
       let n7:=(List.getD n3.exprs s4.1.toNat oZ)
       OB (f53 n7.kind n7.op n7.value n7.line n7.name n7.args) fun c8=>
       OB (
        bif (decide (64<c8)) then
         ck (inB s4.1 (List.length n3.exprs)) <|
         OB (f54 (List.getD n3.exprs s4.1.toNat oZ).line 5 s4.2.1 s4.2.2.1 s4.2.2.2.1 s4.2.2.2.2.1 s4.2.2.2.2.2.2) fun c11=>
         some c11
        else
         some (s4.2.1,s4.2.2.1,s4.2.2.2.1,s4.2.2.2.2.1,s4.2.2.2.2.2.2)) fun s12=>
       ck (inB s4.1 (List.length n3.exprs)) <|
       let n13:=(List.getD n3.exprs s4.1.toNat oZ)
       OB (f55 n13.kind n13.op n13.value n13.line n13.name n13.args s12.1 s12.2.1 s12.2.2.1 s12.2.2.2.1 s12.2.2.2.2) fun c14=>
       let n15:=[(eU.mk c14.1 c14.2.1 c14.2.2.1 c14.2.2.2.1 c14.2.2.2.2.1 c14.2.2.2.2.2.2.2.2.2.2)]
       ck (iC s4.2.2.2.2.2.1.length n15.length 72) <|
       some (.inl ((jv (s4.1+1)),c14.2.2.2.2.2.1,c14.2.2.2.2.2.2.1,c14.2.2.2.2.2.2.2.1,c14.2.2.2.2.2.2.2.2.1,(s4.2.2.2.2.2.1++n15),c14.2.2.2.2.2.2.2.2.2.1))
      else
       some (.inr s4.2)) ((0:Int),s0.2.1,s0.2.2.1,s0.2.2.2.1,s0.2.2.2.2.1,nP,s0.2.2.2.2.2.2)) fun FC=>
    OB (f56 n3.name FC.1 FC.2.1 FC.2.2.1 FC.2.2.2.1 FC.2.2.2.2.2) fun c19=>
    OB (
     bif (decide (n3.kind=1)) then
      OB (
       bif (!(decide (c19.1=0))) then
        OB (f54 n3.line 9 c19.2.1 c19.2.2.1 c19.2.2.2.1 c19.2.2.2.2.1 c19.2.2.2.2.2) fun c22=>
        some c22
       else
        some c19.2) fun s23=>
      let n24:=[n3.name]
      ck (iC s23.2.2.2.2.length n24.length 16) <|
      some (s23.1,s23.2.1,s23.2.2.1,s23.2.2.2.1,(s23.2.2.2.2++n24))
     else
      OB (
       bif (decide (n3.kind=2)) then
        some true
       else
        some (decide (n3.kind=3))) fun Yr=>
      OB (
       bif Yr then
        OB (
         bif (decide (c19.1=0)) then
          OB (f54 n3.line 8 c19.2.1 c19.2.2.1 c19.2.2.2.1 c19.2.2.2.2.1 c19.2.2.2.2.2) fun c30=>
          some c30
         else
          OB (
           bif (decide (n3.kind=2)) then
            bif (!(decide (c19.1=1))) then
             bif (!(decide (c19.1=2))) then
              some true
             else
              bif (decide (n3.kind=3)) then
               some (!(decide (c19.1=3)))
              else
               some false
            else
             bif (decide (n3.kind=3)) then
              some (!(decide (c19.1=3)))
             else
              some false
           else
            bif (decide (n3.kind=3)) then
             some (!(decide (c19.1=3)))
            else
             some false) fun s51=>
          OB (
           bif s51 then
            OB (f54 n3.line 10 c19.2.1 c19.2.2.1 c19.2.2.2.1 c19.2.2.2.2.1 c19.2.2.2.2.2) fun c52=>
            some c52
           else
            some c19.2) fun s53=>
          some s53) fun s54=>
        some s54
       else
        some c19.2) fun s55=>
      some s55) fun s56=>
    OB (aee n3.then' s56.1 s56.2.1 s56.2.2.1 s56.2.2.2.1 s56.2.2.2.2) fun c57=>
    OB (aee n3.else' c57.1 c57.2.1 c57.2.2.1 c57.2.2.2.1 c57.2.2.2.2.2) fun c58=>
    let n59:=[(jg.mk n3.kind n3.line n3.name FC.2.2.2.2.1 c57.2.2.2.2.1 c58.2.2.2.2.1)]
    ck (iC s0.2.2.2.2.2.1.length n59.length 104) <|
    some (.inl ((jv (s0.1+1)),c58.1,c58.2.1,c58.2.2.1,c58.2.2.2.1,(s0.2.2.2.2.2.1++n59),c58.2.2.2.2.2))
   else
    some (.inr s0.2)) ((0:Int),p1,p2,p3,p4,Aa,p5)) fun s62=>
 some s62
def Un:Nat→T40
 |0=>(fun _ _ _ _ _ _=>none)
 |n+1=>(al5 (Un n))
def al6 (n:Nat):T40:=(Un n)
def Q_ (n:Nat):aO:=⟨ahj,u6 (Un n)⟩
theorem aaX (n:Nat) (h40:aj Try.prog 40 (Q_ n)):aj Try.prog 40 (Q_ (n+1)):=
 ts [(53,ahI),(54,acU),(55,ahQ),(56,aaH),(40,Q_ n)] ety [.tmp 4] ak0 Try.func40 rfl ⟨acT,Oj,ac0,Gi,h40,trivial⟩
theorem EX :∀n,aj Try.prog 40 (Q_ n)
 |0=>bH Try.func40 rfl rfl (show ahj.er.ok=true by decide +kernel) fun x=>rfl
 |n+1=>by
  have ih:=EX n
  exact aaX n (ih)
def f40:T40:=al6 1048576
def ah2:aO:=Q_ 1048576
theorem ac8:aj Try.prog 40 ah2:=(EX 1048576)
def f43 (p0:bW) (p1:Int) (p2:iy) (p3:xZ):Option iy:=
 OB (f58 p2) fun c0=>
 OB (f59 p3) fun c1=>
 ck (iC c0.length c1.length 16) <|
 some (c0++c1)
def ah3:aO:=⟨ak1,u4 f43⟩
theorem ac9:aj Try.prog 43 ah3:=
 ts [(58,ahL),(59,ahM)] ety [.tmp 2] ak2 Try.func43 rfl ⟨acV,acW,trivial⟩
def f48 (p0:bW) (p1:jy) (p2:Int) (p3:Bool) (p4:Int):Option (Bool×jy×Int×Bool×Int):=
 OB (f67 p0 p1 p2 p3 p4) fun c0=>
 bif c0.1 then
  some (true,c0.2.1,(jv (c0.2.2.1+1)),c0.2.2.2)
 else
  some (false,c0.2)
def Om:aO:=⟨ak3,u5 f48⟩
theorem rV:aj Try.prog 48 Om:=
 ts [(67,Yc)] ety [.tmp 4] ak4 Try.func48 rfl ⟨BQ,trivial⟩
def f50 (p0:bW) (p1:jy) (p2:Int) (p3:Bool) (p4:Int):Option (jy×Int×Bool×Int):=
 OB (f48 p0 p1 p2 p3 p4) fun c0=>
 OB (
  bif (!c0.1) then
   some (c0.2.1,c0.2.2.1,true,c0.2.2.2.2)
  else
   some c0.2) fun s2=>
 some s2
def Oo:aO:=⟨ak5,u5 f50⟩
theorem rW:aj Try.prog 50 Oo:=
 ts [(48,Om)] ety [] ak6 Try.func50 rfl ⟨rV,trivial⟩
def f63 (p0:bW):Option Bool:=
 OB (f82 p0 [[(102:UInt8),(117:UInt8),(110:UInt8),(99:UInt8)],[(103:UInt8),(108:UInt8),(111:UInt8),(98:UInt8),(97:UInt8),(108:UInt8)],[(118:UInt8),(97:UInt8),(114:UInt8)],[(105:UInt8),(102:UInt8)],[(101:UInt8),(108:UInt8),(115:UInt8),(101:UInt8)],[(119:UInt8),(104:UInt8),(105:UInt8),(108:UInt8),(101:UInt8)],[(114:UInt8),(101:UInt8),(116:UInt8),(117:UInt8),(114:UInt8),(110:UInt8)],[(112:UInt8),(114:UInt8),(105:UInt8),(110:UInt8),(116:UInt8)],[(99:UInt8),(97:UInt8),(108:UInt8),(108:UInt8)],[(114:UInt8),(101:UInt8),(97:UInt8),(100:UInt8)]]) fun c1=>
 some c1
def afD:aO:=⟨ak7,f63⟩
theorem Wu:aj Try.prog 63 afD:=
 ts [(82,afA)] ety [.tmp 2] ak8 Try.func63 rfl ⟨Wp,trivial⟩
def f64 (p0:bW):Option Bool:=
 OB (
  bif (decide ((p0.length:Int)=0)) then
   some true
  else
   bif (decide (32<(p0.length:Int))) then
    some true
   else
    ck (inB (0:Int) p0.length) <|
    OB (f61 ((UInt8.toNat (List.getD p0 (Int.toNat 0) (0:UInt8))):Int)) fun c6=>
    bif (!c6) then
     some true
    else
     OB (f63 p0) fun c9=>
     some c9) fun s11=>
 bif s11 then
  some false
 else
  fG (
   dB (fun (s12:Int)=>
    bif (decide (s12<(p0.length:Int))) then
     OB (
      ck (inB s12 p0.length) <|
      OB (f61 ((UInt8.toNat (List.getD p0 s12.toNat (0:UInt8))):Int)) fun c16=>
      bif (!c16) then
       ck (inB s12 p0.length) <|
       OB (f62 ((UInt8.toNat (List.getD p0 s12.toNat (0:UInt8))):Int)) fun c19=>
       bif (!c19) then
        ck (inB s12 p0.length) <|
        some (!(decide (((UInt8.toNat (List.getD p0 s12.toNat (0:UInt8))):Int)=95)))
       else
        some false
      else
       some false) fun s25=>
     bif s25 then
      some (.inr (.inr false))
     else
      some (.inl (jv (s12+1)))
    else
     some (.inr (.inl ()))) (0:Int)) fun s27=>
  some true
def ah4:aO:=⟨ak9,f64⟩
theorem ac_:aj Try.prog 64 ah4:=
 ts [(61,afy),(63,afD),(62,afz)] ety [.tmp 2] ak_ Try.func64 rfl ⟨Wj,Wu,Wn,trivial⟩
def f66 (p0:bW):Option Bool:=
 OB (f82 p0 [[(40:UInt8)],[(41:UInt8)],[(123:UInt8)],[(125:UInt8)],[(91:UInt8)],[(93:UInt8)],[(44:UInt8)],[(59:UInt8)],[(61:UInt8)],[(43:UInt8)],[(45:UInt8)],[(42:UInt8)],[(47:UInt8)],[(37:UInt8)],[(60:UInt8)],[(60:UInt8),(61:UInt8)],[(61:UInt8),(61:UInt8)],[(33:UInt8),(61:UInt8)],[(38:UInt8),(38:UInt8)],[(124:UInt8),(124:UInt8)],[(33:UInt8)],[(38:UInt8)]]) fun c1=>
 some c1
def ah5:aO:=⟨ala,f66⟩
theorem ada:aj Try.prog 66 ah5:=
 ts [(82,afA)] ety [.tmp 2] alb Try.func66 rfl ⟨Wp,trivial⟩
def al7 (x9:Oz) (BZ:T90) (B_:T92) (Cb:T93) (Cc:T95) (y8:T96) (EY:T97) (EZ:T98) (p0:jy) (p1:Int) (p2:Bool) (p3:Int):Option (Int×Int×Int×Int×bW×oD×jy×Int×Bool×Int):=
 OB (BZ p0 p1 p2 p3) fun c0=>
 OB (
  dB (fun (s1:(jy×Int×Bool×Int×Int×Int×Int×Int×bW×oD))=>
   OB (f67 [(124:UInt8),(124:UInt8)] s1.1 s1.2.1 s1.2.2.1 s1.2.2.2.1) fun c2=>
   bif c2.1 then
    OB (f47 c2.2.1 c2.2.2.1 c2.2.2.2.1 c2.2.2.2.2) fun c3=>
    OB (BZ c3.2.2.2.2.1 (jv (c3.2.2.2.2.2.1+1)) c3.2.2.2.2.2.2.1 c3.2.2.2.2.2.2.2) fun c5=>
    OB (f91 8 0 c3.2.1 s1.2.2.2.2.1 s1.2.2.2.2.2.1 s1.2.2.2.2.2.2.1 s1.2.2.2.2.2.2.2.1 s1.2.2.2.2.2.2.2.2.1 s1.2.2.2.2.2.2.2.2.2 c5.1 c5.2.1 c5.2.2.1 c5.2.2.2.1 c5.2.2.2.2.1 c5.2.2.2.2.2.1) fun c6=>
    some (.inl (c5.2.2.2.2.2.2.1,c5.2.2.2.2.2.2.2.1,c5.2.2.2.2.2.2.2.2.1,c5.2.2.2.2.2.2.2.2.2,c6))
   else
    some (.inr (c2.2.1,c2.2.2.1,c2.2.2.2.1,c2.2.2.2.2,s1.2.2.2.2))) (c0.2.2.2.2.2.2.1,c0.2.2.2.2.2.2.2.1,c0.2.2.2.2.2.2.2.2.1,c0.2.2.2.2.2.2.2.2.2,c0.1,c0.2.1,c0.2.2.1,c0.2.2.2.1,c0.2.2.2.2.1,c0.2.2.2.2.2.1)) fun s7=>
 some (s7.2.2.2.2.1,s7.2.2.2.2.2.1,s7.2.2.2.2.2.2.1,s7.2.2.2.2.2.2.2.1,s7.2.2.2.2.2.2.2.2.1,s7.2.2.2.2.2.2.2.2.2,s7.1,s7.2.1,s7.2.2.1,s7.2.2.2.1)
def al8 (x9:Oz) (BZ:T90) (B_:T92) (Cb:T93) (Cc:T95) (y8:T96) (EY:T97) (EZ:T98) (p0:jy) (p1:Int) (p2:Bool) (p3:Int):Option (Int×Int×Int×Int×bW×oD×jy×Int×Bool×Int):=
 OB (B_ p0 p1 p2 p3) fun c0=>
 OB (
  dB (fun (s1:(jy×Int×Bool×Int×Int×Int×Int×Int×bW×oD))=>
   OB (f67 [(38:UInt8),(38:UInt8)] s1.1 s1.2.1 s1.2.2.1 s1.2.2.2.1) fun c2=>
   bif c2.1 then
    OB (f47 c2.2.1 c2.2.2.1 c2.2.2.2.1 c2.2.2.2.2) fun c3=>
    OB (B_ c3.2.2.2.2.1 (jv (c3.2.2.2.2.2.1+1)) c3.2.2.2.2.2.2.1 c3.2.2.2.2.2.2.2) fun c5=>
    OB (f91 7 0 c3.2.1 s1.2.2.2.2.1 s1.2.2.2.2.2.1 s1.2.2.2.2.2.2.1 s1.2.2.2.2.2.2.2.1 s1.2.2.2.2.2.2.2.2.1 s1.2.2.2.2.2.2.2.2.2 c5.1 c5.2.1 c5.2.2.1 c5.2.2.2.1 c5.2.2.2.2.1 c5.2.2.2.2.2.1) fun c6=>
    some (.inl (c5.2.2.2.2.2.2.1,c5.2.2.2.2.2.2.2.1,c5.2.2.2.2.2.2.2.2.1,c5.2.2.2.2.2.2.2.2.2,c6))
   else
    some (.inr (c2.2.1,c2.2.2.1,c2.2.2.2.1,c2.2.2.2.2,s1.2.2.2.2))) (c0.2.2.2.2.2.2.1,c0.2.2.2.2.2.2.2.1,c0.2.2.2.2.2.2.2.2.1,c0.2.2.2.2.2.2.2.2.2,c0.1,c0.2.1,c0.2.2.1,c0.2.2.2.1,c0.2.2.2.2.1,c0.2.2.2.2.2.1)) fun s7=>
 some (s7.2.2.2.2.1,s7.2.2.2.2.2.1,s7.2.2.2.2.2.2.1,s7.2.2.2.2.2.2.2.1,s7.2.2.2.2.2.2.2.2.1,s7.2.2.2.2.2.2.2.2.2,s7.1,s7.2.1,s7.2.2.1,s7.2.2.2.1)
def al9 (x9:Oz) (BZ:T90) (B_:T92) (Cb:T93) (Cc:T95) (y8:T96) (EY:T97) (EZ:T98) (p0:jy) (p1:Int) (p2:Bool) (p3:Int):Option (Int×Int×Int×Int×bW×oD×jy×Int×Bool×Int):=
 OB (Cb p0 p1 p2 p3) fun c0=>
 OB (f94 [[(60:UInt8)],[(60:UInt8),(61:UInt8)],[(61:UInt8),(61:UInt8)],[(33:UInt8),(61:UInt8)]] [(8:Int),(9:Int),(10:Int),(11:Int)] c0.2.2.2.2.2.2.1 c0.2.2.2.2.2.2.2.1 c0.2.2.2.2.2.2.2.2.1 c0.2.2.2.2.2.2.2.2.2) fun c3=>
 bif (decide (0<c3.1)) then
  OB (Cb c3.2.2.1 c3.2.2.2.1 c3.2.2.2.2.1 c3.2.2.2.2.2) fun c5=>
  OB (f91 6 c3.1 c3.2.1 c0.1 c0.2.1 c0.2.2.1 c0.2.2.2.1 c0.2.2.2.2.1 c0.2.2.2.2.2.1 c5.1 c5.2.1 c5.2.2.1 c5.2.2.2.1 c5.2.2.2.2.1 c5.2.2.2.2.2.1) fun c6=>
  some (c6.1,c6.2.1,c6.2.2.1,c6.2.2.2.1,c6.2.2.2.2.1,c6.2.2.2.2.2,c5.2.2.2.2.2.2)
 else
  some (c0.1,c0.2.1,c0.2.2.1,c0.2.2.2.1,c0.2.2.2.2.1,c0.2.2.2.2.2.1,c3.2.2)
def al_ (x9:Oz) (BZ:T90) (B_:T92) (Cb:T93) (Cc:T95) (y8:T96) (EY:T97) (EZ:T98) (p0:jy) (p1:Int) (p2:Bool) (p3:Int):Option (Int×Int×Int×Int×bW×oD×jy×Int×Bool×Int):=
 OB (Cc p0 p1 p2 p3) fun c0=>
 dB (fun (s1:(jy×Int×Bool×Int×Int×Int×Int×Int×bW×oD))=>
  OB (f94 [[(43:UInt8)],[(45:UInt8)]] [(3:Int),(4:Int)] s1.1 s1.2.1 s1.2.2.1 s1.2.2.2.1) fun c4=>
  bif (decide (c4.1=0)) then
   some (.inr (s1.2.2.2.2.1,s1.2.2.2.2.2.1,s1.2.2.2.2.2.2.1,s1.2.2.2.2.2.2.2.1,s1.2.2.2.2.2.2.2.2.1,s1.2.2.2.2.2.2.2.2.2,c4.2.2))
  else
   OB (Cc c4.2.2.1 c4.2.2.2.1 c4.2.2.2.2.1 c4.2.2.2.2.2) fun c6=>
   OB (f91 6 c4.1 c4.2.1 s1.2.2.2.2.1 s1.2.2.2.2.2.1 s1.2.2.2.2.2.2.1 s1.2.2.2.2.2.2.2.1 s1.2.2.2.2.2.2.2.2.1 s1.2.2.2.2.2.2.2.2.2 c6.1 c6.2.1 c6.2.2.1 c6.2.2.2.1 c6.2.2.2.2.1 c6.2.2.2.2.2.1) fun c7=>
   some (.inl (c6.2.2.2.2.2.2.1,c6.2.2.2.2.2.2.2.1,c6.2.2.2.2.2.2.2.2.1,c6.2.2.2.2.2.2.2.2.2,c7))) (c0.2.2.2.2.2.2.1,c0.2.2.2.2.2.2.2.1,c0.2.2.2.2.2.2.2.2.1,c0.2.2.2.2.2.2.2.2.2,c0.1,c0.2.1,c0.2.2.1,c0.2.2.2.1,c0.2.2.2.2.1,c0.2.2.2.2.2.1)
def ama (x9:Oz) (BZ:T90) (B_:T92) (Cb:T93) (Cc:T95) (y8:T96) (EY:T97) (EZ:T98) (p0:jy) (p1:Int) (p2:Bool) (p3:Int):Option (Int×Int×Int×Int×bW×oD×jy×Int×Bool×Int):=
 OB (y8 p0 p1 p2 p3) fun c0=>
 dB (fun (s1:(jy×Int×Bool×Int×Int×Int×Int×Int×bW×oD))=>
  OB (f94 [[(42:UInt8)],[(47:UInt8)],[(37:UInt8)]] [(5:Int),(6:Int),(7:Int)] s1.1 s1.2.1 s1.2.2.1 s1.2.2.2.1) fun c4=>
  bif (decide (c4.1=0)) then
   some (.inr (s1.2.2.2.2.1,s1.2.2.2.2.2.1,s1.2.2.2.2.2.2.1,s1.2.2.2.2.2.2.2.1,s1.2.2.2.2.2.2.2.2.1,s1.2.2.2.2.2.2.2.2.2,c4.2.2))
  else
   OB (y8 c4.2.2.1 c4.2.2.2.1 c4.2.2.2.2.1 c4.2.2.2.2.2) fun c6=>
   OB (f91 6 c4.1 c4.2.1 s1.2.2.2.2.1 s1.2.2.2.2.2.1 s1.2.2.2.2.2.2.1 s1.2.2.2.2.2.2.2.1 s1.2.2.2.2.2.2.2.2.1 s1.2.2.2.2.2.2.2.2.2 c6.1 c6.2.1 c6.2.2.1 c6.2.2.2.1 c6.2.2.2.2.1 c6.2.2.2.2.2.1) fun c7=>
   some (.inl (c6.2.2.2.2.2.2.1,c6.2.2.2.2.2.2.2.1,c6.2.2.2.2.2.2.2.2.1,c6.2.2.2.2.2.2.2.2.2,c7))) (c0.2.2.2.2.2.2.1,c0.2.2.2.2.2.2.2.1,c0.2.2.2.2.2.2.2.2.1,c0.2.2.2.2.2.2.2.2.2,c0.1,c0.2.1,c0.2.2.1,c0.2.2.2.1,c0.2.2.2.2.1,c0.2.2.2.2.2.1)
def amb (x9:Oz) (BZ:T90) (B_:T92) (Cb:T93) (Cc:T95) (y8:T96) (EY:T97) (EZ:T98) (p0:jy) (p1:Int) (p2:Bool) (p3:Int):Option (Int×Int×Int×Int×bW×oD×jy×Int×Bool×Int):=
 OB (f94 [[(45:UInt8)],[(33:UInt8)]] [(1:Int),(2:Int)] p0 p1 p2 p3) fun c2=>
 bif (decide (0<c2.1)) then
  OB (y8 c2.2.2.1 c2.2.2.2.1 c2.2.2.2.2.1 c2.2.2.2.2.2) fun c4=>
  some ((5:Int),c2.1,(0:Int),c2.2.1,fQ,[(eU.mk c4.1 c4.2.1 c4.2.2.1 c4.2.2.2.1 c4.2.2.2.2.1 c4.2.2.2.2.2.1)],c4.2.2.2.2.2.2)
 else
  OB (EY c2.2.2.1 c2.2.2.2.1 c2.2.2.2.2.1 c2.2.2.2.2.2) fun c6=>
  some c6
def amc (x9:Oz) (BZ:T90) (B_:T92) (Cb:T93) (Cc:T95) (y8:T96) (EY:T97) (EZ:T98) (p0:jy) (p1:Int) (p2:Bool) (p3:Int):Option (Int×Int×Int×Int×bW×oD×jy×Int×Bool×Int):=
 OB (f47 p0 p1 p2 p3) fun c0=>
 OB (EZ c0.2.2.2.2.1 c0.2.2.2.2.2.1 c0.2.2.2.2.2.2.1 c0.2.2.2.2.2.2.2) fun c1=>
 OB (
  dB (fun (s2:(jy×Int×Bool×Int×Int×Int×Int×Int×bW×oD))=>
   OB (f67 [(40:UInt8)] s2.1 s2.2.1 s2.2.2.1 s2.2.2.2.1) fun c3=>
   bif c3.1 then
    OB (f47 c3.2.1 c3.2.2.1 c3.2.2.2.1 c3.2.2.2.2) fun c4=>
    OB (f48 [(41:UInt8)] c4.2.2.2.2.1 (jv (c4.2.2.2.2.2.1+1)) c4.2.2.2.2.2.2.1 c4.2.2.2.2.2.2.2) fun c6=>
    OB (
     bif (!c6.1) then
      OB (x9 c6.2.1 c6.2.2.1 c6.2.2.2.1 c6.2.2.2.2) fun c8=>
      let n9:=[(eU.mk c8.1 c8.2.1 c8.2.2.1 c8.2.2.2.1 c8.2.2.2.2.1 c8.2.2.2.2.2.1)]
      ck (iC (List.length nP) n9.length 72) <|
      OB (
       dB (fun (s11:(jy×Int×Bool×Int×oD))=>
        OB (f48 [(44:UInt8)] s11.1 s11.2.1 s11.2.2.1 s11.2.2.2.1) fun c12=>
        bif c12.1 then
         OB (x9 c12.2.1 c12.2.2.1 c12.2.2.2.1 c12.2.2.2.2) fun c13=>
         let n14:=[(eU.mk c13.1 c13.2.1 c13.2.2.1 c13.2.2.2.1 c13.2.2.2.2.1 c13.2.2.2.2.2.1)]
         ck (iC s11.2.2.2.2.length n14.length 72) <|
         some (.inl (c13.2.2.2.2.2.2.1,c13.2.2.2.2.2.2.2.1,c13.2.2.2.2.2.2.2.2.1,c13.2.2.2.2.2.2.2.2.2,(s11.2.2.2.2++n14)))
        else
         some (.inr (c12.2.1,c12.2.2.1,c12.2.2.2.1,c12.2.2.2.2,s11.2.2.2.2))) (c8.2.2.2.2.2.2.1,c8.2.2.2.2.2.2.2.1,c8.2.2.2.2.2.2.2.2.1,c8.2.2.2.2.2.2.2.2.2,(nP++n9))) fun s16=>
      OB (f50 [(41:UInt8)] s16.1 s16.2.1 s16.2.2.1 s16.2.2.2.1) fun c17=>
      some (c17.1,c17.2.1,c17.2.2.1,c17.2.2.2,s16.2.2.2.2)
     else
      some (c6.2.1,c6.2.2.1,c6.2.2.2.1,c6.2.2.2.2,nP)) fun FC=>
    OB (
     bif (decide (s2.2.2.2.2.1=13)) then
      some (decide (c0.1=1))
     else
      some false) fun s22=>
    OB (
     bif s22 then
      some ((9:Int),(0:Int),(0:Int),c4.2.1,s2.2.2.2.2.2.2.2.2.1,FC.2.2.2.2)
     else
      let n23:=[(eU.mk s2.2.2.2.2.1 s2.2.2.2.2.2.1 s2.2.2.2.2.2.2.1 s2.2.2.2.2.2.2.2.1 s2.2.2.2.2.2.2.2.2.1 s2.2.2.2.2.2.2.2.2.2)]
      ck (iC n23.length FC.2.2.2.2.length 72) <|
      some ((10:Int),(0:Int),(0:Int),c4.2.1,fQ,(n23++FC.2.2.2.2))) fun s25=>
    some (.inl (FC.1,FC.2.1,FC.2.2.1,FC.2.2.2.1,s25))
   else
    some (.inr (c3.2.1,c3.2.2.1,c3.2.2.2.1,c3.2.2.2.2,s2.2.2.2.2))) (c1.2.2.2.2.2.2.1,c1.2.2.2.2.2.2.2.1,c1.2.2.2.2.2.2.2.2.1,c1.2.2.2.2.2.2.2.2.2,c1.1,c1.2.1,c1.2.2.1,c1.2.2.2.1,c1.2.2.2.2.1,c1.2.2.2.2.2.1)) fun s26=>
 some (s26.2.2.2.2.1,s26.2.2.2.2.2.1,s26.2.2.2.2.2.2.1,s26.2.2.2.2.2.2.2.1,s26.2.2.2.2.2.2.2.2.1,s26.2.2.2.2.2.2.2.2.2,s26.1,s26.2.1,s26.2.2.1,s26.2.2.2.1)
def amd (x9:Oz) (BZ:T90) (B_:T92) (Cb:T93) (Cc:T95) (y8:T96) (EY:T97) (EZ:T98) (p0:jy) (p1:Int) (p2:Bool) (p3:Int):Option (Int×Int×Int×Int×bW×oD×jy×Int×Bool×Int):=
 OB (f47 p0 p1 p2 p3) fun c0=>
 bif c0.2.2.2.2.2.2.1 then
  some ((0:Int),(0:Int),(0:Int),(0:Int),fQ,nP,c0.2.2.2.2)
 else
  bif (decide (c0.1=2)) then
   some ((1:Int),(0:Int),c0.2.2.1,c0.2.1,fQ,nP,c0.2.2.2.2.1,(jv (c0.2.2.2.2.2.1+1)),c0.2.2.2.2.2.2)
  else
   bif (decide (c0.1=1)) then
    OB (f48 [(91:UInt8)] c0.2.2.2.2.1 (jv (c0.2.2.2.2.2.1+1)) c0.2.2.2.2.2.2.1 c0.2.2.2.2.2.2.2) fun c5=>
    bif c5.1 then
     OB (x9 c5.2.1 c5.2.2.1 c5.2.2.2.1 c5.2.2.2.2) fun c6=>
     OB (f50 [(93:UInt8)] c6.2.2.2.2.2.2.1 c6.2.2.2.2.2.2.2.1 c6.2.2.2.2.2.2.2.2.1 c6.2.2.2.2.2.2.2.2.2) fun c7=>
     some ((4:Int),(0:Int),(0:Int),c0.2.1,c0.2.2.2.1,[(eU.mk c6.1 c6.2.1 c6.2.2.1 c6.2.2.2.1 c6.2.2.2.2.1 c6.2.2.2.2.2.1)],c7)
    else
     some ((13:Int),(0:Int),(0:Int),c0.2.1,c0.2.2.2.1,nP,c5.2)
   else
    OB (f48 [(38:UInt8)] c0.2.2.2.2.1 c0.2.2.2.2.2.1 c0.2.2.2.2.2.2.1 c0.2.2.2.2.2.2.2) fun c9=>
    bif c9.1 then
     OB (f68 1 c9.2.1 c9.2.2.1 c9.2.2.2.1 c9.2.2.2.2) fun c10=>
     some ((11:Int),(0:Int),(0:Int),c0.2.1,c10.2.2.2.1,nP,c10.2.2.2.2)
    else
     OB (f48 [(114:UInt8),(101:UInt8),(97:UInt8),(100:UInt8)] c9.2.1 c9.2.2.1 c9.2.2.2.1 c9.2.2.2.2) fun c11=>
     bif c11.1 then
      some ((12:Int),(0:Int),(0:Int),c0.2.1,fQ,nP,c11.2)
     else
      OB (f50 [(40:UInt8)] c11.2.1 c11.2.2.1 c11.2.2.2.1 c11.2.2.2.2) fun c12=>
      OB (x9 c12.1 c12.2.1 c12.2.2.1 c12.2.2.2) fun c13=>
      OB (f50 [(41:UInt8)] c13.2.2.2.2.2.2.1 c13.2.2.2.2.2.2.2.1 c13.2.2.2.2.2.2.2.2.1 c13.2.2.2.2.2.2.2.2.2) fun c14=>
      some (c13.1,c13.2.1,c13.2.2.1,c13.2.2.2.1,c13.2.2.2.2.1,c13.2.2.2.2.2.1,c14)
def aV:Nat→Oz×Oz×Oz×Oz×Oz×Oz×Oz×Oz
 |0=>(fun _ _ _ _=>none,fun _ _ _ _=>none,fun _ _ _ _=>none,fun _ _ _ _=>none,fun _ _ _ _=>none,fun _ _ _ _=>none,fun _ _ _ _=>none,fun _ _ _ _=>none)
 |n+1=>(al7 (aV n).1 (aV n).2.1 (aV n).2.2.1 (aV n).2.2.2.1 (aV n).2.2.2.2.1 (aV n).2.2.2.2.2.1 (aV n).2.2.2.2.2.2.1 (aV n).2.2.2.2.2.2.2,al8 (aV n).1 (aV n).2.1 (aV n).2.2.1 (aV n).2.2.2.1 (aV n).2.2.2.2.1 (aV n).2.2.2.2.2.1 (aV n).2.2.2.2.2.2.1 (aV n).2.2.2.2.2.2.2,al9 (aV n).1 (aV n).2.1 (aV n).2.2.1 (aV n).2.2.2.1 (aV n).2.2.2.2.1 (aV n).2.2.2.2.2.1 (aV n).2.2.2.2.2.2.1 (aV n).2.2.2.2.2.2.2,al_ (aV n).1 (aV n).2.1 (aV n).2.2.1 (aV n).2.2.2.1 (aV n).2.2.2.2.1 (aV n).2.2.2.2.2.1 (aV n).2.2.2.2.2.2.1 (aV n).2.2.2.2.2.2.2,ama (aV n).1 (aV n).2.1 (aV n).2.2.1 (aV n).2.2.2.1 (aV n).2.2.2.2.1 (aV n).2.2.2.2.2.1 (aV n).2.2.2.2.2.2.1 (aV n).2.2.2.2.2.2.2,amb (aV n).1 (aV n).2.1 (aV n).2.2.1 (aV n).2.2.2.1 (aV n).2.2.2.2.1 (aV n).2.2.2.2.2.1 (aV n).2.2.2.2.2.2.1 (aV n).2.2.2.2.2.2.2,amc (aV n).1 (aV n).2.1 (aV n).2.2.1 (aV n).2.2.2.1 (aV n).2.2.2.2.1 (aV n).2.2.2.2.2.1 (aV n).2.2.2.2.2.2.1 (aV n).2.2.2.2.2.2.2,amd (aV n).1 (aV n).2.1 (aV n).2.2.1 (aV n).2.2.2.1 (aV n).2.2.2.2.1 (aV n).2.2.2.2.2.1 (aV n).2.2.2.2.2.2.1 (aV n).2.2.2.2.2.2.2)
def ame (n:Nat):Oz:=(aV n).1
def mG (n:Nat):aO:=⟨ahk,u4 (aV n).1⟩
def mM (n:Nat):aO:=⟨ahl,u4 (aV n).2.1⟩
def mO (n:Nat):aO:=⟨ahm,u4 (aV n).2.2.1⟩
def mP (n:Nat):aO:=⟨ahn,u4 (aV n).2.2.2.1⟩
def mQ (n:Nat):aO:=⟨aho,u4 (aV n).2.2.2.2.1⟩
def mV (n:Nat):aO:=⟨ahp,u4 (aV n).2.2.2.2.2.1⟩
def mW (n:Nat):aO:=⟨ahq,u4 (aV n).2.2.2.2.2.2.1⟩
def mX (n:Nat):aO:=⟨ahr,u4 (aV n).2.2.2.2.2.2.2⟩
theorem aaY (n:Nat) (Uo:aj Try.prog 89 (mG n)) (Ur:aj Try.prog 90 (mM n)) (Us:aj Try.prog 92 (mO n)) (Ut:aj Try.prog 93 (mP n)) (h95:aj Try.prog 95 (mQ n)) (Uu:aj Try.prog 96 (mV n)) (h97:aj Try.prog 97 (mW n)) (Uw:aj Try.prog 98 (mX n)):aj Try.prog 89 (mG (n+1)):=
 ts [(67,Yc),(47,Jr),(91,Yd),(89,mG n),(90,mM n),(92,mO n),(93,mP n),(95,mQ n),(96,mV n),(97,mW n),(98,mX n)] ety [.cell 2 116] alc Try.func89 rfl ⟨BQ,nU,BR,Uo,Ur,Us,Ut,h95,Uu,h97,Uw,trivial⟩
theorem aaZ (n:Nat) (Uo:aj Try.prog 89 (mG n)) (Ur:aj Try.prog 90 (mM n)) (Us:aj Try.prog 92 (mO n)) (Ut:aj Try.prog 93 (mP n)) (h95:aj Try.prog 95 (mQ n)) (Uu:aj Try.prog 96 (mV n)) (h97:aj Try.prog 97 (mW n)) (Uw:aj Try.prog 98 (mX n)):aj Try.prog 90 (mM (n+1)):=
 ts [(67,Yc),(47,Jr),(91,Yd),(89,mG n),(90,mM n),(92,mO n),(93,mP n),(95,mQ n),(96,mV n),(97,mW n),(98,mX n)] ety [.cell 2 116] ald Try.func90 rfl ⟨BQ,nU,BR,Uo,Ur,Us,Ut,h95,Uu,h97,Uw,trivial⟩
theorem aa0 (n:Nat) (Uo:aj Try.prog 89 (mG n)) (Ur:aj Try.prog 90 (mM n)) (Us:aj Try.prog 92 (mO n)) (Ut:aj Try.prog 93 (mP n)) (h95:aj Try.prog 95 (mQ n)) (Uu:aj Try.prog 96 (mV n)) (h97:aj Try.prog 97 (mW n)) (Uw:aj Try.prog 98 (mX n)):aj Try.prog 92 (mO (n+1)):=
 ts [(94,aaP),(91,Yd),(89,mG n),(90,mM n),(92,mO n),(93,mP n),(95,mQ n),(96,mV n),(97,mW n),(98,mX n)] ety [.cell 2 116] ale Try.func92 rfl ⟨Gl,BR,Uo,Ur,Us,Ut,h95,Uu,h97,Uw,trivial⟩
theorem aa1 (n:Nat) (Uo:aj Try.prog 89 (mG n)) (Ur:aj Try.prog 90 (mM n)) (Us:aj Try.prog 92 (mO n)) (Ut:aj Try.prog 93 (mP n)) (h95:aj Try.prog 95 (mQ n)) (Uu:aj Try.prog 96 (mV n)) (h97:aj Try.prog 97 (mW n)) (Uw:aj Try.prog 98 (mX n)):aj Try.prog 93 (mP (n+1)):=
 ts [(94,aaP),(91,Yd),(89,mG n),(90,mM n),(92,mO n),(93,mP n),(95,mQ n),(96,mV n),(97,mW n),(98,mX n)] ety [.cell 2 116] alf Try.func93 rfl ⟨Gl,BR,Uo,Ur,Us,Ut,h95,Uu,h97,Uw,trivial⟩
theorem aa2 (n:Nat) (Uo:aj Try.prog 89 (mG n)) (Ur:aj Try.prog 90 (mM n)) (Us:aj Try.prog 92 (mO n)) (Ut:aj Try.prog 93 (mP n)) (h95:aj Try.prog 95 (mQ n)) (Uu:aj Try.prog 96 (mV n)) (h97:aj Try.prog 97 (mW n)) (Uw:aj Try.prog 98 (mX n)):aj Try.prog 95 (mQ (n+1)):=
 ts [(94,aaP),(91,Yd),(89,mG n),(90,mM n),(92,mO n),(93,mP n),(95,mQ n),(96,mV n),(97,mW n),(98,mX n)] ety [.cell 2 116] alg Try.func95 rfl ⟨Gl,BR,Uo,Ur,Us,Ut,h95,Uu,h97,Uw,trivial⟩
theorem aa3 (n:Nat) (Uo:aj Try.prog 89 (mG n)) (Ur:aj Try.prog 90 (mM n)) (Us:aj Try.prog 92 (mO n)) (Ut:aj Try.prog 93 (mP n)) (h95:aj Try.prog 95 (mQ n)) (Uu:aj Try.prog 96 (mV n)) (h97:aj Try.prog 97 (mW n)) (Uw:aj Try.prog 98 (mX n)):aj Try.prog 96 (mV (n+1)):=
 ts [(94,aaP),(89,mG n),(90,mM n),(92,mO n),(93,mP n),(95,mQ n),(96,mV n),(97,mW n),(98,mX n)] ety [.cell 2 116] alh Try.func96 rfl ⟨Gl,Uo,Ur,Us,Ut,h95,Uu,h97,Uw,trivial⟩
theorem aa4 (n:Nat) (Uo:aj Try.prog 89 (mG n)) (Ur:aj Try.prog 90 (mM n)) (Us:aj Try.prog 92 (mO n)) (Ut:aj Try.prog 93 (mP n)) (h95:aj Try.prog 95 (mQ n)) (Uu:aj Try.prog 96 (mV n)) (h97:aj Try.prog 97 (mW n)) (Uw:aj Try.prog 98 (mX n)):aj Try.prog 97 (mW (n+1)):=
 ts [(47,Jr),(67,Yc),(48,Om),(50,Oo),(89,mG n),(90,mM n),(92,mO n),(93,mP n),(95,mQ n),(96,mV n),(97,mW n),(98,mX n)] ety [.cell 2 116] ali Try.func97 rfl ⟨nU,BQ,rV,rW,Uo,Ur,Us,Ut,h95,Uu,h97,Uw,trivial⟩
theorem aa5 (n:Nat) (Uo:aj Try.prog 89 (mG n)) (Ur:aj Try.prog 90 (mM n)) (Us:aj Try.prog 92 (mO n)) (Ut:aj Try.prog 93 (mP n)) (h95:aj Try.prog 95 (mQ n)) (Uu:aj Try.prog 96 (mV n)) (h97:aj Try.prog 97 (mW n)) (Uw:aj Try.prog 98 (mX n)):aj Try.prog 98 (mX (n+1)):=
 ts [(47,Jr),(48,Om),(50,Oo),(68,aaL),(89,mG n),(90,mM n),(92,mO n),(93,mP n),(95,mQ n),(96,mV n),(97,mW n),(98,mX n)] ety [.cell 2 116] alj Try.func98 rfl ⟨nU,rV,rW,Gj,Uo,Ur,Us,Ut,h95,Uu,h97,Uw,trivial⟩
theorem E5 :∀n,aj Try.prog 89 (mG n)∧aj Try.prog 90 (mM n)∧aj Try.prog 92 (mO n)∧aj Try.prog 93 (mP n)∧aj Try.prog 95 (mQ n)∧aj Try.prog 96 (mV n)∧aj Try.prog 97 (mW n)∧aj Try.prog 98 (mX n)
 |0=>⟨bH Try.func89 rfl rfl (show ahk.er.ok=true by decide +kernel) fun x=>rfl,bH Try.func90 rfl rfl (show ahl.er.ok=true by decide +kernel) fun x=>rfl,bH Try.func92 rfl rfl (show ahm.er.ok=true by decide +kernel) fun x=>rfl,bH Try.func93 rfl rfl (show ahn.er.ok=true by decide +kernel) fun x=>rfl,bH Try.func95 rfl rfl (show aho.er.ok=true by decide +kernel) fun x=>rfl,bH Try.func96 rfl rfl (show ahp.er.ok=true by decide +kernel) fun x=>rfl,bH Try.func97 rfl rfl (show ahq.er.ok=true by decide +kernel) fun x=>rfl,bH Try.func98 rfl rfl (show ahr.er.ok=true by decide +kernel) fun x=>rfl⟩
 |n+1=>by
  have ih:=E5 n
  exact ⟨aaY n (ih.1) (ih.2.1) (ih.2.2.1) (ih.2.2.2.1) (ih.2.2.2.2.1) (ih.2.2.2.2.2.1) (ih.2.2.2.2.2.2.1) (ih.2.2.2.2.2.2.2),aaZ n (ih.1) (ih.2.1) (ih.2.2.1) (ih.2.2.2.1) (ih.2.2.2.2.1) (ih.2.2.2.2.2.1) (ih.2.2.2.2.2.2.1) (ih.2.2.2.2.2.2.2),aa0 n (ih.1) (ih.2.1) (ih.2.2.1) (ih.2.2.2.1) (ih.2.2.2.2.1) (ih.2.2.2.2.2.1) (ih.2.2.2.2.2.2.1) (ih.2.2.2.2.2.2.2),aa1 n (ih.1) (ih.2.1) (ih.2.2.1) (ih.2.2.2.1) (ih.2.2.2.2.1) (ih.2.2.2.2.2.1) (ih.2.2.2.2.2.2.1) (ih.2.2.2.2.2.2.2),aa2 n (ih.1) (ih.2.1) (ih.2.2.1) (ih.2.2.2.1) (ih.2.2.2.2.1) (ih.2.2.2.2.2.1) (ih.2.2.2.2.2.2.1) (ih.2.2.2.2.2.2.2),aa3 n (ih.1) (ih.2.1) (ih.2.2.1) (ih.2.2.2.1) (ih.2.2.2.2.1) (ih.2.2.2.2.2.1) (ih.2.2.2.2.2.2.1) (ih.2.2.2.2.2.2.2),aa4 n (ih.1) (ih.2.1) (ih.2.2.1) (ih.2.2.2.1) (ih.2.2.2.2.1) (ih.2.2.2.2.2.1) (ih.2.2.2.2.2.2.1) (ih.2.2.2.2.2.2.2),aa5 n (ih.1) (ih.2.1) (ih.2.2.1) (ih.2.2.2.1) (ih.2.2.2.2.1) (ih.2.2.2.2.2.1) (ih.2.2.2.2.2.2.1) (ih.2.2.2.2.2.2.2)⟩
def f89:Oz:=ame 1048576
def afE:aO:=mG 1048576
theorem Wv:aj Try.prog 89 afE:=(E5 1048576).1
def f23 (p0:yF) (p1:kE):Option (Int×Int×yF×kE):=
 OB (
  bif (decide (64<(p1.length:Int))) then
   some true
  else
   some (decide (32<(p0.length:Int)))) fun s5=>
 bif s5 then
  some ((0:Int),(5:Int),jA,qH)
 else
  OB (
   bif (decide ((p1.length:Int)=0)) then
    some true
   else
    ck (inB (0:Int) p1.length) <|
    bif (!((List.getD p1 (Int.toNat 0) mF).name==[(109:UInt8),(97:UInt8),(105:UInt8),(110:UInt8)])) then
     some true
    else
     ck (inB (0:Int) p1.length) <|
     some (decide (0<((List.length (List.getD p1 (Int.toNat 0) mF).params):Int)))) fun s15=>
  bif s15 then
   some ((0:Int),(12:Int),jA,qH)
  else
   fG (
    dB (fun (s16:Int)=>
     bif (decide (s16<(p0.length:Int))) then
      ck (inB s16 p0.length) <|
      OB (f34 p0 p1 (List.getD p0 s16.toNat (jo.mk fQ 0)).name) fun c20=>
      bif (!(decide (c20=s16))) then
       some (.inr (.inr ((0:Int),(9:Int),jA,qH)))
      else
       some (.inl (jv (s16+1)))
     else
      some (.inr (.inl ()))) (0:Int)) fun s23=>
   fG (
    dB (fun (s24:Int)=>
     bif (decide (s24<(p1.length:Int))) then
      OB (
       ck (inB s24 p1.length) <|
       OB (f34 p0 p1 (List.getD p1 s24.toNat mF).name) fun c28=>
       bif (decide (0≤c28)) then
        some true
       else
        ck (inB s24 p1.length) <|
        OB (f35 p0 p1 (List.getD p1 s24.toNat mF).name) fun c31=>
        some (!(decide (c31=s24)))) fun s34=>
      bif s34 then
       ck (inB s24 p1.length) <|
       some (.inr (.inr ((List.getD p1 s24.toNat mF).line,(9:Int),jA,qH)))
      else
       some (.inl (jv (s24+1)))
     else
      some (.inr (.inl ()))) (0:Int)) fun s37=>
   ck (iC (List.length jA) p0.length 24) <|
   fG (
    dB (fun (Js:(Int×kE))=>
     bif (decide (Js.1<(p1.length:Int))) then
      ck (inB Js.1 p1.length) <|
      let n42:=(List.getD p1 Js.1.toNat mF)
      OB (
       bif (decide (6<((List.length n42.params):Int))) then
        some true
       else
        OB (f36 n42.name n42.line n42.params n42.body) fun c45=>
        bif (decide (32<(c45.length:Int))) then
         some true
        else
         OB (f37 n42.body) fun c49=>
         some (decide (24<c49))) fun s52=>
      bif s52 then
       some (.inr (.inr (n42.line,(5:Int),jA,qH)))
      else
       fG (
        dB (fun (s53:Int)=>
         bif (decide (s53<((List.length n42.params):Int))) then
          OB (
           ck (sU (0:Int) s53 (List.length n42.params)) <|
           ck (inB s53 (List.length n42.params)) <|
           OB (f38 (List.drop (Int.toNat (0:Int)) (List.take s53.toNat n42.params)) (List.getD n42.params s53.toNat fQ)) fun c58=>
           bif c58 then
            some true
           else
            ck (inB s53 (List.length n42.params)) <|
            OB (f39 p0 p1 (List.getD n42.params s53.toNat fQ)) fun c60=>
            some (!(decide (c60=0)))) fun s63=>
          bif s63 then
           some (.inr (.inr (.inr (.inr (n42.line,(9:Int),jA,qH)))))
          else
           some (.inl (jv (s53+1)))
         else
          some (.inr (.inl ()))) (0:Int)) fun s65=>
       ck (true&&(decide ((((List.length iW)+(List.length n42.params))*(16:Nat))≤(140737488355328:Nat)))) <|
       OB (f40 n42.body p0 p1 0 0 (iW++n42.params)) fun LK=>
       bif (!(decide (LK.2.2.2.1=0))) then
        some (.inr (.inr (LK.2.2.1,LK.2.2.2.1,jA,qH)))
       else
        ck (true&&(decide ((((List.length iW)+(List.length n42.params))*(16:Nat))≤(140737488355328:Nat)))) <|
        let n70:=[(mJ.mk n42.name n42.line (iW++n42.params) LK.2.2.2.2.1)]
        ck (iC Js.2.length n70.length 72) <|
        some (.inl ((jv (Js.1+1)),(Js.2++n70)))
     else
      some (.inr (.inl Js.2))) ((0:Int),qH)) fun s73=>
   some ((0:Int),(0:Int),(jA++p0),s73)
def ah6:aO:=⟨alk,u2 f23⟩
theorem ade:aj Try.prog 23 ah6:=
 ts [(34,afv),(35,acQ),(36,ah0),(37,ahF),(38,afw),(39,afx),(40,ah2)] ety [.cell 2 34,.tmp 3,.tmp 4] alm Try.func23 rfl ⟨V_,Oi,ac7,acR,Wh,Wi,ac8,trivial⟩
def f27 (p0:yF) (p1:kE):Option (kE×(List (bW×Int))×(List (List (bW×Int)))×cO×(List (bW×cO))):=
 OB (
  dB (fun (s1:(Int×(List (bW×cO))))=>
   bif (decide (s1.1<(p0.length:Int))) then
    ck (inB s1.1 p0.length) <|
    let n3:=(List.getD p0 s1.1.toNat (jo.mk fQ 0))
    let n4:=(SH (1:Int) n3.size)
    ck (P_ (8:Nat) n4 n4) <|
    some (.inl ((jv (s1.1+1)),(SL keyS n3.name (List.replicate n4.toNat (0:Int)) s1.2)))
   else
    some (.inr s1.2)) ((0:Int),([]:(List (bW×cO))))) fun s8=>
 OB (
  dB (fun (s10:(Int×kE×(List (bW×Int))×(List (List (bW×Int)))×cO))=>
   bif (decide (s10.1<(p1.length:Int))) then
    ck (inB s10.1 p1.length) <|
    let n12:=(List.getD p1 s10.1.toNat mF)
    OB (f43 n12.name n12.line n12.params n12.body) fun c14=>
    OB (
     dB (fun (s16:(Int×(List (bW×Int))))=>
      bif (decide (s16.1<(c14.length:Int))) then
       ck (inB s16.1 c14.length) <|
       some (.inl ((jv (s16.1+1)),(SL keyS (List.getD c14 s16.1.toNat fQ) s16.1 s16.2)))
      else
       some (.inr s16.2)) ((0:Int),([]:(List (bW×Int))))) fun s21=>
    let n22:=[s21]
    ck (iC s10.2.2.2.1.length n22.length 8) <|
    let n25:=[(c14.length:Int)]
    ck (iC s10.2.2.2.2.length n25.length 8) <|
    some (.inl ((jv (s10.1+1)),s10.2.1,(SL keyS n12.name s10.1 s10.2.2.1),(s10.2.2.2.1++n22),(s10.2.2.2.2++n25)))
   else
    some (.inr s10.2)) ((0:Int),p1,([]:(List (bW×Int))),([]:(List (List (bW×Int)))),eInt)) fun Yr=>
 some (Yr.1,Yr.2.1,Yr.2.2.1,Yr.2.2.2,s8)
def ah7:aO:=⟨aln,u2 f27⟩
theorem adf:aj Try.prog 27 ah7:=
 ts [(43,ah3)] ety [.cell 2 63] alo Try.func27 rfl ⟨ac9,trivial⟩
def f46 (p0:bW) (p1:Int) (p2:Int):Option (Int×Int×Int×bW×Int×Bool):=
 ck (inB p1 p0.length) <|
 OB (f61 ((UInt8.toNat (List.getD p0 p1.toNat (0:UInt8))):Int)) fun c1=>
 bif c1 then
  OB (
   dB (fun (s2:Int)=>
    OB (
     bif (decide (s2<(p0.length:Int))) then
      ck (inB s2 p0.length) <|
      OB (f61 ((UInt8.toNat (List.getD p0 s2.toNat (0:UInt8))):Int)) fun c6=>
      bif c6 then
       some true
      else
       ck (inB s2 p0.length) <|
       OB (f62 ((UInt8.toNat (List.getD p0 s2.toNat (0:UInt8))):Int)) fun c9=>
       bif c9 then
        some true
       else
        ck (inB s2 p0.length) <|
        some (decide (((UInt8.toNat (List.getD p0 s2.toNat (0:UInt8))):Int)=95))
     else
      some false) fun s16=>
    bif s16 then
     some (.inl (jv (s2+1)))
    else
     some (.inr s2)) p1) fun FC=>
  ck (sU p1 FC p0.length) <|
  let n19:=(List.drop p1.toNat (List.take FC.toNat p0))
  OB (f63 n19) fun c20=>
  OB (
   bif c20 then
    some ((3:Int),p2,(0:Int),n19)
   else
    some ((1:Int),p2,(0:Int),n19)) fun s21=>
  OB (
   bif (decide (s21.1=3)) then
    some (FC,true,s21)
   else
    OB (f64 s21.2.2.2) fun c23=>
    some (FC,c23,s21)) fun s25=>
  some (s25.2.2.1,s25.2.2.2.1,s25.2.2.2.2.1,s25.2.2.2.2.2,s25.1,s25.2.1)
 else
  ck (inB p1 p0.length) <|
  OB (f62 ((UInt8.toNat (List.getD p0 p1.toNat (0:UInt8))):Int)) fun ET=>
  bif ET then
   OB (
    dB (fun (Yr:Int)=>
     OB (
      bif (decide (Yr<(p0.length:Int))) then
       ck (inB Yr p0.length) <|
       OB (f62 ((UInt8.toNat (List.getD p0 Yr.toNat (0:UInt8))):Int)) fun c32=>
       some c32
      else
       some false) fun s34=>
     bif s34 then
      some (.inl (jv (Yr+1)))
     else
      some (.inr Yr)) p1) fun s36=>
   ck (sU p1 s36 p0.length) <|
   let n37:=(List.drop p1.toNat (List.take s36.toNat p0))
   OB (f65 n37) fun c38=>
   OB (
    bif (decide (s36<(p0.length:Int))) then
     ck (inB s36 p0.length) <|
     OB (f61 ((UInt8.toNat (List.getD p0 s36.toNat (0:UInt8))):Int)) fun c42=>
     bif c42 then
      bif true then
       some true
      else
       ck (inB p1 p0.length) <|
       bif (decide (((UInt8.toNat (List.getD p0 p1.toNat (0:UInt8))):Int)=48)) then
        some (decide ((jv (p1+1))<s36))
       else
        some false
     else
      ck (inB s36 p0.length) <|
      bif (decide (((UInt8.toNat (List.getD p0 s36.toNat (0:UInt8))):Int)=95)) then
       some true
      else
       ck (inB p1 p0.length) <|
       bif (decide (((UInt8.toNat (List.getD p0 p1.toNat (0:UInt8))):Int)=48)) then
        some (decide ((jv (p1+1))<s36))
       else
        some false
    else
     ck (inB p1 p0.length) <|
     bif (decide (((UInt8.toNat (List.getD p0 p1.toNat (0:UInt8))):Int)=48)) then
      some (decide ((jv (p1+1))<s36))
     else
      some false) fun s69=>
   OB (
    bif s69 then
     some false
    else
     some c38.2) fun s70=>
   some ((2:Int),p2,c38.1,n37,s36,s70)
  else
   fG (
    dB (fun (s71:Int)=>
     bif (decide (0<s71)) then
      OB (
       bif (decide ((jv (p1+s71))≤(p0.length:Int))) then
        let n76:=(jv (p1+s71))
        ck (sU p1 n76 p0.length) <|
        OB (f66 (List.drop p1.toNat (List.take n76.toNat p0))) fun c78=>
        some c78
       else
        some false) fun s80=>
      bif s80 then
       let n81:=(jv (p1+s71))
       ck (sU p1 n81 p0.length) <|
       some (.inr (.inr ((4:Int),p2,(0:Int),(List.drop p1.toNat (List.take n81.toNat p0)),(jv (p1+s71)),true)))
      else
       some (.inl (jv (s71-1)))
     else
      some (.inr (.inl ()))) (2:Int)) fun s85=>
   some ((0:Int),(0:Int),(0:Int),fQ,(0:Int),false)
def ah8:aO:=⟨alp,u3 f46⟩
theorem adg:aj Try.prog 46 ah8:=
 ts [(61,afy),(62,afz),(63,afD),(64,ah4),(65,ahN),(66,ah5)] ety [.cell 6 102,.tmp 7,.tmp 8] alq Try.func46 rfl ⟨Wj,Wn,Wu,ac_,acX,ada,trivial⟩
def f49 (p0:jy) (p1:Int) (p2:Bool) (p3:Int):Option (bW×Int×jy×Int×Bool×Int):=
 OB (f68 1 p0 p1 p2 p3) fun c0=>
 OB (f48 [(91:UInt8)] c0.2.2.2.2.1 c0.2.2.2.2.2.1 c0.2.2.2.2.2.2.1 c0.2.2.2.2.2.2.2) fun c1=>
 OB (
  bif c1.1 then
   OB (f68 2 c1.2.1 c1.2.2.1 c1.2.2.2.1 c1.2.2.2.2) fun c2=>
   OB (
    bif (!c2.2.2.2.2.2.2.1) then
     bif (decide (c2.2.2.1<1)) then
      bif true then
       some (decide (c2.2.2.2.2.2.2.2=0))
      else
       some false
     else
      bif (decide (1024<c2.2.2.1)) then
       some (decide (c2.2.2.2.2.2.2.2=0))
      else
       some false
    else
     some false) fun s13=>
   OB (
    bif s13 then
     some (c2.2.2.2.2.1,c2.2.2.2.2.2.1,c2.2.2.2.2.2.2.1,c2.2.1)
    else
     some c2.2.2.2.2) fun s14=>
   OB (f50 [(93:UInt8)] s14.1 s14.2.1 s14.2.2.1 s14.2.2.2) fun c15=>
   some (c15.1,c15.2.1,c15.2.2.1,c15.2.2.2,c0.2.2.2.1,c2.2.2.1)
  else
   some (c1.2.1,c1.2.2.1,c1.2.2.2.1,c1.2.2.2.2,c0.2.2.2.1,(0:Int))) fun s16=>
 OB (f50 [(59:UInt8)] s16.1 s16.2.1 s16.2.2.1 s16.2.2.2.1) fun c17=>
 some (s16.2.2.2.2.1,s16.2.2.2.2.2,c17)
def ah9:aO:=⟨alr,u4 f49⟩
theorem adh:aj Try.prog 49 ah9:=
 ts [(68,aaL),(48,Om),(50,Oo)] ety [.cell 2 82] als Try.func49 rfl ⟨Gj,rV,rW,trivial⟩
def f88 (p0:jy) (p1:Int) (p2:Bool) (p3:Int):Option (Int×Int×Int×Int×bW×oD×jy×Int×Bool×Int):=
 OB (f89 p0 p1 p2 p3) fun c0=>
 OB (f50 [(59:UInt8)] c0.2.2.2.2.2.2.1 c0.2.2.2.2.2.2.2.1 c0.2.2.2.2.2.2.2.2.1 c0.2.2.2.2.2.2.2.2.2) fun c1=>
 some (c0.1,c0.2.1,c0.2.2.1,c0.2.2.2.1,c0.2.2.2.2.1,c0.2.2.2.2.2.1,c1)
def ah_:aO:=⟨alu,u4 f88⟩
theorem adi:aj Try.prog 88 ah_:=
 ts [(89,afE),(50,Oo)] ety [.cell 2 116] alv Try.func88 rfl ⟨Wv,rW,trivial⟩
def f15 (p0:yF) (p1:kE) (p2:cO) (p3:Int) (p4:Int):Option (Int×Int×Int×Int×cO):=
 OB (
  OB (f27 p0 p1) fun c2=>
  some (c2.1,c2.2.1,c2.2.2.1,c2.2.2.2.1,c2.2.2.2.2,p2,(Qa p3 (1099511627776:Int)),(Qa p4 (400:Int)),(0:Int),(0:Int),(0:Int),(0:Int),(0:Int),eInt)) fun s3=>
 OB (f28 0 eInt s3.1 s3.2.1 s3.2.2.1 s3.2.2.2.1 s3.2.2.2.2.1 s3.2.2.2.2.2.1 s3.2.2.2.2.2.2.1 s3.2.2.2.2.2.2.2.1 s3.2.2.2.2.2.2.2.2.1 s3.2.2.2.2.2.2.2.2.2.1 s3.2.2.2.2.2.2.2.2.2.2.1 s3.2.2.2.2.2.2.2.2.2.2.2.1 s3.2.2.2.2.2.2.2.2.2.2.2.2.1 s3.2.2.2.2.2.2.2.2.2.2.2.2.2) fun c4=>
 OB (
  bif c4.2.1 then
   some (c4.2.2.1,c4.2.2.2.1,c4.2.2.2.2.1,c4.2.2.2.2.2.1,c4.2.2.2.2.2.2.1,c4.2.2.2.2.2.2.2.1,c4.2.2.2.2.2.2.2.2.1,c4.2.2.2.2.2.2.2.2.2.1,c4.2.2.2.2.2.2.2.2.2.2.1,c4.2.2.2.2.2.2.2.2.2.2.2.1,(1:Int),c4.1,c4.2.2.2.2.2.2.2.2.2.2.2.2.2.2.1)
  else
   some (c4.2.2.1,c4.2.2.2.1,c4.2.2.2.2.1,c4.2.2.2.2.2.1,c4.2.2.2.2.2.2.1,c4.2.2.2.2.2.2.2.1,c4.2.2.2.2.2.2.2.2.1,c4.2.2.2.2.2.2.2.2.2.1,c4.2.2.2.2.2.2.2.2.2.2.1,c4.2.2.2.2.2.2.2.2.2.2.2.1,c4.2.2.2.2.2.2.2.2.2.2.2.2.1,c4.2.2.2.2.2.2.2.2.2.2.2.2.2.1,c4.2.2.2.2.2.2.2.2.2.2.2.2.2.2.1)) fun s5=>
 some (s5.2.2.2.2.2.2.2.2.2.2.1,s5.2.2.2.2.2.2.2.2.2.2.2.1,s5.2.2.2.2.2.2.2.2.2.2.2.2,s5.2.2.2.2.2.2.2.2.1,c4.2.2.2.2.2.2.2.2.2.2.2.2.2.2.2)
def aia:aO:=⟨alx,u5 f15⟩
theorem adk:aj Try.prog 15 aia:=
 ts [(27,ah7),(28,ahY)] ety [.cell 6 40,.tmp 7] aly Try.func15 rfl ⟨adf,ac5,trivial⟩
def f31 (p0:bW):Option (Int×Int×jy):=
 bif (decide (65536<(p0.length:Int))) then
  some ((0:Int),(5:Int),([]:jy))
 else
  fG (
   dB (fun (s2:(Int×Int×jy))=>
    bif (decide (s2.2.1<(p0.length:Int))) then
     ck (inB s2.2.1 p0.length) <|
     fG (
      bif (decide (((UInt8.toNat (List.getD p0 s2.2.1.toNat (0:UInt8))):Int)=10)) then
       some (.inl ((jv (s2.1+1)),(jv (s2.2.1+1)),s2.2.2))
      else
       OB (
        ck (inB s2.2.1 p0.length) <|
        bif (decide (((UInt8.toNat (List.getD p0 s2.2.1.toNat (0:UInt8))):Int)=32)) then
         some true
        else
         ck (inB s2.2.1 p0.length) <|
         some (decide (((UInt8.toNat (List.getD p0 s2.2.1.toNat (0:UInt8))):Int)=9))) fun s14=>
       fG (
        bif s14 then
         some (.inl ((jv (s2.2.1+1)),s2.2.2))
        else
         ck (inB s2.2.1 p0.length) <|
         fG (
          bif (decide (((UInt8.toNat (List.getD p0 s2.2.1.toNat (0:UInt8))):Int)=35)) then
           OB (
            dB (fun (FC:Int)=>
             OB (
              bif (decide (FC<(p0.length:Int))) then
               ck (inB FC p0.length) <|
               some (!(decide (((UInt8.toNat (List.getD p0 FC.toNat (0:UInt8))):Int)=10)))
              else
               some false) fun s24=>
             bif s24 then
              some (.inl (jv (FC+1)))
             else
              some (.inr FC)) s2.2.1) fun s26=>
           some (.inl (s26,s2.2.2))
          else
           OB (f46 p0 s2.2.1 s2.1) fun ET=>
           bif (!ET.2.2.2.2.2) then
            some (.inr (.inr (.inr (.inr (.inr (s2.1,(6:Int),([]:jy)))))))
           else
            let n29:=[(jS.mk ET.1 ET.2.1 ET.2.2.1 ET.2.2.2.1)]
            ck (iC s2.2.2.length n29.length 40) <|
            some (.inl (ET.2.2.2.2.1,(s2.2.2++n29)))) fun s31=>
         some (.inl s31)) fun s32=>
       some (.inl (s2.1,s32))) fun s33=>
     some (.inl s33)
    else
     some (.inr (.inl (s2.1,s2.2.2)))) ((1:Int),(0:Int),([]:jy))) fun s34=>
  let n35:=[(jS.mk 0 s34.1 0 fQ)]
  ck (iC s34.2.length n35.length 40) <|
  some ((0:Int),(0:Int),(s34.2++n35))
def aib:aO:=⟨alz,f31⟩
theorem adl:aj Try.prog 31 aib:=
 ts [(46,ah8)] ety [.tmp 2,.tmp 3,.tmp 4] alA Try.func31 rfl ⟨adg,trivial⟩
def amh (Wx:T69) (aef:T83) (p0:jy) (p1:Int) (p2:Bool) (p3:Int):Option (jy×Int×Bool×Int×xZ):=
 OB (f50 [(123:UInt8)] p0 p1 p2 p3) fun c0=>
 OB (
  dB (fun (s1:(jy×Int×Bool×Int×xZ))=>
   OB (
    bif (!s1.2.2.1) then
     OB (f48 [(125:UInt8)] s1.1 s1.2.1 s1.2.2.1 s1.2.2.2.1) fun c3=>
     some ((!c3.1),c3.2)
    else
     some (false,s1.1,s1.2.1,s1.2.2.1,s1.2.2.2.1)) fun s6=>
   bif s6.1 then
    OB (aef s6.2.1 s6.2.2.1 s6.2.2.2.1 s6.2.2.2.2) fun c7=>
    let n8:=[(jg.mk c7.1 c7.2.1 c7.2.2.1 c7.2.2.2.2.2.2.2.1 c7.2.2.2.2.2.2.2.2.1 c7.2.2.2.2.2.2.2.2.2)]
    ck (iC s1.2.2.2.2.length n8.length 104) <|
    some (.inl (c7.2.2.2.1,c7.2.2.2.2.1,c7.2.2.2.2.2.1,c7.2.2.2.2.2.2.1,(s1.2.2.2.2++n8)))
   else
    some (.inr (s6.2.1,s6.2.2.1,s6.2.2.2.1,s6.2.2.2.2,s1.2.2.2.2))) (c0.1,c0.2.1,c0.2.2.1,c0.2.2.2,Aa)) fun s10=>
 some s10
def ami (Wx:T69) (aef:T83) (p0:jy) (p1:Int) (p2:Bool) (p3:Int):Option (Int×Int×bW×jy×Int×Bool×Int×oD×xZ×xZ):=
 OB (f47 p0 p1 p2 p3) fun c0=>
 OB (f48 [(118:UInt8),(97:UInt8),(114:UInt8)] c0.2.2.2.2.1 c0.2.2.2.2.2.1 c0.2.2.2.2.2.2.1 c0.2.2.2.2.2.2.2) fun c1=>
 OB (
  bif c1.1 then
   OB (f68 1 c1.2.1 c1.2.2.1 c1.2.2.2.1 c1.2.2.2.2) fun c2=>
   OB (f50 [(61:UInt8)] c2.2.2.2.2.1 c2.2.2.2.2.2.1 c2.2.2.2.2.2.2.1 c2.2.2.2.2.2.2.2) fun c3=>
   OB (f88 c3.1 c3.2.1 c3.2.2.1 c3.2.2.2) fun c4=>
   some (c4.2.2.2.2.2.2.1,c4.2.2.2.2.2.2.2.1,c4.2.2.2.2.2.2.2.2.1,c4.2.2.2.2.2.2.2.2.2,(1:Int),c0.2.1,c2.2.2.2.1,[(eU.mk c4.1 c4.2.1 c4.2.2.1 c4.2.2.2.1 c4.2.2.2.2.1 c4.2.2.2.2.2.1)],Aa,Aa)
  else
   OB (f48 [(105:UInt8),(102:UInt8)] c1.2.1 c1.2.2.1 c1.2.2.2.1 c1.2.2.2.2) fun c6=>
   OB (
    bif c6.1 then
     OB (f89 c6.2.1 c6.2.2.1 c6.2.2.2.1 c6.2.2.2.2) fun c7=>
     OB (Wx c7.2.2.2.2.2.2.1 c7.2.2.2.2.2.2.2.1 c7.2.2.2.2.2.2.2.2.1 c7.2.2.2.2.2.2.2.2.2) fun c9=>
     OB (f48 [(101:UInt8),(108:UInt8),(115:UInt8),(101:UInt8)] c9.1 c9.2.1 c9.2.2.1 c9.2.2.2.1) fun c10=>
     OB (
      bif c10.1 then
       OB (Wx c10.2.1 c10.2.2.1 c10.2.2.2.1 c10.2.2.2.2) fun c11=>
       some (c11.1,c11.2.1,c11.2.2.1,c11.2.2.2.1,(4:Int),c0.2.1,fQ,c11.2.2.2.2)
      else
       some (c10.2.1,c10.2.2.1,c10.2.2.2.1,c10.2.2.2.2,(4:Int),c0.2.1,fQ,Aa)) fun s12=>
     some (s12.1,s12.2.1,s12.2.2.1,s12.2.2.2.1,s12.2.2.2.2.1,s12.2.2.2.2.2.1,s12.2.2.2.2.2.2.1,[(eU.mk c7.1 c7.2.1 c7.2.2.1 c7.2.2.2.1 c7.2.2.2.2.1 c7.2.2.2.2.2.1)],c9.2.2.2.2,s12.2.2.2.2.2.2.2)
    else
     OB (f48 [(119:UInt8),(104:UInt8),(105:UInt8),(108:UInt8),(101:UInt8)] c6.2.1 c6.2.2.1 c6.2.2.2.1 c6.2.2.2.2) fun c13=>
     OB (
      bif c13.1 then
       OB (f89 c13.2.1 c13.2.2.1 c13.2.2.2.1 c13.2.2.2.2) fun c14=>
       OB (Wx c14.2.2.2.2.2.2.1 c14.2.2.2.2.2.2.2.1 c14.2.2.2.2.2.2.2.2.1 c14.2.2.2.2.2.2.2.2.2) fun c16=>
       some (c16.1,c16.2.1,c16.2.2.1,c16.2.2.2.1,(5:Int),c0.2.1,fQ,[(eU.mk c14.1 c14.2.1 c14.2.2.1 c14.2.2.2.1 c14.2.2.2.2.1 c14.2.2.2.2.2.1)],c16.2.2.2.2)
      else
       OB (f48 [(114:UInt8),(101:UInt8),(116:UInt8),(117:UInt8),(114:UInt8),(110:UInt8)] c13.2.1 c13.2.2.1 c13.2.2.2.1 c13.2.2.2.2) fun c17=>
       OB (
        bif c17.1 then
         OB (f88 c17.2.1 c17.2.2.1 c17.2.2.2.1 c17.2.2.2.2) fun c18=>
         some (c18.2.2.2.2.2.2.1,c18.2.2.2.2.2.2.2.1,c18.2.2.2.2.2.2.2.2.1,c18.2.2.2.2.2.2.2.2.2,(6:Int),c0.2.1,fQ,[(eU.mk c18.1 c18.2.1 c18.2.2.1 c18.2.2.2.1 c18.2.2.2.2.1 c18.2.2.2.2.2.1)])
        else
         OB (f48 [(112:UInt8),(114:UInt8),(105:UInt8),(110:UInt8),(116:UInt8)] c17.2.1 c17.2.2.1 c17.2.2.2.1 c17.2.2.2.2) fun c20=>
         OB (
          bif c20.1 then
           OB (f88 c20.2.1 c20.2.2.1 c20.2.2.2.1 c20.2.2.2.2) fun c21=>
           some (c21.2.2.2.2.2.2.1,c21.2.2.2.2.2.2.2.1,c21.2.2.2.2.2.2.2.2.1,c21.2.2.2.2.2.2.2.2.2,(7:Int),c0.2.1,fQ,[(eU.mk c21.1 c21.2.1 c21.2.2.1 c21.2.2.2.1 c21.2.2.2.2.1 c21.2.2.2.2.2.1)])
          else
           OB (f48 [(99:UInt8),(97:UInt8),(108:UInt8),(108:UInt8)] c20.2.1 c20.2.2.1 c20.2.2.2.1 c20.2.2.2.2) fun c23=>
           OB (
            bif c23.1 then
             OB (f88 c23.2.1 c23.2.2.1 c23.2.2.2.1 c23.2.2.2.2) fun c24=>
             some (c24.2.2.2.2.2.2.1,c24.2.2.2.2.2.2.2.1,c24.2.2.2.2.2.2.2.2.1,c24.2.2.2.2.2.2.2.2.2,(8:Int),c0.2.1,fQ,[(eU.mk c24.1 c24.2.1 c24.2.2.1 c24.2.2.2.1 c24.2.2.2.2.1 c24.2.2.2.2.2.1)])
            else
             OB (f68 1 c23.2.1 c23.2.2.1 c23.2.2.2.1 c23.2.2.2.2) fun c26=>
             OB (f48 [(91:UInt8)] c26.2.2.2.2.1 c26.2.2.2.2.2.1 c26.2.2.2.2.2.2.1 c26.2.2.2.2.2.2.2) fun ET=>
             OB (
              bif ET.1 then
               OB (f89 ET.2.1 ET.2.2.1 ET.2.2.2.1 ET.2.2.2.2) fun c28=>
               OB (f50 [(93:UInt8)] c28.2.2.2.2.2.2.1 c28.2.2.2.2.2.2.2.1 c28.2.2.2.2.2.2.2.2.1 c28.2.2.2.2.2.2.2.2.2) fun c30=>
               some (c30.1,c30.2.1,c30.2.2.1,c30.2.2.2,(3:Int),c0.2.1,c26.2.2.2.1,[(eU.mk c28.1 c28.2.1 c28.2.2.1 c28.2.2.2.1 c28.2.2.2.2.1 c28.2.2.2.2.2.1)])
              else
               some (ET.2.1,ET.2.2.1,ET.2.2.2.1,ET.2.2.2.2,(2:Int),c0.2.1,c26.2.2.2.1,nP)) fun s31=>
             OB (f50 [(61:UInt8)] s31.1 s31.2.1 s31.2.2.1 s31.2.2.2.1) fun c32=>
             OB (f88 c32.1 c32.2.1 c32.2.2.1 c32.2.2.2) fun c33=>
             let n34:=[(eU.mk c33.1 c33.2.1 c33.2.2.1 c33.2.2.2.1 c33.2.2.2.2.1 c33.2.2.2.2.2.1)]
             ck (iC s31.2.2.2.2.2.2.2.length n34.length 72) <|
             some (c33.2.2.2.2.2.2.1,c33.2.2.2.2.2.2.2.1,c33.2.2.2.2.2.2.2.2.1,c33.2.2.2.2.2.2.2.2.2,s31.2.2.2.2.1,s31.2.2.2.2.2.1,s31.2.2.2.2.2.2.1,(s31.2.2.2.2.2.2.2++n34))) fun s36=>
           some s36) fun s37=>
         some s37) fun Uk=>
       some (Uk.1,Uk.2.1,Uk.2.2.1,Uk.2.2.2.1,Uk.2.2.2.2.1,Uk.2.2.2.2.2.1,Uk.2.2.2.2.2.2.1,Uk.2.2.2.2.2.2.2,Aa)) fun Js=>
     some (Js.1,Js.2.1,Js.2.2.1,Js.2.2.2.1,Js.2.2.2.2.1,Js.2.2.2.2.2.1,Js.2.2.2.2.2.2.1,Js.2.2.2.2.2.2.2.1,Js.2.2.2.2.2.2.2.2,Aa)) fun Rk=>
   some Rk) fun Ul=>
 some (Ul.2.2.2.2.1,Ul.2.2.2.2.2.1,Ul.2.2.2.2.2.2.1,Ul.1,Ul.2.1,Ul.2.2.1,Ul.2.2.2.1,Ul.2.2.2.2.2.2.2.1,Ul.2.2.2.2.2.2.2.2.1,Ul.2.2.2.2.2.2.2.2.2)
def Ad:Nat→T69×T83
 |0=>(fun _ _ _ _=>none,fun _ _ _ _=>none)
 |n+1=>(amh (Ad n).1 (Ad n).2,ami (Ad n).1 (Ad n).2)
def amj (n:Nat):T69:=(Ad n).1
def Jw (n:Nat):aO:=⟨ahs,u4 (Ad n).1⟩
def LM (n:Nat):aO:=⟨aht,u4 (Ad n).2⟩
theorem aa7 (n:Nat) (h69:aj Try.prog 69 (Jw n)) (h83:aj Try.prog 83 (LM n)):aj Try.prog 69 (Jw (n+1)):=
 ts [(50,Oo),(48,Om),(69,Jw n),(83,LM n)] ety [.tmp 2] alB Try.func69 rfl ⟨rW,rV,h69,h83,trivial⟩
theorem aa8 (n:Nat) (h69:aj Try.prog 69 (Jw n)) (h83:aj Try.prog 83 (LM n)):aj Try.prog 83 (LM (n+1)):=
 ts [(47,Jr),(48,Om),(68,aaL),(50,Oo),(88,ah_),(89,afE),(69,Jw n),(83,LM n)] ety [.cell 2 113] alC Try.func83 rfl ⟨nU,rV,Gj,rW,adi,Wv,h69,h83,trivial⟩
theorem E8 :∀n,aj Try.prog 69 (Jw n)∧aj Try.prog 83 (LM n)
 |0=>⟨bH Try.func69 rfl rfl (show ahs.er.ok=true by decide +kernel) fun x=>rfl,bH Try.func83 rfl rfl (show aht.er.ok=true by decide +kernel) fun x=>rfl⟩
 |n+1=>by
  have ih:=E8 n
  exact ⟨aa7 n (ih.1) (ih.2),aa8 n (ih.1) (ih.2)⟩
def f69:T69:=amj 1048576
def aic:aO:=Jw 1048576
theorem adn:aj Try.prog 69 aic:=(E8 1048576).1
def f51 (p0:jy) (p1:Int) (p2:Bool) (p3:Int):Option (bW×Int×jy×Int×Bool×Int×iy×xZ):=
 OB (f68 1 p0 p1 p2 p3) fun c0=>
 OB (f50 [(40:UInt8)] c0.2.2.2.2.1 c0.2.2.2.2.2.1 c0.2.2.2.2.2.2.1 c0.2.2.2.2.2.2.2) fun c1=>
 OB (f48 [(41:UInt8)] c1.1 c1.2.1 c1.2.2.1 c1.2.2.2) fun c2=>
 OB (
  bif (!c2.1) then
   OB (f68 1 c2.2.1 c2.2.2.1 c2.2.2.2.1 c2.2.2.2.2) fun c4=>
   let n5:=[c4.2.2.2.1]
   ck (true&&(decide ((((List.length iW)+n5.length)*(16:Nat))≤(140737488355328:Nat)))) <|
   OB (
    dB (fun (s7:(jy×Int×Bool×Int×bW×Int×iy))=>
     OB (f48 [(44:UInt8)] s7.1 s7.2.1 s7.2.2.1 s7.2.2.2.1) fun c8=>
     bif c8.1 then
      OB (f68 1 c8.2.1 c8.2.2.1 c8.2.2.2.1 c8.2.2.2.2) fun c9=>
      let n10:=[c9.2.2.2.1]
      ck (iC s7.2.2.2.2.2.2.length n10.length 16) <|
      some (.inl (c9.2.2.2.2.1,c9.2.2.2.2.2.1,c9.2.2.2.2.2.2.1,c9.2.2.2.2.2.2.2,s7.2.2.2.2.1,s7.2.2.2.2.2.1,(s7.2.2.2.2.2.2++n10)))
     else
      some (.inr (c8.2.1,c8.2.2.1,c8.2.2.2.1,c8.2.2.2.2,s7.2.2.2.2))) (c4.2.2.2.2.1,c4.2.2.2.2.2.1,c4.2.2.2.2.2.2.1,c4.2.2.2.2.2.2.2,c0.2.2.2.1,(0:Int),(iW++n5))) fun s12=>
   OB (f50 [(41:UInt8)] s12.1 s12.2.1 s12.2.2.1 s12.2.2.2.1) fun c13=>
   some (c13.1,c13.2.1,c13.2.2.1,c13.2.2.2,s12.2.2.2.2)
  else
   some (c2.2.1,c2.2.2.1,c2.2.2.2.1,c2.2.2.2.2,c0.2.2.2.1,(0:Int),iW)) fun s14=>
 OB (f69 s14.1 s14.2.1 s14.2.2.1 s14.2.2.2.1) fun c15=>
 some (s14.2.2.2.2.1,s14.2.2.2.2.2.1,c15.1,c15.2.1,c15.2.2.1,c15.2.2.2.1,s14.2.2.2.2.2.2,c15.2.2.2.2)
def aie:aO:=⟨alD,u4 f51⟩
theorem ado:aj Try.prog 51 aie:=
 ts [(68,aaL),(50,Oo),(48,Om),(69,aic)] ety [.cell 2 79] alE Try.func51 rfl ⟨Gj,rW,rV,adn,trivial⟩
def f32 (p0:jy) (p1:Int) (p2:Bool) (p3:Int):Option (jy×Int×Bool×Int×yF×kE):=
 OB (
  dB (fun (s0:(jy×Int×Bool×Int×yF×kE))=>
   OB (
    bif (!s0.2.2.1) then
     OB (f47 s0.1 s0.2.1 s0.2.2.1 s0.2.2.2.1) fun c2=>
     some ((!(decide (c2.1=0))),c2.2.2.2.2)
    else
     some (false,s0.1,s0.2.1,s0.2.2.1,s0.2.2.2.1)) fun s5=>
   bif s5.1 then
    OB (
     OB (f48 [(103:UInt8),(108:UInt8),(111:UInt8),(98:UInt8),(97:UInt8),(108:UInt8)] s5.2.1 s5.2.2.1 s5.2.2.2.1 s5.2.2.2.2) fun c6=>
     bif c6.1 then
      OB (f49 c6.2.1 c6.2.2.1 c6.2.2.2.1 c6.2.2.2.2) fun c7=>
      let n8:=[(jo.mk c7.1 c7.2.1)]
      ck (iC s0.2.2.2.2.1.length n8.length 24) <|
      some (c7.2.2.1,c7.2.2.2.1,c7.2.2.2.2.1,c7.2.2.2.2.2,(s0.2.2.2.2.1++n8),s0.2.2.2.2.2)
     else
      OB (f47 c6.2.1 c6.2.2.1 c6.2.2.2.1 c6.2.2.2.2) fun c10=>
      OB (f50 [(102:UInt8),(117:UInt8),(110:UInt8),(99:UInt8)] c10.2.2.2.2.1 c10.2.2.2.2.2.1 c10.2.2.2.2.2.2.1 c10.2.2.2.2.2.2.2) fun c11=>
      OB (f51 c11.1 c11.2.1 c11.2.2.1 c11.2.2.2) fun c12=>
      let n13:=[(mJ.mk c12.1 c10.2.1 c12.2.2.2.2.2.2.1 c12.2.2.2.2.2.2.2)]
      ck (iC s0.2.2.2.2.2.length n13.length 72) <|
      some (c12.2.2.1,c12.2.2.2.1,c12.2.2.2.2.1,c12.2.2.2.2.2.1,s0.2.2.2.2.1,(s0.2.2.2.2.2++n13))) fun s15=>
    some (.inl s15)
   else
    some (.inr (s5.2.1,s5.2.2.1,s5.2.2.2.1,s5.2.2.2.2,s0.2.2.2.2))) (p0,p1,p2,p3,jA,qH)) fun s16=>
 some s16
def aif:aO:=⟨alF,u4 f32⟩
theorem adp:aj Try.prog 32 aif:=
 ts [(47,Jr),(48,Om),(49,ah9),(50,Oo),(51,aie)] ety [.cell 2 34] alG Try.func32 rfl ⟨nU,rV,adh,rW,ado,trivial⟩
def f22 (p0:bW):Option (Int×Int×yF×kE):=
 OB (f31 p0) fun c0=>
 bif (!(decide (c0.2.1=0))) then
  some (c0.1,c0.2.1,jA,qH)
 else
  OB (
   some (c0.2.2,(0:Int),false,(0:Int))) fun s2=>
  OB (f32 s2.1 s2.2.1 s2.2.2.1 s2.2.2.2) fun c3=>
  OB (f33 c3.1 c3.2.1 c3.2.2.1 c3.2.2.2.1) fun c4=>
  bif (!(decide (c4.2.1=0))) then
   some (c4.1,c4.2.1,jA,qH)
  else
   some ((0:Int),(0:Int),c3.2.2.2.2)
def aii:aO:=⟨alH,f22⟩
theorem adq:aj Try.prog 22 aii:=
 ts [(31,aib),(32,aif),(33,ahZ)] ety [.cell 2 34,.tmp 3,.tmp 4] alI Try.func22 rfl ⟨adl,adp,ac6,trivial⟩
def f7:Option Bool:=
 OB (f22 [(102:UInt8),(117:UInt8),(110:UInt8),(99:UInt8),(32:UInt8),(109:UInt8),(97:UInt8),(105:UInt8),(110:UInt8),(40:UInt8),(41:UInt8),(32:UInt8),(123:UInt8),(32:UInt8),(112:UInt8),(114:UInt8),(105:UInt8),(110:UInt8),(116:UInt8),(32:UInt8),(55:UInt8),(32:UInt8),(47:UInt8),(32:UInt8),(50:UInt8),(59:UInt8),(32:UInt8),(114:UInt8),(101:UInt8),(116:UInt8),(117:UInt8),(114:UInt8),(110:UInt8),(32:UInt8),(48:UInt8),(32:UInt8),(45:UInt8),(32:UInt8),(55:UInt8),(32:UInt8),(37:UInt8),(32:UInt8),(50:UInt8),(59:UInt8),(32:UInt8),(125:UInt8)]) fun c0=>
 OB (f23 c0.2.2.1 c0.2.2.2) fun c1=>
 OB (f15 c1.2.2.1 c1.2.2.2 eInt 100 2) fun c2=>
 OB (
  bif (decide (c2.1=1)) then
   bif (decide (c2.2.1=(-1:Int))) then
    bif (decide ((c2.2.2.2.2.length:Int)=1)) then
     ck (inB (0:Int) c2.2.2.2.2.length) <|
     some (decide ((List.getD c2.2.2.2.2 (Int.toNat 0) (0:Int))=3))
    else
     some false
   else
    some false
  else
   some false) fun s12=>
 some s12
def sp7:aO:=⟨sg7,fun x=>f7⟩
theorem afF:aj Try.prog 7 sp7:=
 ts [(22,aii),(23,ah6),(15,aia)] ety [.tmp 0] an7 Try.func7 rfl ⟨adq,ade,adk,trivial⟩
def f6 (p0:Int) (p1:Int) (p2:Int) (p3:cO) (p4:Int) (p5:Int) (p6:Int) (p7:cO) (p8:cO):Option Bool:=
 OB (
  OB (f7) fun c0=>
  bif (!c0) then
   some true
  else
   bif (decide (100<(p3.length:Int))) then
    some true
   else
    some (decide (100<(p7.length:Int)))) fun s8=>
 bif s8 then
  OB (
   bif (decide (100<(p3.length:Int))) then
    some true
   else
    some (decide (100<(p7.length:Int)))) fun s14=>
  some s14
 else
  OB (f12 p8 20) fun c15=>
  OB (f19 5 c15.1 c15.2) fun c16=>
  OB (
   bif (decide (c16.1=0)) then
    OB (f19 3 c16.2.1 c16.2.2) fun c18=>
    some ((jv (1+c18.1)),p1,p2,p3)
   else
    OB (
     bif (decide (c16.1=1)) then
      some (p0,(jv (p1+1)),p2,p3)
     else
      OB (
       bif (decide (c16.1=2)) then
        OB (f19 (jv ((p3.length:Int)+1)) c16.2.1 c16.2.2) fun c25=>
        ck (sU (0:Int) c25.1 p3.length) <|
        some (p0,p1,p2,(List.drop (Int.toNat (0:Int)) (List.take c25.1.toNat p3)))
       else
        OB (
         bif (decide (c16.1=3)) then
          ck (iC (List.length eInt) p3.length 8) <|
          let n28:=(eInt++p3)
          OB (f19 4 c16.2.1 c16.2.2) fun c29=>
          let n30:=[c29.1]
          ck (iC n28.length n30.length 8) <|
          some (p0,p1,p2,(n28++n30))
         else
          some (p0,p1,p2,p3)) fun s32=>
        some s32) fun s33=>
      some s33) fun s34=>
    some s34) fun Yq=>
  let n36:=[(bF.mk p0 p1 p2 p3),(bF.mk p4 p5 p6 p7),(bF.mk Yq.1 Yq.2.1 Yq.2.2.1 Yq.2.2.2),(bF.mk 3 0 0 p3)]
  fG (
   dB (fun (Uk:Int)=>
    bif (decide (Uk<(n36.length:Int))) then
     ck (inB Uk n36.length) <|
     let n40:=(List.getD n36 Uk.toNat qI)
     let n41:=[(bF.mk p0 p1 p2 p3),(bF.mk p4 p5 p6 p7),(bF.mk Yq.1 Yq.2.1 Yq.2.2.1 Yq.2.2.2)]
     fG (
      dB (fun (s43:Int)=>
       bif (decide (s43<(n41.length:Int))) then
        ck (inB s43 n41.length) <|
        let n45:=(List.getD n41 s43.toNat qI)
        OB (
         OB (f16 n40.kind n40.value n40.trap n40.output n45.kind n45.value n45.trap n45.output) fun c46=>
         OB (f20 n40.kind n40.value n40.trap n40.output n45.kind n45.value n45.trap n45.output) fun c47=>
         bif (c46 != c47) then
          some true
         else
          OB (f18 n40.kind n40.value n40.trap n40.output n45.kind n45.value n45.trap n45.output) fun c49=>
          OB (f21 n40.kind n40.value n40.trap n40.output n45.kind n45.value n45.trap n45.output) fun c50=>
          some (c49 != c50)) fun s53=>
        bif s53 then
         some (.inr (.inr (.inr (.inr false))))
        else
         some (.inl (jv (s43+1)))
       else
        some (.inr (.inl ()))) (0:Int)) fun s55=>
     some (.inl (jv (Uk+1)))
    else
     some (.inr (.inl ()))) (0:Int)) fun s57=>
  OB (
   OB (f16 p0 p1 p2 p3 p0 p1 p2 p3) fun c58=>
   bif c58 then
    OB (f18 p0 p1 p2 p3 p0 p1 p2 p3) fun c59=>
    some c59
   else
    some false) fun s61=>
  some s61
def sp6:aO:=⟨sg6,u9 f6⟩
theorem afG:aj Try.prog 6 sp6:=
 ts [(7,sp7),(12,ahB),(19,ahD),(16,afC),(20,aft),(18,ahS),(21,ahT)] ety [.tmp 6] an6 Try.func6 rfl ⟨afF,acM,acN,Wq,V8,ac3,ac4,trivial⟩
end
end Go.Fg.Ytpbdikcmfgeooaa

