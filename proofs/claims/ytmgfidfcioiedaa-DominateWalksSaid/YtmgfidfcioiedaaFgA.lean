/-
  Shapes of the functions of the seat, printed by a program (wip/gen/Infer.lean).
-/
import Derived.Test.YtmgfidfcioiedaaFwT
import Derived.Test.YtmgfidfcioiedaaZd
namespace Go.Fg.Ytmgfidfcioiedaa
open Go.Fw Go.Proofs Go.Fw.Ytmgfidfcioiedaa
set_option linter.unusedVariables false
structure aU where
  kind:Int
  op:Int
  value:Int
  line:Int
  name:(List UInt8)
  args:(List aU)
def acy:aU:=aU.mk (0:Int) (0:Int) (0:Int) (0:Int) [] []
mutual
def qB:aU→List P
  |⟨y0,y1,y2,y3,y4,y5⟩=>[P.int .i64 y0,P.int .i64 y1,P.int .i64 y2,P.int .i64 y3,P.str ⟨List.toArray y4⟩,P.dX 6 (AU y5)]
def AU:List aU→List (List P)
  | []=>[]
  |x::l=>qB x::AU l
end
theorem D9 :∀l,AU l=List.map qB l
  | []=>rfl
  |x::l=>by rw [AU,D9 l];rfl
theorem SL (x:aU):qB x=[P.int .i64 (aU.kind x),P.int .i64 (aU.op x),P.int .i64 (aU.value x),P.int .i64 (aU.line x),P.str ⟨List.toArray (aU.name x)⟩,P.dX 6 (List.map qB (aU.args x))]:=by
  cases x
  rw [qB]
  simp only [D9]
structure dH where
  kind:Int
  line:Int
  name:(List UInt8)
  exprs:(List aU)
  then':(List dH)
  else':(List dH)
def acz:dH:=dH.mk (0:Int) (0:Int) [] [] [] []
mutual
def qC:dH→List P
  |⟨y0,y1,y2,y3,y4,y5⟩=>[P.int .i64 y0,P.int .i64 y1,P.str ⟨List.toArray y2⟩,P.dX 6 (List.map qB y3),P.dX 6 (wS y4),P.dX 6 (wS y5)]
def wS:List dH→List (List P)
  | []=>[]
  |x::l=>qC x::wS l
end
theorem D_ :∀l,wS l=List.map qC l
  | []=>rfl
  |x::l=>by rw [wS,D_ l];rfl
theorem SN (x:dH):qC x=[P.int .i64 (dH.kind x),P.int .i64 (dH.line x),P.str ⟨List.toArray (dH.name x)⟩,P.dX 6 (List.map qB (dH.exprs x)),P.dX 6 (List.map qC (dH.then' x)),P.dX 6 (List.map qC (dH.else' x))]:=by
  cases x
  rw [qC]
  simp only [D_]
structure aj where
  name:(List UInt8)
  line:Int
  params:(List (List UInt8))
  body:(List dH)
def acA:aj:=aj.mk [] (0:Int) [] []
def acB (x:aj):List P:=[P.str ⟨List.toArray (aj.name x)⟩,P.int .i64 (aj.line x),P.dX 1 (List.map (fun (x:List UInt8)=>[P.str ⟨x.toArray⟩]) (aj.params x)),P.dX 6 (List.map qC (aj.body x))]
structure gJ where
  from':Int
  to:Int
def acC:gJ:=gJ.mk (0:Int) (0:Int)
def acD (x:gJ):List P:=[P.int .i64 (gJ.from' x),P.int .i64 (gJ.to x)]
structure fA where
  kind:Int
  op:Int
  dst:Int
  a:Int
  b:Int
  value:Int
  args:(List Int)
def ZN:fA:=fA.mk (0:Int) (0:Int) (0:Int) (0:Int) (0:Int) (0:Int) []
def PZ (x:fA):List P:=[P.int .i64 (fA.kind x),P.int .i64 (fA.op x),P.int .i64 (fA.dst x),P.int .i64 (fA.a x),P.int .i64 (fA.b x),P.int .i64 (fA.value x),P.dX 1 (List.map (fun (x:Int)=>[P.int .i64 x]) (fA.args x))]
structure aG where
  instrs:(List fA)
  aT:Int
  qE:Int
  dP:Int
  bn:Int
  line:Int
  jk:Int
  iD:Int
def ZO:aG:=aG.mk [] (0:Int) (0:Int) (0:Int) (0:Int) (0:Int) (0:Int) (0:Int)
def P5 (x:aG):List P:=[P.dX 7 (List.map PZ (aG.instrs x)),P.int .i64 (aG.aT x),P.int .i64 (aG.qE x),P.int .i64 (aG.dP x),P.int .i64 (aG.bn x),P.int .i64 (aG.line x),P.int .i64 (aG.jk x),P.int .i64 (aG.iD x)]
structure aN where
  name:(List UInt8)
  params:Int
  regs:Int
  blocks:(List aG)
def P6:aN:=aN.mk [] (0:Int) (0:Int) []
def P7 (x:aN):List P:=[P.str ⟨List.toArray (aN.name x)⟩,P.int .i64 (aN.params x),P.int .i64 (aN.regs x),P.dX 8 (List.map P5 (aN.blocks x))]
structure aI where
  name:(List UInt8)
  size:Int
def Xo:aI:=aI.mk [] (0:Int)
def Xp (x:aI):List P:=[P.str ⟨List.toArray (aI.name x)⟩,P.int .i64 (aI.size x)]
def ZP:Nat→Type
  |0=>Unit
  |1=>Unit
  |2=>Unit
  |3=>aI
  |4=>aN
  |5=>aG
  |6=>fA
  |7=>Unit
  |8=>Unit
  |9=>Unit
  |10=>Unit
  |11=>gJ
  |12=>aj
  |13=>dH
  |14=>aU
  |15=>Unit
  |16=>Unit
  |17=>Unit
  |18=>Unit
  |19=>Unit
  |20=>Unit
  |21=>Unit
  |_=>Unit
def reF:Nat→List Ty
  |0=>[]
  |1=>[]
  |2=>[]
  |3=>[.str,(.int .i64)]
  |4=>[.str,(.int .i64),(.int .i64),(.sl (.st 5))]
  |5=>[(.sl (.st 6)),(.int .i64),(.int .i64),(.int .i64),(.int .i64),(.int .i64),(.int .i64),(.int .i64)]
  |6=>[(.int .i64),(.int .i64),(.int .i64),(.int .i64),(.int .i64),(.int .i64),(.sl (.int .i64))]
  |7=>[]
  |8=>[]
  |9=>[]
  |10=>[]
  |11=>[(.int .i64),(.int .i64)]
  |12=>[.str,(.int .i64),(.sl .str),(.sl (.st 13))]
  |13=>[(.int .i64),(.int .i64),.str,(.sl (.st 14)),(.sl (.st 13)),(.sl (.st 13))]
  |14=>[(.int .i64),(.int .i64),(.int .i64),(.int .i64),.str,(.sl (.st 14))]
  |15=>[]
  |16=>[]
  |17=>[]
  |18=>[]
  |19=>[]
  |20=>[]
  |21=>[]
  |_=>[]
def alc:(n:Nat)→ZP n
  |0=>()
  |1=>()
  |2=>()
  |3=>Xo
  |4=>P6
  |5=>ZO
  |6=>ZN
  |7=>()
  |8=>()
  |9=>()
  |10=>()
  |11=>acC
  |12=>acA
  |13=>acz
  |14=>acy
  |15=>()
  |16=>()
  |17=>()
  |18=>()
  |19=>()
  |20=>()
  |21=>()
  |_+22=>()
def acE:(n:Nat)→ZP n→List (TP ZP)
  |0,x=>[]
  |1,x=>[]
  |2,x=>[]
  |3,x=>[⟨.str,aI.name x⟩,⟨(.int .i64),aI.size x⟩]
  |4,x=>[⟨.str,aN.name x⟩,⟨(.int .i64),aN.params x⟩,⟨(.int .i64),aN.regs x⟩,⟨(.sl (.st 5)),aN.blocks x⟩]
  |5,x=>[⟨(.sl (.st 6)),aG.instrs x⟩,⟨(.int .i64),aG.aT x⟩,⟨(.int .i64),aG.qE x⟩,⟨(.int .i64),aG.dP x⟩,⟨(.int .i64),aG.bn x⟩,⟨(.int .i64),aG.line x⟩,⟨(.int .i64),aG.jk x⟩,⟨(.int .i64),aG.iD x⟩]
  |6,x=>[⟨(.int .i64),fA.kind x⟩,⟨(.int .i64),fA.op x⟩,⟨(.int .i64),fA.dst x⟩,⟨(.int .i64),fA.a x⟩,⟨(.int .i64),fA.b x⟩,⟨(.int .i64),fA.value x⟩,⟨(.sl (.int .i64)),fA.args x⟩]
  |7,x=>[]
  |8,x=>[]
  |9,x=>[]
  |10,x=>[]
  |11,x=>[⟨(.int .i64),gJ.from' x⟩,⟨(.int .i64),gJ.to x⟩]
  |12,x=>[⟨.str,aj.name x⟩,⟨(.int .i64),aj.line x⟩,⟨(.sl .str),aj.params x⟩,⟨(.sl (.st 13)),aj.body x⟩]
  |13,x=>[⟨(.int .i64),dH.kind x⟩,⟨(.int .i64),dH.line x⟩,⟨.str,dH.name x⟩,⟨(.sl (.st 14)),dH.exprs x⟩,⟨(.sl (.st 13)),dH.then' x⟩,⟨(.sl (.st 13)),dH.else' x⟩]
  |14,x=>[⟨(.int .i64),aU.kind x⟩,⟨(.int .i64),aU.op x⟩,⟨(.int .i64),aU.value x⟩,⟨(.int .i64),aU.line x⟩,⟨.str,aU.name x⟩,⟨(.sl (.st 14)),aU.args x⟩]
  |15,x=>[]
  |16,x=>[]
  |17,x=>[]
  |18,x=>[]
  |19,x=>[]
  |20,x=>[]
  |21,x=>[]
  |_+22,_=>[]
def ahX:(n:Nat)→List (TP ZP)→ZP n
  |0,ws=>()
  |1,ws=>()
  |2,ws=>()
  |3,ws=>aI.mk (TP.get .str [] ws 0) (TP.get (.int .i64) (0:Int) ws 1)
  |4,ws=>aN.mk (TP.get .str [] ws 0) (TP.get (.int .i64) (0:Int) ws 1) (TP.get (.int .i64) (0:Int) ws 2) (TP.get (.sl (.st 5)) [] ws 3)
  |5,ws=>aG.mk (TP.get (.sl (.st 6)) [] ws 0) (TP.get (.int .i64) (0:Int) ws 1) (TP.get (.int .i64) (0:Int) ws 2) (TP.get (.int .i64) (0:Int) ws 3) (TP.get (.int .i64) (0:Int) ws 4) (TP.get (.int .i64) (0:Int) ws 5) (TP.get (.int .i64) (0:Int) ws 6) (TP.get (.int .i64) (0:Int) ws 7)
  |6,ws=>fA.mk (TP.get (.int .i64) (0:Int) ws 0) (TP.get (.int .i64) (0:Int) ws 1) (TP.get (.int .i64) (0:Int) ws 2) (TP.get (.int .i64) (0:Int) ws 3) (TP.get (.int .i64) (0:Int) ws 4) (TP.get (.int .i64) (0:Int) ws 5) (TP.get (.sl (.int .i64)) [] ws 6)
  |7,ws=>()
  |8,ws=>()
  |9,ws=>()
  |10,ws=>()
  |11,ws=>gJ.mk (TP.get (.int .i64) (0:Int) ws 0) (TP.get (.int .i64) (0:Int) ws 1)
  |12,ws=>aj.mk (TP.get .str [] ws 0) (TP.get (.int .i64) (0:Int) ws 1) (TP.get (.sl .str) [] ws 2) (TP.get (.sl (.st 13)) [] ws 3)
  |13,ws=>dH.mk (TP.get (.int .i64) (0:Int) ws 0) (TP.get (.int .i64) (0:Int) ws 1) (TP.get .str [] ws 2) (TP.get (.sl (.st 14)) [] ws 3) (TP.get (.sl (.st 13)) [] ws 4) (TP.get (.sl (.st 13)) [] ws 5)
  |14,ws=>aU.mk (TP.get (.int .i64) (0:Int) ws 0) (TP.get (.int .i64) (0:Int) ws 1) (TP.get (.int .i64) (0:Int) ws 2) (TP.get (.int .i64) (0:Int) ws 3) (TP.get .str [] ws 4) (TP.get (.sl (.st 14)) [] ws 5)
  |15,ws=>()
  |16,ws=>()
  |17,ws=>()
  |18,ws=>()
  |19,ws=>()
  |20,ws=>()
  |21,ws=>()
  |_+22,_=>()
def afU:(n:Nat)→ZP n→List P
  |0,x=>[]
  |1,x=>[]
  |2,x=>[]
  |3,x=>Xp x
  |4,x=>P7 x
  |5,x=>P5 x
  |6,x=>PZ x
  |7,x=>[]
  |8,x=>[]
  |9,x=>[]
  |10,x=>[]
  |11,x=>acD x
  |12,x=>acB x
  |13,x=>qC x
  |14,x=>qB x
  |15,x=>[]
  |16,x=>[]
  |17,x=>[]
  |18,x=>[]
  |19,x=>[]
  |20,x=>[]
  |21,x=>[]
  |_+22,_=>[]
theorem ahY :∀n,(reF n).all Ty.word=true
  |0=>rfl
  |1=>rfl
  |2=>rfl
  |3=>rfl
  |4=>rfl
  |5=>rfl
  |6=>rfl
  |7=>rfl
  |8=>rfl
  |9=>rfl
  |10=>rfl
  |11=>rfl
  |12=>rfl
  |13=>rfl
  |14=>rfl
  |15=>rfl
  |16=>rfl
  |17=>rfl
  |18=>rfl
  |19=>rfl
  |20=>rfl
  |21=>rfl
  |_+22=>rfl
theorem afV :∀(n:Nat) (x:ZP n),(acE n x).map (·.t)=reF n
  |0,x=>rfl
  |1,x=>rfl
  |2,x=>rfl
  |3,x=>rfl
  |4,x=>rfl
  |5,x=>rfl
  |6,x=>rfl
  |7,x=>rfl
  |8,x=>rfl
  |9,x=>rfl
  |10,x=>rfl
  |11,x=>rfl
  |12,x=>rfl
  |13,x=>rfl
  |14,x=>rfl
  |15,x=>rfl
  |16,x=>rfl
  |17,x=>rfl
  |18,x=>rfl
  |19,x=>rfl
  |20,x=>rfl
  |21,x=>rfl
  |_+22,_=>rfl
theorem afW :∀(n:Nat) (ws:List (TP ZP)),ws.map (·.t)=reF n→acE n (ahX n ws)=ws
  |0,ws,h=>by
    have e:=dA h
    subst e
    rfl
  |1,ws,h=>by
    have e:=dA h
    subst e
    rfl
  |2,ws,h=>by
    have e:=dA h
    subst e
    rfl
  |3,ws,h=>by
    obtain ⟨x0,JD,e0,h0⟩:=aO h
    subst e0
    obtain ⟨x1,Q_,e1,h1⟩:=aO h0
    subst e1
    have e:=dA h1
    subst e
    rfl
  |4,ws,h=>by
    obtain ⟨x0,JD,e0,h0⟩:=aO h
    subst e0
    obtain ⟨x1,Q_,e1,h1⟩:=aO h0
    subst e1
    obtain ⟨x2,ws2,e2,h2⟩:=aO h1
    subst e2
    obtain ⟨x3,ws3,e3,h3⟩:=aO h2
    subst e3
    have e:=dA h3
    subst e
    rfl
  |5,ws,h=>by
    obtain ⟨x0,JD,e0,h0⟩:=aO h
    subst e0
    obtain ⟨x1,Q_,e1,h1⟩:=aO h0
    subst e1
    obtain ⟨x2,ws2,e2,h2⟩:=aO h1
    subst e2
    obtain ⟨x3,ws3,e3,h3⟩:=aO h2
    subst e3
    obtain ⟨x4,ws4,e4,h4⟩:=aO h3
    subst e4
    obtain ⟨x5,ws5,e5,h5⟩:=aO h4
    subst e5
    obtain ⟨x6,ws6,e6,h6⟩:=aO h5
    subst e6
    obtain ⟨x7,ws7,e7,h7⟩:=aO h6
    subst e7
    have e:=dA h7
    subst e
    rfl
  |6,ws,h=>by
    obtain ⟨x0,JD,e0,h0⟩:=aO h
    subst e0
    obtain ⟨x1,Q_,e1,h1⟩:=aO h0
    subst e1
    obtain ⟨x2,ws2,e2,h2⟩:=aO h1
    subst e2
    obtain ⟨x3,ws3,e3,h3⟩:=aO h2
    subst e3
    obtain ⟨x4,ws4,e4,h4⟩:=aO h3
    subst e4
    obtain ⟨x5,ws5,e5,h5⟩:=aO h4
    subst e5
    obtain ⟨x6,ws6,e6,h6⟩:=aO h5
    subst e6
    have e:=dA h6
    subst e
    rfl
  |7,ws,h=>by
    have e:=dA h
    subst e
    rfl
  |8,ws,h=>by
    have e:=dA h
    subst e
    rfl
  |9,ws,h=>by
    have e:=dA h
    subst e
    rfl
  |10,ws,h=>by
    have e:=dA h
    subst e
    rfl
  |11,ws,h=>by
    obtain ⟨x0,JD,e0,h0⟩:=aO h
    subst e0
    obtain ⟨x1,Q_,e1,h1⟩:=aO h0
    subst e1
    have e:=dA h1
    subst e
    rfl
  |12,ws,h=>by
    obtain ⟨x0,JD,e0,h0⟩:=aO h
    subst e0
    obtain ⟨x1,Q_,e1,h1⟩:=aO h0
    subst e1
    obtain ⟨x2,ws2,e2,h2⟩:=aO h1
    subst e2
    obtain ⟨x3,ws3,e3,h3⟩:=aO h2
    subst e3
    have e:=dA h3
    subst e
    rfl
  |13,ws,h=>by
    obtain ⟨x0,JD,e0,h0⟩:=aO h
    subst e0
    obtain ⟨x1,Q_,e1,h1⟩:=aO h0
    subst e1
    obtain ⟨x2,ws2,e2,h2⟩:=aO h1
    subst e2
    obtain ⟨x3,ws3,e3,h3⟩:=aO h2
    subst e3
    obtain ⟨x4,ws4,e4,h4⟩:=aO h3
    subst e4
    obtain ⟨x5,ws5,e5,h5⟩:=aO h4
    subst e5
    have e:=dA h5
    subst e
    rfl
  |14,ws,h=>by
    obtain ⟨x0,JD,e0,h0⟩:=aO h
    subst e0
    obtain ⟨x1,Q_,e1,h1⟩:=aO h0
    subst e1
    obtain ⟨x2,ws2,e2,h2⟩:=aO h1
    subst e2
    obtain ⟨x3,ws3,e3,h3⟩:=aO h2
    subst e3
    obtain ⟨x4,ws4,e4,h4⟩:=aO h3
    subst e4
    obtain ⟨x5,ws5,e5,h5⟩:=aO h4
    subst e5
    have e:=dA h5
    subst e
    rfl
  |15,ws,h=>by
    have e:=dA h
    subst e
    rfl
  |16,ws,h=>by
    have e:=dA h
    subst e
    rfl
  |17,ws,h=>by
    have e:=dA h
    subst e
    rfl
  |18,ws,h=>by
    have e:=dA h
    subst e
    rfl
  |19,ws,h=>by
    have e:=dA h
    subst e
    rfl
  |20,ws,h=>by
    have e:=dA h
    subst e
    rfl
  |21,ws,h=>by
    have e:=dA h
    subst e
    rfl
  |_+22,ws,h=>by have e:=dA h;subst e;rfl
theorem afX :∀(n:Nat) (x:ZP n),afU n x=(acE n x).map fun w=>GN (iw reF) (nG reF afU (iw reF)) w.t w.x
  |0,x=>by kernel_rfl
  |1,x=>by kernel_rfl
  |2,x=>by kernel_rfl
  |3,x=>by kernel_rfl
  |4,x=>by kernel_rfl
  |5,x=>by kernel_rfl
  |6,x=>by kernel_rfl
  |7,x=>by kernel_rfl
  |8,x=>by kernel_rfl
  |9,x=>by kernel_rfl
  |10,x=>by kernel_rfl
  |11,x=>by kernel_rfl
  |12,x=>by kernel_rfl
  |13,x=>(SN x).trans (by kernel_rfl)
  |14,x=>(SL x).trans (by kernel_rfl)
  |15,x=>by kernel_rfl
  |16,x=>by kernel_rfl
  |17,x=>by kernel_rfl
  |18,x=>by kernel_rfl
  |19,x=>by kernel_rfl
  |20,x=>by kernel_rfl
  |21,x=>by kernel_rfl
  |_+22,_=>rfl
def reG:Nat→Option ((e:Ty)×List (D ZP e))
  |_=>none
instance re:RE where
  C:=ZP
  F:=reF
  dflt:=alc
  un:=acE
  ro:=ahX
  er:=afU
  Fwd:=ahY
  aez:=afV
  aeA:=afW
  aeB:=afX
  G:=reG
theorem mixed:Fit Try.prog:=⟨Fw.Ytmgfidfcioiedaa.afS,fun _ _ _ _ h=>h.elim⟩
def wU:List (Nat×Ty):=[(3,(.int .i64)),(4,.bool),(5,(.int .u8)),(9,.str),(33,(.st 4)),(34,(.sl (.int .i64))),(44,(.st 5)),(65,(.st 11)),(74,(.st 3)),(78,(.st 6)),(85,(.st 12)),(104,(.st 13)),(132,(.st 14))]
def ety:TypeId→Option Ty:=fun t=>wU.lookup t
def kS (l:List Nat) (r:List (Nat×Md)):List (Nat×Md):=l.map (fun n=>(n,.keep))++r
def kO (l:List Nat) (r:List (Nat×Mo)):List (Nat×Mo):=l.map (fun n=>(n,.keep))++r
def lS (l r:List (Nat×Md)):=l++r
def lO (l r:List (Nat×Mo)):=l++r
abbrev q0:jl:=.p false false (.int .i64)
abbrev q1:jl:=.p true false (.int .i64)
abbrev q2:jl:=.p false true (.int .i64)
abbrev q3:jI:=.one (.p false false .bool)
abbrev q4:fZ:=.box [(.p false true (.sl (.int .u8))),q0]
abbrev q5:fZ:=.arr false false true (.int .i64)
abbrev q6:fZ:=.arr false false false (.int .i64)
abbrev q7:fZ:=.deep true true (.st 5) [(0,(.st 6))]
abbrev q8:fZ:=.box [(.p false true (.sl (.st 3))),(.p false true (.sl (.st 12))),(.p false true (.sl .str)),q2,q2,(.own 50001),q2]
abbrev q9:fZ:=.box [(.p false true (.sl (.st 3))),(.p false true (.sl (.st 12))),(.own 50001),q2,q2]
abbrev q10:jl:=.p true true (.sl (.st 12))
abbrev q11:fZ:=.box [(.box 50001 0),(.own 50002),(.own 50003),(.own 50004),q2]
abbrev q12:jl:=.p true true (.sl (.st 3))
abbrev q13:jI:=.one q0
abbrev q14:fZ:=.box [(.p false true (.sl (.st 3))),(.p false true (.sl (.st 12))),(.own 50001),q0,q0]
abbrev uP:fZ:=.arr false false true .str
abbrev Ny:fZ:=.box [(.p false true (.sl (.int .u8))),q2]
abbrev wW:jI:=.one (.box 50000 0)
abbrev Vf:jl:=.p true true (.sl .str)
abbrev IX:fZ:=.arr false false true (.st 3)
abbrev Ku:fZ:=.arr false false true (.st 12)
abbrev q22:fZ:=.arr false true false (.int .i64)
abbrev q23:jI:=.one q1
abbrev q24:fZ:=.deep false true (.st 5) [(0,(.st 6))]
abbrev q25:fZ:=.box [q12,q10,Vf,q0,q0,(.own 1033),q0]
abbrev q26:fZ:=.deep false false (.st 4) [(3,(.st 5))]
abbrev Vg:fZ:=.arr false false false .bool
abbrev q29:fZ:=.deep false false (.sl (.int .i64)) [(0,(.int .i64))]
abbrev q30:jl:=.p false false .str
abbrev q31:jI:=.agg [(.p true false (.sl (.st 3))),(.p true false (.sl (.st 4))),q1,q1]
abbrev q32:fZ:=.box [q12,q10,Vf,q2,q2,(.own 100002),q2]
abbrev q33:jl:=.p true false (.sl (.int .i64))
abbrev q34:jl:=.p true false (.sl (.st 13))
abbrev q35:jI:=.agg [(.p true false (.sl (.st 3))),(.p true false (.sl (.st 12)))]
abbrev q36:fZ:=.box [(.box 50001 0),(.own 50002),(.own 50003),(.own 50004),q0]
abbrev q37:fZ:=.box [(.p false true (.sl (.st 3))),(.p false true (.sl (.st 12))),(.p false true (.sl .str)),q0,q0,(.own 50001),q0]
abbrev SQ:jl:=.p true false .str
abbrev q16:jI:=.agg [SQ,q1,q1,(.p true false (.sl (.st 5)))]
abbrev q40:fZ:=.box [(.p false true .str),q2,q2,(.p false true (.sl (.st 5)))]
abbrev q41:jI:=.one (.p true false (.sl (.int .u8)))
abbrev q42:fZ:=.arr false false true (.st 13)
abbrev q43:fZ:=.box [(.fn 24 [50000,50002,50003,50004])]
abbrev q44:fZ:=.arr false true true .str
abbrev q45:jl:=.p true false (.sl (.st 14))
abbrev q27:jI:=.agg [q1,q1,q1,q1,SQ,q45]
abbrev q46:jI:=.one (.own 55000)
abbrev q47:fZ:=.box [q12,q10,(.own 100002),q0,q0]
abbrev q48:fZ:=.box [q12,q10,(.own 100002),q2,q2]
abbrev q49:fZ:=.arr false false false (.st 3)
abbrev q50:fZ:=.arr false true false (.st 11)
abbrev q51:fZ:=.arr false true true (.st 14)
abbrev q52:jl:=.p true true (.int .i64)
abbrev q53:jI:=.one (.own 100001)
abbrev q54:fZ:=.box [q12,q10,Vf,q0,q0,(.own 60001),q0]
abbrev q56:fZ:=.arr false false true (.st 14)
abbrev q57:fZ:=.box [(.own 50001)]
abbrev q58:fZ:=.box [(.own 38)]
abbrev q59:fZ:=.arr false false true .bool
abbrev q60:jI:=.agg [q1,q1,q1,q1,q1,q1,q33]
abbrev q61:fZ:=.box [(.own 21)]
abbrev q62:jI:=.one (.own 100002)
abbrev q63:jI:=.one (.own 100000)
abbrev q64:fZ:=.arr false true false (.st 5)
abbrev q65:fZ:=.arr false false false .str
abbrev q67:jl:=.p true false (.sl .str)
abbrev q68:fZ:=.box [(.box 50000 0),(.own 101003),(.own 100701),(.own 100702),q0]
abbrev q69:fZ:=.box [(.box 50000 0),(.own 103003),(.own 100701),(.own 100702),q0]
abbrev q70:fZ:=.box [(.box 50000 0),(.own 103003),(.own 105004),(.own 100702),q0]
abbrev q71:fZ:=.box [(.box 50000 0),(.own 103003),(.own 105004),(.own 109005),q0]
abbrev q72:jI:=.one (.p true false (.sl (.st 11)))
abbrev q73:fZ:=.box [(.box 50001 0),(.own 50002),(.own 50003),(.own 100005),q2]
abbrev q74:jI:=.agg [q1,q1,SQ,q45,q34,q34]
abbrev q75:fZ:=.box [(.p true false (.sl (.st 6))),q1,q1,q1,q1,q1,q1,q1]
abbrev q77:jI:=.agg [q1,q1,q1,q1]
abbrev q78:fZ:=.arr false false false (.st 12)
abbrev q79:fZ:=.arr false true false (.st 12)
abbrev q80:fZ:=.arr false true true (.st 13)
abbrev q81:fZ:=.arr false true false (.st 4)
abbrev j0:fP:=.seq .nil .nil
abbrev j1:fP:=.seq .nil j0
abbrev j2:JT:=⟨[],[(50000,.ob q25),(1033,.ob q7)]⟩
abbrev j4:JT:=⟨kS [0,4] [],lO [(50000,.ob q11),(50001,.ob q4)] (kO [50002,50003,4,50004] [])⟩
abbrev j5:JT:=⟨kS [0,3,4] [],lO [(50000,.ob q9)] (kO [50001,3,4] [])⟩
abbrev j6:JT:=⟨kS [0,1,5,6,7] [],lO [(50000,.ob q47)] (kO [100001,7,100002,101003] [])⟩
abbrev j7:fP:=.seq j0 .nil
abbrev j8:fP:=.seq .nil j1
abbrev j9:JT:=⟨kS [0,3,4] [],lO [(50000,.ob q14)] (kO [50001,3,4] [])⟩
abbrev j10:fP:=.seq j1 .nil
abbrev j3:fP:=.seq j0 (.seq j10 .nil)
abbrev j12:fP:=.seq .nil (.seq .nil (.seq (.seq .nil (.meet false ⟨[(3,.sl q13)],[]⟩ (.loop ⟨[(1,.keep),(3,.sl q13),(4,.sl q13)],[(1,.keep)]⟩ (.seq j0 j0)))) .nil))
abbrev j13:JT:=⟨[],[(55000,.ob q5)]⟩
abbrev j15:JT:=⟨kS [3,7,8,10,11,13] (lS [(14,.sl q13)] (kS [51,52,53,60,61,62] [])),lO [(18,.keep),(8,.ob q58),(4,.ob q61)] (kO [38,21] [])⟩
abbrev j18:fP:=.seq .nil (.seq (.seq .nil (.meet true ⟨[],[]⟩ (.loop ⟨kS [1,2] [(5,.sl q13)],[(2,.keep)]⟩ j3))) .nil)
abbrev j19:JT:=⟨kS [1,4] [(5,.sl q3)],[(1,.keep)]⟩
abbrev j20:fP:=.seq .nil (.meet false ⟨kS [1,2,3,4,7,8,9] [],kO [1,2,11,14,7] [(9,.ob q75),(103005,.keep)]⟩ .nil)
abbrev j21:fP:=.seq .nil (.seq (.seq .nil (.meet true ⟨[],[]⟩ (.loop ⟨kS [0,1] [(5,.sl q13)],[]⟩ j3))) .nil)
abbrev j22:JT:=⟨lS [(0,.sl (.one q52)),(1,.sl (.one q52))] (kS [2,3] []),kO [50000,50001,50002,50003] []⟩
abbrev j23:JT:=⟨kS [3,7,8,10] [(11,.sl q3)],[(18,.keep),(8,.ob q58),(4,.ob q61),(38,.ob q6),(21,.keep)]⟩
abbrev j25:JT:=⟨kS [0,2,3,4,7,8] [],lO [(50000,.ob q4)] (kO [2,3] [(100004,.ob q26),(19,.keep)])⟩
abbrev j26:JT:=⟨[],[(50000,.ob q32),(100002,.ob q7)]⟩
abbrev j27:JT:=⟨[(1,.keep),(3,.sl q3)],[(1,.keep)]⟩
abbrev j28:JT:=⟨[(1,.keep),(6,.sl q3)],[(1,.keep)]⟩
abbrev j29:fP:=.seq .nil (.seq .nil j10)
abbrev j30:fP:=.seq .nil (.seq (.meet false ⟨[(6,.sl q3)],[]⟩ .nil) .nil)
abbrev j32:fP:=.seq .nil j8
abbrev j33:fP:=.seq .nil j7
abbrev j34:JT:=⟨kS [0,4] [],kO [50000,50001,50002,50003,4,50004] []⟩
abbrev j37:fP:=.seq (.seq j8 .nil) .nil
abbrev j40:JT:=⟨[],[(50000,.ob q14),(50001,.keep)]⟩
def sg7:bU:={ nargs:=2,pin:=⟨[(0,q41),(1,q23)],[]⟩,aF:=⟨[(0,(.one (.box 14 0)))],[(14,(.box [(.p true false (.sl (.int .u8))),q0]))]⟩,bP:=1,aK:=[],news:=[14] }
def an7:fP:=(.seq .nil (.seq (.seq .nil (.meet false ⟨[(0,.sl q41)],[]⟩ .nil)) .nil))
def alk:bU:={ nargs:=1,pin:=⟨[(0,q77)],[]⟩,aF:=⟨[(0,(.one (.own 60000)))],[(60000,q22)]⟩,bP:=1,aK:=[],news:=[60000] }
def alm:fP:=(.seq .nil (.seq (.seq (.seq (.meet false j27 .nil) (.seq .nil (.seq (.meet false ⟨[(1,.keep),(19,.sl q3)],[(1,.keep)]⟩ .nil) j0))) .nil) .nil))
def ah7:bU:={ nargs:=2,pin:=⟨[(0,wW),(1,q23)],[(50000,Ny)]⟩,aF:=⟨[(0,q13)],[(50000,q4)]⟩,bP:=1,aK:=[50000],news:=[] }
def aln:fP:=(.seq .nil (.seq (.seq (.meet false ⟨kS [0,1] [(19,.sl q3)],[(50000,.keep)]⟩ .nil) j0) j29))
def alo:bU:={ nargs:=4,pin:=⟨[(0,q23),(1,q23),(2,wW),(3,(.one (.box 50002 0)))],[(50000,q57),(50002,(.box [(.own 50003)])),(50001,q5),(50003,q5)]⟩,aF:=⟨[(0,q13)],[(50000,q57),(50001,q5),(50002,(.box [(.own 50003)])),(50003,q5)]⟩,bP:=1,aK:=[50000,50001,50002,50003],news:=[],kept:=[50001,50003] }
def alp:fP:=(.seq .nil (.seq (.meet false ⟨[(0,.sl (.one q52))],kO [50000,50001,50002,50003] []⟩ (.loop j22 (.seq j0 (.seq (.seq .nil (.meet false j22 .nil)) .nil)))) .nil))
def alq:bU:={ nargs:=3,pin:=⟨[(0,(.one q33)),(1,q23),(2,q23)],[]⟩,aF:=⟨[(0,q3)],[]⟩,bP:=1,aK:=[],news:=[] }
def alr:fP:=(.seq .nil (.seq (.meet false ⟨[(2,.sl q23)],[]⟩ (.loop ⟨kS [0,1] [(2,.sl q23)],[]⟩ (.seq (.seq (.meet false ⟨kS [0,1,2] [(13,.sl q3)],[]⟩ .nil) .nil) .nil))) .nil))
def als:bU:={ nargs:=1,pin:=⟨[(0,q77)],[]⟩,aF:=⟨[(0,(.one (.own 60000)))],[(60000,q22)]⟩,bP:=1,aK:=[],news:=[60000] }
def alu:fP:=(.seq .nil (.seq (.seq (.seq (.seq .nil (.meet false j27 (.seq .nil (.meet false j27 .nil)))) j8) .nil) .nil))
def alv:bU:={ nargs:=1,pin:=⟨[(0,q46)],[(55000,q5)]⟩,aF:=⟨[],[(55000,q5)]⟩,bP:=0,aK:=[55000],news:=[] }
def alx:fP:=(.seq .nil (.meet false j13 (.loop ⟨[(0,.keep),(2,.sl q13),(3,.sl q13)],[(55000,.ob q5)]⟩ (.seq j0 j0))))
def ah8:bU:={ nargs:=1,pin:=⟨[(0,q23)],[]⟩,aF:=⟨[(0,(.one q30))],[]⟩,bP:=1,aK:=[],news:=[] }
def aly:fP:=j29
def alz:bU:={ nargs:=3,pin:=⟨[(0,wW),(1,q31),(2,q16)],[(50000,Ny)]⟩,aF:=⟨[(0,(.agg [q0,q0,q0,q0,q0,q0,(.own 60001)]))],[(50000,q4),(60001,q6)]⟩,bP:=1,aK:=[50000],news:=[60001] }
def alA:fP:=(.seq .nil (.seq .nil (.seq (.seq .nil (.seq (.seq .nil (.meet false ⟨kS [0,4,6,7] [],lO [(50000,.ob q4)] (kO [4,6] [(7,.ob (.box [q0,q0,q0,q0,q0,q0,(.own 110004)])),(110004,.ob q6)])⟩ (.seq .nil (.seq .nil (.meet false ⟨kS [0,4,6,7] [],lO [(50000,.ob q4)] (kO [4,6] [(7,.ob (.box [q0,q0,q0,q0,q0,q0,(.own 109004)])),(109004,.ob q6)])⟩ (.seq .nil (.seq .nil (.meet false ⟨kS [0,4,6,7] [],lO [(50000,.ob q4)] (kO [4,6] [(7,.ob (.box [q0,q0,q0,q0,q0,q0,(.own 108004)])),(108004,.ob q6)])⟩ (.seq .nil (.seq (.seq .nil (.meet false ⟨kS [0,4,5,6,7,27] [(46,.sl q3)],kO [50000,4,5,6,7] []⟩ .nil)) (.meet false ⟨kS [0,4,6,7] [],lO [(50000,.ob q4)] (kO [4,6] [(7,.ob (.box [q0,q0,q0,q0,q0,q0,(.own 107004)])),(107004,.ob q6)])⟩ (.seq .nil (.seq .nil (.meet false ⟨kS [0,4,6,7] [],lO [(50000,.ob q4)] (kO [4,6] [(7,.ob (.box [q0,q0,q0,q0,q0,q0,(.own 106004)])),(106004,.ob q6)])⟩ (.seq (.seq .nil (.seq .nil (.meet false ⟨kS [0,4,6,7] [],lO [(50000,.ob q4)] (kO [4,6] [(7,.ob (.box [q0,q0,q0,q0,q0,q0,(.own 101005)])),(101005,.ob q6)])⟩ (.loop ⟨kS [0,4,5,6,7] [(8,.sl q13)],lO [(50000,.ob q4)] (kO [4,5,6] [(7,.ob (.box [q0,q0,q0,q0,q0,q0,(.own 101005)])),(101005,.ob q6)])⟩ (.seq j0 j0))))) (.seq .nil (.meet false ⟨kS [0,4,6,7] [],lO [(50000,.ob q4)] (kO [4,6] [(7,.ob (.box [q0,q0,q0,q0,q0,q0,(.own 105004)])),(105004,.ob q6)])⟩ (.seq (.seq .nil (.meet false ⟨kS [0,4,6,7] [],lO [(50000,.ob q4)] (kO [4,6] [(7,.ob (.box [q0,q0,q0,q0,q0,q0,(.own 103005)])),(103005,.ob q6)])⟩ (.loop ⟨kS [0,4,5,6,7] [(9,.sl q13)],lO [(50000,.ob q4)] (kO [4,5,6] [(7,.ob (.box [q0,q0,q0,q0,q0,q0,(.own 103005)])),(103005,.ob q6)])⟩ (.seq j0 j0)))) .nil)))))))))))))))))) .nil)) (.seq (.seq (.meet false ⟨kS [0,4,6,7] [(107,.sl q3)],lO [(50000,.ob q4)] (kO [4,6,7,110004] [])⟩ .nil) j0) .nil))))
def alB:bU:={ nargs:=2,pin:=⟨[(0,wW),(1,q23)],[(50000,q8),(50001,q24)]⟩,aF:=⟨[(0,q13)],[(50000,(.box [(.p false true (.sl (.st 3))),(.p false true (.sl (.st 12))),(.p false true (.sl .str)),q0,q0,(.own 30),q0])),(30,q7)]⟩,bP:=1,aK:=[50000],news:=[30] }
def alC:fP:=j8
def ah9:TypeId→Option Ty:=fun t=>(([(1000044,(.prod (.st 0) .bool)),(3000009,.bool)]:List (Nat×Ty))++wU).lookup t
def alD:bU:={ nargs:=2,pin:=⟨[(0,wW),(1,q60)],[(50000,q8),(50001,q24)]⟩,aF:=⟨[],[(50000,q37),(50001,q7)]⟩,bP:=0,aK:=[50000,50001],news:=[] }
def alE:fP:=.nil
def ah_:TypeId→Option Ty:=fun t=>(([(1000044,(.prod (.st 0) .bool))]:List (Nat×Ty))++wU).lookup t
def alF:bU:={ nargs:=3,pin:=⟨[(0,wW),(1,q23),(2,q77)],[(50000,q8),(50001,q24)]⟩,aF:=⟨[],[(50000,q37),(50001,q7)]⟩,bP:=0,aK:=[50000,50001],news:=[] }
def alG:fP:=.nil
def aia:TypeId→Option Ty:=fun t=>(([(1000044,(.prod (.st 0) .bool))]:List (Nat×Ty))++wU).lookup t
def alH:bU:={ nargs:=1,pin:=⟨[(0,q16)],[]⟩,aF:=⟨[(0,(.one (.own 11)))],[(11,Vg)]⟩,bP:=1,aK:=[],news:=[11] }
def alI:fP:=(.seq .nil (.seq .nil (.seq j1 (.seq .nil (.seq .nil (.seq (.meet false ⟨[(3,.keep)],[(11,.ob Vg)]⟩ (.loop ⟨kS [1,3] [(4,.sl q62)],[(1,.keep),(11,.ob Vg),(100002,.ob q22)]⟩ (.seq j0 (.seq (.seq .nil (.seq .nil (.seq .nil (.seq .nil (.meet false ⟨kS [1,3] [(4,.sl (.one (.own 101002)))],[(1,.keep),(11,.ob Vg),(101002,.ob q22)]⟩ (.loop ⟨kS [1,3] [(4,.sl (.one (.own 101002))),(6,.keep),(7,.sl q13)],[(1,.keep),(11,.ob Vg),(101002,.ob q22),(39,.keep)]⟩ (.seq j0 (.seq (.seq (.seq .nil (.meet false ⟨kS [1,3] (lS [(4,.sl (.one (.own 102002)))] (kS [6,7] [])),[(1,.keep),(11,.ob Vg),(102002,.ob q22),(39,.keep)]⟩ j0)) .nil) .nil)))))))) .nil)))) .nil))))))
def aib:TypeId→Option Ty:=fun t=>(([(2000000,.bool)]:List (Nat×Ty))++wU).lookup t
def aic:bU:={ nargs:=2,pin:=⟨[(0,q46),(1,(.one q34))],[(55000,uP)]⟩,aF:=⟨[(0,q63)],[(100000,q44)]⟩,bP:=1,aK:=[],news:=[100000] }
def alJ:fP:=(.seq .nil (.seq (.seq .nil (.meet false ⟨[(0,.sl q63)],[(100000,.ob q44)]⟩ (.loop ⟨[(0,.sl q63),(1,.keep),(5,.sl q13)],[(100000,.ob q44)]⟩ (.seq j0 (.seq (.seq (.seq (.seq .nil (.meet false ⟨lS [(0,.sl (.one (.own 101000)))] (kS [1,5] []),[(101000,.ob q44)]⟩ .nil)) .nil) .nil) .nil))))) .nil))
def alK:bU:={ nargs:=2,pin:=⟨[(0,q35),(1,(.one SQ))],[]⟩,aF:=⟨[(0,q13)],[]⟩,bP:=1,aK:=[],news:=[] }
def alL:fP:=j18
def alM:bU:={ nargs:=2,pin:=⟨[(0,q35),(1,(.one SQ))],[]⟩,aF:=⟨[(0,q13)],[]⟩,bP:=1,aK:=[],news:=[] }
def alN:fP:=j18
def aie:bU:={ nargs:=1,pin:=⟨[(0,(.one q34))],[]⟩,aF:=⟨[(0,q13)],[]⟩,bP:=1,aK:=[],news:=[] }
def alO:fP:=(.seq .nil (.seq .nil (.seq (.seq .nil (.meet false ⟨[(3,.sl q13)],[]⟩ (.loop ⟨[(0,.keep),(3,.sl q13),(4,.sl q13)],[]⟩ (.seq j0 j0)))) .nil)))
def alP:bU:={ nargs:=2,pin:=⟨[(0,(.one q67)),(1,(.one SQ))],[]⟩,aF:=⟨[(0,q3)],[]⟩,bP:=1,aK:=[],news:=[] }
def alQ:fP:=j21
def alR:bU:={ nargs:=2,pin:=⟨[(0,q35),(1,(.one SQ))],[]⟩,aF:=⟨[(0,q13)],[]⟩,bP:=1,aK:=[],news:=[] }
def alS:fP:=(.seq .nil (.seq (.seq .nil (.seq .nil (.seq j10 .nil))) j10))
def alT:bU:={ nargs:=2,pin:=⟨[(0,wW),(1,(.one SQ))],[(50000,q8),(50001,q24)]⟩,aF:=⟨[(0,q13)],[(50000,q37),(50001,q24)]⟩,bP:=1,aK:=[50000,50001],news:=[],kept:=[50001] }
def alU:fP:=(.seq .nil (.seq (.seq .nil (.meet true ⟨[],kO [50000,50001] []⟩ (.loop ⟨kS [0,1] [(5,.sl q13)],kO [50000,50001] []⟩ j3))) .nil))
def aif:TypeId→Option Ty:=fun t=>(([(1000044,(.prod (.st 0) .bool)),(3000010,.bool)]:List (Nat×Ty))++wU).lookup t
def alV:bU:={ nargs:=1,pin:=⟨[(0,q16)],[]⟩,aF:=⟨[(0,q13)],[]⟩,bP:=1,aK:=[],news:=[] }
def alW:fP:=j12
def alX:bU:={ nargs:=2,pin:=⟨[(0,q16),(1,q77)],[]⟩,aF:=⟨[(0,q13)],[]⟩,bP:=1,aK:=[],news:=[] }
def alY:fP:=(.seq .nil (.seq (.seq (.meet false ⟨kS [2,3] [(14,.sl q3)],kO [2,3] []⟩ .nil) j0) (.seq (.seq (.meet false ⟨kS [2,3] [(29,.sl q3)],kO [2,3] []⟩ .nil) j0) (.seq .nil (.seq (.seq .nil (.meet true ⟨[],[]⟩ (.loop ⟨kS [2,5] [(6,.sl q13)],kO [2,31] []⟩ (.seq j0 (.seq (.seq (.seq (.meet false ⟨kS [2,5,6] [(52,.sl q3)],kO [2,31] []⟩ .nil) j0) .nil) .nil))))) .nil)))))
def aii:bU:={ nargs:=1,pin:=⟨[(0,q27)],[]⟩,aF:=⟨[(0,q13)],[]⟩,bP:=1,aK:=[],news:=[] }
def alZ:fP:=j12
def al0:bU:={ nargs:=3,pin:=⟨[(0,wW),(1,q23),(2,q23)],[(50000,q9),(50001,uP)]⟩,aF:=⟨[],[(50000,q14),(50001,uP)]⟩,bP:=0,aK:=[50000,50001],news:=[],kept:=[50001] }
def al1:fP:=(.seq .nil (.meet false ⟨[],[(50000,.ob (.box [(.p false true (.sl (.st 3))),(.p false true (.sl (.st 12))),(.own 50001),q52,q52])),(50001,.keep)]⟩ .nil))
def al2:bU:={ nargs:=2,pin:=⟨[(0,wW),(1,(.one SQ))],[(50000,q9),(50001,uP)]⟩,aF:=⟨[(0,q13)],[(50000,q14),(50001,uP)]⟩,bP:=1,aK:=[50000,50001],news:=[],kept:=[50001] }
def al3:fP:=(.seq .nil j10)
def aij:bU:={ nargs:=3,pin:=⟨[(0,wW),(1,q27),(2,q23)],[(50000,q8),(50001,q24)]⟩,aF:=⟨[],[(50000,q54),(60001,q7)]⟩,bP:=0,aK:=[50000],news:=[60001] }
def al4:fP:=(.seq .nil (.seq .nil (.seq (.seq (.meet false ⟨kS [0,2,4] [(24,.sl q3)],kO [50000,4,50001] []⟩ .nil) j0) (.seq .nil (.seq .nil (.seq (.seq .nil (.meet false j2 (.seq .nil (.seq .nil (.meet false j2 (.seq .nil (.seq .nil (.meet false j2 (.seq .nil (.seq .nil (.meet false j2 (.seq .nil (.seq .nil (.meet false j2 (.seq .nil (.seq .nil (.meet false j2 (.seq .nil (.seq .nil (.meet false j2 (.seq .nil (.seq .nil (.meet false j2 (.seq .nil (.seq .nil (.meet false j2 (.seq .nil (.seq .nil (.meet false j2 .nil))))))))))))))))))))))))))))) .nil))))))
def aik:TypeId→Option Ty:=fun t=>(([(1000044,(.prod (.st 0) .bool))]:List (Nat×Ty))++wU).lookup t
def ail:bU:={ nargs:=3,pin:=⟨[(0,wW),(1,q27),(2,q23)],[(50000,q8),(50001,q24)]⟩,aF:=⟨[],[(50000,(.box [q12,q10,Vf,q0,q0,(.own 61),q0])),(61,q7)]⟩,bP:=0,aK:=[50000],news:=[61] }
def al5:fP:=(.seq .nil (.seq .nil (.seq .nil (.seq .nil (.seq .nil (.seq .nil (.seq .nil (.seq .nil (.seq .nil (.seq .nil (.seq .nil (.seq .nil (.seq .nil (.seq (.seq .nil (.meet false ⟨kS [0,10,11,12] [],[(50000,.ob (.box [q12,q10,Vf,q0,q0,(.own 61),q0])),(61,.ob q7)]⟩ .nil)) .nil))))))))))))))
def ain:TypeId→Option Ty:=fun t=>(([(1000044,(.prod (.st 0) .bool))]:List (Nat×Ty))++wU).lookup t
def aio:bU:={ nargs:=3,pin:=⟨[(0,wW),(1,(.one q45)),(2,q23)],[(50000,q8),(50001,q24)]⟩,aF:=⟨[(0,q53)],[(50000,(.box [q12,q10,Vf,q0,q0,(.own 100002),q0])),(100001,q6),(100002,q7)]⟩,bP:=1,aK:=[50000],news:=[100001,100002] }
def al6:fP:=(.seq .nil (.seq .nil (.seq (.seq .nil (.meet false ⟨[(7,.sl q53)],[(50000,.ob q32),(100001,.ob q6),(100002,.ob q7)]⟩ (.loop ⟨kS [0,1,2] [(7,.sl q53),(8,.sl q13)],[(50000,.ob q32),(100001,.ob q6),(100002,.ob q7)]⟩ (.seq j0 j7)))) .nil)))
def aip:TypeId→Option Ty:=fun t=>(([(1000044,(.prod (.st 0) .bool))]:List (Nat×Ty))++wU).lookup t
def al7:bU:={ nargs:=1,pin:=⟨[(0,q60)],[]⟩,aF:=⟨[(0,(.one (.own 60000)))],[(60000,q22)]⟩,bP:=1,aK:=[],news:=[60000] }
def al8:fP:=(.seq .nil (.seq (.seq .nil (.seq (.seq (.seq .nil (.meet false j19 (.seq .nil (.seq .nil (.meet false j19 (.seq .nil (.seq .nil (.meet false j19 (.seq .nil (.seq .nil (.meet false j19 .nil))))))))))) (.seq .nil (.seq (.seq .nil (.meet false ⟨kS [1,4] [(14,.sl q3)],[(1,.keep)]⟩ .nil)) (.seq .nil j32)))) .nil)) .nil))
def al9:bU:={ nargs:=1,pin:=⟨[(0,q60)],[]⟩,aF:=⟨[(0,q13),(1,q3)],[]⟩,bP:=2,aK:=[],news:=[] }
def al_:fP:=(.seq .nil (.seq (.seq .nil (.seq (.seq (.seq .nil (.meet false j28 (.seq .nil (.seq .nil (.meet false j28 (.seq .nil (.seq .nil (.meet false j28 .nil)))))))) j0) .nil)) (.seq (.seq (.meet false ⟨[(1,.keep),(18,.sl q3)],[(1,.keep)]⟩ .nil) j0) .nil)))
def ama:bU:={ nargs:=3,pin:=⟨[(0,q31),(1,q23),(2,(.one (.p true false .bool)))],[]⟩,aF:=⟨[(0,q3)],[]⟩,bP:=1,aK:=[],news:=[] }
def amb:fP:=j30
def amc:bU:={ nargs:=4,pin:=⟨[(0,wW),(1,q27),(2,q23),(3,q23)],[(50000,q9),(50001,uP)]⟩,aF:=⟨[],[(50000,q14),(50001,uP)]⟩,bP:=0,aK:=[50000,50001],news:=[],kept:=[50001] }
def amd:fP:=(.seq .nil (.seq .nil (.seq (.seq .nil (.meet false j40 (.seq .nil (.seq (.meet false ⟨kS [0,5] [(20,.sl q3)],kO [50000,50001,5] []⟩ .nil) (.meet false j40 .nil))))) .nil)))
def ame:bU:={ nargs:=3,pin:=⟨[(0,wW),(1,(.one SQ)),(2,q23)],[(50000,q9),(50001,uP)]⟩,aF:=⟨[(0,(.agg [q0,q0,q0,q0,q30,.bC]))],[(50000,q14),(50001,uP)]⟩,bP:=1,aK:=[50000,50001],news:=[],kept:=[50001] }
def amf:fP:=(.seq .nil (.seq .nil (.seq (.seq .nil (.meet false ⟨kS [1,2,6] [(7,.sl q13)],kO [50000,50001,6] []⟩ .nil)) .nil)))
def aiq:bU:={ nargs:=2,pin:=⟨[(0,wW),(1,q27)],[(50000,q9),(50001,uP)]⟩,aF:=⟨[(0,(.agg [q0,q0,q0,q0,q30,(.own 60002)]))],[(50000,q14),(50001,uP),(60002,q51)]⟩,bP:=1,aK:=[50000,50001],news:=[60002],kept:=[50001] }
def amg:fP:=(.seq .nil (.seq (.seq .nil (.seq (.seq .nil (.seq j0 (.seq .nil (.meet true j5 (.seq .nil (.seq .nil (.meet true j5 (.seq .nil (.seq .nil (.meet true j5 (.seq (.seq .nil (.seq (.seq .nil (.meet true j9 (.seq .nil (.seq .nil (.meet true j9 (.seq .nil (.seq .nil (.seq (.seq .nil (.meet false j9 .nil)) (.seq (.seq .nil (.meet false j9 .nil)) .nil))))))))) .nil)) (.seq .nil (.meet false j5 (.seq (.seq .nil (.meet false j5 .nil)) .nil)))))))))))))) .nil)) j0))
def air:bU:={ nargs:=2,pin:=⟨[(0,wW),(1,(.one q45))],[(50000,q9),(50001,uP)]⟩,aF:=⟨[(0,q62)],[(50000,q14),(50001,uP),(100002,q51)]⟩,bP:=1,aK:=[50000,50001],news:=[100002],kept:=[50001] }
def amh:fP:=(.seq .nil (.seq .nil (.seq (.seq .nil (.meet false ⟨[(5,.sl q62)],[(50000,.ob q9),(50001,.keep),(100002,.ob q51)]⟩ (.loop ⟨kS [0,1] [(5,.sl q62),(6,.sl q13)],[(50000,.ob q9),(50001,.keep),(100002,.ob q51)]⟩ (.seq j0 j0)))) .nil)))
def ami:bU:={ nargs:=3,pin:=⟨[(0,q23),(1,(.one SQ)),(2,q27)],[]⟩,aF:=⟨[(0,(.agg [q0,q0,q30,(.own 10),.bC,.bC]))],[(10,(.arr false true false (.st 14)))]⟩,bP:=1,aK:=[],news:=[10] }
def amj:fP:=j0
def amk:bU:={ nargs:=2,pin:=⟨[(0,wW),(1,(.one (.p true false .bool)))],[(50000,q11),(50001,Ny),(50002,IX),(50003,Ku),(50004,uP)]⟩,aF:=⟨[(0,(.one q30)),(1,q3)],[(50000,q36),(50001,q4),(50002,IX),(50003,Ku),(50004,uP)]⟩,bP:=2,aK:=[50000,50001,50002,50003,50004],news:=[],kept:=[50002,50003,50004] }
def aml:fP:=(.seq .nil (.seq .nil (.seq (.seq .nil (.meet false ⟨[(0,.keep),(6,.sl (.one (.own 100005)))],kO [50000,50001,50002,50003,50004] [(100005,.ob uP)]⟩ (.loop ⟨kS [0,1] [(6,.sl (.one (.own 100005))),(7,.sl q13)],kO [50000,50001,50002,50003,50004] [(100005,.ob uP)]⟩ (.seq j0 (.seq (.seq (.seq .nil (.meet false ⟨kS [0,1] [(6,.sl (.one (.own 101005))),(7,.keep)],kO [50000,50001,50002,50003,50004] [(101005,.ob uP)]⟩ .nil)) .nil) .nil))))) j10)))
def ais:bU:={ nargs:=0,pin:=⟨[],[]⟩,aF:=⟨[(0,(.one (.own 1)))],[(1,q65)]⟩,bP:=1,aK:=[],news:=[1] }
def ait:fP:=j0
def aiu:bU:={ nargs:=1,pin:=⟨[(0,wW)],[(50000,q11),(50001,Ny),(50002,IX),(50003,Ku),(50004,uP)]⟩,aF:=⟨[(0,(.agg [q0,q0,q0,q0,q30,.bC]))],[(50000,q36),(50001,q4),(50002,IX),(50003,Ku),(50004,uP)]⟩,bP:=1,aK:=[50000,50001,50002,50003,50004],news:=[],kept:=[50002,50003,50004] }
def aiv:fP:=(.seq .nil (.seq .nil (.seq (.seq .nil (.seq (.seq .nil (.seq .nil (.seq .nil (.meet true ⟨kS [2,3] [],lO [(50000,.ob q11),(50001,.ob q4)] (kO [50002,50003,50004,2] [])⟩ (.seq j8 (.seq (.seq .nil (.meet false ⟨kS [0,2,3] [(26,.sl q3)],kO [50000,50001,50002,50003,50004,2] []⟩ .nil)) (.meet true ⟨kS [2,3] [],kO [50000,50001,50002,50003,50004,2] []⟩ j10))))))) .nil)) (.seq .nil (.seq (.seq .nil (.meet false ⟨[(2,.keep),(6,.sl q13)],lO [(50000,.keep),(50001,.ob q4)] (kO [50002,50003,50004,2] [])⟩ .nil)) .nil)))))
def aiw:bU:={ nargs:=3,pin:=⟨[(0,q23),(1,q23),(2,(.one q45))],[]⟩,aF:=⟨[(0,(.agg [q0,q0,q0,q0,q30,q45]))],[]⟩,bP:=1,aK:=[],news:=[] }
def aix:fP:=j0
def amm:bU:={ nargs:=1,pin:=⟨[(0,q16)],[]⟩,aF:=⟨[(0,(.one (.own 11)))],[(11,q29)]⟩,bP:=1,aK:=[],news:=[11] }
def amn:fP:=(.seq .nil (.seq .nil (.seq (.seq .nil (.meet false ⟨[(3,.keep)],[(11,.ob q29)]⟩ (.loop ⟨kS [3,13,14] [(15,.sl q13)],[(11,.ob q29)]⟩ (.seq .nil (.seq .nil (.seq (.seq (.seq .nil (.seq .nil (.meet false ⟨kS [3,13,14,15] [],[(11,.ob q29)]⟩ (.loop ⟨kS [3,4,13,14,15,22,23] [(24,.sl q13)],[(11,.ob q29),(22,.keep)]⟩ (.seq .nil j33))))) .nil) .nil)))))) .nil)))
def aiy:TypeId→Option Ty:=fun t=>(([(1000034,(.prod (.st 0) .bool)),(3000009,.bool)]:List (Nat×Ty))++wU).lookup t
def amo:bU:={ nargs:=3,pin:=⟨[(0,q16),(1,q23),(2,q72)],[]⟩,aF:=⟨[(0,(.one (.own 18)))],[(18,Vg)]⟩,bP:=1,aK:=[],news:=[18] }
def amq:fP:=(.seq .nil (.seq .nil (.seq .nil (.seq .nil (.seq (.seq .nil (.meet false ⟨kS [7,8] [(9,.sl q62)],[(14,.keep),(18,.ob Vg),(100002,.ob q22)]⟩ (.loop ⟨kS [1,7,8] (lS [(9,.sl q62)] (kS [19,20] [(21,.sl q13)])),[(14,.keep),(18,.ob Vg),(100002,.ob q22)]⟩ (.seq .nil (.seq .nil (.seq (.seq (.seq .nil (.seq .nil (.meet false ⟨kS [1,7,8] (lS [(9,.sl (.one (.own 101002)))] (kS [19,20,21] [])),[(14,.keep),(18,.ob Vg),(101002,.ob q22)]⟩ j0))) .nil) .nil)))))) (.seq (.meet false ⟨[(8,.keep)],[(18,.ob Vg)]⟩ (.loop ⟨kS [7,8] [(9,.sl (.one (.own 103002)))],[(14,.ob q29),(18,.ob Vg),(103002,.ob q22)]⟩ (.seq j0 (.seq (.seq .nil (.seq .nil (.seq .nil (.meet false ⟨kS [7,8] [(9,.sl (.one (.own 104002)))],[(14,.ob q29),(18,.ob Vg),(104002,.ob q22)]⟩ j0)))) .nil)))) .nil))))))
def aiz:TypeId→Option Ty:=fun t=>(([(2000000,.bool)]:List (Nat×Ty))++wU).lookup t
def aiA:bU:={ nargs:=5,pin:=⟨[(0,q23),(1,wW),(2,(.one (.box 50002 0))),(3,(.one (.box 50003 0))),(4,(.one (.box 50004 0)))],[(50000,q57),(50002,q40),(50003,q43),(50004,(.box [(.own 50005)])),(50001,q59),(50005,q5)]⟩,aF:=⟨[],[(50000,q57),(50001,q59),(50002,(.box [q30,q0,q0,(.p false true (.sl (.st 5)))])),(50003,q43),(50004,(.box [(.own 35)])),(35,(.arr false true true (.int .i64)))]⟩,bP:=0,aK:=[50000,50001,50002,50003,50004],news:=[35] }
def amr:fP:=(.seq .nil (.seq (.seq .nil (.meet false ⟨kS [0,4] [],[(50000,.ob q57),(50001,.ob q59),(50002,.ob q40),(50003,.ob q43),(50004,.ob (.box [(.own 100006)])),(100006,.ob q5)]⟩ (.loop ⟨kS [0,1,3,4,17,18] [(19,.sl q13)],[(50000,.ob q57),(50001,.ob q59),(50002,.ob q40),(50003,.ob q43),(50004,.ob (.box [(.own 100006)])),(17,.keep),(100006,.ob q5)]⟩ (.seq .nil (.seq .nil (.seq (.seq (.seq .nil (.seq .nil (.meet false ⟨kS [0,1,3,4,17,18,19] [],[(50000,.ob q57),(50001,.ob q59),(50002,.ob q40),(50003,.ob q43),(50004,.ob (.box [(.own 101006)])),(17,.keep),(101006,.ob q5)]⟩ .nil))) .nil) .nil)))))) .nil))
def ams:bU:={ nargs:=1,pin:=⟨[(0,q16)],[]⟩,aF:=⟨[(0,(.agg [q30,q0,q0,(.own 103005)]))],[(103005,q64)]⟩,bP:=1,aK:=[],news:=[103005] }
def amu:fP:=(.seq .nil (.seq .nil (.seq .nil (.seq .nil (.seq (.seq .nil (.meet false ⟨kS [1,2,3,4] [],kO [1,2,11] [(14,.ob q6)]⟩ (.loop ⟨kS [1,2,3,4] [(5,.sl q13),(6,.sl q13)],kO [1,2,11] [(14,.ob q6)]⟩ (.seq j0 (.seq (.seq (.seq .nil (.seq .nil (.meet false ⟨kS [1,2,3,4] [(5,.sl q13),(6,.keep)],kO [1,2,11,14] []⟩ .nil))) .nil) .nil))))) (.seq .nil (.seq .nil (.seq (.seq .nil (.meet false ⟨kS [2,7] [],[(2,.keep),(7,.ob (.box [SQ,q1,q1,(.own 103005)])),(103005,.ob q64)]⟩ (.loop ⟨kS [1,2,3,4,7] [(8,.sl q13)],kO [1,2,11,14] [(7,.ob (.box [SQ,q1,q1,(.own 103005)])),(103005,.ob q64)]⟩ (.seq j0 (.seq (.meet false ⟨kS [1,2,3,4,7,8] [],kO [1,2,11,14] [(7,.ob (.box [SQ,q1,q1,(.own 106005)])),(106005,.ob q64)]⟩ (.seq j0 (.seq .nil (.seq j20 (.seq j20 .nil))))) .nil))))) .nil))))))))
def amv:bU:={ nargs:=1,pin:=⟨[(0,(.agg [SQ,q1,q67,q34]))],[]⟩,aF:=⟨[(0,(.one (.own 8)))],[(8,(.arr false true false .str))]⟩,bP:=1,aK:=[],news:=[8] }
def amw:fP:=j0
def aiB:bU:={ nargs:=2,pin:=⟨[(0,wW),(1,(.one q34))],[(50000,q8),(50001,q24)]⟩,aF:=⟨[(0,q3)],[(50000,q54),(60001,q7)]⟩,bP:=1,aK:=[50000],news:=[60001] }
def amx:fP:=(.seq .nil (.seq (.seq .nil (.meet true ⟨[],[(50000,.ob (.box [q12,q10,Vf,q2,q2,(.own 100001),q2])),(100001,.ob q7)]⟩ (.loop ⟨kS [0,1] [(5,.sl q13)],[(50000,.ob (.box [q12,q10,Vf,q2,q2,(.own 100001),q2])),(100001,.ob q7)]⟩ j3))) .nil))
def aiC:TypeId→Option Ty:=fun t=>(([(1000044,(.prod (.st 0) .bool))]:List (Nat×Ty))++wU).lookup t
def aiD:bU:={ nargs:=2,pin:=⟨[(0,wW),(1,q74)],[(50000,q8),(50001,q24)]⟩,aF:=⟨[(0,q3)],[(50000,q54),(60001,q7)]⟩,bP:=1,aK:=[50000],news:=[60001] }
def amy:fP:=(.seq .nil (.seq .nil (.seq j33 (.seq (.seq .nil (.meet false ⟨kS [0,3,5] [],[(50000,.ob q32),(3,.keep),(100002,.ob q7)]⟩ (.loop ⟨kS [0,3,5] [(6,.sl q13)],[(50000,.ob q32),(3,.keep),(100002,.ob q7)]⟩ (.seq j0 j0)))) (.seq (.seq .nil (.seq (.seq (.seq .nil (.meet false ⟨kS [0,3,5,38] [(39,.sl q3)],kO [50000,3,100002] []⟩ .nil)) (.meet true j26 (.seq (.seq .nil (.seq .nil (.meet false ⟨[],[(50000,.ob (.box [q12,q10,Vf,q0,q0,(.own 100002),q0])),(100002,.ob q7)]⟩ .nil))) (.seq .nil (.meet true j26 (.seq .nil (.seq .nil (.seq j0 (.seq .nil (.meet true j26 j8)))))))))) .nil)) .nil)))))
def aiE:TypeId→Option Ty:=fun t=>(([(1000044,(.prod (.st 0) .bool)),(3000022,.bool),(3000011,.bool)]:List (Nat×Ty))++wU).lookup t
def aiF:bU:={ nargs:=3,pin:=⟨[(0,wW),(1,q74),(2,q23)],[(50000,q8),(50001,q24)]⟩,aF:=⟨[],[(50000,(.box [q12,q10,Vf,q0,q0,(.own 57),q0])),(57,q7)]⟩,bP:=0,aK:=[50000],news:=[57] }
def amA:fP:=(.seq .nil (.seq .nil (.seq .nil (.seq .nil (.seq .nil (.seq .nil (.seq .nil (.seq (.seq .nil (.meet false ⟨kS [0,2,4,8,9] [],[(50000,.ob (.box [q12,q10,Vf,q0,q0,(.own 41),q0])),(4,.keep),(41,.ob q7)]⟩ .nil)) .nil))))))))
def aiG:TypeId→Option Ty:=fun t=>(([(1000044,(.prod (.st 0) .bool))]:List (Nat×Ty))++wU).lookup t
def aiH:bU:={ nargs:=3,pin:=⟨[(0,wW),(1,q74),(2,q23)],[(50000,q8),(50001,q24)]⟩,aF:=⟨[(0,q3)],[(50000,q54),(60001,q7)]⟩,bP:=1,aK:=[50000],news:=[60001] }
def amB:fP:=(.seq .nil (.seq .nil (.seq .nil (.seq .nil (.seq .nil (.seq (.seq .nil (.seq (.seq .nil (.seq .nil (.seq (.seq .nil (.meet false ⟨[],[(50000,.ob (.box [q12,q10,Vf,q0,q0,(.own 39),q0])),(39,.ob q7)]⟩ .nil)) .nil))) .nil)) (.seq .nil (.seq .nil (.seq .nil (.seq .nil (.seq (.seq (.meet false ⟨kS [0,4,9,10,13,14] [(77,.sl q3)],kO [50000,4,67] []⟩ .nil) j0) (.seq .nil (.seq (.seq .nil (.meet false ⟨kS [0,13,14,15] [],[(50000,.ob (.box [q12,q10,Vf,q0,q0,(.own 81),q0])),(81,.ob q7)]⟩ .nil)) (.seq (.seq .nil (.meet false ⟨[],[(50000,.ob (.box [q12,q10,Vf,q0,q0,(.own 81),q0])),(81,.ob q7)]⟩ .nil)) .nil))))))))))))))
def aiI:TypeId→Option Ty:=fun t=>(([(1000044,(.prod (.st 0) .bool)),(3000033,.bool)]:List (Nat×Ty))++wU).lookup t
def aiJ:bU:={ nargs:=2,pin:=⟨[(0,wW),(1,(.one q34))],[(50000,q9),(50001,uP)]⟩,aF:=⟨[(0,q53)],[(50000,q47),(100001,q80),(100002,q44)]⟩,bP:=1,aK:=[50000],news:=[100001,100002] }
def amC:fP:=(.seq .nil (.seq .nil (.seq (.seq .nil (.meet false ⟨[(5,.sl q53)],[(50000,.ob q48),(100001,.ob q80),(100002,.ob q44)]⟩ (.loop ⟨kS [0,1] [(5,.sl q53),(6,.sl q13)],[(50000,.ob q48),(100001,.ob q80),(100002,.ob q44)]⟩ (.seq j0 (.seq (.seq (.seq .nil (.seq .nil (.seq (.seq .nil (.meet false ⟨kS [0,1,5,6,7] [(8,.sl (.one (.own 101003)))],lO [(50000,.ob q48)] (kO [100001,7] [(101003,.ob q51),(100002,.keep)])⟩ (.loop ⟨kS [0,1,5,6,7] [(8,.sl (.one (.own 101003))),(9,.sl q13)],lO [(50000,.ob q48)] (kO [100001,7] [(101003,.ob q51),(100002,.keep)])⟩ (.seq j0 (.seq (.seq (.seq (.seq .nil (.meet false ⟨kS [0,1,5,6,7,8,9] [],lO [(50000,.ob q48)] (kO [100001,7,101003,100002] [])⟩ .nil)) .nil) .nil) .nil))))) (.seq .nil (.seq .nil (.seq (.seq .nil (.seq (.seq .nil (.meet false ⟨kS [0,1,5,6,7] [],lO [(50000,.ob (.box [q12,q10,(.own 110003),q0,q0]))] (kO [100001,7] [(110003,.ob q44),(101003,.keep)])⟩ (.seq (.seq (.seq .nil (.meet false j6 .nil)) .nil) (.seq (.seq .nil (.meet false ⟨kS [0,1,5,6,7,10] [(80,.sl q3)],kO [50000,100001,7,100002,101003] []⟩ .nil)) (.meet false j6 (.seq (.seq .nil (.meet false j6 (.seq .nil (.seq (.meet false ⟨kS [0,1,5,6,7] [(108,.sl q3)],kO [50000,100001,7,100002,101003] []⟩ .nil) (.meet false j6 .nil))))) .nil)))))) .nil)) j0)))))) .nil) .nil))))) .nil)))
def amD:bU:={ nargs:=3,pin:=⟨[(0,q31),(1,q16),(2,q60)],[]⟩,aF:=⟨[(0,q13)],[]⟩,bP:=1,aK:=[],news:=[] }
def amE:fP:=(.seq .nil (.seq (.seq (.meet false ⟨kS [3,4,5] [(48,.sl q3)],kO [3,4,5] []⟩ .nil) j0) (.seq .nil (.seq (.seq .nil (.seq .nil (.meet false ⟨kS [3,4,5] [(7,.sl (.one (.own 101003)))],kO [3,4,5] [(101003,.ob q22)]⟩ .nil))) (.seq (.seq .nil (.meet true ⟨kS [3,5] [],kO [3,5] []⟩ (.loop ⟨kS [3,4,5,7] [(10,.sl q13)],kO [3,4,5,101003] []⟩ (.seq j0 (.seq (.seq (.seq (.meet false ⟨kS [3,4,5,7,10] [(80,.sl q3)],kO [3,4,5,101003] []⟩ .nil) j0) .nil) .nil))))) (.seq (.seq .nil (.seq (.seq (.seq .nil (.meet false ⟨kS [3,5,82] [(83,.sl q3)],kO [3,5] []⟩ .nil)) (.meet true ⟨[],[]⟩ (.seq j1 (.seq (.seq .nil (.meet false ⟨kS [3,5,82] [(91,.sl q3)],kO [3,5] []⟩ .nil)) (.meet true ⟨[],[]⟩ (.seq j1 (.seq .nil (.meet true ⟨[],[]⟩ (.seq (.seq (.seq (.meet false ⟨kS [3,5] [(111,.sl q3)],kO [3,5] []⟩ .nil) j0) j1) (.seq .nil (.meet true ⟨[],[]⟩ (.seq j1 (.seq .nil (.meet true ⟨[],[]⟩ (.seq (.seq (.meet false ⟨[(140,.sl q3)],[]⟩ .nil) j0) (.seq .nil (.meet true ⟨[],[]⟩ (.seq (.seq (.meet false ⟨[(152,.sl q3)],[]⟩ .nil) j0) .nil)))))))))))))))))) .nil)) .nil))))))
def amF:bU:={ nargs:=1,pin:=⟨[(0,wW)],[(50000,q11),(50001,Ny),(50002,IX),(50003,Ku),(50004,uP)]⟩,aF:=⟨[(0,(.one q30)),(1,q3)],[(50000,q36),(50001,q4),(50002,IX),(50003,Ku),(50004,uP)]⟩,bP:=2,aK:=[50000,50001,50002,50003,50004],news:=[],kept:=[50002,50003,50004] }
def amG:fP:=(.seq .nil (.seq .nil (.seq (.seq .nil (.meet true ⟨[],kO [50000,50001,50002,50003,50004] []⟩ (.loop ⟨kS [0,4] [(5,.sl q13)],kO [50000,50001,50002,50003,50004,8] []⟩ (.seq j0 (.seq (.seq (.seq .nil (.seq (.seq .nil (.meet false ⟨kS [0,4,5] [(6,.sl q3)],kO [50000,50001,50002,50003,50004,8] []⟩ (.loop ⟨kS [0,4,5] [(6,.sl q3),(7,.sl q13)],kO [50000,50001,50002,50003,50004,8] []⟩ (.seq j0 (.seq (.seq (.meet false ⟨kS [0,4,5] [(6,.sl q3),(7,.keep)],kO [50000,50001,50002,50003,50004,8] []⟩ .nil) .nil) .nil))))) j1)) .nil) .nil))))) .nil)))
def aiK:bU:={ nargs:=2,pin:=⟨[(0,wW),(1,q23)],[(50000,q11),(50001,Ny),(50002,IX),(50003,Ku),(50004,uP)]⟩,aF:=⟨[(0,(.agg [q0,q0,q0,q0,q30,(.p false true (.sl (.st 14)))]))],[(50000,q36),(50001,q4),(50002,IX),(50003,Ku),(50004,uP)]⟩,bP:=1,aK:=[50000,50001,50002,50003,50004],news:=[],kept:=[50002,50003,50004] }
def amH:fP:=(.seq .nil (.seq .nil (.seq (.seq (.meet false ⟨kS [0,1,4,5] [(18,.sl q3)],lO [(50000,.keep),(50001,.ob Ny)] (kO [50002,50003,50004,4] [])⟩ .nil) j0) (.seq (.seq .nil (.seq (.seq .nil (.seq .nil (.seq .nil (.seq .nil (.seq .nil (.seq .nil (.seq (.seq .nil (.meet false ⟨kS [0,1,4,5,22] [(58,.sl q3)],kO [50000,50001,50002,50003,50004,4] []⟩ .nil)) (.seq .nil (.seq .nil (.meet true ⟨kS [0,1,4,5] [],lO [(50000,.ob q11),(50001,.ob q4)] (kO [50002,50003,50004,4] [])⟩ (.seq j8 .nil))))))))))) .nil)) .nil))))
def aiL:bU:={ nargs:=2,pin:=⟨[(0,wW),(1,q23)],[(50000,q11),(50001,Ny),(50002,IX),(50003,Ku),(50004,uP)]⟩,aF:=⟨[(0,(.agg [q0,q0,q0,q0,q30,(.own 60005)]))],[(50000,q36),(50001,q4),(50002,IX),(50003,Ku),(50004,uP),(60005,q56)]⟩,bP:=1,aK:=[50000,50001,50002,50003,50004],news:=[60005],kept:=[50002,50003,50004] }
def amI:fP:=(.seq .nil (.seq .nil (.seq .nil (.seq .nil (.seq (.seq (.meet false ⟨kS [0,1,4,5,6,7] [(46,.sl q3)],lO [(50000,.keep),(50001,.ob q4)] (kO [50002,50003,50004,4,5] [])⟩ .nil) (.meet false ⟨kS [0,1,4,5] [(6,.sl q13),(7,.keep)],lO [(50000,.keep),(50001,.ob q4)] (kO [50002,50003,50004,4,5] [])⟩ .nil)) (.seq .nil (.seq (.seq .nil (.meet false ⟨kS [0,1,4,5,7] [(8,.sl (.one (.own 102007)))],lO [(50000,.ob q11),(50001,.ob q4)] (kO [50002,50003,50004,4,5] [(102007,.ob q56)])⟩ (.loop ⟨kS [0,1,4,5,6,7] [(8,.sl (.one (.own 102007))),(9,.sl q13)],lO [(50000,.ob q11),(50001,.ob q4)] (kO [50002,50003,50004,4,5] [(102007,.ob q56)])⟩ (.seq j0 j0)))) (.seq j1 (.seq .nil (.seq (.seq .nil (.meet false ⟨kS [4,8,10] [],lO [(50000,.ob q11),(50001,.ob q4)] (kO [50002,50003,50004,4,102007] [(10,.ob (.box [q0,q0,q0,q0,(.p false true .str),(.p false true (.sl (.st 14)))]))])⟩ .nil)) j10))))))))))
def aiM:bU:={ nargs:=3,pin:=⟨[(0,wW),(1,q23),(2,q23)],[(50000,q11),(50001,Ny),(50002,IX),(50003,Ku),(50004,uP)]⟩,aF:=⟨[(0,(.one (.own 100004)))],[(50000,(.box [(.box 50001 0),(.own 50002),(.own 50003),(.own 100005),q0])),(50001,q4),(50002,IX),(50003,Ku),(100004,q42),(100005,uP)]⟩,bP:=1,aK:=[50000,50001,50002,50003],news:=[100004,100005],kept:=[50002,50003] }
def amJ:fP:=(.seq .nil (.seq .nil (.seq (.seq .nil (.meet false ⟨[(7,.sl (.one (.own 100004)))],lO [(50000,.ob q73),(50001,.ob Ny)] (kO [50002,50003] [(100004,.ob q42),(100005,.ob uP)])⟩ (.loop ⟨kS [0,1,2] [(7,.sl (.one (.own 100004))),(8,.sl q13)],lO [(50000,.ob q73),(50001,.ob Ny)] (kO [50002,50003] [(100004,.ob q42),(100005,.ob uP)])⟩ (.seq (.seq (.meet false ⟨kS [0,1,2,7,8] [(18,.sl q3)],kO [50000,50001,50002,50003,100004,100005] []⟩ .nil) .nil) j7)))) .nil)))
def aiN:bU:={ nargs:=2,pin:=⟨[(0,wW),(1,q23)],[(50000,q11),(50001,Ny),(50002,IX),(50003,Ku),(50004,uP)]⟩,aF:=⟨[(0,(.agg [q0,q0,q30,(.own 60004),(.own 60005),(.own 60006)]))],[(50000,(.box [(.box 50001 0),(.own 50002),(.own 50003),(.own 60007),q0])),(50001,q4),(50002,IX),(50003,Ku),(60004,q56),(60005,q42),(60006,q42),(60007,uP)]⟩,bP:=1,aK:=[50000,50001,50002,50003],news:=[60004,60005,60006,60007],kept:=[50002,50003] }
def amK:fP:=(.seq .nil (.seq .nil (.seq (.seq .nil (.seq (.seq (.seq .nil (.meet false ⟨kS [0,1,4,5,19] [(20,.sl q3)],kO [50000,50001,50002,50003,4,50004] []⟩ .nil)) (.meet true j4 (.seq j29 (.seq .nil (.meet true j4 (.seq j1 (.seq .nil (.meet true j4 (.seq j8 (.seq .nil (.meet true j4 (.seq j8 (.seq (.seq .nil (.meet false ⟨kS [0,1,4,5,19] [(95,.sl q3)],kO [50000,50001,50002,50003,4,50004] []⟩ .nil)) (.meet true j34 (.seq (.seq .nil (.seq (.seq .nil (.seq .nil (.seq (.seq .nil (.meet false ⟨kS [4,13] [],lO [(50000,.ob (.box [(.box 50001 0),(.own 50002),(.own 50003),(.own 102006),q0])),(50001,.ob q4)] (kO [50002,50003,4] (lO [(13,.ob (.box [q0,q0,q30,(.own 102),(.own 109),(.own 102009)])),(102006,.ob uP)] (kO [102,109] [(102009,.ob q42)])))⟩ .nil)) .nil))) .nil)) (.seq .nil (.meet true j34 (.seq j1 (.seq .nil (.seq j10 .nil)))))))))))))))))))) .nil)) .nil)))
def aiO:bU:={ nargs:=2,pin:=⟨[(0,wW),(1,q23)],[(50000,q11),(50001,Ny),(50002,IX),(50003,Ku),(50004,uP)]⟩,aF:=⟨[(0,(.agg [q0,q0,q30,(.own 60004),(.own 60005),.bC]))],[(50000,(.box [(.box 50001 0),(.own 50002),(.own 50003),(.own 60006),q0])),(50001,q4),(50002,IX),(50003,Ku),(60004,q56),(60005,q42),(60006,uP)]⟩,bP:=1,aK:=[50000,50001,50002,50003],news:=[60004,60005,60006],kept:=[50002,50003] }
def amL:fP:=(.seq .nil (.seq .nil (.seq (.seq (.meet false ⟨kS [0,1,4,5,6] [(28,.sl q3)],lO [(50000,.keep),(50001,.ob q4)] (kO [50002,50003,4,50004] [])⟩ .nil) (.meet false ⟨kS [0,1,4] [(5,.sl (.one (.p false true .str))),(6,.sl q3)],lO [(50000,.keep),(50001,.ob q4)] (kO [50002,50003,4,50004] [])⟩ .nil)) (.seq (.seq (.meet false ⟨kS [0,1,4,5] [(54,.sl q3)],lO [(50000,.keep),(50001,.ob q4)] (kO [50002,50003,4,50004] [])⟩ .nil) j10) j32))))
def amM:bU:={ nargs:=1,pin:=⟨[(0,q16)],[]⟩,aF:=⟨[(0,(.one (.own 12)))],[(12,q22)]⟩,bP:=1,aK:=[],news:=[12] }
def amN:fP:=(.seq .nil (.seq .nil (.seq (.meet false ⟨kS [1,3] [(4,.sl (.one (.box 4 0)))],kO [1,3] [(4,.ob (.box [(.own 100700)])),(9,.keep),(100700,.ob q6)]⟩ .nil) j32)))
def amO:bU:={ nargs:=1,pin:=⟨[(0,wW)],[(50000,Ny)]⟩,aF:=⟨[(0,(.agg [(.own 19),(.own 100004),q0,q0]))],[(50000,q4),(19,q49),(100004,q26)]⟩,bP:=1,aK:=[50000],news:=[19,100004] }
def amP:fP:=(.seq .nil (.seq .nil (.seq .nil (.seq (.seq .nil (.meet false ⟨kS [0,2,3,4] [],[(50000,.ob q4),(2,.keep),(3,.ob (.box [(.own 19),(.own 100004),q0,q0])),(19,.keep),(100004,.ob q26)]⟩ (.loop ⟨kS [0,2,3,4] [(5,.sl q13)],[(50000,.ob q4),(2,.keep),(3,.ob (.box [(.own 19),(.own 100004),q0,q0])),(19,.keep),(100004,.ob q26)]⟩ (.seq j0 (.seq (.seq (.seq .nil (.seq (.seq .nil (.meet false ⟨kS [0,2,3,4,5,6] [],lO [(50000,.ob q4)] (kO [2,3] (lO [(6,.ob (.box [q30,q0,q0,.bC]))] (kO [19,100004] [])))⟩ .nil)) .nil)) .nil) .nil))))) (.seq .nil (.seq (.seq .nil (.meet false ⟨kS [2,3] [],lO [(50000,.ob q4)] (kO [2,3,19] [(100004,.ob q26)])⟩ (.loop ⟨kS [0,2,3,4] [(7,.sl q13)],lO [(50000,.ob q4)] (kO [2,3,19] [(100004,.ob q26)])⟩ (.seq j0 (.seq (.seq (.seq .nil (.seq (.seq .nil (.meet false j25 (.loop ⟨kS [0,2,3,4,7,8] [(9,.sl q13)],lO [(50000,.ob q4)] (kO [2,3] [(100004,.ob q26),(19,.keep)])⟩ (.seq j0 (.seq (.seq (.seq .nil (.seq (.seq .nil (.meet false ⟨kS [0,2,3,4,7,8,9,10] [],lO [(50000,.ob q4)] (kO [2,3] [(100004,.ob q26),(10,.ob (.box [(.own 105006),q0,q0,q0,q0,q0,q0,q0])),(19,.keep),(105006,.ob (.arr false false false (.st 6)))])⟩ (.loop ⟨kS [0,2,3,4,7,8,9,10] [(11,.sl q13)],lO [(50000,.ob q4)] (kO [2,3] [(100004,.ob q26),(10,.ob (.box [(.own 105006),q0,q0,q0,q0,q0,q0,q0])),(19,.keep),(105006,.ob (.arr false false false (.st 6)))])⟩ (.seq j0 j0)))) .nil)) .nil) .nil))))) (.seq (.seq .nil (.meet false j25 (.loop ⟨kS [0,2,3,4,7,8] [(12,.sl q13)],lO [(50000,.ob q4)] (kO [2,3] [(100004,.ob q26),(19,.keep)])⟩ (.seq j0 j7)))) .nil))) .nil) .nil))))) .nil))))))
def aiP:TypeId→Option Ty:=fun t=>(([(1000033,(.prod (.st 3) .bool)),(3000140,.bool),(3000133,.bool),(3000113,.bool),(3000078,.bool)]:List (Nat×Ty))++wU).lookup t
def amQ:bU:={ nargs:=1,pin:=⟨[(0,q35)],[]⟩,aF:=⟨[(0,(.agg [(.own 60000),(.own 60001)])),(1,q13),(2,q13)],[(60000,(.arr false true false (.st 3))),(60001,q79)]⟩,bP:=3,aK:=[],news:=[60000,60001] }
def amR:fP:=(.seq .nil (.seq (.seq (.meet false ⟨kS [1,2] [(20,.sl q3)],kO [1,2] []⟩ .nil) j0) (.seq (.seq (.meet false ⟨kS [1,2] [(42,.sl q3)],kO [1,2] []⟩ .nil) j0) (.seq (.seq .nil (.meet true ⟨kS [1,2] [],kO [1,2] []⟩ (.loop ⟨kS [1,2] [(5,.sl q13)],kO [1,2] []⟩ j3))) (.seq (.seq .nil (.meet true ⟨kS [1,2] [],kO [1,2] []⟩ (.loop ⟨kS [1,2] [(6,.sl q13)],kO [1,2] []⟩ (.seq j0 (.seq (.seq (.seq (.meet false ⟨kS [1,2,6] [(89,.sl q3)],kO [1,2] []⟩ .nil) j0) .nil) .nil))))) (.seq .nil (.seq (.seq .nil (.meet true ⟨[(2,.keep)],[(2,.ob (.box [(.own 99),(.own 107003)])),(99,.keep),(107003,.ob q79)]⟩ (.loop ⟨kS [1,2] [(7,.sl q13)],[(1,.keep),(2,.ob (.box [(.own 99),(.own 107003)])),(99,.keep),(107003,.ob q79)]⟩ (.seq j0 (.seq (.seq (.seq .nil (.seq (.seq (.meet false ⟨kS [1,2,7,8] [(128,.sl q3)],kO [1,2,8,99,107003] []⟩ .nil) j0) (.seq (.seq .nil (.meet true ⟨kS [1,2,7,8] [],kO [1,2,8,99,107003] []⟩ (.loop ⟨kS [1,2,7,8] [(9,.sl q13)],kO [1,2,8,99,107003] []⟩ (.seq j0 (.seq (.seq (.seq (.meet false ⟨kS [1,2,7,8,9] [(158,.sl q3)],kO [1,2,8,99,107003] []⟩ .nil) j0) .nil) .nil))))) j29))) .nil) .nil))))) .nil)))))))
def amS:bU:={ nargs:=1,pin:=⟨[(0,wW)],[(50000,Ny)]⟩,aF:=⟨[(0,(.agg [(.own 103003),(.own 105004)]))],[(50000,q4),(103003,IX),(105004,Ku)]⟩,bP:=1,aK:=[50000],news:=[103003,105004] }
def amT:fP:=(.seq .nil (.seq (.meet false ⟨kS [0,2] [(3,.sl (.one (.box 12 0)))],kO [50000,2] [(12,.ob (.box [(.box 50000 0),(.own 100700),(.own 100701),(.own 100702),q0])),(100700,.ob q49),(100701,.ob q78),(100702,.ob q65)]⟩ .nil) (.seq (.seq .nil (.meet false ⟨kS [0,2,3] [],kO [50000,2] (lO [(12,.ob q68),(101003,.ob q49)] (kO [100701,100702] []))⟩ (.loop ⟨kS [0,2,3] [(4,.sl q13)],kO [50000,2] (lO [(12,.ob q68),(101003,.ob q49)] (kO [100701,100702] []))⟩ (.seq j0 j0)))) (.seq (.seq .nil (.meet false ⟨kS [0,2,3] [],lO [(50000,.ob q4),(2,.keep),(12,.ob q69),(103003,.ob q49)] (kO [100701,100702] [])⟩ (.loop ⟨kS [0,2,3] [(5,.sl q13)],lO [(50000,.ob q4),(2,.keep),(12,.ob q69),(103003,.ob q49)] (kO [100701,100702] [])⟩ (.seq j0 j0)))) (.seq .nil (.seq (.seq .nil (.meet false ⟨kS [0,2,3] [],[(50000,.ob q4),(2,.keep),(12,.ob q70),(103003,.keep),(105004,.ob q78),(100702,.keep)]⟩ (.loop ⟨kS [0,2,3] [(6,.sl q13)],[(50000,.ob q4),(2,.keep),(12,.ob q70),(103003,.keep),(105004,.ob q78),(100702,.keep)]⟩ (.seq j0 (.seq (.seq (.seq .nil (.seq (.seq .nil (.meet false ⟨kS [0,2,3,6,7] [],kO [50000,2,12] (lO [(7,.ob (.box [q30,q0,(.own 106007),.bC]))] (kO [103003,105004,100702] [(106007,.ob q65)]))⟩ (.loop ⟨kS [0,2,3,6,7] [(8,.sl q13)],kO [50000,2,12] (lO [(7,.ob (.box [q30,q0,(.own 106007),.bC]))] (kO [103003,105004,100702] [(106007,.ob q65)]))⟩ (.seq j0 j0)))) .nil)) .nil) .nil))))) (.seq (.seq .nil (.meet false ⟨kS [2,3] [],[(50000,.ob q4),(2,.keep),(12,.ob q71),(103003,.ob IX),(105004,.ob Ku),(109005,.ob uP)]⟩ (.loop ⟨kS [0,2,3] [(9,.sl q13)],[(50000,.ob q4),(2,.keep),(12,.ob q71),(103003,.ob IX),(105004,.ob Ku),(109005,.ob uP)]⟩ (.seq j0 (.seq j7 .nil))))) .nil)))))))
def amU:bU:={ nargs:=2,pin:=⟨[(0,q31),(1,q16)],[]⟩,aF:=⟨[(0,q13)],[]⟩,bP:=1,aK:=[],news:=[] }
def amV:fP:=(.seq .nil (.seq (.seq (.meet false ⟨kS [2,3] [(25,.sl q3)],kO [2,3] []⟩ .nil) j0) (.seq (.seq (.meet false ⟨kS [2,3] [(45,.sl q3)],kO [2,3] []⟩ .nil) j0) (.seq (.seq .nil (.meet true ⟨[(3,.keep)],[(3,.keep)]⟩ (.loop ⟨kS [2,3] [(5,.sl q13)],kO [2,3] []⟩ (.seq j0 (.seq (.seq (.seq (.seq .nil (.meet true ⟨kS [2,3,5] [],kO [2,3] []⟩ (.loop ⟨kS [2,3,5] [(6,.sl q13)],kO [2,3] []⟩ (.seq j0 j37)))) j8) .nil) .nil))))) (.seq .nil (.seq (.seq .nil (.meet true ⟨[],[]⟩ (.loop ⟨[(9,.keep),(10,.sl q13)],[(91,.keep)]⟩ j3))) .nil))))))
def sg9:bU:={ nargs:=1,pin:=⟨[(0,q16)],[]⟩,aF:=⟨[(0,(.one (.own 38)))],[(38,q6)]⟩,bP:=1,aK:=[],news:=[38] }
def an9:fP:=(.seq .nil (.seq .nil (.seq .nil (.seq (.seq .nil (.meet false ⟨kS [1,3,4] [],kO [1,18,4] [(21,.ob q6)]⟩ (.loop ⟨kS [1,3,4,22,23] [(24,.sl q13)],kO [1,18,4] [(21,.ob q6)]⟩ (.seq .nil j33)))) (.seq .nil (.seq .nil (.seq (.seq .nil (.meet false ⟨kS [3,4] [(7,.sl (.one (.p false false (.sl (.sl (.int .i64)))))),(8,.keep)],kO [18,4,8,21] [(38,.ob q6)]⟩ (.loop ⟨kS [3,4] (lS [(7,.sl (.one (.p false false (.sl (.sl (.int .i64))))))] (kS [8,40] [(41,.sl q13)])),kO [18,4,8,21] [(38,.ob q6)]⟩ (.seq .nil j33)))) (.seq .nil (.seq (.seq .nil (.meet false ⟨[(8,.keep)],[(8,.ob q58),(38,.ob q6)]⟩ (.loop j23 (.seq j0 (.seq (.seq .nil (.seq .nil (.meet false j23 (.loop ⟨kS [3,7,8,10] (lS [(11,.sl q3)] (kS [51,52] [(53,.sl q13)])),[(18,.keep),(8,.ob q58),(4,.ob q61),(38,.ob q6),(21,.keep)]⟩ (.seq .nil (.seq .nil (.seq (.seq (.seq .nil (.seq .nil (.seq (.seq .nil (.meet false ⟨kS [3,7,8,10,11,13] (lS [(14,.sl q13)] (kS [51,52,53] [])),lO [(18,.keep),(8,.ob q58),(4,.ob q61)] (kO [38,21] [])⟩ (.loop ⟨kS [3,7,8,10,11,13] (lS [(14,.sl q13)] (kS [51,52,53,60,61] [(62,.sl q13)])),lO [(18,.keep),(8,.ob q58),(4,.ob q61)] (kO [38,21] [])⟩ (.seq .nil (.seq .nil (.seq (.seq (.seq .nil (.seq (.seq (.meet false ⟨kS [3,7,8,10,11,13,14,16,51,52,53,60,61,62] [(70,.sl q3)],kO [18,8,4,38,21] []⟩ .nil) (.meet false j15 (.seq .nil (.seq .nil (.meet false j15 .nil))))) .nil)) .nil) .nil)))))) (.seq .nil (.meet false ⟨kS [3,7,8,10] (lS [(11,.sl q3)] (kS [51,52,53] [])),kO [18,8,4] [(38,.ob q6),(21,.keep)]⟩ .nil))))) .nil) .nil))))))) .nil))))) .nil)))))))))
def amW:bU:={ nargs:=3,pin:=⟨[(0,q16),(1,q23),(2,q23)],[]⟩,aF:=⟨[(0,q3)],[]⟩,bP:=1,aK:=[],news:=[] }
def amX:fP:=(.seq .nil j30)
def amY:bU:={ nargs:=1,pin:=⟨[(0,wW)],[(50000,Ny)]⟩,aF:=⟨[(0,(.agg [(.own 9),(.own 1009)]))],[(50000,q4),(9,IX),(1009,Ku)]⟩,bP:=1,aK:=[50000],news:=[9,1009] }
def amZ:fP:=j1
def am0:bU:={ nargs:=1,pin:=⟨[(0,q31)],[]⟩,aF:=⟨[(0,q13)],[]⟩,bP:=1,aK:=[],news:=[] }
def am1:fP:=(.seq .nil (.seq (.seq (.meet false ⟨[(1,.keep),(31,.sl q3)],[(1,.keep)]⟩ .nil) j0) (.seq (.seq .nil (.meet true ⟨[(1,.keep)],[(1,.keep)]⟩ (.loop ⟨[(1,.keep),(3,.sl q13)],[(1,.keep)]⟩ (.seq j0 (.seq (.seq (.seq (.meet false ⟨kS [1,3] [(54,.sl q3)],[(1,.keep)]⟩ .nil) j0) .nil) .nil))))) (.seq (.seq (.meet false ⟨[(1,.keep),(65,.sl q3)],[(1,.keep)]⟩ .nil) j0) (.seq j1 (.seq (.seq .nil (.meet true ⟨[],[]⟩ (.loop ⟨[(1,.keep),(4,.sl q13)],[(1,.keep)]⟩ (.seq j0 j37)))) .nil))))))
def am2:bU:={ nargs:=1,pin:=⟨[(0,q35)],[]⟩,aF:=⟨[(0,(.agg [(.own 60000),(.own 60001),q0,q0])),(1,q13)],[(60000,(.arr false true false (.st 3))),(60001,q81)]⟩,bP:=2,aK:=[],news:=[60000,60001] }
def am3:fP:=(.seq .nil (.seq .nil (.seq (.seq .nil (.meet false ⟨kS [2,4] [],[(2,.keep),(4,.ob (.box [(.own 11),(.own 100004),q0,q0])),(11,.keep),(100004,.ob q81)]⟩ (.loop ⟨kS [1,2,4] [(5,.sl q13)],kO [1,2] [(4,.ob (.box [(.own 11),(.own 100004),q0,q0])),(11,.keep),(100004,.ob q81)]⟩ (.seq j0 (.seq (.seq (.seq .nil (.seq (.meet false ⟨kS [1,2,4,5,6] [(7,.sl (.one (.box 33 0)))],kO [1,2,4,6] (lO [(33,.ob (.box [(.p true false (.sl (.st 3))),(.p true false (.sl (.st 12))),q67,q0,q0,(.own 101700),q0]))] (kO [11,100004] [(101700,.ob (.deep false false (.st 5) [(0,(.st 6))]))]))⟩ .nil) (.seq .nil (.seq .nil (.seq (.seq .nil (.meet false ⟨kS [1,2,4,5,6,7] [],kO [1,2,4,6] (lO [(33,.ob (.box [(.p true false (.sl (.st 3))),(.p true false (.sl (.st 12))),q67,q0,q0,(.own 49),q0]))] (kO [11,100004] [(49,.ob (.deep true false (.st 5) [(0,(.st 6))]))]))⟩ j10)) .nil))))) .nil) .nil))))) j10)))
def aiQ:TypeId→Option Ty:=fun t=>(([(1000044,(.prod (.st 0) .bool)),(3000082,.bool),(3000053,.bool),(3000038,.bool),(3000018,.bool),(3000013,.bool)]:List (Nat×Ty))++wU).lookup t
def am4:bU:={ nargs:=1,pin:=⟨[(0,wW)],[(50000,Ny)]⟩,aF:=⟨[(0,(.agg [(.own 8),(.own 1008),q0,q0]))],[(50000,q4),(8,IX),(1008,(.arr false false true (.st 4)))]⟩,bP:=1,aK:=[50000],news:=[8,1008] }
def am5:fP:=j1
def sg8:bU:={ nargs:=1,pin:=⟨[(0,wW)],[(50000,Ny)]⟩,aF:=⟨[(0,(.agg [(.own 60001),(.p false true (.sl (.st 4))),q0,q0]))],[(50000,q4),(60001,IX)]⟩,bP:=1,aK:=[50000],news:=[60001] }
def an8:fP:=(.seq .nil j10)
--HAND 33 Srt
def am6:bU:={ nargs:=1,pin:=⟨[(0,q16)],[]⟩,aF:=⟨[(0,q53)],[(100001,q50)]⟩,bP:=1,aK:=[],news:=[100001] }
def am7:fP:=(.seq .nil (.seq .nil (.seq .nil (.seq (.seq .nil (.meet false ⟨[(4,.sl q53)],[(100001,.ob q50)]⟩ (.loop ⟨lS [(3,.keep),(4,.sl q53)] (kS [13,14] [(15,.sl q13)]),[(11,.keep),(100001,.ob q50)]⟩ (.seq .nil (.seq .nil (.seq (.seq (.seq .nil (.seq .nil (.seq .nil (.seq .nil (.meet false ⟨lS [(3,.keep),(4,.sl (.one (.own 101001)))] (kS [13,14,15] []),[(11,.keep),(101001,.ob q50)]⟩ (.loop ⟨lS [(3,.keep),(4,.sl (.one (.own 101001)))] (kS [5,13,14,15,25,26] [(27,.sl q13)]),[(11,.keep),(101001,.ob q50),(22,.keep)]⟩ (.seq .nil (.seq .nil (.seq (.seq (.seq .nil (.seq .nil (.meet false ⟨lS [(3,.keep),(4,.sl (.one (.own 102001)))] (kS [5,13,14,15,25,26,27] []),[(11,.keep),(102001,.ob q50),(22,.keep)]⟩ .nil))) .nil) .nil))))))))) .nil) .nil)))))) .nil))))
def am8:bU:={ nargs:=2,pin:=⟨[(0,q16),(1,q23)],[]⟩,aF:=⟨[(0,q63)],[(100000,q6)]⟩,bP:=1,aK:=[],news:=[100000] }
def am9:fP:=(.seq .nil (.seq .nil (.seq (.seq .nil (.meet false ⟨[(5,.sl q63)],[(100000,.ob q6)]⟩ (.loop ⟨lS [(5,.sl q63)] (kS [12,13] [(14,.sl q13)]),[(100000,.ob q6),(12,.keep)]⟩ (.seq .nil (.seq .nil (.seq (.seq (.seq .nil (.seq .nil (.meet false ⟨lS [(5,.sl (.one (.own 101000)))] (kS [12,13,14] []),[(101000,.ob q6),(12,.keep)]⟩ .nil))) .nil) .nil)))))) .nil)))
def sg6:bU:={ nargs:=0,pin:=⟨[],[]⟩,aF:=⟨[(0,q3)],[]⟩,bP:=1,aK:=[],news:=[] }
def an6:fP:=(.seq .nil (.seq .nil (.seq .nil (.seq (.meet false ⟨[(0,.sl q3)],[]⟩ .nil) .nil))))
def sg3:bU:={ nargs:=2,pin:=⟨[(0,q41),(1,q41)],[]⟩,aF:=⟨[(0,q3)],[]⟩,bP:=1,aK:=[],news:=[] }
def an3:fP:=(.seq .nil (.seq (.seq (.meet false ⟨kS [0,1] [(20,.sl q3)],[]⟩ .nil) j0) (.seq .nil (.seq (.seq .nil (.meet true ⟨[],[]⟩ (.loop ⟨kS [1,5] [(6,.sl q13)],kO [5,26] []⟩ (.seq j0 (.seq (.seq (.seq .nil (.seq .nil (.seq (.seq (.meet false ⟨kS [1,5,6,7,8] [(52,.sl q3)],kO [5,7,40,26] []⟩ .nil) j0) (.seq .nil (.seq .nil (.seq .nil (.meet true ⟨kS [1,5,6] [],kO [5,26] []⟩ (.loop ⟨kS [1,5,6,7,8,9] [(10,.sl q23),(11,.sl q13)],kO [5,7,40] [(56,.ob Vg),(26,.keep)]⟩ (.seq j0 (.seq (.seq (.seq .nil (.seq (.seq .nil (.meet true ⟨kS [1,5,6,7,8,9,10,11] [],kO [5,7,40,56,26] []⟩ (.loop ⟨kS [1,5,6,7,8,9,10,11] [(12,.sl q23)],kO [5,7,40,56,26] []⟩ (.seq j0 (.seq (.seq (.seq (.meet false ⟨kS [1,5,6,7,8,9,10,11,12] [(95,.sl q3)],kO [5,7,40,56,26] []⟩ .nil) j0) .nil) .nil))))) (.seq .nil (.seq (.seq (.meet false ⟨kS [1,5,6,7,8,9,11,13] [(111,.sl q3)],kO [5,7,40,56,102,26] []⟩ .nil) .nil) .nil)))) .nil) .nil)))))))))) .nil) .nil))))) .nil))))
end Go.Fg.Ytmgfidfcioiedaa

