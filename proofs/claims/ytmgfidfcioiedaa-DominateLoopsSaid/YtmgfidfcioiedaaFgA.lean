/-
  Shapes of the functions of the seat, printed by a program (wip/gen/Infer.lean).
-/
import Derived.Test.YtmgfidfcioiedaaFwT
import Derived.Test.YtmgfidfcioiedaaZd
namespace Go.Fg.Ytmgfidfcioiedaa
open Go.Fw Go.Proofs Go.Fw.Ytmgfidfcioiedaa
set_option linter.unusedVariables false
structure aV where
  kind:Int
  op:Int
  value:Int
  line:Int
  name:(List UInt8)
  args:(List aV)
def acH:aV:=aV.mk (0:Int) (0:Int) (0:Int) (0:Int) [] []
mutual
def qG:aV→List P
  |⟨y0,y1,y2,y3,y4,y5⟩=>[P.int .i64 y0,P.int .i64 y1,P.int .i64 y2,P.int .i64 y3,P.str ⟨List.toArray y4⟩,P.dY 6 (AZ y5)]
def AZ:List aV→List (List P)
  | []=>[]
  |x::l=>qG x::AZ l
end
theorem Ef :∀l,AZ l=List.map qG l
  | []=>rfl
  |x::l=>by rw [AZ,Ef l];rfl
theorem Tc (x:aV):qG x=[P.int .i64 (aV.kind x),P.int .i64 (aV.op x),P.int .i64 (aV.value x),P.int .i64 (aV.line x),P.str ⟨List.toArray (aV.name x)⟩,P.dY 6 (List.map qG (aV.args x))]:=by
  cases x
  rw [qG]
  simp only [Ef]
structure dI where
  kind:Int
  line:Int
  name:(List UInt8)
  exprs:(List aV)
  then':(List dI)
  else':(List dI)
def acI:dI:=dI.mk (0:Int) (0:Int) [] [] [] []
mutual
def qH:dI→List P
  |⟨y0,y1,y2,y3,y4,y5⟩=>[P.int .i64 y0,P.int .i64 y1,P.str ⟨List.toArray y2⟩,P.dY 6 (List.map qG y3),P.dY 6 (wX y4),P.dY 6 (wX y5)]
def wX:List dI→List (List P)
  | []=>[]
  |x::l=>qH x::wX l
end
theorem Eh :∀l,wX l=List.map qH l
  | []=>rfl
  |x::l=>by rw [wX,Eh l];rfl
theorem Td (x:dI):qH x=[P.int .i64 (dI.kind x),P.int .i64 (dI.line x),P.str ⟨List.toArray (dI.name x)⟩,P.dY 6 (List.map qG (dI.exprs x)),P.dY 6 (List.map qH (dI.then' x)),P.dY 6 (List.map qH (dI.else' x))]:=by
  cases x
  rw [qH]
  simp only [Eh]
structure au where
  name:(List UInt8)
  line:Int
  params:(List (List UInt8))
  body:(List dI)
def acJ:au:=au.mk [] (0:Int) [] []
def acK (x:au):List P:=[P.str ⟨List.toArray (au.name x)⟩,P.int .i64 (au.line x),P.dY 1 (List.map (fun (x:List UInt8)=>[P.str ⟨x.toArray⟩]) (au.params x)),P.dY 6 (List.map qH (au.body x))]
structure gK where
  from':Int
  to:Int
def acL:gK:=gK.mk (0:Int) (0:Int)
def acM (x:gK):List P:=[P.int .i64 (gK.from' x),P.int .i64 (gK.to x)]
structure fB where
  kind:Int
  op:Int
  dst:Int
  a:Int
  b:Int
  value:Int
  args:(List Int)
def ZU:fB:=fB.mk (0:Int) (0:Int) (0:Int) (0:Int) (0:Int) (0:Int) []
def Qb (x:fB):List P:=[P.int .i64 (fB.kind x),P.int .i64 (fB.op x),P.int .i64 (fB.dst x),P.int .i64 (fB.a x),P.int .i64 (fB.b x),P.int .i64 (fB.value x),P.dY 1 (List.map (fun (x:Int)=>[P.int .i64 x]) (fB.args x))]
structure aH where
  instrs:(List fB)
  aU:Int
  qI:Int
  dQ:Int
  bC:Int
  line:Int
  jl:Int
  iE:Int
def ZV:aH:=aH.mk [] (0:Int) (0:Int) (0:Int) (0:Int) (0:Int) (0:Int) (0:Int)
def Qc (x:aH):List P:=[P.dY 7 (List.map Qb (aH.instrs x)),P.int .i64 (aH.aU x),P.int .i64 (aH.qI x),P.int .i64 (aH.dQ x),P.int .i64 (aH.bC x),P.int .i64 (aH.line x),P.int .i64 (aH.jl x),P.int .i64 (aH.iE x)]
structure aO where
  name:(List UInt8)
  params:Int
  regs:Int
  blocks:(List aH)
def Qd:aO:=aO.mk [] (0:Int) (0:Int) []
def Qe (x:aO):List P:=[P.str ⟨List.toArray (aO.name x)⟩,P.int .i64 (aO.params x),P.int .i64 (aO.regs x),P.dY 8 (List.map Qc (aO.blocks x))]
structure aJ where
  name:(List UInt8)
  size:Int
def Xw:aJ:=aJ.mk [] (0:Int)
def Xx (x:aJ):List P:=[P.str ⟨List.toArray (aJ.name x)⟩,P.int .i64 (aJ.size x)]
def ZW:Nat→Type
  |0=>Unit
  |1=>Unit
  |2=>Unit
  |3=>aJ
  |4=>aO
  |5=>aH
  |6=>fB
  |7=>Unit
  |8=>Unit
  |9=>Unit
  |10=>Unit
  |11=>gK
  |12=>au
  |13=>dI
  |14=>aV
  |15=>Unit
  |16=>Unit
  |17=>Unit
  |18=>Unit
  |19=>Unit
  |20=>Unit
  |21=>Unit
  |_=>Unit
def reF:Nat→List Ty
  |0=>[]
  |1=>[]
  |2=>[]
  |3=>[.str,(.int .i64)]
  |4=>[.str,(.int .i64),(.int .i64),(.sl (.st 5))]
  |5=>[(.sl (.st 6)),(.int .i64),(.int .i64),(.int .i64),(.int .i64),(.int .i64),(.int .i64),(.int .i64)]
  |6=>[(.int .i64),(.int .i64),(.int .i64),(.int .i64),(.int .i64),(.int .i64),(.sl (.int .i64))]
  |7=>[]
  |8=>[]
  |9=>[]
  |10=>[]
  |11=>[(.int .i64),(.int .i64)]
  |12=>[.str,(.int .i64),(.sl .str),(.sl (.st 13))]
  |13=>[(.int .i64),(.int .i64),.str,(.sl (.st 14)),(.sl (.st 13)),(.sl (.st 13))]
  |14=>[(.int .i64),(.int .i64),(.int .i64),(.int .i64),.str,(.sl (.st 14))]
  |15=>[]
  |16=>[]
  |17=>[]
  |18=>[]
  |19=>[]
  |20=>[]
  |21=>[]
  |_=>[]
def alj:(n:Nat)→ZW n
  |0=>()
  |1=>()
  |2=>()
  |3=>Xw
  |4=>Qd
  |5=>ZV
  |6=>ZU
  |7=>()
  |8=>()
  |9=>()
  |10=>()
  |11=>acL
  |12=>acJ
  |13=>acI
  |14=>acH
  |15=>()
  |16=>()
  |17=>()
  |18=>()
  |19=>()
  |20=>()
  |21=>()
  |_+22=>()
def acN:(n:Nat)→ZW n→List (TP ZW)
  |0,x=>[]
  |1,x=>[]
  |2,x=>[]
  |3,x=>[⟨.str,aJ.name x⟩,⟨(.int .i64),aJ.size x⟩]
  |4,x=>[⟨.str,aO.name x⟩,⟨(.int .i64),aO.params x⟩,⟨(.int .i64),aO.regs x⟩,⟨(.sl (.st 5)),aO.blocks x⟩]
  |5,x=>[⟨(.sl (.st 6)),aH.instrs x⟩,⟨(.int .i64),aH.aU x⟩,⟨(.int .i64),aH.qI x⟩,⟨(.int .i64),aH.dQ x⟩,⟨(.int .i64),aH.bC x⟩,⟨(.int .i64),aH.line x⟩,⟨(.int .i64),aH.jl x⟩,⟨(.int .i64),aH.iE x⟩]
  |6,x=>[⟨(.int .i64),fB.kind x⟩,⟨(.int .i64),fB.op x⟩,⟨(.int .i64),fB.dst x⟩,⟨(.int .i64),fB.a x⟩,⟨(.int .i64),fB.b x⟩,⟨(.int .i64),fB.value x⟩,⟨(.sl (.int .i64)),fB.args x⟩]
  |7,x=>[]
  |8,x=>[]
  |9,x=>[]
  |10,x=>[]
  |11,x=>[⟨(.int .i64),gK.from' x⟩,⟨(.int .i64),gK.to x⟩]
  |12,x=>[⟨.str,au.name x⟩,⟨(.int .i64),au.line x⟩,⟨(.sl .str),au.params x⟩,⟨(.sl (.st 13)),au.body x⟩]
  |13,x=>[⟨(.int .i64),dI.kind x⟩,⟨(.int .i64),dI.line x⟩,⟨.str,dI.name x⟩,⟨(.sl (.st 14)),dI.exprs x⟩,⟨(.sl (.st 13)),dI.then' x⟩,⟨(.sl (.st 13)),dI.else' x⟩]
  |14,x=>[⟨(.int .i64),aV.kind x⟩,⟨(.int .i64),aV.op x⟩,⟨(.int .i64),aV.value x⟩,⟨(.int .i64),aV.line x⟩,⟨.str,aV.name x⟩,⟨(.sl (.st 14)),aV.args x⟩]
  |15,x=>[]
  |16,x=>[]
  |17,x=>[]
  |18,x=>[]
  |19,x=>[]
  |20,x=>[]
  |21,x=>[]
  |_+22,_=>[]
def ah7:(n:Nat)→List (TP ZW)→ZW n
  |0,ws=>()
  |1,ws=>()
  |2,ws=>()
  |3,ws=>aJ.mk (TP.get .str [] ws 0) (TP.get (.int .i64) (0:Int) ws 1)
  |4,ws=>aO.mk (TP.get .str [] ws 0) (TP.get (.int .i64) (0:Int) ws 1) (TP.get (.int .i64) (0:Int) ws 2) (TP.get (.sl (.st 5)) [] ws 3)
  |5,ws=>aH.mk (TP.get (.sl (.st 6)) [] ws 0) (TP.get (.int .i64) (0:Int) ws 1) (TP.get (.int .i64) (0:Int) ws 2) (TP.get (.int .i64) (0:Int) ws 3) (TP.get (.int .i64) (0:Int) ws 4) (TP.get (.int .i64) (0:Int) ws 5) (TP.get (.int .i64) (0:Int) ws 6) (TP.get (.int .i64) (0:Int) ws 7)
  |6,ws=>fB.mk (TP.get (.int .i64) (0:Int) ws 0) (TP.get (.int .i64) (0:Int) ws 1) (TP.get (.int .i64) (0:Int) ws 2) (TP.get (.int .i64) (0:Int) ws 3) (TP.get (.int .i64) (0:Int) ws 4) (TP.get (.int .i64) (0:Int) ws 5) (TP.get (.sl (.int .i64)) [] ws 6)
  |7,ws=>()
  |8,ws=>()
  |9,ws=>()
  |10,ws=>()
  |11,ws=>gK.mk (TP.get (.int .i64) (0:Int) ws 0) (TP.get (.int .i64) (0:Int) ws 1)
  |12,ws=>au.mk (TP.get .str [] ws 0) (TP.get (.int .i64) (0:Int) ws 1) (TP.get (.sl .str) [] ws 2) (TP.get (.sl (.st 13)) [] ws 3)
  |13,ws=>dI.mk (TP.get (.int .i64) (0:Int) ws 0) (TP.get (.int .i64) (0:Int) ws 1) (TP.get .str [] ws 2) (TP.get (.sl (.st 14)) [] ws 3) (TP.get (.sl (.st 13)) [] ws 4) (TP.get (.sl (.st 13)) [] ws 5)
  |14,ws=>aV.mk (TP.get (.int .i64) (0:Int) ws 0) (TP.get (.int .i64) (0:Int) ws 1) (TP.get (.int .i64) (0:Int) ws 2) (TP.get (.int .i64) (0:Int) ws 3) (TP.get .str [] ws 4) (TP.get (.sl (.st 14)) [] ws 5)
  |15,ws=>()
  |16,ws=>()
  |17,ws=>()
  |18,ws=>()
  |19,ws=>()
  |20,ws=>()
  |21,ws=>()
  |_+22,_=>()
def af2:(n:Nat)→ZW n→List P
  |0,x=>[]
  |1,x=>[]
  |2,x=>[]
  |3,x=>Xx x
  |4,x=>Qe x
  |5,x=>Qc x
  |6,x=>Qb x
  |7,x=>[]
  |8,x=>[]
  |9,x=>[]
  |10,x=>[]
  |11,x=>acM x
  |12,x=>acK x
  |13,x=>qH x
  |14,x=>qG x
  |15,x=>[]
  |16,x=>[]
  |17,x=>[]
  |18,x=>[]
  |19,x=>[]
  |20,x=>[]
  |21,x=>[]
  |_+22,_=>[]
theorem ah8 :∀n,(reF n).all Ty.word=true
  |0=>rfl
  |1=>rfl
  |2=>rfl
  |3=>rfl
  |4=>rfl
  |5=>rfl
  |6=>rfl
  |7=>rfl
  |8=>rfl
  |9=>rfl
  |10=>rfl
  |11=>rfl
  |12=>rfl
  |13=>rfl
  |14=>rfl
  |15=>rfl
  |16=>rfl
  |17=>rfl
  |18=>rfl
  |19=>rfl
  |20=>rfl
  |21=>rfl
  |_+22=>rfl
theorem af4 :∀(n:Nat) (x:ZW n),(acN n x).map (·.t)=reF n
  |0,x=>rfl
  |1,x=>rfl
  |2,x=>rfl
  |3,x=>rfl
  |4,x=>rfl
  |5,x=>rfl
  |6,x=>rfl
  |7,x=>rfl
  |8,x=>rfl
  |9,x=>rfl
  |10,x=>rfl
  |11,x=>rfl
  |12,x=>rfl
  |13,x=>rfl
  |14,x=>rfl
  |15,x=>rfl
  |16,x=>rfl
  |17,x=>rfl
  |18,x=>rfl
  |19,x=>rfl
  |20,x=>rfl
  |21,x=>rfl
  |_+22,_=>rfl
theorem af5 :∀(n:Nat) (ws:List (TP ZW)),ws.map (·.t)=reF n→acN n (ah7 n ws)=ws
  |0,ws,h=>by
    have e:=dB h
    subst e
    rfl
  |1,ws,h=>by
    have e:=dB h
    subst e
    rfl
  |2,ws,h=>by
    have e:=dB h
    subst e
    rfl
  |3,ws,h=>by
    obtain ⟨x0,JJ,e0,h0⟩:=aP h
    subst e0
    obtain ⟨x1,Rq,e1,h1⟩:=aP h0
    subst e1
    have e:=dB h1
    subst e
    rfl
  |4,ws,h=>by
    obtain ⟨x0,JJ,e0,h0⟩:=aP h
    subst e0
    obtain ⟨x1,Rq,e1,h1⟩:=aP h0
    subst e1
    obtain ⟨x2,ws2,e2,h2⟩:=aP h1
    subst e2
    obtain ⟨x3,ws3,e3,h3⟩:=aP h2
    subst e3
    have e:=dB h3
    subst e
    rfl
  |5,ws,h=>by
    obtain ⟨x0,JJ,e0,h0⟩:=aP h
    subst e0
    obtain ⟨x1,Rq,e1,h1⟩:=aP h0
    subst e1
    obtain ⟨x2,ws2,e2,h2⟩:=aP h1
    subst e2
    obtain ⟨x3,ws3,e3,h3⟩:=aP h2
    subst e3
    obtain ⟨x4,ws4,e4,h4⟩:=aP h3
    subst e4
    obtain ⟨x5,ws5,e5,h5⟩:=aP h4
    subst e5
    obtain ⟨x6,ws6,e6,h6⟩:=aP h5
    subst e6
    obtain ⟨x7,ws7,e7,h7⟩:=aP h6
    subst e7
    have e:=dB h7
    subst e
    rfl
  |6,ws,h=>by
    obtain ⟨x0,JJ,e0,h0⟩:=aP h
    subst e0
    obtain ⟨x1,Rq,e1,h1⟩:=aP h0
    subst e1
    obtain ⟨x2,ws2,e2,h2⟩:=aP h1
    subst e2
    obtain ⟨x3,ws3,e3,h3⟩:=aP h2
    subst e3
    obtain ⟨x4,ws4,e4,h4⟩:=aP h3
    subst e4
    obtain ⟨x5,ws5,e5,h5⟩:=aP h4
    subst e5
    obtain ⟨x6,ws6,e6,h6⟩:=aP h5
    subst e6
    have e:=dB h6
    subst e
    rfl
  |7,ws,h=>by
    have e:=dB h
    subst e
    rfl
  |8,ws,h=>by
    have e:=dB h
    subst e
    rfl
  |9,ws,h=>by
    have e:=dB h
    subst e
    rfl
  |10,ws,h=>by
    have e:=dB h
    subst e
    rfl
  |11,ws,h=>by
    obtain ⟨x0,JJ,e0,h0⟩:=aP h
    subst e0
    obtain ⟨x1,Rq,e1,h1⟩:=aP h0
    subst e1
    have e:=dB h1
    subst e
    rfl
  |12,ws,h=>by
    obtain ⟨x0,JJ,e0,h0⟩:=aP h
    subst e0
    obtain ⟨x1,Rq,e1,h1⟩:=aP h0
    subst e1
    obtain ⟨x2,ws2,e2,h2⟩:=aP h1
    subst e2
    obtain ⟨x3,ws3,e3,h3⟩:=aP h2
    subst e3
    have e:=dB h3
    subst e
    rfl
  |13,ws,h=>by
    obtain ⟨x0,JJ,e0,h0⟩:=aP h
    subst e0
    obtain ⟨x1,Rq,e1,h1⟩:=aP h0
    subst e1
    obtain ⟨x2,ws2,e2,h2⟩:=aP h1
    subst e2
    obtain ⟨x3,ws3,e3,h3⟩:=aP h2
    subst e3
    obtain ⟨x4,ws4,e4,h4⟩:=aP h3
    subst e4
    obtain ⟨x5,ws5,e5,h5⟩:=aP h4
    subst e5
    have e:=dB h5
    subst e
    rfl
  |14,ws,h=>by
    obtain ⟨x0,JJ,e0,h0⟩:=aP h
    subst e0
    obtain ⟨x1,Rq,e1,h1⟩:=aP h0
    subst e1
    obtain ⟨x2,ws2,e2,h2⟩:=aP h1
    subst e2
    obtain ⟨x3,ws3,e3,h3⟩:=aP h2
    subst e3
    obtain ⟨x4,ws4,e4,h4⟩:=aP h3
    subst e4
    obtain ⟨x5,ws5,e5,h5⟩:=aP h4
    subst e5
    have e:=dB h5
    subst e
    rfl
  |15,ws,h=>by
    have e:=dB h
    subst e
    rfl
  |16,ws,h=>by
    have e:=dB h
    subst e
    rfl
  |17,ws,h=>by
    have e:=dB h
    subst e
    rfl
  |18,ws,h=>by
    have e:=dB h
    subst e
    rfl
  |19,ws,h=>by
    have e:=dB h
    subst e
    rfl
  |20,ws,h=>by
    have e:=dB h
    subst e
    rfl
  |21,ws,h=>by
    have e:=dB h
    subst e
    rfl
  |_+22,ws,h=>by have e:=dB h;subst e;rfl
theorem af6 :∀(n:Nat) (x:ZW n),af2 n x=(acN n x).map fun w=>GV (iy reF) (nJ reF af2 (iy reF)) w.t w.x
  |0,x=>by kernel_rfl
  |1,x=>by kernel_rfl
  |2,x=>by kernel_rfl
  |3,x=>by kernel_rfl
  |4,x=>by kernel_rfl
  |5,x=>by kernel_rfl
  |6,x=>by kernel_rfl
  |7,x=>by kernel_rfl
  |8,x=>by kernel_rfl
  |9,x=>by kernel_rfl
  |10,x=>by kernel_rfl
  |11,x=>by kernel_rfl
  |12,x=>by kernel_rfl
  |13,x=>(Td x).trans (by kernel_rfl)
  |14,x=>(Tc x).trans (by kernel_rfl)
  |15,x=>by kernel_rfl
  |16,x=>by kernel_rfl
  |17,x=>by kernel_rfl
  |18,x=>by kernel_rfl
  |19,x=>by kernel_rfl
  |20,x=>by kernel_rfl
  |21,x=>by kernel_rfl
  |_+22,_=>rfl
def reG:Nat→Option ((e:Ty)×List (D ZW e))
  |_=>none
instance re:RE where
  C:=ZW
  F:=reF
  dflt:=alj
  un:=acN
  ro:=ah7
  er:=af2
  Fwd:=ah8
  aeG:=af4
  aeH:=af5
  aeI:=af6
  G:=reG
theorem mixed:Fit Try.prog:=⟨Fw.Ytmgfidfcioiedaa.afZ,fun _ _ _ _ h=>h.elim⟩
def wY:List (Nat×Ty):=[(3,(.int .i64)),(4,.bool),(5,(.int .u8)),(9,.str),(33,(.st 4)),(34,(.sl (.int .i64))),(44,(.st 5)),(65,(.st 11)),(74,(.st 3)),(78,(.st 6)),(85,(.st 12)),(104,(.st 13)),(132,(.st 14))]
def ety:TypeId→Option Ty:=fun t=>wY.lookup t
def kS (l:List Nat) (r:List (Nat×Md)):List (Nat×Md):=l.map (fun n=>(n,.keep))++r
def kO (l:List Nat) (r:List (Nat×Mo)):List (Nat×Mo):=l.map (fun n=>(n,.keep))++r
def lS (l r:List (Nat×Md)):=l++r
def lO (l r:List (Nat×Mo)):=l++r
abbrev q0:jm:=.p false false (.int .i64)
abbrev q1:jm:=.p true false (.int .i64)
abbrev q2:jm:=.p false true (.int .i64)
abbrev q3:jK:=.one (.p false false .bool)
abbrev q4:f_:=.box [(.p false true (.sl (.int .u8))),q0]
abbrev q5:f_:=.arr false false true (.int .i64)
abbrev q6:f_:=.arr false false false (.int .i64)
abbrev q7:f_:=.deep true true (.st 5) [(0,(.st 6))]
abbrev q8:f_:=.box [(.p false true (.sl (.st 3))),(.p false true (.sl (.st 12))),(.p false true (.sl .str)),q2,q2,(.own 50001),q2]
abbrev q9:f_:=.box [(.p false true (.sl (.st 3))),(.p false true (.sl (.st 12))),(.own 50001),q2,q2]
abbrev q10:jm:=.p true true (.sl (.st 12))
abbrev q11:f_:=.box [(.box 50001 0),(.own 50002),(.own 50003),(.own 50004),q2]
abbrev q12:jm:=.p true true (.sl (.st 3))
abbrev q13:jK:=.one q0
abbrev q14:f_:=.box [(.p false true (.sl (.st 3))),(.p false true (.sl (.st 12))),(.own 50001),q0,q0]
abbrev uS:f_:=.arr false false true .str
abbrev NJ:f_:=.box [(.p false true (.sl (.int .u8))),q2]
abbrev wZ:jK:=.one (.box 50000 0)
abbrev Vm:jm:=.p true true (.sl .str)
abbrev I7:f_:=.arr false false true (.st 3)
abbrev KA:f_:=.arr false false true (.st 12)
abbrev q22:f_:=.arr false true false (.int .i64)
abbrev q23:jK:=.one q1
abbrev q24:f_:=.deep false true (.st 5) [(0,(.st 6))]
abbrev q25:f_:=.box [q12,q10,Vm,q0,q0,(.own 1033),q0]
abbrev q26:f_:=.deep false false (.st 4) [(3,(.st 5))]
abbrev Xy:f_:=.arr false false false .bool
abbrev q29:f_:=.deep false false (.sl (.int .i64)) [(0,(.int .i64))]
abbrev q30:jm:=.p false false .str
abbrev q31:jK:=.agg [(.p true false (.sl (.st 3))),(.p true false (.sl (.st 4))),q1,q1]
abbrev q32:f_:=.box [q12,q10,Vm,q2,q2,(.own 100002),q2]
abbrev q33:jm:=.p true false (.sl (.int .i64))
abbrev q34:jm:=.p true false (.sl (.st 13))
abbrev q35:jK:=.agg [(.p true false (.sl (.st 3))),(.p true false (.sl (.st 12)))]
abbrev q36:f_:=.box [(.box 50001 0),(.own 50002),(.own 50003),(.own 50004),q0]
abbrev q37:f_:=.box [(.p false true (.sl (.st 3))),(.p false true (.sl (.st 12))),(.p false true (.sl .str)),q0,q0,(.own 50001),q0]
abbrev Tf:jm:=.p true false .str
abbrev q16:jK:=.agg [Tf,q1,q1,(.p true false (.sl (.st 5)))]
abbrev q40:f_:=.box [(.p false true .str),q2,q2,(.p false true (.sl (.st 5)))]
abbrev q41:jK:=.one (.p true false (.sl (.int .u8)))
abbrev q42:f_:=.arr false false true (.st 13)
abbrev q43:f_:=.box [(.fn 24 [50000,50002,50003,50004])]
abbrev q44:f_:=.arr false true true .str
abbrev q45:jm:=.p true false (.sl (.st 14))
abbrev q27:jK:=.agg [q1,q1,q1,q1,Tf,q45]
abbrev q46:jK:=.one (.own 55000)
abbrev q47:f_:=.box [q12,q10,(.own 100002),q0,q0]
abbrev q48:f_:=.box [q12,q10,(.own 100002),q2,q2]
abbrev q49:f_:=.arr false false false (.st 3)
abbrev q50:f_:=.arr false true false (.st 11)
abbrev q51:f_:=.arr false true true (.st 14)
abbrev q52:jm:=.p true true (.int .i64)
abbrev q53:jK:=.one (.own 100001)
abbrev q54:f_:=.box [q12,q10,Vm,q0,q0,(.own 60001),q0]
abbrev q56:f_:=.arr false false true (.st 14)
abbrev q57:f_:=.box [(.own 50001)]
abbrev q58:f_:=.box [(.own 38)]
abbrev q59:f_:=.arr false false true .bool
abbrev q60:jK:=.agg [q1,q1,q1,q1,q1,q1,q33]
abbrev q61:f_:=.box [(.own 21)]
abbrev q62:jK:=.one (.own 100002)
abbrev q63:jK:=.one (.own 100000)
abbrev q64:f_:=.arr false true false (.st 5)
abbrev q65:f_:=.arr false false false .str
abbrev q67:jm:=.p true false (.sl .str)
abbrev q68:f_:=.box [(.box 50000 0),(.own 101003),(.own 100701),(.own 100702),q0]
abbrev q69:f_:=.box [(.box 50000 0),(.own 103003),(.own 100701),(.own 100702),q0]
abbrev q70:f_:=.box [(.box 50000 0),(.own 103003),(.own 105004),(.own 100702),q0]
abbrev q71:f_:=.box [(.box 50000 0),(.own 103003),(.own 105004),(.own 109005),q0]
abbrev q72:jK:=.one (.p true false (.sl (.st 11)))
abbrev q73:f_:=.box [(.box 50001 0),(.own 50002),(.own 50003),(.own 100005),q2]
abbrev q74:jK:=.agg [q1,q1,Tf,q45,q34,q34]
abbrev q75:f_:=.box [(.p true false (.sl (.st 6))),q1,q1,q1,q1,q1,q1,q1]
abbrev q77:jK:=.agg [q1,q1,q1,q1]
abbrev q78:f_:=.arr false false false (.st 12)
abbrev q79:f_:=.arr false true false (.st 12)
abbrev q80:f_:=.arr false true true (.st 13)
abbrev q81:f_:=.arr false true false (.st 4)
abbrev j0:fQ:=.seq .nil .nil
abbrev j1:fQ:=.seq .nil j0
abbrev j2:JT:=⟨[],[(50000,.ob q25),(1033,.ob q7)]⟩
abbrev j4:JT:=⟨kS [0,4] [],lO [(50000,.ob q11),(50001,.ob q4)] (kO [50002,50003,4,50004] [])⟩
abbrev j5:JT:=⟨kS [0,3,4] [],lO [(50000,.ob q9)] (kO [50001,3,4] [])⟩
abbrev j6:JT:=⟨kS [0,1,5,6,7] [],lO [(50000,.ob q47)] (kO [100001,7,100002,101003] [])⟩
abbrev j7:fQ:=.seq j0 .nil
abbrev j8:fQ:=.seq .nil j1
abbrev j9:JT:=⟨kS [0,3,4] [],lO [(50000,.ob q14)] (kO [50001,3,4] [])⟩
abbrev j10:fQ:=.seq j1 .nil
abbrev j3:fQ:=.seq j0 (.seq j10 .nil)
abbrev j12:fQ:=.seq .nil (.seq .nil (.seq (.seq .nil (.meet false ⟨[(3,.sl q13)],[]⟩ (.loop ⟨[(1,.keep),(3,.sl q13),(4,.sl q13)],[(1,.keep)]⟩ (.seq j0 j0)))) .nil))
abbrev j13:JT:=⟨[],[(55000,.ob q5)]⟩
abbrev j15:JT:=⟨kS [3,7,8,10,11,13] (lS [(14,.sl q13)] (kS [51,52,53,60,61,62] [])),lO [(18,.keep),(8,.ob q58),(4,.ob q61)] (kO [38,21] [])⟩
abbrev j18:fQ:=.seq .nil (.seq (.seq .nil (.meet true ⟨[],[]⟩ (.loop ⟨kS [1,2] [(5,.sl q13)],[(2,.keep)]⟩ j3))) .nil)
abbrev j19:JT:=⟨kS [1,4] [(5,.sl q3)],[(1,.keep)]⟩
abbrev j20:fQ:=.seq .nil (.meet false ⟨kS [1,2,3,4,7,8,9] [],kO [1,2,11,14,7] [(9,.ob q75),(103005,.keep)]⟩ .nil)
abbrev j21:fQ:=.seq .nil (.seq (.seq .nil (.meet true ⟨[],[]⟩ (.loop ⟨kS [0,1] [(5,.sl q13)],[]⟩ j3))) .nil)
abbrev j22:JT:=⟨lS [(0,.sl (.one q52)),(1,.sl (.one q52))] (kS [2,3] []),kO [50000,50001,50002,50003] []⟩
abbrev j23:JT:=⟨kS [3,7,8,10] [(11,.sl q3)],[(18,.keep),(8,.ob q58),(4,.ob q61),(38,.ob q6),(21,.keep)]⟩
abbrev j25:JT:=⟨kS [0,2,3,4,7,8] [],lO [(50000,.ob q4)] (kO [2,3] [(100004,.ob q26),(19,.keep)])⟩
abbrev j26:JT:=⟨[],[(50000,.ob q32),(100002,.ob q7)]⟩
abbrev j27:JT:=⟨[(1,.keep),(3,.sl q3)],[(1,.keep)]⟩
abbrev j28:JT:=⟨[(1,.keep),(6,.sl q3)],[(1,.keep)]⟩
abbrev j29:fQ:=.seq .nil (.seq .nil j10)
abbrev j30:fQ:=.seq .nil (.seq (.meet false ⟨[(6,.sl q3)],[]⟩ .nil) .nil)
abbrev j32:fQ:=.seq .nil j8
abbrev j33:fQ:=.seq .nil j7
abbrev j34:JT:=⟨kS [0,4] [],kO [50000,50001,50002,50003,4,50004] []⟩
abbrev j37:fQ:=.seq (.seq j8 .nil) .nil
abbrev j39:JT:=⟨kS [3,4,5,6,7] [],kO [3,5,42,20] []⟩
abbrev j40:JT:=⟨[],[(50000,.ob q14),(50001,.keep)]⟩
def sg7:bT:={ nargs:=2,pin:=⟨[(0,q41),(1,q23)],[]⟩,aG:=⟨[(0,(.one (.box 14 0)))],[(14,(.box [(.p true false (.sl (.int .u8))),q0]))]⟩,bM:=1,aN:=[],news:=[14] }
def an7:fQ:=(.seq .nil (.seq (.seq .nil (.meet false ⟨[(0,.sl q41)],[]⟩ .nil)) .nil))
def alv:bT:={ nargs:=1,pin:=⟨[(0,q77)],[]⟩,aG:=⟨[(0,(.one (.own 60000)))],[(60000,q22)]⟩,bM:=1,aN:=[],news:=[60000] }
def alx:fQ:=(.seq .nil (.seq (.seq (.seq (.meet false j27 .nil) (.seq .nil (.seq (.meet false ⟨[(1,.keep),(19,.sl q3)],[(1,.keep)]⟩ .nil) j0))) .nil) .nil))
def aly:bT:={ nargs:=2,pin:=⟨[(0,(.one q33)),(1,q23)],[]⟩,aG:=⟨[(0,q3)],[]⟩,bM:=1,aN:=[],news:=[] }
def alz:fQ:=j21
def aij:bT:={ nargs:=2,pin:=⟨[(0,wZ),(1,q23)],[(50000,NJ)]⟩,aG:=⟨[(0,q13)],[(50000,q4)]⟩,bM:=1,aN:=[50000],news:=[] }
def alA:fQ:=(.seq .nil (.seq (.seq (.meet false ⟨kS [0,1] [(19,.sl q3)],[(50000,.keep)]⟩ .nil) j0) j29))
def alB:bT:={ nargs:=4,pin:=⟨[(0,q23),(1,q23),(2,wZ),(3,(.one (.box 50002 0)))],[(50000,q57),(50002,(.box [(.own 50003)])),(50001,q5),(50003,q5)]⟩,aG:=⟨[(0,q13)],[(50000,q57),(50001,q5),(50002,(.box [(.own 50003)])),(50003,q5)]⟩,bM:=1,aN:=[50000,50001,50002,50003],news:=[],kept:=[50001,50003] }
def alC:fQ:=(.seq .nil (.seq (.meet false ⟨[(0,.sl (.one q52))],kO [50000,50001,50002,50003] []⟩ (.loop j22 (.seq j0 (.seq (.seq .nil (.meet false j22 .nil)) .nil)))) .nil))
def alD:bT:={ nargs:=3,pin:=⟨[(0,(.one q33)),(1,q23),(2,q23)],[]⟩,aG:=⟨[(0,q3)],[]⟩,bM:=1,aN:=[],news:=[] }
def alE:fQ:=(.seq .nil (.seq (.meet false ⟨[(2,.sl q23)],[]⟩ (.loop ⟨kS [0,1] [(2,.sl q23)],[]⟩ (.seq (.seq (.meet false ⟨kS [0,1,2] [(13,.sl q3)],[]⟩ .nil) .nil) .nil))) .nil))
def alF:bT:={ nargs:=1,pin:=⟨[(0,q77)],[]⟩,aG:=⟨[(0,(.one (.own 60000)))],[(60000,q22)]⟩,bM:=1,aN:=[],news:=[60000] }
def alG:fQ:=(.seq .nil (.seq (.seq (.seq (.seq .nil (.meet false j27 (.seq .nil (.meet false j27 .nil)))) j8) .nil) .nil))
def alH:bT:={ nargs:=1,pin:=⟨[(0,q46)],[(55000,q5)]⟩,aG:=⟨[],[(55000,q5)]⟩,bM:=0,aN:=[55000],news:=[] }
def alI:fQ:=(.seq .nil (.meet false j13 (.loop ⟨[(0,.keep),(2,.sl q13),(3,.sl q13)],[(55000,.ob q5)]⟩ (.seq j0 j0))))
def aik:bT:={ nargs:=1,pin:=⟨[(0,q23)],[]⟩,aG:=⟨[(0,(.one q30))],[]⟩,bM:=1,aN:=[],news:=[] }
def alJ:fQ:=j29
def alK:bT:={ nargs:=3,pin:=⟨[(0,wZ),(1,q31),(2,q16)],[(50000,NJ)]⟩,aG:=⟨[(0,(.agg [q0,q0,q0,q0,q0,q0,(.own 60001)]))],[(50000,q4),(60001,q6)]⟩,bM:=1,aN:=[50000],news:=[60001] }
def alL:fQ:=(.seq .nil (.seq .nil (.seq (.seq .nil (.seq (.seq .nil (.meet false ⟨kS [0,4,6,7] [],lO [(50000,.ob q4)] (kO [4,6] [(7,.ob (.box [q0,q0,q0,q0,q0,q0,(.own 110004)])),(110004,.ob q6)])⟩ (.seq .nil (.seq .nil (.meet false ⟨kS [0,4,6,7] [],lO [(50000,.ob q4)] (kO [4,6] [(7,.ob (.box [q0,q0,q0,q0,q0,q0,(.own 109004)])),(109004,.ob q6)])⟩ (.seq .nil (.seq .nil (.meet false ⟨kS [0,4,6,7] [],lO [(50000,.ob q4)] (kO [4,6] [(7,.ob (.box [q0,q0,q0,q0,q0,q0,(.own 108004)])),(108004,.ob q6)])⟩ (.seq .nil (.seq (.seq .nil (.meet false ⟨kS [0,4,5,6,7,27] [(46,.sl q3)],kO [50000,4,5,6,7] []⟩ .nil)) (.meet false ⟨kS [0,4,6,7] [],lO [(50000,.ob q4)] (kO [4,6] [(7,.ob (.box [q0,q0,q0,q0,q0,q0,(.own 107004)])),(107004,.ob q6)])⟩ (.seq .nil (.seq .nil (.meet false ⟨kS [0,4,6,7] [],lO [(50000,.ob q4)] (kO [4,6] [(7,.ob (.box [q0,q0,q0,q0,q0,q0,(.own 106004)])),(106004,.ob q6)])⟩ (.seq (.seq .nil (.seq .nil (.meet false ⟨kS [0,4,6,7] [],lO [(50000,.ob q4)] (kO [4,6] [(7,.ob (.box [q0,q0,q0,q0,q0,q0,(.own 101005)])),(101005,.ob q6)])⟩ (.loop ⟨kS [0,4,5,6,7] [(8,.sl q13)],lO [(50000,.ob q4)] (kO [4,5,6] [(7,.ob (.box [q0,q0,q0,q0,q0,q0,(.own 101005)])),(101005,.ob q6)])⟩ (.seq j0 j0))))) (.seq .nil (.meet false ⟨kS [0,4,6,7] [],lO [(50000,.ob q4)] (kO [4,6] [(7,.ob (.box [q0,q0,q0,q0,q0,q0,(.own 105004)])),(105004,.ob q6)])⟩ (.seq (.seq .nil (.meet false ⟨kS [0,4,6,7] [],lO [(50000,.ob q4)] (kO [4,6] [(7,.ob (.box [q0,q0,q0,q0,q0,q0,(.own 103005)])),(103005,.ob q6)])⟩ (.loop ⟨kS [0,4,5,6,7] [(9,.sl q13)],lO [(50000,.ob q4)] (kO [4,5,6] [(7,.ob (.box [q0,q0,q0,q0,q0,q0,(.own 103005)])),(103005,.ob q6)])⟩ (.seq j0 j0)))) .nil)))))))))))))))))) .nil)) (.seq (.seq (.meet false ⟨kS [0,4,6,7] [(107,.sl q3)],lO [(50000,.ob q4)] (kO [4,6,7,110004] [])⟩ .nil) j0) .nil))))
def alM:bT:={ nargs:=2,pin:=⟨[(0,wZ),(1,q23)],[(50000,q8),(50001,q24)]⟩,aG:=⟨[(0,q13)],[(50000,(.box [(.p false true (.sl (.st 3))),(.p false true (.sl (.st 12))),(.p false true (.sl .str)),q0,q0,(.own 30),q0])),(30,q7)]⟩,bM:=1,aN:=[50000],news:=[30] }
def alN:fQ:=j8
def ail:TypeId→Option Ty:=fun t=>(([(1000044,(.prod (.st 0) .bool)),(3000009,.bool)]:List (Nat×Ty))++wY).lookup t
def alO:bT:={ nargs:=2,pin:=⟨[(0,wZ),(1,q60)],[(50000,q8),(50001,q24)]⟩,aG:=⟨[],[(50000,q37),(50001,q7)]⟩,bM:=0,aN:=[50000,50001],news:=[] }
def alP:fQ:=.nil
def ain:TypeId→Option Ty:=fun t=>(([(1000044,(.prod (.st 0) .bool))]:List (Nat×Ty))++wY).lookup t
def alQ:bT:={ nargs:=3,pin:=⟨[(0,wZ),(1,q23),(2,q77)],[(50000,q8),(50001,q24)]⟩,aG:=⟨[],[(50000,q37),(50001,q7)]⟩,bM:=0,aN:=[50000,50001],news:=[] }
def alR:fQ:=.nil
def aio:TypeId→Option Ty:=fun t=>(([(1000044,(.prod (.st 0) .bool))]:List (Nat×Ty))++wY).lookup t
def alS:bT:={ nargs:=1,pin:=⟨[(0,q16)],[]⟩,aG:=⟨[(0,(.one (.own 11)))],[(11,Xy)]⟩,bM:=1,aN:=[],news:=[11] }
def alT:fQ:=(.seq .nil (.seq .nil (.seq j1 (.seq .nil (.seq .nil (.seq (.meet false ⟨[(3,.keep)],[(11,.ob Xy)]⟩ (.loop ⟨kS [1,3] [(4,.sl q62)],[(1,.keep),(11,.ob Xy),(100002,.ob q22)]⟩ (.seq j0 (.seq (.seq .nil (.seq .nil (.seq .nil (.seq .nil (.meet false ⟨kS [1,3] [(4,.sl (.one (.own 101002)))],[(1,.keep),(11,.ob Xy),(101002,.ob q22)]⟩ (.loop ⟨kS [1,3] [(4,.sl (.one (.own 101002))),(6,.keep),(7,.sl q13)],[(1,.keep),(11,.ob Xy),(101002,.ob q22),(39,.keep)]⟩ (.seq j0 (.seq (.seq (.seq .nil (.meet false ⟨kS [1,3] (lS [(4,.sl (.one (.own 102002)))] (kS [6,7] [])),[(1,.keep),(11,.ob Xy),(102002,.ob q22),(39,.keep)]⟩ j0)) .nil) .nil)))))))) .nil)))) .nil))))))
def aip:TypeId→Option Ty:=fun t=>(([(2000000,.bool)]:List (Nat×Ty))++wY).lookup t
def aiq:bT:={ nargs:=2,pin:=⟨[(0,q46),(1,(.one q34))],[(55000,uS)]⟩,aG:=⟨[(0,q63)],[(100000,q44)]⟩,bM:=1,aN:=[],news:=[100000] }
def alU:fQ:=(.seq .nil (.seq (.seq .nil (.meet false ⟨[(0,.sl q63)],[(100000,.ob q44)]⟩ (.loop ⟨[(0,.sl q63),(1,.keep),(5,.sl q13)],[(100000,.ob q44)]⟩ (.seq j0 (.seq (.seq (.seq (.seq .nil (.meet false ⟨lS [(0,.sl (.one (.own 101000)))] (kS [1,5] []),[(101000,.ob q44)]⟩ .nil)) .nil) .nil) .nil))))) .nil))
def alV:bT:={ nargs:=2,pin:=⟨[(0,q35),(1,(.one Tf))],[]⟩,aG:=⟨[(0,q13)],[]⟩,bM:=1,aN:=[],news:=[] }
def alW:fQ:=j18
def alX:bT:={ nargs:=2,pin:=⟨[(0,q35),(1,(.one Tf))],[]⟩,aG:=⟨[(0,q13)],[]⟩,bM:=1,aN:=[],news:=[] }
def alY:fQ:=j18
def air:bT:={ nargs:=1,pin:=⟨[(0,(.one q34))],[]⟩,aG:=⟨[(0,q13)],[]⟩,bM:=1,aN:=[],news:=[] }
def alZ:fQ:=(.seq .nil (.seq .nil (.seq (.seq .nil (.meet false ⟨[(3,.sl q13)],[]⟩ (.loop ⟨[(0,.keep),(3,.sl q13),(4,.sl q13)],[]⟩ (.seq j0 j0)))) .nil)))
def al0:bT:={ nargs:=2,pin:=⟨[(0,(.one q67)),(1,(.one Tf))],[]⟩,aG:=⟨[(0,q3)],[]⟩,bM:=1,aN:=[],news:=[] }
def al1:fQ:=j21
def al2:bT:={ nargs:=2,pin:=⟨[(0,q35),(1,(.one Tf))],[]⟩,aG:=⟨[(0,q13)],[]⟩,bM:=1,aN:=[],news:=[] }
def al3:fQ:=(.seq .nil (.seq (.seq .nil (.seq .nil (.seq j10 .nil))) j10))
def al4:bT:={ nargs:=2,pin:=⟨[(0,wZ),(1,(.one Tf))],[(50000,q8),(50001,q24)]⟩,aG:=⟨[(0,q13)],[(50000,q37),(50001,q24)]⟩,bM:=1,aN:=[50000,50001],news:=[],kept:=[50001] }
def al5:fQ:=(.seq .nil (.seq (.seq .nil (.meet true ⟨[],kO [50000,50001] []⟩ (.loop ⟨kS [0,1] [(5,.sl q13)],kO [50000,50001] []⟩ j3))) .nil))
def ais:TypeId→Option Ty:=fun t=>(([(1000044,(.prod (.st 0) .bool)),(3000010,.bool)]:List (Nat×Ty))++wY).lookup t
def al6:bT:={ nargs:=1,pin:=⟨[(0,q16)],[]⟩,aG:=⟨[(0,q13)],[]⟩,bM:=1,aN:=[],news:=[] }
def al7:fQ:=j12
def al8:bT:={ nargs:=2,pin:=⟨[(0,q16),(1,q77)],[]⟩,aG:=⟨[(0,q13)],[]⟩,bM:=1,aN:=[],news:=[] }
def al9:fQ:=(.seq .nil (.seq (.seq (.meet false ⟨kS [2,3] [(14,.sl q3)],kO [2,3] []⟩ .nil) j0) (.seq (.seq (.meet false ⟨kS [2,3] [(29,.sl q3)],kO [2,3] []⟩ .nil) j0) (.seq .nil (.seq (.seq .nil (.meet true ⟨[],[]⟩ (.loop ⟨kS [2,5] [(6,.sl q13)],kO [2,31] []⟩ (.seq j0 (.seq (.seq (.seq (.meet false ⟨kS [2,5,6] [(52,.sl q3)],kO [2,31] []⟩ .nil) j0) .nil) .nil))))) .nil)))))
def ait:bT:={ nargs:=1,pin:=⟨[(0,q27)],[]⟩,aG:=⟨[(0,q13)],[]⟩,bM:=1,aN:=[],news:=[] }
def al_:fQ:=j12
def ama:bT:={ nargs:=3,pin:=⟨[(0,wZ),(1,q23),(2,q23)],[(50000,q9),(50001,uS)]⟩,aG:=⟨[],[(50000,q14),(50001,uS)]⟩,bM:=0,aN:=[50000,50001],news:=[],kept:=[50001] }
def amb:fQ:=(.seq .nil (.meet false ⟨[],[(50000,.ob (.box [(.p false true (.sl (.st 3))),(.p false true (.sl (.st 12))),(.own 50001),q52,q52])),(50001,.keep)]⟩ .nil))
def amc:bT:={ nargs:=2,pin:=⟨[(0,wZ),(1,(.one Tf))],[(50000,q9),(50001,uS)]⟩,aG:=⟨[(0,q13)],[(50000,q14),(50001,uS)]⟩,bM:=1,aN:=[50000,50001],news:=[],kept:=[50001] }
def amd:fQ:=(.seq .nil j10)
def aiu:bT:={ nargs:=3,pin:=⟨[(0,wZ),(1,q27),(2,q23)],[(50000,q8),(50001,q24)]⟩,aG:=⟨[],[(50000,q54),(60001,q7)]⟩,bM:=0,aN:=[50000],news:=[60001] }
def ame:fQ:=(.seq .nil (.seq .nil (.seq (.seq (.meet false ⟨kS [0,2,4] [(24,.sl q3)],kO [50000,4,50001] []⟩ .nil) j0) (.seq .nil (.seq .nil (.seq (.seq .nil (.meet false j2 (.seq .nil (.seq .nil (.meet false j2 (.seq .nil (.seq .nil (.meet false j2 (.seq .nil (.seq .nil (.meet false j2 (.seq .nil (.seq .nil (.meet false j2 (.seq .nil (.seq .nil (.meet false j2 (.seq .nil (.seq .nil (.meet false j2 (.seq .nil (.seq .nil (.meet false j2 (.seq .nil (.seq .nil (.meet false j2 (.seq .nil (.seq .nil (.meet false j2 .nil))))))))))))))))))))))))))))) .nil))))))
def aiv:TypeId→Option Ty:=fun t=>(([(1000044,(.prod (.st 0) .bool))]:List (Nat×Ty))++wY).lookup t
def aiw:bT:={ nargs:=3,pin:=⟨[(0,wZ),(1,q27),(2,q23)],[(50000,q8),(50001,q24)]⟩,aG:=⟨[],[(50000,(.box [q12,q10,Vm,q0,q0,(.own 61),q0])),(61,q7)]⟩,bM:=0,aN:=[50000],news:=[61] }
def amf:fQ:=(.seq .nil (.seq .nil (.seq .nil (.seq .nil (.seq .nil (.seq .nil (.seq .nil (.seq .nil (.seq .nil (.seq .nil (.seq .nil (.seq .nil (.seq .nil (.seq (.seq .nil (.meet false ⟨kS [0,10,11,12] [],[(50000,.ob (.box [q12,q10,Vm,q0,q0,(.own 61),q0])),(61,.ob q7)]⟩ .nil)) .nil))))))))))))))
def aix:TypeId→Option Ty:=fun t=>(([(1000044,(.prod (.st 0) .bool))]:List (Nat×Ty))++wY).lookup t
def aiy:bT:={ nargs:=3,pin:=⟨[(0,wZ),(1,(.one q45)),(2,q23)],[(50000,q8),(50001,q24)]⟩,aG:=⟨[(0,q53)],[(50000,(.box [q12,q10,Vm,q0,q0,(.own 100002),q0])),(100001,q6),(100002,q7)]⟩,bM:=1,aN:=[50000],news:=[100001,100002] }
def amg:fQ:=(.seq .nil (.seq .nil (.seq (.seq .nil (.meet false ⟨[(7,.sl q53)],[(50000,.ob q32),(100001,.ob q6),(100002,.ob q7)]⟩ (.loop ⟨kS [0,1,2] [(7,.sl q53),(8,.sl q13)],[(50000,.ob q32),(100001,.ob q6),(100002,.ob q7)]⟩ (.seq j0 j7)))) .nil)))
def aiz:TypeId→Option Ty:=fun t=>(([(1000044,(.prod (.st 0) .bool))]:List (Nat×Ty))++wY).lookup t
def amh:bT:={ nargs:=1,pin:=⟨[(0,q60)],[]⟩,aG:=⟨[(0,(.one (.own 60000)))],[(60000,q22)]⟩,bM:=1,aN:=[],news:=[60000] }
def ami:fQ:=(.seq .nil (.seq (.seq .nil (.seq (.seq (.seq .nil (.meet false j19 (.seq .nil (.seq .nil (.meet false j19 (.seq .nil (.seq .nil (.meet false j19 (.seq .nil (.seq .nil (.meet false j19 .nil))))))))))) (.seq .nil (.seq (.seq .nil (.meet false ⟨kS [1,4] [(14,.sl q3)],[(1,.keep)]⟩ .nil)) (.seq .nil j32)))) .nil)) .nil))
def amj:bT:={ nargs:=1,pin:=⟨[(0,q60)],[]⟩,aG:=⟨[(0,q13),(1,q3)],[]⟩,bM:=2,aN:=[],news:=[] }
def amk:fQ:=(.seq .nil (.seq (.seq .nil (.seq (.seq (.seq .nil (.meet false j28 (.seq .nil (.seq .nil (.meet false j28 (.seq .nil (.seq .nil (.meet false j28 .nil)))))))) j0) .nil)) (.seq (.seq (.meet false ⟨[(1,.keep),(18,.sl q3)],[(1,.keep)]⟩ .nil) j0) .nil)))
def aml:bT:={ nargs:=3,pin:=⟨[(0,q31),(1,q23),(2,(.one (.p true false .bool)))],[]⟩,aG:=⟨[(0,q3)],[]⟩,bM:=1,aN:=[],news:=[] }
def amm:fQ:=j30
def amn:bT:={ nargs:=4,pin:=⟨[(0,wZ),(1,q27),(2,q23),(3,q23)],[(50000,q9),(50001,uS)]⟩,aG:=⟨[],[(50000,q14),(50001,uS)]⟩,bM:=0,aN:=[50000,50001],news:=[],kept:=[50001] }
def amo:fQ:=(.seq .nil (.seq .nil (.seq (.seq .nil (.meet false j40 (.seq .nil (.seq (.meet false ⟨kS [0,5] [(20,.sl q3)],kO [50000,50001,5] []⟩ .nil) (.meet false j40 .nil))))) .nil)))
def amq:bT:={ nargs:=3,pin:=⟨[(0,wZ),(1,(.one Tf)),(2,q23)],[(50000,q9),(50001,uS)]⟩,aG:=⟨[(0,(.agg [q0,q0,q0,q0,q30,.bD]))],[(50000,q14),(50001,uS)]⟩,bM:=1,aN:=[50000,50001],news:=[],kept:=[50001] }
def amr:fQ:=(.seq .nil (.seq .nil (.seq (.seq .nil (.meet false ⟨kS [1,2,6] [(7,.sl q13)],kO [50000,50001,6] []⟩ .nil)) .nil)))
def aiA:bT:={ nargs:=2,pin:=⟨[(0,wZ),(1,q27)],[(50000,q9),(50001,uS)]⟩,aG:=⟨[(0,(.agg [q0,q0,q0,q0,q30,(.own 60002)]))],[(50000,q14),(50001,uS),(60002,q51)]⟩,bM:=1,aN:=[50000,50001],news:=[60002],kept:=[50001] }
def ams:fQ:=(.seq .nil (.seq (.seq .nil (.seq (.seq .nil (.seq j0 (.seq .nil (.meet true j5 (.seq .nil (.seq .nil (.meet true j5 (.seq .nil (.seq .nil (.meet true j5 (.seq (.seq .nil (.seq (.seq .nil (.meet true j9 (.seq .nil (.seq .nil (.meet true j9 (.seq .nil (.seq .nil (.seq (.seq .nil (.meet false j9 .nil)) (.seq (.seq .nil (.meet false j9 .nil)) .nil))))))))) .nil)) (.seq .nil (.meet false j5 (.seq (.seq .nil (.meet false j5 .nil)) .nil)))))))))))))) .nil)) j0))
def aiB:bT:={ nargs:=2,pin:=⟨[(0,wZ),(1,(.one q45))],[(50000,q9),(50001,uS)]⟩,aG:=⟨[(0,q62)],[(50000,q14),(50001,uS),(100002,q51)]⟩,bM:=1,aN:=[50000,50001],news:=[100002],kept:=[50001] }
def amu:fQ:=(.seq .nil (.seq .nil (.seq (.seq .nil (.meet false ⟨[(5,.sl q62)],[(50000,.ob q9),(50001,.keep),(100002,.ob q51)]⟩ (.loop ⟨kS [0,1] [(5,.sl q62),(6,.sl q13)],[(50000,.ob q9),(50001,.keep),(100002,.ob q51)]⟩ (.seq j0 j0)))) .nil)))
def amv:bT:={ nargs:=3,pin:=⟨[(0,q23),(1,(.one Tf)),(2,q27)],[]⟩,aG:=⟨[(0,(.agg [q0,q0,q30,(.own 10),.bD,.bD]))],[(10,(.arr false true false (.st 14)))]⟩,bM:=1,aN:=[],news:=[10] }
def amw:fQ:=j0
def amx:bT:={ nargs:=2,pin:=⟨[(0,wZ),(1,(.one (.p true false .bool)))],[(50000,q11),(50001,NJ),(50002,I7),(50003,KA),(50004,uS)]⟩,aG:=⟨[(0,(.one q30)),(1,q3)],[(50000,q36),(50001,q4),(50002,I7),(50003,KA),(50004,uS)]⟩,bM:=2,aN:=[50000,50001,50002,50003,50004],news:=[],kept:=[50002,50003,50004] }
def amy:fQ:=(.seq .nil (.seq .nil (.seq (.seq .nil (.meet false ⟨[(0,.keep),(6,.sl (.one (.own 100005)))],kO [50000,50001,50002,50003,50004] [(100005,.ob uS)]⟩ (.loop ⟨kS [0,1] [(6,.sl (.one (.own 100005))),(7,.sl q13)],kO [50000,50001,50002,50003,50004] [(100005,.ob uS)]⟩ (.seq j0 (.seq (.seq (.seq .nil (.meet false ⟨kS [0,1] [(6,.sl (.one (.own 101005))),(7,.keep)],kO [50000,50001,50002,50003,50004] [(101005,.ob uS)]⟩ .nil)) .nil) .nil))))) j10)))
def aiC:bT:={ nargs:=0,pin:=⟨[],[]⟩,aG:=⟨[(0,(.one (.own 1)))],[(1,q65)]⟩,bM:=1,aN:=[],news:=[1] }
def aiD:fQ:=j0
def aiE:bT:={ nargs:=1,pin:=⟨[(0,wZ)],[(50000,q11),(50001,NJ),(50002,I7),(50003,KA),(50004,uS)]⟩,aG:=⟨[(0,(.agg [q0,q0,q0,q0,q30,.bD]))],[(50000,q36),(50001,q4),(50002,I7),(50003,KA),(50004,uS)]⟩,bM:=1,aN:=[50000,50001,50002,50003,50004],news:=[],kept:=[50002,50003,50004] }
def aiF:fQ:=(.seq .nil (.seq .nil (.seq (.seq .nil (.seq (.seq .nil (.seq .nil (.seq .nil (.meet true ⟨kS [2,3] [],lO [(50000,.ob q11),(50001,.ob q4)] (kO [50002,50003,50004,2] [])⟩ (.seq j8 (.seq (.seq .nil (.meet false ⟨kS [0,2,3] [(26,.sl q3)],kO [50000,50001,50002,50003,50004,2] []⟩ .nil)) (.meet true ⟨kS [2,3] [],kO [50000,50001,50002,50003,50004,2] []⟩ j10))))))) .nil)) (.seq .nil (.seq (.seq .nil (.meet false ⟨[(2,.keep),(6,.sl q13)],lO [(50000,.keep),(50001,.ob q4)] (kO [50002,50003,50004,2] [])⟩ .nil)) .nil)))))
def aiG:bT:={ nargs:=3,pin:=⟨[(0,q23),(1,q23),(2,(.one q45))],[]⟩,aG:=⟨[(0,(.agg [q0,q0,q0,q0,q30,q45]))],[]⟩,bM:=1,aN:=[],news:=[] }
def aiH:fQ:=j0
def amA:bT:={ nargs:=1,pin:=⟨[(0,q16)],[]⟩,aG:=⟨[(0,(.one (.own 11)))],[(11,q29)]⟩,bM:=1,aN:=[],news:=[11] }
def amB:fQ:=(.seq .nil (.seq .nil (.seq (.seq .nil (.meet false ⟨[(3,.keep)],[(11,.ob q29)]⟩ (.loop ⟨kS [3,13,14] [(15,.sl q13)],[(11,.ob q29)]⟩ (.seq .nil (.seq .nil (.seq (.seq (.seq .nil (.seq .nil (.meet false ⟨kS [3,13,14,15] [],[(11,.ob q29)]⟩ (.loop ⟨kS [3,4,13,14,15,22,23] [(24,.sl q13)],[(11,.ob q29),(22,.keep)]⟩ (.seq .nil j33))))) .nil) .nil)))))) .nil)))
def aiI:TypeId→Option Ty:=fun t=>(([(1000034,(.prod (.st 0) .bool)),(3000009,.bool)]:List (Nat×Ty))++wY).lookup t
def amC:bT:={ nargs:=3,pin:=⟨[(0,q16),(1,q23),(2,q72)],[]⟩,aG:=⟨[(0,(.one (.own 18)))],[(18,Xy)]⟩,bM:=1,aN:=[],news:=[18] }
def amD:fQ:=(.seq .nil (.seq .nil (.seq .nil (.seq .nil (.seq (.seq .nil (.meet false ⟨kS [7,8] [(9,.sl q62)],[(14,.keep),(18,.ob Xy),(100002,.ob q22)]⟩ (.loop ⟨kS [1,7,8] (lS [(9,.sl q62)] (kS [19,20] [(21,.sl q13)])),[(14,.keep),(18,.ob Xy),(100002,.ob q22)]⟩ (.seq .nil (.seq .nil (.seq (.seq (.seq .nil (.seq .nil (.meet false ⟨kS [1,7,8] (lS [(9,.sl (.one (.own 101002)))] (kS [19,20,21] [])),[(14,.keep),(18,.ob Xy),(101002,.ob q22)]⟩ j0))) .nil) .nil)))))) (.seq (.meet false ⟨[(8,.keep)],[(18,.ob Xy)]⟩ (.loop ⟨kS [7,8] [(9,.sl (.one (.own 103002)))],[(14,.ob q29),(18,.ob Xy),(103002,.ob q22)]⟩ (.seq j0 (.seq (.seq .nil (.seq .nil (.seq .nil (.meet false ⟨kS [7,8] [(9,.sl (.one (.own 104002)))],[(14,.ob q29),(18,.ob Xy),(104002,.ob q22)]⟩ j0)))) .nil)))) .nil))))))
def aiJ:TypeId→Option Ty:=fun t=>(([(2000000,.bool)]:List (Nat×Ty))++wY).lookup t
def aiK:bT:={ nargs:=5,pin:=⟨[(0,q23),(1,wZ),(2,(.one (.box 50002 0))),(3,(.one (.box 50003 0))),(4,(.one (.box 50004 0)))],[(50000,q57),(50002,q40),(50003,q43),(50004,(.box [(.own 50005)])),(50001,q59),(50005,q5)]⟩,aG:=⟨[],[(50000,q57),(50001,q59),(50002,(.box [q30,q0,q0,(.p false true (.sl (.st 5)))])),(50003,q43),(50004,(.box [(.own 35)])),(35,(.arr false true true (.int .i64)))]⟩,bM:=0,aN:=[50000,50001,50002,50003,50004],news:=[35] }
def amE:fQ:=(.seq .nil (.seq (.seq .nil (.meet false ⟨kS [0,4] [],[(50000,.ob q57),(50001,.ob q59),(50002,.ob q40),(50003,.ob q43),(50004,.ob (.box [(.own 100006)])),(100006,.ob q5)]⟩ (.loop ⟨kS [0,1,3,4,17,18] [(19,.sl q13)],[(50000,.ob q57),(50001,.ob q59),(50002,.ob q40),(50003,.ob q43),(50004,.ob (.box [(.own 100006)])),(17,.keep),(100006,.ob q5)]⟩ (.seq .nil (.seq .nil (.seq (.seq (.seq .nil (.seq .nil (.meet false ⟨kS [0,1,3,4,17,18,19] [],[(50000,.ob q57),(50001,.ob q59),(50002,.ob q40),(50003,.ob q43),(50004,.ob (.box [(.own 101006)])),(17,.keep),(101006,.ob q5)]⟩ .nil))) .nil) .nil)))))) .nil))
def amF:bT:={ nargs:=1,pin:=⟨[(0,q16)],[]⟩,aG:=⟨[(0,(.agg [q30,q0,q0,(.own 103005)]))],[(103005,q64)]⟩,bM:=1,aN:=[],news:=[103005] }
def amG:fQ:=(.seq .nil (.seq .nil (.seq .nil (.seq .nil (.seq (.seq .nil (.meet false ⟨kS [1,2,3,4] [],kO [1,2,11] [(14,.ob q6)]⟩ (.loop ⟨kS [1,2,3,4] [(5,.sl q13),(6,.sl q13)],kO [1,2,11] [(14,.ob q6)]⟩ (.seq j0 (.seq (.seq (.seq .nil (.seq .nil (.meet false ⟨kS [1,2,3,4] [(5,.sl q13),(6,.keep)],kO [1,2,11,14] []⟩ .nil))) .nil) .nil))))) (.seq .nil (.seq .nil (.seq (.seq .nil (.meet false ⟨kS [2,7] [],[(2,.keep),(7,.ob (.box [Tf,q1,q1,(.own 103005)])),(103005,.ob q64)]⟩ (.loop ⟨kS [1,2,3,4,7] [(8,.sl q13)],kO [1,2,11,14] [(7,.ob (.box [Tf,q1,q1,(.own 103005)])),(103005,.ob q64)]⟩ (.seq j0 (.seq (.meet false ⟨kS [1,2,3,4,7,8] [],kO [1,2,11,14] [(7,.ob (.box [Tf,q1,q1,(.own 106005)])),(106005,.ob q64)]⟩ (.seq j0 (.seq .nil (.seq j20 (.seq j20 .nil))))) .nil))))) .nil))))))))
def amH:bT:={ nargs:=1,pin:=⟨[(0,(.agg [Tf,q1,q67,q34]))],[]⟩,aG:=⟨[(0,(.one (.own 8)))],[(8,(.arr false true false .str))]⟩,bM:=1,aN:=[],news:=[8] }
def amI:fQ:=j0
def aiL:bT:={ nargs:=2,pin:=⟨[(0,wZ),(1,(.one q34))],[(50000,q8),(50001,q24)]⟩,aG:=⟨[(0,q3)],[(50000,q54),(60001,q7)]⟩,bM:=1,aN:=[50000],news:=[60001] }
def amJ:fQ:=(.seq .nil (.seq (.seq .nil (.meet true ⟨[],[(50000,.ob (.box [q12,q10,Vm,q2,q2,(.own 100001),q2])),(100001,.ob q7)]⟩ (.loop ⟨kS [0,1] [(5,.sl q13)],[(50000,.ob (.box [q12,q10,Vm,q2,q2,(.own 100001),q2])),(100001,.ob q7)]⟩ j3))) .nil))
def aiM:TypeId→Option Ty:=fun t=>(([(1000044,(.prod (.st 0) .bool))]:List (Nat×Ty))++wY).lookup t
def aiN:bT:={ nargs:=2,pin:=⟨[(0,wZ),(1,q74)],[(50000,q8),(50001,q24)]⟩,aG:=⟨[(0,q3)],[(50000,q54),(60001,q7)]⟩,bM:=1,aN:=[50000],news:=[60001] }
def amK:fQ:=(.seq .nil (.seq .nil (.seq j33 (.seq (.seq .nil (.meet false ⟨kS [0,3,5] [],[(50000,.ob q32),(3,.keep),(100002,.ob q7)]⟩ (.loop ⟨kS [0,3,5] [(6,.sl q13)],[(50000,.ob q32),(3,.keep),(100002,.ob q7)]⟩ (.seq j0 j0)))) (.seq (.seq .nil (.seq (.seq (.seq .nil (.meet false ⟨kS [0,3,5,38] [(39,.sl q3)],kO [50000,3,100002] []⟩ .nil)) (.meet true j26 (.seq (.seq .nil (.seq .nil (.meet false ⟨[],[(50000,.ob (.box [q12,q10,Vm,q0,q0,(.own 100002),q0])),(100002,.ob q7)]⟩ .nil))) (.seq .nil (.meet true j26 (.seq .nil (.seq .nil (.seq j0 (.seq .nil (.meet true j26 j8)))))))))) .nil)) .nil)))))
def aiO:TypeId→Option Ty:=fun t=>(([(1000044,(.prod (.st 0) .bool)),(3000022,.bool),(3000011,.bool)]:List (Nat×Ty))++wY).lookup t
def aiP:bT:={ nargs:=3,pin:=⟨[(0,wZ),(1,q74),(2,q23)],[(50000,q8),(50001,q24)]⟩,aG:=⟨[],[(50000,(.box [q12,q10,Vm,q0,q0,(.own 57),q0])),(57,q7)]⟩,bM:=0,aN:=[50000],news:=[57] }
def amL:fQ:=(.seq .nil (.seq .nil (.seq .nil (.seq .nil (.seq .nil (.seq .nil (.seq .nil (.seq (.seq .nil (.meet false ⟨kS [0,2,4,8,9] [],[(50000,.ob (.box [q12,q10,Vm,q0,q0,(.own 41),q0])),(4,.keep),(41,.ob q7)]⟩ .nil)) .nil))))))))
def aiQ:TypeId→Option Ty:=fun t=>(([(1000044,(.prod (.st 0) .bool))]:List (Nat×Ty))++wY).lookup t
def aiR:bT:={ nargs:=3,pin:=⟨[(0,wZ),(1,q74),(2,q23)],[(50000,q8),(50001,q24)]⟩,aG:=⟨[(0,q3)],[(50000,q54),(60001,q7)]⟩,bM:=1,aN:=[50000],news:=[60001] }
def amM:fQ:=(.seq .nil (.seq .nil (.seq .nil (.seq .nil (.seq .nil (.seq (.seq .nil (.seq (.seq .nil (.seq .nil (.seq (.seq .nil (.meet false ⟨[],[(50000,.ob (.box [q12,q10,Vm,q0,q0,(.own 39),q0])),(39,.ob q7)]⟩ .nil)) .nil))) .nil)) (.seq .nil (.seq .nil (.seq .nil (.seq .nil (.seq (.seq (.meet false ⟨kS [0,4,9,10,13,14] [(77,.sl q3)],kO [50000,4,67] []⟩ .nil) j0) (.seq .nil (.seq (.seq .nil (.meet false ⟨kS [0,13,14,15] [],[(50000,.ob (.box [q12,q10,Vm,q0,q0,(.own 81),q0])),(81,.ob q7)]⟩ .nil)) (.seq (.seq .nil (.meet false ⟨[],[(50000,.ob (.box [q12,q10,Vm,q0,q0,(.own 81),q0])),(81,.ob q7)]⟩ .nil)) .nil))))))))))))))
def aiS:TypeId→Option Ty:=fun t=>(([(1000044,(.prod (.st 0) .bool)),(3000033,.bool)]:List (Nat×Ty))++wY).lookup t
def aiT:bT:={ nargs:=2,pin:=⟨[(0,wZ),(1,(.one q34))],[(50000,q9),(50001,uS)]⟩,aG:=⟨[(0,q53)],[(50000,q47),(100001,q80),(100002,q44)]⟩,bM:=1,aN:=[50000],news:=[100001,100002] }
def amN:fQ:=(.seq .nil (.seq .nil (.seq (.seq .nil (.meet false ⟨[(5,.sl q53)],[(50000,.ob q48),(100001,.ob q80),(100002,.ob q44)]⟩ (.loop ⟨kS [0,1] [(5,.sl q53),(6,.sl q13)],[(50000,.ob q48),(100001,.ob q80),(100002,.ob q44)]⟩ (.seq j0 (.seq (.seq (.seq .nil (.seq .nil (.seq (.seq .nil (.meet false ⟨kS [0,1,5,6,7] [(8,.sl (.one (.own 101003)))],lO [(50000,.ob q48)] (kO [100001,7] [(101003,.ob q51),(100002,.keep)])⟩ (.loop ⟨kS [0,1,5,6,7] [(8,.sl (.one (.own 101003))),(9,.sl q13)],lO [(50000,.ob q48)] (kO [100001,7] [(101003,.ob q51),(100002,.keep)])⟩ (.seq j0 (.seq (.seq (.seq (.seq .nil (.meet false ⟨kS [0,1,5,6,7,8,9] [],lO [(50000,.ob q48)] (kO [100001,7,101003,100002] [])⟩ .nil)) .nil) .nil) .nil))))) (.seq .nil (.seq .nil (.seq (.seq .nil (.seq (.seq .nil (.meet false ⟨kS [0,1,5,6,7] [],lO [(50000,.ob (.box [q12,q10,(.own 110003),q0,q0]))] (kO [100001,7] [(110003,.ob q44),(101003,.keep)])⟩ (.seq (.seq (.seq .nil (.meet false j6 .nil)) .nil) (.seq (.seq .nil (.meet false ⟨kS [0,1,5,6,7,10] [(80,.sl q3)],kO [50000,100001,7,100002,101003] []⟩ .nil)) (.meet false j6 (.seq (.seq .nil (.meet false j6 (.seq .nil (.seq (.meet false ⟨kS [0,1,5,6,7] [(108,.sl q3)],kO [50000,100001,7,100002,101003] []⟩ .nil) (.meet false j6 .nil))))) .nil)))))) .nil)) j0)))))) .nil) .nil))))) .nil)))
def amO:bT:={ nargs:=3,pin:=⟨[(0,q31),(1,q16),(2,q60)],[]⟩,aG:=⟨[(0,q13)],[]⟩,bM:=1,aN:=[],news:=[] }
def amP:fQ:=(.seq .nil (.seq (.seq (.meet false ⟨kS [3,4,5] [(48,.sl q3)],kO [3,4,5] []⟩ .nil) j0) (.seq .nil (.seq (.seq .nil (.seq .nil (.meet false ⟨kS [3,4,5] [(7,.sl (.one (.own 101003)))],kO [3,4,5] [(101003,.ob q22)]⟩ .nil))) (.seq (.seq .nil (.meet true ⟨kS [3,5] [],kO [3,5] []⟩ (.loop ⟨kS [3,4,5,7] [(10,.sl q13)],kO [3,4,5,101003] []⟩ (.seq j0 (.seq (.seq (.seq (.meet false ⟨kS [3,4,5,7,10] [(80,.sl q3)],kO [3,4,5,101003] []⟩ .nil) j0) .nil) .nil))))) (.seq (.seq .nil (.seq (.seq (.seq .nil (.meet false ⟨kS [3,5,82] [(83,.sl q3)],kO [3,5] []⟩ .nil)) (.meet true ⟨[],[]⟩ (.seq j1 (.seq (.seq .nil (.meet false ⟨kS [3,5,82] [(91,.sl q3)],kO [3,5] []⟩ .nil)) (.meet true ⟨[],[]⟩ (.seq j1 (.seq .nil (.meet true ⟨[],[]⟩ (.seq (.seq (.seq (.meet false ⟨kS [3,5] [(111,.sl q3)],kO [3,5] []⟩ .nil) j0) j1) (.seq .nil (.meet true ⟨[],[]⟩ (.seq j1 (.seq .nil (.meet true ⟨[],[]⟩ (.seq (.seq (.meet false ⟨[(140,.sl q3)],[]⟩ .nil) j0) (.seq .nil (.meet true ⟨[],[]⟩ (.seq (.seq (.meet false ⟨[(152,.sl q3)],[]⟩ .nil) j0) .nil)))))))))))))))))) .nil)) .nil))))))
def amQ:bT:={ nargs:=1,pin:=⟨[(0,wZ)],[(50000,q11),(50001,NJ),(50002,I7),(50003,KA),(50004,uS)]⟩,aG:=⟨[(0,(.one q30)),(1,q3)],[(50000,q36),(50001,q4),(50002,I7),(50003,KA),(50004,uS)]⟩,bM:=2,aN:=[50000,50001,50002,50003,50004],news:=[],kept:=[50002,50003,50004] }
def amR:fQ:=(.seq .nil (.seq .nil (.seq (.seq .nil (.meet true ⟨[],kO [50000,50001,50002,50003,50004] []⟩ (.loop ⟨kS [0,4] [(5,.sl q13)],kO [50000,50001,50002,50003,50004,8] []⟩ (.seq j0 (.seq (.seq (.seq .nil (.seq (.seq .nil (.meet false ⟨kS [0,4,5] [(6,.sl q3)],kO [50000,50001,50002,50003,50004,8] []⟩ (.loop ⟨kS [0,4,5] [(6,.sl q3),(7,.sl q13)],kO [50000,50001,50002,50003,50004,8] []⟩ (.seq j0 (.seq (.seq (.meet false ⟨kS [0,4,5] [(6,.sl q3),(7,.keep)],kO [50000,50001,50002,50003,50004,8] []⟩ .nil) .nil) .nil))))) j1)) .nil) .nil))))) .nil)))
def aiU:bT:={ nargs:=2,pin:=⟨[(0,wZ),(1,q23)],[(50000,q11),(50001,NJ),(50002,I7),(50003,KA),(50004,uS)]⟩,aG:=⟨[(0,(.agg [q0,q0,q0,q0,q30,(.p false true (.sl (.st 14)))]))],[(50000,q36),(50001,q4),(50002,I7),(50003,KA),(50004,uS)]⟩,bM:=1,aN:=[50000,50001,50002,50003,50004],news:=[],kept:=[50002,50003,50004] }
def amS:fQ:=(.seq .nil (.seq .nil (.seq (.seq (.meet false ⟨kS [0,1,4,5] [(18,.sl q3)],lO [(50000,.keep),(50001,.ob NJ)] (kO [50002,50003,50004,4] [])⟩ .nil) j0) (.seq (.seq .nil (.seq (.seq .nil (.seq .nil (.seq .nil (.seq .nil (.seq .nil (.seq .nil (.seq (.seq .nil (.meet false ⟨kS [0,1,4,5,22] [(58,.sl q3)],kO [50000,50001,50002,50003,50004,4] []⟩ .nil)) (.seq .nil (.seq .nil (.meet true ⟨kS [0,1,4,5] [],lO [(50000,.ob q11),(50001,.ob q4)] (kO [50002,50003,50004,4] [])⟩ (.seq j8 .nil))))))))))) .nil)) .nil))))
def aiV:bT:={ nargs:=2,pin:=⟨[(0,wZ),(1,q23)],[(50000,q11),(50001,NJ),(50002,I7),(50003,KA),(50004,uS)]⟩,aG:=⟨[(0,(.agg [q0,q0,q0,q0,q30,(.own 60005)]))],[(50000,q36),(50001,q4),(50002,I7),(50003,KA),(50004,uS),(60005,q56)]⟩,bM:=1,aN:=[50000,50001,50002,50003,50004],news:=[60005],kept:=[50002,50003,50004] }
def amT:fQ:=(.seq .nil (.seq .nil (.seq .nil (.seq .nil (.seq (.seq (.meet false ⟨kS [0,1,4,5,6,7] [(46,.sl q3)],lO [(50000,.keep),(50001,.ob q4)] (kO [50002,50003,50004,4,5] [])⟩ .nil) (.meet false ⟨kS [0,1,4,5] [(6,.sl q13),(7,.keep)],lO [(50000,.keep),(50001,.ob q4)] (kO [50002,50003,50004,4,5] [])⟩ .nil)) (.seq .nil (.seq (.seq .nil (.meet false ⟨kS [0,1,4,5,7] [(8,.sl (.one (.own 102007)))],lO [(50000,.ob q11),(50001,.ob q4)] (kO [50002,50003,50004,4,5] [(102007,.ob q56)])⟩ (.loop ⟨kS [0,1,4,5,6,7] [(8,.sl (.one (.own 102007))),(9,.sl q13)],lO [(50000,.ob q11),(50001,.ob q4)] (kO [50002,50003,50004,4,5] [(102007,.ob q56)])⟩ (.seq j0 j0)))) (.seq j1 (.seq .nil (.seq (.seq .nil (.meet false ⟨kS [4,8,10] [],lO [(50000,.ob q11),(50001,.ob q4)] (kO [50002,50003,50004,4,102007] [(10,.ob (.box [q0,q0,q0,q0,(.p false true .str),(.p false true (.sl (.st 14)))]))])⟩ .nil)) j10))))))))))
def aiW:bT:={ nargs:=3,pin:=⟨[(0,wZ),(1,q23),(2,q23)],[(50000,q11),(50001,NJ),(50002,I7),(50003,KA),(50004,uS)]⟩,aG:=⟨[(0,(.one (.own 100004)))],[(50000,(.box [(.box 50001 0),(.own 50002),(.own 50003),(.own 100005),q0])),(50001,q4),(50002,I7),(50003,KA),(100004,q42),(100005,uS)]⟩,bM:=1,aN:=[50000,50001,50002,50003],news:=[100004,100005],kept:=[50002,50003] }
def amU:fQ:=(.seq .nil (.seq .nil (.seq (.seq .nil (.meet false ⟨[(7,.sl (.one (.own 100004)))],lO [(50000,.ob q73),(50001,.ob NJ)] (kO [50002,50003] [(100004,.ob q42),(100005,.ob uS)])⟩ (.loop ⟨kS [0,1,2] [(7,.sl (.one (.own 100004))),(8,.sl q13)],lO [(50000,.ob q73),(50001,.ob NJ)] (kO [50002,50003] [(100004,.ob q42),(100005,.ob uS)])⟩ (.seq (.seq (.meet false ⟨kS [0,1,2,7,8] [(18,.sl q3)],kO [50000,50001,50002,50003,100004,100005] []⟩ .nil) .nil) j7)))) .nil)))
def aiX:bT:={ nargs:=2,pin:=⟨[(0,wZ),(1,q23)],[(50000,q11),(50001,NJ),(50002,I7),(50003,KA),(50004,uS)]⟩,aG:=⟨[(0,(.agg [q0,q0,q30,(.own 60004),(.own 60005),(.own 60006)]))],[(50000,(.box [(.box 50001 0),(.own 50002),(.own 50003),(.own 60007),q0])),(50001,q4),(50002,I7),(50003,KA),(60004,q56),(60005,q42),(60006,q42),(60007,uS)]⟩,bM:=1,aN:=[50000,50001,50002,50003],news:=[60004,60005,60006,60007],kept:=[50002,50003] }
def amV:fQ:=(.seq .nil (.seq .nil (.seq (.seq .nil (.seq (.seq (.seq .nil (.meet false ⟨kS [0,1,4,5,19] [(20,.sl q3)],kO [50000,50001,50002,50003,4,50004] []⟩ .nil)) (.meet true j4 (.seq j29 (.seq .nil (.meet true j4 (.seq j1 (.seq .nil (.meet true j4 (.seq j8 (.seq .nil (.meet true j4 (.seq j8 (.seq (.seq .nil (.meet false ⟨kS [0,1,4,5,19] [(95,.sl q3)],kO [50000,50001,50002,50003,4,50004] []⟩ .nil)) (.meet true j34 (.seq (.seq .nil (.seq (.seq .nil (.seq .nil (.seq (.seq .nil (.meet false ⟨kS [4,13] [],lO [(50000,.ob (.box [(.box 50001 0),(.own 50002),(.own 50003),(.own 102006),q0])),(50001,.ob q4)] (kO [50002,50003,4] (lO [(13,.ob (.box [q0,q0,q30,(.own 102),(.own 109),(.own 102009)])),(102006,.ob uS)] (kO [102,109] [(102009,.ob q42)])))⟩ .nil)) .nil))) .nil)) (.seq .nil (.meet true j34 (.seq j1 (.seq .nil (.seq j10 .nil)))))))))))))))))))) .nil)) .nil)))
def aiY:bT:={ nargs:=2,pin:=⟨[(0,wZ),(1,q23)],[(50000,q11),(50001,NJ),(50002,I7),(50003,KA),(50004,uS)]⟩,aG:=⟨[(0,(.agg [q0,q0,q30,(.own 60004),(.own 60005),.bD]))],[(50000,(.box [(.box 50001 0),(.own 50002),(.own 50003),(.own 60006),q0])),(50001,q4),(50002,I7),(50003,KA),(60004,q56),(60005,q42),(60006,uS)]⟩,bM:=1,aN:=[50000,50001,50002,50003],news:=[60004,60005,60006],kept:=[50002,50003] }
def amW:fQ:=(.seq .nil (.seq .nil (.seq (.seq (.meet false ⟨kS [0,1,4,5,6] [(28,.sl q3)],lO [(50000,.keep),(50001,.ob q4)] (kO [50002,50003,4,50004] [])⟩ .nil) (.meet false ⟨kS [0,1,4] [(5,.sl (.one (.p false true .str))),(6,.sl q3)],lO [(50000,.keep),(50001,.ob q4)] (kO [50002,50003,4,50004] [])⟩ .nil)) (.seq (.seq (.meet false ⟨kS [0,1,4,5] [(54,.sl q3)],lO [(50000,.keep),(50001,.ob q4)] (kO [50002,50003,4,50004] [])⟩ .nil) j10) j32))))
def amX:bT:={ nargs:=1,pin:=⟨[(0,q16)],[]⟩,aG:=⟨[(0,(.one (.own 12)))],[(12,q22)]⟩,bM:=1,aN:=[],news:=[12] }
def amY:fQ:=(.seq .nil (.seq .nil (.seq (.meet false ⟨kS [1,3] [(4,.sl (.one (.box 4 0)))],kO [1,3] [(4,.ob (.box [(.own 100700)])),(9,.keep),(100700,.ob q6)]⟩ .nil) j32)))
def amZ:bT:={ nargs:=1,pin:=⟨[(0,wZ)],[(50000,NJ)]⟩,aG:=⟨[(0,(.agg [(.own 19),(.own 100004),q0,q0]))],[(50000,q4),(19,q49),(100004,q26)]⟩,bM:=1,aN:=[50000],news:=[19,100004] }
def am0:fQ:=(.seq .nil (.seq .nil (.seq .nil (.seq (.seq .nil (.meet false ⟨kS [0,2,3,4] [],[(50000,.ob q4),(2,.keep),(3,.ob (.box [(.own 19),(.own 100004),q0,q0])),(19,.keep),(100004,.ob q26)]⟩ (.loop ⟨kS [0,2,3,4] [(5,.sl q13)],[(50000,.ob q4),(2,.keep),(3,.ob (.box [(.own 19),(.own 100004),q0,q0])),(19,.keep),(100004,.ob q26)]⟩ (.seq j0 (.seq (.seq (.seq .nil (.seq (.seq .nil (.meet false ⟨kS [0,2,3,4,5,6] [],lO [(50000,.ob q4)] (kO [2,3] (lO [(6,.ob (.box [q30,q0,q0,.bD]))] (kO [19,100004] [])))⟩ .nil)) .nil)) .nil) .nil))))) (.seq .nil (.seq (.seq .nil (.meet false ⟨kS [2,3] [],lO [(50000,.ob q4)] (kO [2,3,19] [(100004,.ob q26)])⟩ (.loop ⟨kS [0,2,3,4] [(7,.sl q13)],lO [(50000,.ob q4)] (kO [2,3,19] [(100004,.ob q26)])⟩ (.seq j0 (.seq (.seq (.seq .nil (.seq (.seq .nil (.meet false j25 (.loop ⟨kS [0,2,3,4,7,8] [(9,.sl q13)],lO [(50000,.ob q4)] (kO [2,3] [(100004,.ob q26),(19,.keep)])⟩ (.seq j0 (.seq (.seq (.seq .nil (.seq (.seq .nil (.meet false ⟨kS [0,2,3,4,7,8,9,10] [],lO [(50000,.ob q4)] (kO [2,3] [(100004,.ob q26),(10,.ob (.box [(.own 105006),q0,q0,q0,q0,q0,q0,q0])),(19,.keep),(105006,.ob (.arr false false false (.st 6)))])⟩ (.loop ⟨kS [0,2,3,4,7,8,9,10] [(11,.sl q13)],lO [(50000,.ob q4)] (kO [2,3] [(100004,.ob q26),(10,.ob (.box [(.own 105006),q0,q0,q0,q0,q0,q0,q0])),(19,.keep),(105006,.ob (.arr false false false (.st 6)))])⟩ (.seq j0 j0)))) .nil)) .nil) .nil))))) (.seq (.seq .nil (.meet false j25 (.loop ⟨kS [0,2,3,4,7,8] [(12,.sl q13)],lO [(50000,.ob q4)] (kO [2,3] [(100004,.ob q26),(19,.keep)])⟩ (.seq j0 j7)))) .nil))) .nil) .nil))))) .nil))))))
def aiZ:TypeId→Option Ty:=fun t=>(([(1000033,(.prod (.st 3) .bool)),(3000140,.bool),(3000133,.bool),(3000113,.bool),(3000078,.bool)]:List (Nat×Ty))++wY).lookup t
def am1:bT:={ nargs:=1,pin:=⟨[(0,q35)],[]⟩,aG:=⟨[(0,(.agg [(.own 60000),(.own 60001)])),(1,q13),(2,q13)],[(60000,(.arr false true false (.st 3))),(60001,q79)]⟩,bM:=3,aN:=[],news:=[60000,60001] }
def am2:fQ:=(.seq .nil (.seq (.seq (.meet false ⟨kS [1,2] [(20,.sl q3)],kO [1,2] []⟩ .nil) j0) (.seq (.seq (.meet false ⟨kS [1,2] [(42,.sl q3)],kO [1,2] []⟩ .nil) j0) (.seq (.seq .nil (.meet true ⟨kS [1,2] [],kO [1,2] []⟩ (.loop ⟨kS [1,2] [(5,.sl q13)],kO [1,2] []⟩ j3))) (.seq (.seq .nil (.meet true ⟨kS [1,2] [],kO [1,2] []⟩ (.loop ⟨kS [1,2] [(6,.sl q13)],kO [1,2] []⟩ (.seq j0 (.seq (.seq (.seq (.meet false ⟨kS [1,2,6] [(89,.sl q3)],kO [1,2] []⟩ .nil) j0) .nil) .nil))))) (.seq .nil (.seq (.seq .nil (.meet true ⟨[(2,.keep)],[(2,.ob (.box [(.own 99),(.own 107003)])),(99,.keep),(107003,.ob q79)]⟩ (.loop ⟨kS [1,2] [(7,.sl q13)],[(1,.keep),(2,.ob (.box [(.own 99),(.own 107003)])),(99,.keep),(107003,.ob q79)]⟩ (.seq j0 (.seq (.seq (.seq .nil (.seq (.seq (.meet false ⟨kS [1,2,7,8] [(128,.sl q3)],kO [1,2,8,99,107003] []⟩ .nil) j0) (.seq (.seq .nil (.meet true ⟨kS [1,2,7,8] [],kO [1,2,8,99,107003] []⟩ (.loop ⟨kS [1,2,7,8] [(9,.sl q13)],kO [1,2,8,99,107003] []⟩ (.seq j0 (.seq (.seq (.seq (.meet false ⟨kS [1,2,7,8,9] [(158,.sl q3)],kO [1,2,8,99,107003] []⟩ .nil) j0) .nil) .nil))))) j29))) .nil) .nil))))) .nil)))))))
def am3:bT:={ nargs:=1,pin:=⟨[(0,wZ)],[(50000,NJ)]⟩,aG:=⟨[(0,(.agg [(.own 103003),(.own 105004)]))],[(50000,q4),(103003,I7),(105004,KA)]⟩,bM:=1,aN:=[50000],news:=[103003,105004] }
def am4:fQ:=(.seq .nil (.seq (.meet false ⟨kS [0,2] [(3,.sl (.one (.box 12 0)))],kO [50000,2] [(12,.ob (.box [(.box 50000 0),(.own 100700),(.own 100701),(.own 100702),q0])),(100700,.ob q49),(100701,.ob q78),(100702,.ob q65)]⟩ .nil) (.seq (.seq .nil (.meet false ⟨kS [0,2,3] [],kO [50000,2] (lO [(12,.ob q68),(101003,.ob q49)] (kO [100701,100702] []))⟩ (.loop ⟨kS [0,2,3] [(4,.sl q13)],kO [50000,2] (lO [(12,.ob q68),(101003,.ob q49)] (kO [100701,100702] []))⟩ (.seq j0 j0)))) (.seq (.seq .nil (.meet false ⟨kS [0,2,3] [],lO [(50000,.ob q4),(2,.keep),(12,.ob q69),(103003,.ob q49)] (kO [100701,100702] [])⟩ (.loop ⟨kS [0,2,3] [(5,.sl q13)],lO [(50000,.ob q4),(2,.keep),(12,.ob q69),(103003,.ob q49)] (kO [100701,100702] [])⟩ (.seq j0 j0)))) (.seq .nil (.seq (.seq .nil (.meet false ⟨kS [0,2,3] [],[(50000,.ob q4),(2,.keep),(12,.ob q70),(103003,.keep),(105004,.ob q78),(100702,.keep)]⟩ (.loop ⟨kS [0,2,3] [(6,.sl q13)],[(50000,.ob q4),(2,.keep),(12,.ob q70),(103003,.keep),(105004,.ob q78),(100702,.keep)]⟩ (.seq j0 (.seq (.seq (.seq .nil (.seq (.seq .nil (.meet false ⟨kS [0,2,3,6,7] [],kO [50000,2,12] (lO [(7,.ob (.box [q30,q0,(.own 106007),.bD]))] (kO [103003,105004,100702] [(106007,.ob q65)]))⟩ (.loop ⟨kS [0,2,3,6,7] [(8,.sl q13)],kO [50000,2,12] (lO [(7,.ob (.box [q30,q0,(.own 106007),.bD]))] (kO [103003,105004,100702] [(106007,.ob q65)]))⟩ (.seq j0 j0)))) .nil)) .nil) .nil))))) (.seq (.seq .nil (.meet false ⟨kS [2,3] [],[(50000,.ob q4),(2,.keep),(12,.ob q71),(103003,.ob I7),(105004,.ob KA),(109005,.ob uS)]⟩ (.loop ⟨kS [0,2,3] [(9,.sl q13)],[(50000,.ob q4),(2,.keep),(12,.ob q71),(103003,.ob I7),(105004,.ob KA),(109005,.ob uS)]⟩ (.seq j0 (.seq j7 .nil))))) .nil)))))))
def am5:bT:={ nargs:=2,pin:=⟨[(0,q31),(1,q16)],[]⟩,aG:=⟨[(0,q13)],[]⟩,bM:=1,aN:=[],news:=[] }
def am6:fQ:=(.seq .nil (.seq (.seq (.meet false ⟨kS [2,3] [(25,.sl q3)],kO [2,3] []⟩ .nil) j0) (.seq (.seq (.meet false ⟨kS [2,3] [(45,.sl q3)],kO [2,3] []⟩ .nil) j0) (.seq (.seq .nil (.meet true ⟨[(3,.keep)],[(3,.keep)]⟩ (.loop ⟨kS [2,3] [(5,.sl q13)],kO [2,3] []⟩ (.seq j0 (.seq (.seq (.seq (.seq .nil (.meet true ⟨kS [2,3,5] [],kO [2,3] []⟩ (.loop ⟨kS [2,3,5] [(6,.sl q13)],kO [2,3] []⟩ (.seq j0 j37)))) j8) .nil) .nil))))) (.seq .nil (.seq (.seq .nil (.meet true ⟨[],[]⟩ (.loop ⟨[(9,.keep),(10,.sl q13)],[(91,.keep)]⟩ j3))) .nil))))))
def sg9:bT:={ nargs:=1,pin:=⟨[(0,q16)],[]⟩,aG:=⟨[(0,(.one (.own 38)))],[(38,q6)]⟩,bM:=1,aN:=[],news:=[38] }
def an9:fQ:=(.seq .nil (.seq .nil (.seq .nil (.seq (.seq .nil (.meet false ⟨kS [1,3,4] [],kO [1,18,4] [(21,.ob q6)]⟩ (.loop ⟨kS [1,3,4,22,23] [(24,.sl q13)],kO [1,18,4] [(21,.ob q6)]⟩ (.seq .nil j33)))) (.seq .nil (.seq .nil (.seq (.seq .nil (.meet false ⟨kS [3,4] [(7,.sl (.one (.p false false (.sl (.sl (.int .i64)))))),(8,.keep)],kO [18,4,8,21] [(38,.ob q6)]⟩ (.loop ⟨kS [3,4] (lS [(7,.sl (.one (.p false false (.sl (.sl (.int .i64))))))] (kS [8,40] [(41,.sl q13)])),kO [18,4,8,21] [(38,.ob q6)]⟩ (.seq .nil j33)))) (.seq .nil (.seq (.seq .nil (.meet false ⟨[(8,.keep)],[(8,.ob q58),(38,.ob q6)]⟩ (.loop j23 (.seq j0 (.seq (.seq .nil (.seq .nil (.meet false j23 (.loop ⟨kS [3,7,8,10] (lS [(11,.sl q3)] (kS [51,52] [(53,.sl q13)])),[(18,.keep),(8,.ob q58),(4,.ob q61),(38,.ob q6),(21,.keep)]⟩ (.seq .nil (.seq .nil (.seq (.seq (.seq .nil (.seq .nil (.seq (.seq .nil (.meet false ⟨kS [3,7,8,10,11,13] (lS [(14,.sl q13)] (kS [51,52,53] [])),lO [(18,.keep),(8,.ob q58),(4,.ob q61)] (kO [38,21] [])⟩ (.loop ⟨kS [3,7,8,10,11,13] (lS [(14,.sl q13)] (kS [51,52,53,60,61] [(62,.sl q13)])),lO [(18,.keep),(8,.ob q58),(4,.ob q61)] (kO [38,21] [])⟩ (.seq .nil (.seq .nil (.seq (.seq (.seq .nil (.seq (.seq (.meet false ⟨kS [3,7,8,10,11,13,14,16,51,52,53,60,61,62] [(70,.sl q3)],kO [18,8,4,38,21] []⟩ .nil) (.meet false j15 (.seq .nil (.seq .nil (.meet false j15 .nil))))) .nil)) .nil) .nil)))))) (.seq .nil (.meet false ⟨kS [3,7,8,10] (lS [(11,.sl q3)] (kS [51,52,53] [])),kO [18,8,4] [(38,.ob q6),(21,.keep)]⟩ .nil))))) .nil) .nil))))))) .nil))))) .nil)))))))))
def am7:bT:={ nargs:=3,pin:=⟨[(0,q16),(1,q23),(2,q23)],[]⟩,aG:=⟨[(0,q3)],[]⟩,bM:=1,aN:=[],news:=[] }
def am8:fQ:=(.seq .nil j30)
def am9:bT:={ nargs:=1,pin:=⟨[(0,wZ)],[(50000,NJ)]⟩,aG:=⟨[(0,(.agg [(.own 9),(.own 1009)]))],[(50000,q4),(9,I7),(1009,KA)]⟩,bM:=1,aN:=[50000],news:=[9,1009] }
def am_:fQ:=j1
def ana:bT:={ nargs:=1,pin:=⟨[(0,q31)],[]⟩,aG:=⟨[(0,q13)],[]⟩,bM:=1,aN:=[],news:=[] }
def anb:fQ:=(.seq .nil (.seq (.seq (.meet false ⟨[(1,.keep),(31,.sl q3)],[(1,.keep)]⟩ .nil) j0) (.seq (.seq .nil (.meet true ⟨[(1,.keep)],[(1,.keep)]⟩ (.loop ⟨[(1,.keep),(3,.sl q13)],[(1,.keep)]⟩ (.seq j0 (.seq (.seq (.seq (.meet false ⟨kS [1,3] [(54,.sl q3)],[(1,.keep)]⟩ .nil) j0) .nil) .nil))))) (.seq (.seq (.meet false ⟨[(1,.keep),(65,.sl q3)],[(1,.keep)]⟩ .nil) j0) (.seq j1 (.seq (.seq .nil (.meet true ⟨[],[]⟩ (.loop ⟨[(1,.keep),(4,.sl q13)],[(1,.keep)]⟩ (.seq j0 j37)))) .nil))))))
def anc:bT:={ nargs:=1,pin:=⟨[(0,q35)],[]⟩,aG:=⟨[(0,(.agg [(.own 60000),(.own 60001),q0,q0])),(1,q13)],[(60000,(.arr false true false (.st 3))),(60001,q81)]⟩,bM:=2,aN:=[],news:=[60000,60001] }
def ane:fQ:=(.seq .nil (.seq .nil (.seq (.seq .nil (.meet false ⟨kS [2,4] [],[(2,.keep),(4,.ob (.box [(.own 11),(.own 100004),q0,q0])),(11,.keep),(100004,.ob q81)]⟩ (.loop ⟨kS [1,2,4] [(5,.sl q13)],kO [1,2] [(4,.ob (.box [(.own 11),(.own 100004),q0,q0])),(11,.keep),(100004,.ob q81)]⟩ (.seq j0 (.seq (.seq (.seq .nil (.seq (.meet false ⟨kS [1,2,4,5,6] [(7,.sl (.one (.box 33 0)))],kO [1,2,4,6] (lO [(33,.ob (.box [(.p true false (.sl (.st 3))),(.p true false (.sl (.st 12))),q67,q0,q0,(.own 101700),q0]))] (kO [11,100004] [(101700,.ob (.deep false false (.st 5) [(0,(.st 6))]))]))⟩ .nil) (.seq .nil (.seq .nil (.seq (.seq .nil (.meet false ⟨kS [1,2,4,5,6,7] [],kO [1,2,4,6] (lO [(33,.ob (.box [(.p true false (.sl (.st 3))),(.p true false (.sl (.st 12))),q67,q0,q0,(.own 49),q0]))] (kO [11,100004] [(49,.ob (.deep true false (.st 5) [(0,(.st 6))]))]))⟩ j10)) .nil))))) .nil) .nil))))) j10)))
def ai0:TypeId→Option Ty:=fun t=>(([(1000044,(.prod (.st 0) .bool)),(3000082,.bool),(3000053,.bool),(3000038,.bool),(3000018,.bool),(3000013,.bool)]:List (Nat×Ty))++wY).lookup t
def anf:bT:={ nargs:=1,pin:=⟨[(0,wZ)],[(50000,NJ)]⟩,aG:=⟨[(0,(.agg [(.own 8),(.own 1008),q0,q0]))],[(50000,q4),(8,I7),(1008,(.arr false false true (.st 4)))]⟩,bM:=1,aN:=[50000],news:=[8,1008] }
def ang:fQ:=j1
def sg8:bT:={ nargs:=1,pin:=⟨[(0,wZ)],[(50000,NJ)]⟩,aG:=⟨[(0,(.agg [(.own 60001),(.p false true (.sl (.st 4))),q0,q0]))],[(50000,q4),(60001,I7)]⟩,bM:=1,aN:=[50000],news:=[60001] }
def an8:fQ:=(.seq .nil j10)
--HAND 33 Srt
def anh:bT:={ nargs:=1,pin:=⟨[(0,q16)],[]⟩,aG:=⟨[(0,q53)],[(100001,q50)]⟩,bM:=1,aN:=[],news:=[100001] }
def ani:fQ:=(.seq .nil (.seq .nil (.seq .nil (.seq (.seq .nil (.meet false ⟨[(4,.sl q53)],[(100001,.ob q50)]⟩ (.loop ⟨lS [(3,.keep),(4,.sl q53)] (kS [13,14] [(15,.sl q13)]),[(11,.keep),(100001,.ob q50)]⟩ (.seq .nil (.seq .nil (.seq (.seq (.seq .nil (.seq .nil (.seq .nil (.seq .nil (.meet false ⟨lS [(3,.keep),(4,.sl (.one (.own 101001)))] (kS [13,14,15] []),[(11,.keep),(101001,.ob q50)]⟩ (.loop ⟨lS [(3,.keep),(4,.sl (.one (.own 101001)))] (kS [5,13,14,15,25,26] [(27,.sl q13)]),[(11,.keep),(101001,.ob q50),(22,.keep)]⟩ (.seq .nil (.seq .nil (.seq (.seq (.seq .nil (.seq .nil (.meet false ⟨lS [(3,.keep),(4,.sl (.one (.own 102001)))] (kS [5,13,14,15,25,26,27] []),[(11,.keep),(102001,.ob q50),(22,.keep)]⟩ .nil))) .nil) .nil))))))))) .nil) .nil)))))) .nil))))
def anj:bT:={ nargs:=2,pin:=⟨[(0,q16),(1,q23)],[]⟩,aG:=⟨[(0,q63)],[(100000,q6)]⟩,bM:=1,aN:=[],news:=[100000] }
def ank:fQ:=(.seq .nil (.seq .nil (.seq (.seq .nil (.meet false ⟨[(5,.sl q63)],[(100000,.ob q6)]⟩ (.loop ⟨lS [(5,.sl q63)] (kS [12,13] [(14,.sl q13)]),[(100000,.ob q6),(12,.keep)]⟩ (.seq .nil (.seq .nil (.seq (.seq (.seq .nil (.seq .nil (.meet false ⟨lS [(5,.sl (.one (.own 101000)))] (kS [12,13,14] []),[(101000,.ob q6),(12,.keep)]⟩ .nil))) .nil) .nil)))))) .nil)))
def sg6:bT:={ nargs:=0,pin:=⟨[],[]⟩,aG:=⟨[(0,q3)],[]⟩,bM:=1,aN:=[],news:=[] }
def an6:fQ:=(.seq .nil (.seq .nil (.seq .nil (.seq (.meet false ⟨[(0,.sl q3)],[]⟩ .nil) .nil))))
def sg4:bT:={ nargs:=1,pin:=⟨[(0,q41)],[]⟩,aG:=⟨[(0,q3)],[]⟩,bM:=1,aN:=[],news:=[] }
def an4:fQ:=(.seq .nil (.seq j1 (.seq .nil (.seq (.seq .nil (.meet true ⟨[],[]⟩ (.loop ⟨[(3,.keep),(4,.sl q13)],kO [3,20] []⟩ (.seq j0 (.seq (.seq (.seq .nil (.seq .nil (.meet true ⟨kS [3,4] [],kO [3,20] []⟩ (.loop ⟨kS [3,4,5] [(6,.sl q13)],kO [3,5,20] []⟩ (.seq j0 (.seq (.seq (.seq .nil (.seq (.seq .nil (.meet true j39 (.loop ⟨kS [3,4,5,6,7] [(8,.sl q13)],kO [3,5,42,20] []⟩ j3))) (.seq (.seq .nil (.meet true j39 (.loop ⟨kS [3,4,5,6,7] [(9,.sl q13)],kO [3,5,42,20] []⟩ (.seq j0 (.seq (.seq (.seq .nil (.seq .nil (.meet true ⟨kS [3,4,5,6,7,9] [],kO [3,5,42,20] []⟩ (.loop ⟨kS [3,4,5,6,7,9,10] [(11,.sl q13)],kO [3,5,42,70,20] []⟩ (.seq j0 (.seq (.seq (.seq (.meet false ⟨kS [3,4,5,6,7,9,10,11] [(96,.sl q3)],kO [3,5,42,70,20] []⟩ .nil) j0) .nil) .nil)))))) .nil) .nil))))) (.seq .nil (.meet true ⟨kS [3,4,5,6] [],kO [3,5,20] []⟩ (.loop ⟨kS [3,4,5,6,7] [(12,.sl q13)],kO [3,5,42,20] []⟩ (.seq j0 (.seq (.seq (.seq .nil (.seq .nil (.seq (.seq .nil (.meet false ⟨kS [3,4,5,6,7,12,13] [(14,.sl q13)],kO [3,5,42,104,20] []⟩ (.loop ⟨kS [3,4,5,6,7,12,13] [(14,.sl q13),(15,.sl q13)],kO [3,5,42,104,20] []⟩ (.seq j0 (.seq (.seq (.seq .nil (.meet false ⟨kS [3,4,5,6,7,12,13] [(14,.sl q13),(15,.keep)],kO [3,5,42,104,20] []⟩ .nil)) .nil) .nil))))) (.seq (.meet false ⟨kS [3,4,5,6,7,12] [(132,.sl q3)],kO [3,5,42,20] []⟩ .nil) j0)))) .nil) .nil)))))))) .nil) .nil)))))) .nil) .nil))))) .nil))))
end Go.Fg.Ytmgfidfcioiedaa

