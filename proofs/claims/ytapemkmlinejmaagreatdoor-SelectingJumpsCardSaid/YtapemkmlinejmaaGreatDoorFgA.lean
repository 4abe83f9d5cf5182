/-
  Shapes of the functions of the seat, printed by a program (wip/gen/Infer.lean).
-/
import Derived.Test.YtapemkmlinejmaaGreatDoorFwT
import Derived.Test.YtapemkmlinejmaaGreatDoorZd
namespace Go.Fg.YtapemkmlinejmaaGreatDoor
open Go.Fw Go.Proofs Go.Fw.YtapemkmlinejmaaGreatDoor
set_option linter.unusedVariables false
def J7:List (List UInt8):=[([]:List UInt8),([100,56]:List UInt8),([100,97]:List UInt8),([111,100,97]:List UInt8),([111,100,97,98]:List UInt8),([100,49]:List UInt8),([97,49]:List UInt8),([100,97,49]:List UInt8),([97,98,49]:List UInt8),([100]:List UInt8),([97]:List UInt8),([100,52,110]:List UInt8),([100,97,110]:List UInt8),([106]:List UInt8),([97,106]:List UInt8),([97,106]:List UInt8),([97]:List UInt8),([50]:List UInt8),([100,49]:List UInt8)]
structure aP where
  kind:Int
  op:Int
  value:Int
  line:Int
  name:(List UInt8)
  args:(List aP)
def agc:aP:=aP.mk (0:Int) (0:Int) (0:Int) (0:Int) [] []
mutual
def sD:aP->List P
  |⟨y0,y1,y2,y3,y4,y5⟩=>[P.int .i64 y0,P.int .i64 y1,P.int .i64 y2,P.int .i64 y3,P.str ⟨List.toArray y4⟩,P.fP 6 (Dc y5)]
def Dc:List aP->List (List P)
  | []=>[]
  |x::l=>sD x::Dc l
end
theorem FY :∀l,Dc l=List.map sD l
  | []=>rfl
  |x::l=>by rw [Dc,FY l];rfl
theorem VL (x:aP):sD x=[P.int .i64 (aP.kind x),P.int .i64 (aP.op x),P.int .i64 (aP.value x),P.int .i64 (aP.line x),P.str ⟨List.toArray (aP.name x)⟩,P.fP 6 (List.map sD (aP.args x))]:=by
  cases x
  rw [sD]
  simp only [FY]
structure b_ where
  kind:Int
  line:Int
  name:(List UInt8)
  exprs:(List aP)
  then':(List b_)
  else':(List b_)
def agd:b_:=b_.mk (0:Int) (0:Int) [] [] [] []
mutual
def sF:b_->List P
  |⟨y0,y1,y2,y3,y4,y5⟩=>[P.int .i64 y0,P.int .i64 y1,P.str ⟨List.toArray y2⟩,P.fP 6 (List.map sD y3),P.fP 6 (yQ y4),P.fP 6 (yQ y5)]
def yQ:List b_->List (List P)
  | []=>[]
  |x::l=>sF x::yQ l
end
theorem FZ :∀l,yQ l=List.map sF l
  | []=>rfl
  |x::l=>by rw [yQ,FZ l];rfl
theorem VN (x:b_):sF x=[P.int .i64 (b_.kind x),P.int .i64 (b_.line x),P.str ⟨List.toArray (b_.name x)⟩,P.fP 6 (List.map sD (b_.exprs x)),P.fP 6 (List.map sF (b_.then' x)),P.fP 6 (List.map sF (b_.else' x))]:=by
  cases x
  rw [sF]
  simp only [FZ]
structure au where
  name:(List UInt8)
  line:Int
  params:(List (List UInt8))
  body:(List b_)
def agf:au:=au.mk [] (0:Int) [] []
def agh (x:au):List P:=[P.str ⟨List.toArray (au.name x)⟩,P.int .i64 (au.line x),P.fP 1 (List.map (fun (x:List UInt8)=>[P.str ⟨x.toArray⟩]) (au.params x)),P.fP 6 (List.map sF (au.body x))]
structure lG where
  iG:Int
  ig:Int
  kD:Int
  qY:Int
  qZ:Int
  iY:Int
  dQ:Bool
  gY:(List Int)
  to:Int
def agi:lG:=lG.mk (0:Int) (0:Int) (0:Int) (0:Int) (0:Int) (0:Int) false [] (0:Int)
def agj (x:lG):List P:=[P.int .i64 (lG.iG x),P.int .i64 (lG.ig x),P.int .i64 (lG.kD x),P.int .i64 (lG.qY x),P.int .i64 (lG.qZ x),P.int .i64 (lG.iY x),P.bool (lG.dQ x),P.fP 1 (List.map (fun (x:Int)=>[P.int .i64 x]) (lG.gY x)),P.int .i64 (lG.to x)]
structure dn where
  iG:Int
  ig:Int
  kD:Int
  qY:Int
  qZ:Int
  iY:Int
  dQ:Bool
  gY:(List Int)
  to:Int
def agk:dn:=dn.mk (0:Int) (0:Int) (0:Int) (0:Int) (0:Int) (0:Int) false [] (0:Int)
def agl (x:dn):List P:=[P.int .i64 (dn.iG x),P.int .i64 (dn.ig x),P.int .i64 (dn.kD x),P.int .i64 (dn.qY x),P.int .i64 (dn.qZ x),P.int .i64 (dn.iY x),P.bool (dn.dQ x),P.fP 1 (List.map (fun (x:Int)=>[P.int .i64 x]) (dn.gY x)),P.int .i64 (dn.to x)]
structure aB where
  name:(List UInt8)
  size:Int
def aah:aB:=aB.mk [] (0:Int)
def aai (x:aB):List P:=[P.str ⟨List.toArray (aB.name x)⟩,P.int .i64 (aB.size x)]
structure dw where
  kind:Int
  op:Int
  dst:Int
  a:Int
  b:Int
  value:Int
  args:(List Int)
def adb:dw:=dw.mk (0:Int) (0:Int) (0:Int) (0:Int) (0:Int) (0:Int) []
def SQ (x:dw):List P:=[P.int .i64 (dw.kind x),P.int .i64 (dw.op x),P.int .i64 (dw.dst x),P.int .i64 (dw.a x),P.int .i64 (dw.b x),P.int .i64 (dw.value x),P.fP 1 (List.map (fun (x:Int)=>[P.int .i64 x]) (dw.args x))]
structure jl where
  op:Int
  arith:Int
  dst:Int
  a:Int
  b:Int
  value:Int
  wide:Bool
  args:(List Int)
def agm:jl:=jl.mk (0:Int) (0:Int) (0:Int) (0:Int) (0:Int) (0:Int) false []
def agn (x:jl):List P:=[P.int .i64 (jl.op x),P.int .i64 (jl.arith x),P.int .i64 (jl.dst x),P.int .i64 (jl.a x),P.int .i64 (jl.b x),P.int .i64 (jl.value x),P.bool (jl.wide x),P.fP 1 (List.map (fun (x:Int)=>[P.int .i64 x]) (jl.args x))]
structure aI where
  instrs:(List dw)
  bI:Int
  kK:Int
  fC:Int
  cO:Int
  line:Int
  gU:Int
  gu:Int
def ade:aI:=aI.mk [] (0:Int) (0:Int) (0:Int) (0:Int) (0:Int) (0:Int) (0:Int)
def SV (x:aI):List P:=[P.fP 7 (List.map SQ (aI.instrs x)),P.int .i64 (aI.bI x),P.int .i64 (aI.kK x),P.int .i64 (aI.fC x),P.int .i64 (aI.cO x),P.int .i64 (aI.line x),P.int .i64 (aI.gU x),P.int .i64 (aI.gu x)]
structure aX where
  name:(List UInt8)
  params:Int
  regs:Int
  blocks:(List aI)
def SX:aX:=aX.mk [] (0:Int) (0:Int) []
def SY (x:aX):List P:=[P.str ⟨List.toArray (aX.name x)⟩,P.int .i64 (aX.params x),P.int .i64 (aX.regs x),P.fP 8 (List.map SV (aX.blocks x))]
def reC:Nat->Type
  |0=>Unit
  |1=>Unit
  |2=>Unit
  |3=>aI
  |4=>dw
  |5=>aX
  |6=>jl
  |7=>Unit
  |8=>Unit
  |9=>Unit
  |10=>aB
  |11=>Unit
  |12=>dn
  |13=>lG
  |14=>au
  |15=>b_
  |16=>aP
  |17=>Unit
  |18=>Unit
  |19=>Unit
  |20=>Unit
  |21=>Unit
  |22=>Unit
  |23=>Unit
  |_=>Unit
def reF:Nat->List Ty
  |0=>[]
  |1=>[]
  |2=>[]
  |3=>[(.sl (.st 4)),(.int .i64),(.int .i64),(.int .i64),(.int .i64),(.int .i64),(.int .i64),(.int .i64)]
  |4=>[(.int .i64),(.int .i64),(.int .i64),(.int .i64),(.int .i64),(.int .i64),(.sl (.int .i64))]
  |5=>[.str,(.int .i64),(.int .i64),(.sl (.st 3))]
  |6=>[(.int .i64),(.int .i64),(.int .i64),(.int .i64),(.int .i64),(.int .i64),.bool,(.sl (.int .i64))]
  |7=>[]
  |8=>[]
  |9=>[]
  |10=>[.str,(.int .i64)]
  |11=>[]
  |12=>[(.int .i64),(.int .i64),(.int .i64),(.int .i64),(.int .i64),(.int .i64),.bool,(.sl (.int .i64)),(.int .i64)]
  |13=>[(.int .i64),(.int .i64),(.int .i64),(.int .i64),(.int .i64),(.int .i64),.bool,(.sl (.int .i64)),(.int .i64)]
  |14=>[.str,(.int .i64),(.sl .str),(.sl (.st 15))]
  |15=>[(.int .i64),(.int .i64),.str,(.sl (.st 16)),(.sl (.st 15)),(.sl (.st 15))]
  |16=>[(.int .i64),(.int .i64),(.int .i64),(.int .i64),.str,(.sl (.st 16))]
  |17=>[]
  |18=>[]
  |19=>[]
  |20=>[]
  |21=>[]
  |22=>[]
  |23=>[]
  |_=>[]
def apR:(n:Nat)->reC n
  |0=>()
  |1=>()
  |2=>()
  |3=>ade
  |4=>adb
  |5=>SX
  |6=>agm
  |7=>()
  |8=>()
  |9=>()
  |10=>aah
  |11=>()
  |12=>agk
  |13=>agi
  |14=>agf
  |15=>agd
  |16=>agc
  |17=>()
  |18=>()
  |19=>()
  |20=>()
  |21=>()
  |22=>()
  |23=>()
  |_+24=>()
def agp:(n:Nat)->reC n->List (TP reC)
  |0,x=>[]
  |1,x=>[]
  |2,x=>[]
  |3,x=>[⟨(.sl (.st 4)),aI.instrs x⟩,⟨(.int .i64),aI.bI x⟩,⟨(.int .i64),aI.kK x⟩,⟨(.int .i64),aI.fC x⟩,⟨(.int .i64),aI.cO x⟩,⟨(.int .i64),aI.line x⟩,⟨(.int .i64),aI.gU x⟩,⟨(.int .i64),aI.gu x⟩]
  |4,x=>[⟨(.int .i64),dw.kind x⟩,⟨(.int .i64),dw.op x⟩,⟨(.int .i64),dw.dst x⟩,⟨(.int .i64),dw.a x⟩,⟨(.int .i64),dw.b x⟩,⟨(.int .i64),dw.value x⟩,⟨(.sl (.int .i64)),dw.args x⟩]
  |5,x=>[⟨.str,aX.name x⟩,⟨(.int .i64),aX.params x⟩,⟨(.int .i64),aX.regs x⟩,⟨(.sl (.st 3)),aX.blocks x⟩]
  |6,x=>[⟨(.int .i64),jl.op x⟩,⟨(.int .i64),jl.arith x⟩,⟨(.int .i64),jl.dst x⟩,⟨(.int .i64),jl.a x⟩,⟨(.int .i64),jl.b x⟩,⟨(.int .i64),jl.value x⟩,⟨.bool,jl.wide x⟩,⟨(.sl (.int .i64)),jl.args x⟩]
  |7,x=>[]
  |8,x=>[]
  |9,x=>[]
  |10,x=>[⟨.str,aB.name x⟩,⟨(.int .i64),aB.size x⟩]
  |11,x=>[]
  |12,x=>[⟨(.int .i64),dn.iG x⟩,⟨(.int .i64),dn.ig x⟩,⟨(.int .i64),dn.kD x⟩,⟨(.int .i64),dn.qY x⟩,⟨(.int .i64),dn.qZ x⟩,⟨(.int .i64),dn.iY x⟩,⟨.bool,dn.dQ x⟩,⟨(.sl (.int .i64)),dn.gY x⟩,⟨(.int .i64),dn.to x⟩]
  |13,x=>[⟨(.int .i64),lG.iG x⟩,⟨(.int .i64),lG.ig x⟩,⟨(.int .i64),lG.kD x⟩,⟨(.int .i64),lG.qY x⟩,⟨(.int .i64),lG.qZ x⟩,⟨(.int .i64),lG.iY x⟩,⟨.bool,lG.dQ x⟩,⟨(.sl (.int .i64)),lG.gY x⟩,⟨(.int .i64),lG.to x⟩]
  |14,x=>[⟨.str,au.name x⟩,⟨(.int .i64),au.line x⟩,⟨(.sl .str),au.params x⟩,⟨(.sl (.st 15)),au.body x⟩]
  |15,x=>[⟨(.int .i64),b_.kind x⟩,⟨(.int .i64),b_.line x⟩,⟨.str,b_.name x⟩,⟨(.sl (.st 16)),b_.exprs x⟩,⟨(.sl (.st 15)),b_.then' x⟩,⟨(.sl (.st 15)),b_.else' x⟩]
  |16,x=>[⟨(.int .i64),aP.kind x⟩,⟨(.int .i64),aP.op x⟩,⟨(.int .i64),aP.value x⟩,⟨(.int .i64),aP.line x⟩,⟨.str,aP.name x⟩,⟨(.sl (.st 16)),aP.args x⟩]
  |17,x=>[]
  |18,x=>[]
  |19,x=>[]
  |20,x=>[]
  |21,x=>[]
  |22,x=>[]
  |23,x=>[]
  |_+24,_=>[]
def al0:(n:Nat)->List (TP reC)->reC n
  |0,ws=>()
  |1,ws=>()
  |2,ws=>()
  |3,ws=>aI.mk (TP.get (.sl (.st 4)) [] ws 0) (TP.get (.int .i64) (0:Int) ws 1) (TP.get (.int .i64) (0:Int) ws 2) (TP.get (.int .i64) (0:Int) ws 3) (TP.get (.int .i64) (0:Int) ws 4) (TP.get (.int .i64) (0:Int) ws 5) (TP.get (.int .i64) (0:Int) ws 6) (TP.get (.int .i64) (0:Int) ws 7)
  |4,ws=>dw.mk (TP.get (.int .i64) (0:Int) ws 0) (TP.get (.int .i64) (0:Int) ws 1) (TP.get (.int .i64) (0:Int) ws 2) (TP.get (.int .i64) (0:Int) ws 3) (TP.get (.int .i64) (0:Int) ws 4) (TP.get (.int .i64) (0:Int) ws 5) (TP.get (.sl (.int .i64)) [] ws 6)
  |5,ws=>aX.mk (TP.get .str [] ws 0) (TP.get (.int .i64) (0:Int) ws 1) (TP.get (.int .i64) (0:Int) ws 2) (TP.get (.sl (.st 3)) [] ws 3)
  |6,ws=>jl.mk (TP.get (.int .i64) (0:Int) ws 0) (TP.get (.int .i64) (0:Int) ws 1) (TP.get (.int .i64) (0:Int) ws 2) (TP.get (.int .i64) (0:Int) ws 3) (TP.get (.int .i64) (0:Int) ws 4) (TP.get (.int .i64) (0:Int) ws 5) (TP.get .bool false ws 6) (TP.get (.sl (.int .i64)) [] ws 7)
  |7,ws=>()
  |8,ws=>()
  |9,ws=>()
  |10,ws=>aB.mk (TP.get .str [] ws 0) (TP.get (.int .i64) (0:Int) ws 1)
  |11,ws=>()
  |12,ws=>dn.mk (TP.get (.int .i64) (0:Int) ws 0) (TP.get (.int .i64) (0:Int) ws 1) (TP.get (.int .i64) (0:Int) ws 2) (TP.get (.int .i64) (0:Int) ws 3) (TP.get (.int .i64) (0:Int) ws 4) (TP.get (.int .i64) (0:Int) ws 5) (TP.get .bool false ws 6) (TP.get (.sl (.int .i64)) [] ws 7) (TP.get (.int .i64) (0:Int) ws 8)
  |13,ws=>lG.mk (TP.get (.int .i64) (0:Int) ws 0) (TP.get (.int .i64) (0:Int) ws 1) (TP.get (.int .i64) (0:Int) ws 2) (TP.get (.int .i64) (0:Int) ws 3) (TP.get (.int .i64) (0:Int) ws 4) (TP.get (.int .i64) (0:Int) ws 5) (TP.get .bool false ws 6) (TP.get (.sl (.int .i64)) [] ws 7) (TP.get (.int .i64) (0:Int) ws 8)
  |14,ws=>au.mk (TP.get .str [] ws 0) (TP.get (.int .i64) (0:Int) ws 1) (TP.get (.sl .str) [] ws 2) (TP.get (.sl (.st 15)) [] ws 3)
  |15,ws=>b_.mk (TP.get (.int .i64) (0:Int) ws 0) (TP.get (.int .i64) (0:Int) ws 1) (TP.get .str [] ws 2) (TP.get (.sl (.st 16)) [] ws 3) (TP.get (.sl (.st 15)) [] ws 4) (TP.get (.sl (.st 15)) [] ws 5)
  |16,ws=>aP.mk (TP.get (.int .i64) (0:Int) ws 0) (TP.get (.int .i64) (0:Int) ws 1) (TP.get (.int .i64) (0:Int) ws 2) (TP.get (.int .i64) (0:Int) ws 3) (TP.get .str [] ws 4) (TP.get (.sl (.st 16)) [] ws 5)
  |17,ws=>()
  |18,ws=>()
  |19,ws=>()
  |20,ws=>()
  |21,ws=>()
  |22,ws=>()
  |23,ws=>()
  |_+24,_=>()
def ajQ:(n:Nat)->reC n->List P
  |0,x=>[]
  |1,x=>[]
  |2,x=>[]
  |3,x=>SV x
  |4,x=>SQ x
  |5,x=>SY x
  |6,x=>agn x
  |7,x=>[]
  |8,x=>[]
  |9,x=>[]
  |10,x=>aai x
  |11,x=>[]
  |12,x=>agl x
  |13,x=>agj x
  |14,x=>agh x
  |15,x=>sF x
  |16,x=>sD x
  |17,x=>[]
  |18,x=>[]
  |19,x=>[]
  |20,x=>[]
  |21,x=>[]
  |22,x=>[]
  |23,x=>[]
  |_+24,_=>[]
theorem al1 :∀n,(reF n).all Ty.word=true
  |0=>rfl
  |1=>rfl
  |2=>rfl
  |3=>rfl
  |4=>rfl
  |5=>rfl
  |6=>rfl
  |7=>rfl
  |8=>rfl
  |9=>rfl
  |10=>rfl
  |11=>rfl
  |12=>rfl
  |13=>rfl
  |14=>rfl
  |15=>rfl
  |16=>rfl
  |17=>rfl
  |18=>rfl
  |19=>rfl
  |20=>rfl
  |21=>rfl
  |22=>rfl
  |23=>rfl
  |_+24=>rfl
theorem ajR :∀(n:Nat) (x:reC n),(agp n x).map (·.t)=reF n
  |0,x=>rfl
  |1,x=>rfl
  |2,x=>rfl
  |3,x=>rfl
  |4,x=>rfl
  |5,x=>rfl
  |6,x=>rfl
  |7,x=>rfl
  |8,x=>rfl
  |9,x=>rfl
  |10,x=>rfl
  |11,x=>rfl
  |12,x=>rfl
  |13,x=>rfl
  |14,x=>rfl
  |15,x=>rfl
  |16,x=>rfl
  |17,x=>rfl
  |18,x=>rfl
  |19,x=>rfl
  |20,x=>rfl
  |21,x=>rfl
  |22,x=>rfl
  |23,x=>rfl
  |_+24,_=>rfl
theorem ajS :∀(n:Nat) (ws:List (TP reC)),ws.map (·.t)=reF n->agp n (al0 n ws)=ws
  |0,ws,h=>by
    have e:=dX h
    subst e
    rfl
  |1,ws,h=>by
    have e:=dX h
    subst e
    rfl
  |2,ws,h=>by
    have e:=dX h
    subst e
    rfl
  |3,ws,h=>by
    obtain ⟨x0,Xb,e0,h0⟩:=aN h
    subst e0
    obtain ⟨x1,ws1,e1,h1⟩:=aN h0
    subst e1
    obtain ⟨x2,ws2,e2,h2⟩:=aN h1
    subst e2
    obtain ⟨x3,ws3,e3,h3⟩:=aN h2
    subst e3
    obtain ⟨x4,ws4,e4,h4⟩:=aN h3
    subst e4
    obtain ⟨x5,ws5,e5,h5⟩:=aN h4
    subst e5
    obtain ⟨x6,ws6,e6,h6⟩:=aN h5
    subst e6
    obtain ⟨x7,ws7,e7,h7⟩:=aN h6
    subst e7
    have e:=dX h7
    subst e
    rfl
  |4,ws,h=>by
    obtain ⟨x0,Xb,e0,h0⟩:=aN h
    subst e0
    obtain ⟨x1,ws1,e1,h1⟩:=aN h0
    subst e1
    obtain ⟨x2,ws2,e2,h2⟩:=aN h1
    subst e2
    obtain ⟨x3,ws3,e3,h3⟩:=aN h2
    subst e3
    obtain ⟨x4,ws4,e4,h4⟩:=aN h3
    subst e4
    obtain ⟨x5,ws5,e5,h5⟩:=aN h4
    subst e5
    obtain ⟨x6,ws6,e6,h6⟩:=aN h5
    subst e6
    have e:=dX h6
    subst e
    rfl
  |5,ws,h=>by
    obtain ⟨x0,Xb,e0,h0⟩:=aN h
    subst e0
    obtain ⟨x1,ws1,e1,h1⟩:=aN h0
    subst e1
    obtain ⟨x2,ws2,e2,h2⟩:=aN h1
    subst e2
    obtain ⟨x3,ws3,e3,h3⟩:=aN h2
    subst e3
    have e:=dX h3
    subst e
    rfl
  |6,ws,h=>by
    obtain ⟨x0,Xb,e0,h0⟩:=aN h
    subst e0
    obtain ⟨x1,ws1,e1,h1⟩:=aN h0
    subst e1
    obtain ⟨x2,ws2,e2,h2⟩:=aN h1
    subst e2
    obtain ⟨x3,ws3,e3,h3⟩:=aN h2
    subst e3
    obtain ⟨x4,ws4,e4,h4⟩:=aN h3
    subst e4
    obtain ⟨x5,ws5,e5,h5⟩:=aN h4
    subst e5
    obtain ⟨x6,ws6,e6,h6⟩:=aN h5
    subst e6
    obtain ⟨x7,ws7,e7,h7⟩:=aN h6
    subst e7
    have e:=dX h7
    subst e
    rfl
  |7,ws,h=>by
    have e:=dX h
    subst e
    rfl
  |8,ws,h=>by
    have e:=dX h
    subst e
    rfl
  |9,ws,h=>by
    have e:=dX h
    subst e
    rfl
  |10,ws,h=>by
    obtain ⟨x0,Xb,e0,h0⟩:=aN h
    subst e0
    obtain ⟨x1,ws1,e1,h1⟩:=aN h0
    subst e1
    have e:=dX h1
    subst e
    rfl
  |11,ws,h=>by
    have e:=dX h
    subst e
    rfl
  |12,ws,h=>by
    obtain ⟨x0,Xb,e0,h0⟩:=aN h
    subst e0
    obtain ⟨x1,ws1,e1,h1⟩:=aN h0
    subst e1
    obtain ⟨x2,ws2,e2,h2⟩:=aN h1
    subst e2
    obtain ⟨x3,ws3,e3,h3⟩:=aN h2
    subst e3
    obtain ⟨x4,ws4,e4,h4⟩:=aN h3
    subst e4
    obtain ⟨x5,ws5,e5,h5⟩:=aN h4
    subst e5
    obtain ⟨x6,ws6,e6,h6⟩:=aN h5
    subst e6
    obtain ⟨x7,ws7,e7,h7⟩:=aN h6
    subst e7
    obtain ⟨x8,ws8,e8,h8⟩:=aN h7
    subst e8
    have e:=dX h8
    subst e
    rfl
  |13,ws,h=>by
    obtain ⟨x0,Xb,e0,h0⟩:=aN h
    subst e0
    obtain ⟨x1,ws1,e1,h1⟩:=aN h0
    subst e1
    obtain ⟨x2,ws2,e2,h2⟩:=aN h1
    subst e2
    obtain ⟨x3,ws3,e3,h3⟩:=aN h2
    subst e3
    obtain ⟨x4,ws4,e4,h4⟩:=aN h3
    subst e4
    obtain ⟨x5,ws5,e5,h5⟩:=aN h4
    subst e5
    obtain ⟨x6,ws6,e6,h6⟩:=aN h5
    subst e6
    obtain ⟨x7,ws7,e7,h7⟩:=aN h6
    subst e7
    obtain ⟨x8,ws8,e8,h8⟩:=aN h7
    subst e8
    have e:=dX h8
    subst e
    rfl
  |14,ws,h=>by
    obtain ⟨x0,Xb,e0,h0⟩:=aN h
    subst e0
    obtain ⟨x1,ws1,e1,h1⟩:=aN h0
    subst e1
    obtain ⟨x2,ws2,e2,h2⟩:=aN h1
    subst e2
    obtain ⟨x3,ws3,e3,h3⟩:=aN h2
    subst e3
    have e:=dX h3
    subst e
    rfl
  |15,ws,h=>by
    obtain ⟨x0,Xb,e0,h0⟩:=aN h
    subst e0
    obtain ⟨x1,ws1,e1,h1⟩:=aN h0
    subst e1
    obtain ⟨x2,ws2,e2,h2⟩:=aN h1
    subst e2
    obtain ⟨x3,ws3,e3,h3⟩:=aN h2
    subst e3
    obtain ⟨x4,ws4,e4,h4⟩:=aN h3
    subst e4
    obtain ⟨x5,ws5,e5,h5⟩:=aN h4
    subst e5
    have e:=dX h5
    subst e
    rfl
  |16,ws,h=>by
    obtain ⟨x0,Xb,e0,h0⟩:=aN h
    subst e0
    obtain ⟨x1,ws1,e1,h1⟩:=aN h0
    subst e1
    obtain ⟨x2,ws2,e2,h2⟩:=aN h1
    subst e2
    obtain ⟨x3,ws3,e3,h3⟩:=aN h2
    subst e3
    obtain ⟨x4,ws4,e4,h4⟩:=aN h3
    subst e4
    obtain ⟨x5,ws5,e5,h5⟩:=aN h4
    subst e5
    have e:=dX h5
    subst e
    rfl
  |17,ws,h=>by
    have e:=dX h
    subst e
    rfl
  |18,ws,h=>by
    have e:=dX h
    subst e
    rfl
  |19,ws,h=>by
    have e:=dX h
    subst e
    rfl
  |20,ws,h=>by
    have e:=dX h
    subst e
    rfl
  |21,ws,h=>by
    have e:=dX h
    subst e
    rfl
  |22,ws,h=>by
    have e:=dX h
    subst e
    rfl
  |23,ws,h=>by
    have e:=dX h
    subst e
    rfl
  |_+24,ws,h=>by have e:=dX h;subst e;rfl
theorem ajT :∀(n:Nat) (x:reC n),ajQ n x=(agp n x).map fun w=>I9 (jA reF) (pz reF ajQ (jA reF)) w.t w.x
  |0,x=>by kernel_rfl
  |1,x=>by kernel_rfl
  |2,x=>by kernel_rfl
  |3,x=>by kernel_rfl
  |4,x=>by kernel_rfl
  |5,x=>by kernel_rfl
  |6,x=>by kernel_rfl
  |7,x=>by kernel_rfl
  |8,x=>by kernel_rfl
  |9,x=>by kernel_rfl
  |10,x=>by kernel_rfl
  |11,x=>by kernel_rfl
  |12,x=>by kernel_rfl
  |13,x=>by kernel_rfl
  |14,x=>by kernel_rfl
  |15,x=>(VN x).trans (by kernel_rfl)
  |16,x=>(VL x).trans (by kernel_rfl)
  |17,x=>by kernel_rfl
  |18,x=>by kernel_rfl
  |19,x=>by kernel_rfl
  |20,x=>by kernel_rfl
  |21,x=>by kernel_rfl
  |22,x=>by kernel_rfl
  |23,x=>by kernel_rfl
  |_+24,_=>rfl
def reG:Nat->Option ((e:Ty)×List (D reC e))
  |0=>some ⟨.str,J7⟩
  |_=>none
instance re:RE where
  C:=reC
  F:=reF
  dflt:=apR
  un:=agp
  ro:=al0
  er:=ajQ
  Fwd:=al1
  ahV:=ajR
  ahW:=ajS
  ahX:=ajT
  G:=reG
theorem mixed:Fit Tryz.prog:=⟨Fw.YtapemkmlinejmaaGreatDoor.ajO,fun _ _ _ _ h=>h.elim⟩
def A_:List (Nat×Ty):=[(3,(.int .i64)),(4,.bool),(5,(.int .u8)),(9,.str),(28,(.st 5)),(29,(.sl (.int .i64))),(49,(.st 6)),(57,(.st 3)),(71,(.st 12)),(75,(.st 4)),(77,(.st 13)),(102,(.st 10)),(126,(.st 14)),(150,(.st 15)),(169,(.st 16))]
def ety:TypeId->Option Ty:=fun t=>A_.lookup t
def kS (l:List Nat) (r:List (Nat×Md)):List (Nat×Md):=l.map (fun n=>(n,.keep))++r
def kO (l:List Nat) (r:List (Nat×Mo)):List (Nat×Mo):=l.map (fun n=>(n,.keep))++r
def lS (l r:List (Nat×Md)):=l++r
def lO (l r:List (Nat×Mo)):=l++r
abbrev q0:kC:=.p false false (.int .i64)
abbrev q1:kC:=.p true false (.int .i64)
abbrev q3:kC:=.p false true (.int .i64)
abbrev q4:iM:=.box [(.p false true (.sl (.int .u8))),q0]
abbrev q6:iM:=.arr false false false (.int .i64)
abbrev q7:kN:=.one q0
abbrev q9:iM:=.aO true true (.st 3) [(0,(.st 4))]
abbrev q10:iM:=.arr false true false (.int .i64)
abbrev q11:iM:=.box [(.p false true (.sl (.st 10))),(.p false true (.sl (.st 14))),(.p false true (.sl .str)),q3,q3,(.own 50001),q3]
abbrev q12:iM:=.box [(.p false true (.sl (.st 10))),(.p false true (.sl (.st 14))),(.own 50001),q3,q3]
abbrev q13:kC:=.p true true (.sl (.st 10))
abbrev S9:kC:=.p true true (.sl (.st 14))
abbrev X6:iM:=.box [(.box 50001 0),(.own 50002),(.own 50003),(.own 50004),q3]
abbrev q17:iM:=.box [(.p false true (.sl (.st 10))),(.p false true (.sl (.st 14))),(.own 50001),q0,q0]
abbrev wW:iM:=.arr false false true .str
abbrev J8:iM:=.box [(.p false true (.sl (.int .u8))),q3]
abbrev q20:kC:=.p true false (.sl (.int .i64))
abbrev q8:kN:=.agg [q1,q1,q1,q1,q1,q1,(.p true false .bool),q20]
abbrev xB:kN:=.one (.box 50000 0)
abbrev q22:kC:=.p true true (.sl .str)
abbrev q23:iM:=.arr false false false (.int .u8)
abbrev q24:iM:=.arr false false true (.st 10)
abbrev Na:iM:=.arr false false true (.st 14)
abbrev VO:kC:=.p false false .bool
abbrev q2:kN:=.one VO
abbrev tY:kN:=.one q1
abbrev q28:iM:=.aO false true (.st 3) [(0,(.st 4))]
abbrev q29:iM:=.box [q13,S9,q22,q0,q0,(.own 1033),q0]
abbrev q30:iM:=.aO false false (.st 5) [(3,(.st 3))]
abbrev KE:kC:=.p false false .str
abbrev q34:iM:=.arr false true false (.st 12)
abbrev q35:kN:=.agg [(.p true false (.sl (.st 10))),(.p true false (.sl (.st 5))),q1,q1]
abbrev q36:iM:=.box [q13,S9,q22,q3,q3,(.own 100002),q3]
abbrev q37:kN:=.one (.own 100001)
abbrev q38:kN:=.agg [(.p true false (.sl (.st 10))),(.p true false (.sl (.st 14)))]
abbrev q39:iM:=.arr false false false .bool
abbrev q40:kC:=.p true false (.sl (.st 15))
abbrev q41:iM:=.box [(.box 50001 0),(.own 50002),(.own 50003),(.own 50004),q0]
abbrev q42:iM:=.box [(.p false true (.sl (.st 10))),(.p false true (.sl (.st 14))),(.p false true (.sl .str)),q0,q0,(.own 50001),q0]
abbrev X7:kN:=.one (.own 100000)
abbrev VP:kC:=.p true false .str
abbrev q16:kN:=.agg [VP,q1,q1,(.p true false (.sl (.st 3)))]
abbrev q45:iM:=.arr false false true (.int .u8)
abbrev q46:kN:=.one (.own 55000)
abbrev q47:iM:=.arr false false true (.st 15)
abbrev q48:iM:=.arr false true true .str
abbrev q49:kN:=.agg [q1,q1,q1,q1,q1,q1,q20]
abbrev q50:kC:=.p true false (.sl (.st 16))
abbrev q32:kN:=.agg [q1,q1,q1,q1,VP,q50]
abbrev q51:iM:=.arr false false false (.st 10)
abbrev q52:iM:=.box [q13,S9,(.own 100002),q0,q0]
abbrev q53:iM:=.box [q13,S9,(.own 100002),q3,q3]
abbrev q54:kC:=.p true false (.sl (.int .u8))
abbrev q55:iM:=.arr false true true (.st 16)
abbrev q56:iM:=.arr false true false (.st 6)
abbrev q57:kN:=.one (.own 101001)
abbrev q58:iM:=.box [q13,S9,q22,q0,q0,(.own 60001),q0]
abbrev q59:kN:=.one q20
abbrev q60:kN:=.one (.own 60000)
abbrev q62:iM:=.arr false false true (.st 16)
abbrev q63:kN:=.one (.own 100002)
abbrev q64:iM:=.arr false false false (.st 4)
abbrev q65:iM:=.arr false true false (.st 3)
abbrev q66:kN:=.agg [q1,q1,q1,q1]
abbrev q67:iM:=.arr false false false .str
abbrev q68:kN:=.one (.p true false .bool)
abbrev q70:kC:=.p true false (.sl .str)
abbrev q71:iM:=.box [(.box 50000 0),(.own 101003),(.own 100701),(.own 100702),q0]
abbrev q72:iM:=.box [(.box 50000 0),(.own 103003),(.own 100701),(.own 100702),q0]
abbrev q73:iM:=.box [(.box 50000 0),(.own 103003),(.own 105004),(.own 100702),q0]
abbrev q74:iM:=.box [(.box 50000 0),(.own 103003),(.own 105004),(.own 109005),q0]
abbrev q75:kN:=.one (.own 102001)
abbrev q76:iM:=.box [(.box 50001 0),(.own 50002),(.own 50003),(.own 100005),q3]
abbrev q78:kN:=.agg [q1,q1,VP,q50,q40,q40]
abbrev q79:iM:=.box [(.p true false (.sl (.st 4))),q1,q1,q1,q1,q1,q1,q1]
abbrev q81:iM:=.arr false false false (.st 14)
abbrev q82:iM:=.arr false true false (.st 14)
abbrev q83:iM:=.arr false false false (.st 3)
abbrev q84:iM:=.arr false true true (.st 15)
abbrev q85:iM:=.arr false true false (.st 5)
abbrev j0:fV:=.seq .nil .nil
abbrev j1:fV:=.seq .nil j0
abbrev j3:fV:=.seq j1 .nil
abbrev j4:JT:=⟨[],[(50000,.ob q29),(1033,.ob q9)]⟩
abbrev j6:JT:=⟨[(1,.keep),(3,.sl q7),(4,.sl q7)],[(1,.keep)]⟩
abbrev j7:fV:=.seq j0 .nil
abbrev j8:fV:=.seq (.meet false ⟨[(2,.sl q2)],[]⟩ .nil) .nil
abbrev j9:JT:=⟨kS [0,4] [],lO [(50000,.ob X6),(50001,.ob q4)] (kO [50002,50003,4,50004] [])⟩
abbrev j10:JT:=⟨kS [0,3,4] [],lO [(50000,.ob q12)] (kO [50001,3,4] [])⟩
abbrev j11:JT:=⟨kS [0,1,5,6,7] [],lO [(50000,.ob q52)] (kO [100001,7,100002,101003] [])⟩
abbrev j12:fV:=.seq .nil j1
abbrev j13:JT:=⟨kS [0,3,4] [],lO [(50000,.ob q17)] (kO [50001,3,4] [])⟩
abbrev j14:fV:=.seq j0 (.seq j3 .nil)
abbrev j5:fV:=.seq (.seq .nil (.meet true ⟨[],[]⟩ (.loop ⟨kS [0,1] [(5,.sl q7)],[]⟩ j14))) .nil
abbrev j15:fV:=.seq .nil (.seq .nil j7)
abbrev j20:JT:=⟨kS [1,3,4] [],[(1,.keep)]⟩
abbrev j22:fV:=.seq .nil (.seq (.seq .nil (.meet true ⟨[],[]⟩ (.loop ⟨kS [1,2] [(5,.sl q7)],[(2,.keep)]⟩ j14))) .nil)
abbrev j23:JT:=⟨kS [1,4] [(5,.sl q2)],[(1,.keep)]⟩
abbrev j24:fV:=.seq .nil (.seq .nil (.seq (.seq .nil (.meet false ⟨[(3,.sl q7)],[]⟩ (.loop j6 (.seq j0 j0)))) .nil))
abbrev j25:JT:=⟨kS [4,5,7,8,9,12] (lS [(13,.sl q2)] (kS [52,53,54] [])),lO [(28,.ob q34)] (kO [1028,34,102003] [])⟩
abbrev j26:fV:=.seq .nil (.meet false ⟨kS [1,2,3,4,7,8,9] [],kO [1,2,11,14,7] [(9,.ob q79),(103005,.keep)]⟩ .nil)
abbrev j27:JT:=⟨kS [4,5,7,8,9] [(12,.sl (.one (.own 102003)))],lO [(28,.ob q34)] (kO [1028,34] [(102003,.ob q6)])⟩
abbrev j29:fV:=.seq .nil j12
abbrev j30:JT:=⟨kS [0,2,3,4,7,8] [],lO [(50000,.ob q4)] (kO [2,3] [(100004,.ob q30),(19,.keep)])⟩
abbrev j31:JT:=⟨[],[(50000,.ob q36),(100002,.ob q9)]⟩
abbrev j32:fV:=.seq .nil j3
abbrev j33:JT:=⟨[(1,.keep),(18,.sl q2)],[(1,.keep)]⟩
abbrev j34:JT:=⟨kS [1,3,6] [(7,.sl q2)],[(1,.keep)]⟩
abbrev j2:fV:=.seq .nil (.seq (.seq (.seq .nil (.meet false j34 (.seq .nil (.seq .nil (.meet false j34 (.seq .nil (.seq .nil (.meet false j34 .nil)))))))) (.meet true j6 (.seq .nil (.seq .nil (.meet true j6 (.seq .nil (.seq .nil (.meet true j6 (.seq .nil (.seq .nil (.meet true j6 (.seq .nil (.seq (.seq .nil (.meet false j33 (.seq .nil (.seq .nil (.meet false j33 .nil))))) (.seq (.seq .nil (.seq .nil (.meet false j6 .nil))) .nil)))))))))))))) .nil)
abbrev j35:JT:=⟨[(1,.keep),(3,.sl q2)],[(1,.keep)]⟩
abbrev j36:JT:=⟨[(1,.keep),(6,.sl q2)],[(1,.keep)]⟩
abbrev j38:fV:=.seq (.seq j12 .nil) .nil
abbrev j39:JT:=⟨kS [2,3] [],[(2,.keep),(3,.ob (.box [q0,q0,q1,q0,q0,q1,VO,.dF]))]⟩
abbrev j41:fV:=.seq .nil (.seq (.meet false ⟨[(6,.sl q2)],[]⟩ .nil) .nil)
abbrev j43:fV:=.meet false ⟨kS [1,2] [(14,.sl q2)],[(2,.keep)]⟩ .nil
abbrev j44:JT:=⟨kS [0,4] [],kO [50000,50001,50002,50003,4,50004] []⟩
abbrev j48:JT:=⟨[],[(50000,.ob q17),(50001,.keep)]⟩
abbrev j49:fV:=.seq .nil j32
abbrev j50:JT:=⟨[(0,.sl X7)],[(100000,.ob q45)]⟩
def sg7:dB:={ bD:=2,pin:=⟨[(0,(.one q54)),(1,tY)],[]⟩,aQ:=⟨[(0,(.one (.box 14 0)))],[(14,(.box [q54,q0]))]⟩,dA:=1,aY:=[],aV:=[14] }
def an7:fV:=(.seq .nil (.seq (.seq .nil (.meet false ⟨[(0,.sl (.one q54))],[]⟩ .nil)) .nil))
def al9:dB:={ bD:=2,pin:=⟨[(0,xB),(1,tY)],[(50000,J8)]⟩,aQ:=⟨[(0,q7)],[(50000,q4)]⟩,dA:=1,aY:=[50000],aV:=[] }
def ap2:fV:=(.seq .nil (.seq (.seq (.meet false ⟨kS [0,1] [(19,.sl q2)],[(50000,.keep)]⟩ .nil) j0) j49))
def ap3:dB:={ bD:=1,pin:=⟨[(0,q16)],[]⟩,aQ:=⟨[(0,q37)],[(100001,q6)]⟩,dA:=1,aY:=[],aV:=[100001] }
def ap4:fV:=(.seq .nil (.seq .nil (.seq (.seq .nil (.meet false ⟨[(3,.sl q37)],[(100001,.ob q6)]⟩ (.loop ⟨[(1,.keep),(3,.sl q37),(4,.sl q7)],[(1,.keep),(100001,.ob q6)]⟩ (.seq j0 j0)))) .nil)))
def ap5:dB:={ bD:=1,pin:=⟨[(0,q16)],[]⟩,aQ:=⟨[(0,X7)],[(100000,q6)]⟩,dA:=1,aY:=[],aV:=[100000] }
def ap6:fV:=(.seq .nil (.seq .nil (.seq (.seq .nil (.meet false ⟨[(3,.sl X7)],[(100000,.ob q6)]⟩ (.loop ⟨[(3,.sl X7),(7,.keep),(8,.sl q7)],[(100000,.ob q6)]⟩ j15))) .nil)))
def ap7:dB:={ bD:=2,pin:=⟨[(0,q59),(1,tY)],[]⟩,aQ:=⟨[(0,q2)],[]⟩,dA:=1,aY:=[],aV:=[] }
def ap8:fV:=(.seq .nil j5)
def ap9:dB:={ bD:=1,pin:=⟨[(0,q59)],[]⟩,aQ:=⟨[(0,q60)],[(60000,q10)]⟩,dA:=1,aY:=[],aV:=[60000] }
def ap_:fV:=j32
def aqa:dB:={ bD:=2,pin:=⟨[(0,q59),(1,q59)],[]⟩,aQ:=⟨[(0,q2)],[]⟩,dA:=1,aY:=[],aV:=[] }
def aqb:fV:=(.seq .nil (.seq j1 (.seq (.seq .nil (.meet true ⟨[],[]⟩ (.loop ⟨kS [0,1,12] [(13,.sl q7)],[]⟩ (.seq .nil (.seq .nil j38))))) .nil)))
def aqc:dB:={ bD:=1,pin:=⟨[(0,q49)],[]⟩,aQ:=⟨[(0,(.agg [q0,q0,q0,q0,q0,q0,VO,(.own 113002)]))],[(113002,q10)]⟩,dA:=1,aY:=[],aV:=[113002] }
def aqd:fV:=(.seq .nil (.seq .nil (.seq (.seq .nil (.seq (.seq .nil (.meet false ⟨kS [2,3] [],[(2,.keep),(3,.ob (.box [q0,q1,q1,q1,q1,q1,VO,(.own 113002)])),(113002,.ob q10)]⟩ (.seq .nil (.seq .nil (.meet false ⟨kS [2,3] [],[(2,.keep),(3,.ob (.box [q0,q1,q1,q1,q1,q1,VO,(.own 112002)])),(112002,.ob q10)]⟩ (.seq .nil (.seq .nil (.meet false ⟨kS [2,3] [],[(2,.keep),(3,.ob (.box [q0,q1,q1,q1,q1,q1,VO,(.own 111002)])),(111002,.ob q10)]⟩ (.seq .nil (.seq .nil (.meet false ⟨kS [2,3] [],[(2,.keep),(3,.ob (.box [q0,q1,q1,q1,q1,q1,VO,(.own 110002)])),(110002,.ob q10)]⟩ (.seq .nil (.seq .nil (.meet false ⟨kS [2,3] [],[(2,.keep),(3,.ob (.box [q0,q0,q1,q1,q1,q1,VO,(.own 109002)])),(109002,.ob q10)]⟩ (.seq .nil (.seq .nil (.meet false ⟨kS [2,3] [],[(2,.keep),(3,.ob (.box [q0,q0,q1,q1,q1,q1,VO,(.own 108002)])),(108002,.ob q10)]⟩ (.seq .nil (.seq .nil (.meet false ⟨kS [2,3] [],[(2,.keep),(3,.ob (.box [q0,q0,q1,q1,q1,q1,VO,(.own 107002)])),(107002,.ob q10)]⟩ (.seq .nil (.seq .nil (.meet false ⟨kS [2,3] [],[(2,.keep),(3,.ob (.box [q0,q0,q1,q1,q1,q1,VO,(.own 106002)])),(106002,.ob q10)]⟩ (.seq .nil (.seq .nil (.meet false ⟨kS [2,3] [],[(2,.keep),(3,.ob (.box [q0,q0,q1,q1,q0,q1,VO,(.own 105002)])),(105002,.ob q10)]⟩ (.seq .nil (.seq .nil (.meet false ⟨kS [2,3] [],[(2,.keep),(3,.ob (.box [q0,q0,q1,q1,q0,q1,VO,(.own 104002)])),(104002,.ob q10)]⟩ (.seq .nil (.seq .nil (.meet false ⟨kS [2,3] [],[(2,.keep),(3,.ob (.box [q0,q0,q1,q1,q0,q1,VO,(.own 103002)])),(103002,.ob q10)]⟩ (.seq .nil (.seq .nil (.meet false ⟨kS [2,3] [],[(2,.keep),(3,.ob (.box [q0,q0,q1,q1,q0,q1,VO,(.own 102002)])),(102002,.ob q10)]⟩ (.seq .nil (.seq .nil (.meet false j39 (.seq .nil (.seq .nil (.meet false j39 .nil))))))))))))))))))))))))))))))))))))))))) .nil)) .nil)))
def aqe:dB:={ bD:=2,pin:=⟨[(0,q66),(1,tY)],[]⟩,aQ:=⟨[(0,q60)],[(60000,q34)]⟩,dA:=1,aY:=[],aV:=[60000] }
def aqf:fV:=(.seq .nil (.seq .nil (.seq (.seq (.seq .nil (.seq .nil (.seq (.meet false ⟨kS [1,2,5] [(19,.sl q2)],kO [2,5] []⟩ .nil) (.seq j3 j29)))) .nil) j0)))
def aqg:dB:={ bD:=1,pin:=⟨[(0,tY)],[]⟩,aQ:=⟨[(0,(.one KE))],[]⟩,dA:=1,aY:=[],aV:=[] }
def aqh:fV:=(.seq .nil (.seq .nil (.seq (.seq (.meet false ⟨kS [0,3] [(12,.sl q2)],[(4,.keep)]⟩ .nil) j0) .nil)))
def aqi:dB:={ bD:=3,pin:=⟨[(0,q46),(1,tY),(2,tY)],[(55000,q45)]⟩,aQ:=⟨[(0,X7)],[(100000,q45)]⟩,dA:=1,aY:=[],aV:=[100000] }
def aqj:fV:=(.seq .nil (.seq (.seq .nil (.meet false j50 (.loop ⟨lS [(0,.sl X7)] (kS [1,2] [(7,.sl q7)]),[(100000,.ob q45)]⟩ (.seq j0 j0)))) .nil))
def aqk:dB:={ bD:=2,pin:=⟨[(0,q8),(1,(.one (.p true false (.int .u8))))],[]⟩,aQ:=⟨[(0,q7)],[]⟩,dA:=1,aY:=[],aV:=[] }
def aql:fV:=(.seq .nil (.seq (.seq .nil (.seq (.seq .nil (.seq .nil (.seq .nil (.seq .nil (.seq .nil (.seq .nil (.seq .nil (.meet true ⟨[],[]⟩ j3)))))))) .nil)) .nil))
def al_:dB:={ bD:=1,pin:=⟨[(0,tY)],[]⟩,aQ:=⟨[(0,(.one KE))],[]⟩,dA:=1,aY:=[],aV:=[] }
def aqm:fV:=j49
def aqn:dB:={ bD:=3,pin:=⟨[(0,xB),(1,q35),(2,q16)],[(50000,J8)]⟩,aQ:=⟨[(0,(.agg [q0,q0,q0,q0,q0,q0,(.own 60001)]))],[(50000,q4),(60001,q6)]⟩,dA:=1,aY:=[50000],aV:=[60001] }
def aqo:fV:=(.seq .nil (.seq .nil (.seq (.seq .nil (.seq (.seq .nil (.meet false ⟨kS [0,4,6,7] [],lO [(50000,.ob q4)] (kO [4,6] [(7,.ob (.box [q0,q0,q0,q0,q0,q0,(.own 110004)])),(110004,.ob q6)])⟩ (.seq .nil (.seq .nil (.meet false ⟨kS [0,4,6,7] [],lO [(50000,.ob q4)] (kO [4,6] [(7,.ob (.box [q0,q0,q0,q0,q0,q0,(.own 109004)])),(109004,.ob q6)])⟩ (.seq .nil (.seq .nil (.meet false ⟨kS [0,4,6,7] [],lO [(50000,.ob q4)] (kO [4,6] [(7,.ob (.box [q0,q0,q0,q0,q0,q0,(.own 108004)])),(108004,.ob q6)])⟩ (.seq .nil (.seq (.seq .nil (.meet false ⟨kS [0,4,5,6,7,27] [(46,.sl q2)],kO [50000,4,5,6,7] []⟩ .nil)) (.meet false ⟨kS [0,4,6,7] [],lO [(50000,.ob q4)] (kO [4,6] [(7,.ob (.box [q0,q0,q0,q0,q0,q0,(.own 107004)])),(107004,.ob q6)])⟩ (.seq .nil (.seq .nil (.meet false ⟨kS [0,4,6,7] [],lO [(50000,.ob q4)] (kO [4,6] [(7,.ob (.box [q0,q0,q0,q0,q0,q0,(.own 106004)])),(106004,.ob q6)])⟩ (.seq (.seq .nil (.seq .nil (.meet false ⟨kS [0,4,6,7] [],lO [(50000,.ob q4)] (kO [4,6] [(7,.ob (.box [q0,q0,q0,q0,q0,q0,(.own 101005)])),(101005,.ob q6)])⟩ (.loop ⟨kS [0,4,5,6,7] [(8,.sl q7)],lO [(50000,.ob q4)] (kO [4,5,6] [(7,.ob (.box [q0,q0,q0,q0,q0,q0,(.own 101005)])),(101005,.ob q6)])⟩ (.seq j0 j0))))) (.seq .nil (.meet false ⟨kS [0,4,6,7] [],lO [(50000,.ob q4)] (kO [4,6] [(7,.ob (.box [q0,q0,q0,q0,q0,q0,(.own 105004)])),(105004,.ob q6)])⟩ (.seq (.seq .nil (.meet false ⟨kS [0,4,6,7] [],lO [(50000,.ob q4)] (kO [4,6] [(7,.ob (.box [q0,q0,q0,q0,q0,q0,(.own 103005)])),(103005,.ob q6)])⟩ (.loop ⟨kS [0,4,5,6,7] [(9,.sl q7)],lO [(50000,.ob q4)] (kO [4,5,6] [(7,.ob (.box [q0,q0,q0,q0,q0,q0,(.own 103005)])),(103005,.ob q6)])⟩ (.seq j0 j0)))) .nil)))))))))))))))))) .nil)) (.seq (.seq (.meet false ⟨kS [0,4,6,7] [(107,.sl q2)],lO [(50000,.ob q4)] (kO [4,6,7,110004] [])⟩ .nil) j0) .nil))))
def aqp:dB:={ bD:=3,pin:=⟨[(0,q46),(1,tY),(2,tY)],[(55000,q45)]⟩,aQ:=⟨[(0,X7)],[(100000,q45)]⟩,dA:=1,aY:=[],aV:=[100000] }
def aqr:fV:=(.seq .nil (.seq (.seq .nil (.meet false j50 (.loop ⟨lS [(0,.sl X7)] (kS [1,8] [(9,.sl q7)]),[(100000,.ob q45)]⟩ j15))) .nil))
def aqs:dB:={ bD:=1,pin:=⟨[(0,q68)],[]⟩,aQ:=⟨[(0,q7)],[]⟩,dA:=1,aY:=[],aV:=[] }
def aqt:fV:=j32
def aqu:dB:={ bD:=1,pin:=⟨[(0,q8)],[]⟩,aQ:=⟨[(0,q2)],[]⟩,dA:=1,aY:=[],aV:=[] }
def aqv:fV:=(.seq .nil (.seq (.seq .nil (.seq (.seq .nil (.seq j8 (.seq .nil (.seq j8 .nil)))) .nil)) .nil))
def aqw:dB:={ bD:=1,pin:=⟨[(0,tY)],[]⟩,aQ:=⟨[(0,q2)],[]⟩,dA:=1,aY:=[],aV:=[] }
def aqx:fV:=(.seq .nil j8)
def aqy:dB:={ bD:=1,pin:=⟨[(0,q8)],[]⟩,aQ:=⟨[(0,q2)],[]⟩,dA:=1,aY:=[],aV:=[] }
def aqz:fV:=(.seq .nil (.seq .nil (.seq j2 j8)))
def aqA:dB:={ bD:=1,pin:=⟨[(0,q66)],[]⟩,aQ:=⟨[(0,q60)],[(60000,q10)]⟩,dA:=1,aY:=[],aV:=[60000] }
def aqB:fV:=(.seq .nil (.seq (.seq (.seq (.meet false j35 .nil) (.seq .nil (.seq (.meet false ⟨[(1,.keep),(19,.sl q2)],[(1,.keep)]⟩ .nil) j0))) .nil) .nil))
def aqC:dB:={ bD:=2,pin:=⟨[(0,xB),(1,tY)],[(50000,q11),(50001,q28)]⟩,aQ:=⟨[(0,q7)],[(50000,(.box [(.p false true (.sl (.st 10))),(.p false true (.sl (.st 14))),(.p false true (.sl .str)),q0,q0,(.own 30),q0])),(30,q9)]⟩,dA:=1,aY:=[50000],aV:=[30] }
def aqD:fV:=j12
def ama:TypeId->Option Ty:=fun t=>(([(1000057,(.prod (.st 0) .bool)),(3000009,.bool)]:List (Nat×Ty))++A_).lookup t
def aqE:dB:={ bD:=2,pin:=⟨[(0,xB),(1,q49)],[(50000,q11),(50001,q28)]⟩,aQ:=⟨[],[(50000,q42),(50001,q9)]⟩,dA:=0,aY:=[50000,50001],aV:=[] }
def aqF:fV:=.nil
def amb:TypeId->Option Ty:=fun t=>(([(1000057,(.prod (.st 0) .bool))]:List (Nat×Ty))++A_).lookup t
def aqG:dB:={ bD:=3,pin:=⟨[(0,xB),(1,tY),(2,q66)],[(50000,q11),(50001,q28)]⟩,aQ:=⟨[],[(50000,q42),(50001,q9)]⟩,dA:=0,aY:=[50000,50001],aV:=[] }
def aqH:fV:=.nil
def amc:TypeId->Option Ty:=fun t=>(([(1000057,(.prod (.st 0) .bool))]:List (Nat×Ty))++A_).lookup t
def aqI:dB:={ bD:=1,pin:=⟨[(0,q8)],[]⟩,aQ:=⟨[(0,q37)],[(100001,q10)]⟩,dA:=1,aY:=[],aV:=[100001] }
def aqJ:fV:=(.seq .nil (.seq .nil (.seq (.seq .nil (.meet false ⟨[(3,.sl q37)],[(100001,.ob q10)]⟩ (.loop ⟨[(1,.keep),(3,.sl q37),(10,.keep)],[(1,.keep),(100001,.ob q10),(10,.ob .it)]⟩ (.seq .nil (.seq .nil (.seq (.seq .nil (.seq .nil (.seq (.seq .nil (.meet false ⟨[(1,.keep),(3,.sl (.one (.own 104001))),(10,.keep)],[(1,.keep),(104001,.ob q10),(10,.keep)]⟩ (.seq .nil (.seq .nil (.meet false ⟨[(1,.keep),(3,.sl (.one (.own 103001))),(10,.keep)],[(1,.keep),(103001,.ob q10),(10,.keep)]⟩ (.seq .nil (.seq .nil (.meet false ⟨[(1,.keep),(3,.sl q75),(10,.keep)],[(1,.keep),(102001,.ob q10),(10,.keep)]⟩ (.seq .nil (.seq .nil (.meet false ⟨[(1,.keep),(3,.sl q57),(10,.keep)],[(1,.keep),(101001,.ob q10),(10,.keep)]⟩ .nil))))))))))) .nil))) .nil)))))) .nil)))
def aqK:dB:={ bD:=3,pin:=⟨[(0,tY),(1,tY),(2,tY)],[]⟩,aQ:=⟨[(0,q2)],[]⟩,dA:=1,aY:=[],aV:=[] }
def aqL:fV:=j41
def aqM:dB:={ bD:=1,pin:=⟨[(0,q8)],[]⟩,aQ:=⟨[(0,q2)],[]⟩,dA:=1,aY:=[],aV:=[] }
def aqN:fV:=(.seq .nil (.seq .nil (.seq j2 .nil)))
def aqO:dB:={ bD:=1,pin:=⟨[(0,tY)],[]⟩,aQ:=⟨[(0,q2)],[]⟩,dA:=1,aY:=[],aV:=[] }
def aqP:fV:=(.seq .nil j8)
def amd:dB:={ bD:=2,pin:=⟨[(0,q46),(1,(.one q40))],[(55000,wW)]⟩,aQ:=⟨[(0,X7)],[(100000,q48)]⟩,dA:=1,aY:=[],aV:=[100000] }
def aqQ:fV:=(.seq .nil (.seq (.seq .nil (.meet false ⟨[(0,.sl X7)],[(100000,.ob q48)]⟩ (.loop ⟨[(0,.sl X7),(1,.keep),(5,.sl q7)],[(100000,.ob q48)]⟩ (.seq j0 (.seq (.seq (.seq (.seq .nil (.meet false ⟨lS [(0,.sl (.one (.own 101000)))] (kS [1,5] []),[(101000,.ob q48)]⟩ .nil)) .nil) .nil) .nil))))) .nil))
def aqR:dB:={ bD:=2,pin:=⟨[(0,q38),(1,(.one VP))],[]⟩,aQ:=⟨[(0,q7)],[]⟩,dA:=1,aY:=[],aV:=[] }
def aqS:fV:=j22
def aqT:dB:={ bD:=2,pin:=⟨[(0,q38),(1,(.one VP))],[]⟩,aQ:=⟨[(0,q7)],[]⟩,dA:=1,aY:=[],aV:=[] }
def aqU:fV:=j22
def ame:dB:={ bD:=1,pin:=⟨[(0,(.one q40))],[]⟩,aQ:=⟨[(0,q7)],[]⟩,dA:=1,aY:=[],aV:=[] }
def aqV:fV:=(.seq .nil (.seq .nil (.seq (.seq .nil (.meet false ⟨[(3,.sl q7)],[]⟩ (.loop ⟨[(0,.keep),(3,.sl q7),(4,.sl q7)],[]⟩ (.seq j0 j0)))) .nil)))
def amf:dB:={ bD:=2,pin:=⟨[(0,(.one q70)),(1,(.one VP))],[]⟩,aQ:=⟨[(0,q2)],[]⟩,dA:=1,aY:=[],aV:=[] }
def amg:fV:=(.seq .nil j5)
def amh:dB:={ bD:=2,pin:=⟨[(0,q38),(1,(.one VP))],[]⟩,aQ:=⟨[(0,q7)],[]⟩,dA:=1,aY:=[],aV:=[] }
def ami:fV:=(.seq .nil (.seq (.seq .nil (.seq .nil (.seq j3 .nil))) j3))
def amj:dB:={ bD:=1,pin:=⟨[(0,tY)],[]⟩,aQ:=⟨[(0,q2)],[]⟩,dA:=1,aY:=[],aV:=[] }
def amk:fV:=j0
def aml:dB:={ bD:=2,pin:=⟨[(0,xB),(1,(.one VP))],[(50000,q11),(50001,q28)]⟩,aQ:=⟨[(0,q7)],[(50000,q42),(50001,q28)]⟩,dA:=1,aY:=[50000,50001],aV:=[],kept:=[50001] }
def amm:fV:=(.seq .nil (.seq (.seq .nil (.meet true ⟨[],kO [50000,50001] []⟩ (.loop ⟨kS [0,1] [(5,.sl q7)],kO [50000,50001] []⟩ j14))) .nil))
def aj0:TypeId->Option Ty:=fun t=>(([(1000057,(.prod (.st 0) .bool)),(3000010,.bool)]:List (Nat×Ty))++A_).lookup t
def amn:dB:={ bD:=1,pin:=⟨[(0,q16)],[]⟩,aQ:=⟨[(0,q7)],[]⟩,dA:=1,aY:=[],aV:=[] }
def amo:fV:=j24
def amq:dB:={ bD:=2,pin:=⟨[(0,q16),(1,q66)],[]⟩,aQ:=⟨[(0,q7)],[]⟩,dA:=1,aY:=[],aV:=[] }
def amr:fV:=(.seq .nil (.seq (.seq (.meet false ⟨kS [2,3] [(14,.sl q2)],kO [2,3] []⟩ .nil) j0) (.seq (.seq (.meet false ⟨kS [2,3] [(29,.sl q2)],kO [2,3] []⟩ .nil) j0) (.seq .nil (.seq (.seq .nil (.meet true ⟨[],[]⟩ (.loop ⟨kS [2,5] [(6,.sl q7)],kO [2,31] []⟩ (.seq j0 (.seq (.seq (.seq (.meet false ⟨kS [2,5,6] [(52,.sl q2)],kO [2,31] []⟩ .nil) j0) .nil) .nil))))) .nil)))))
def ah7:dB:={ bD:=1,pin:=⟨[(0,q32)],[]⟩,aQ:=⟨[(0,q7)],[]⟩,dA:=1,aY:=[],aV:=[] }
def ams:fV:=j24
def amu:dB:={ bD:=3,pin:=⟨[(0,xB),(1,tY),(2,tY)],[(50000,q12),(50001,wW)]⟩,aQ:=⟨[],[(50000,q17),(50001,wW)]⟩,dA:=0,aY:=[50000,50001],aV:=[],kept:=[50001] }
def amv:fV:=(.seq .nil (.meet false ⟨[],[(50000,.ob (.box [(.p false true (.sl (.st 10))),(.p false true (.sl (.st 14))),(.own 50001),(.p true true (.int .i64)),(.p true true (.int .i64))])),(50001,.keep)]⟩ .nil))
def amw:dB:={ bD:=2,pin:=⟨[(0,xB),(1,(.one VP))],[(50000,q12),(50001,wW)]⟩,aQ:=⟨[(0,q7)],[(50000,q17),(50001,wW)]⟩,dA:=1,aY:=[50000,50001],aV:=[],kept:=[50001] }
def amx:fV:=j32
def ah8:dB:={ bD:=3,pin:=⟨[(0,xB),(1,q32),(2,tY)],[(50000,q11),(50001,q28)]⟩,aQ:=⟨[],[(50000,q58),(60001,q9)]⟩,dA:=0,aY:=[50000],aV:=[60001] }
def amy:fV:=(.seq .nil (.seq .nil (.seq (.seq (.meet false ⟨kS [0,2,4] [(24,.sl q2)],kO [50000,4,50001] []⟩ .nil) j0) (.seq .nil (.seq .nil (.seq (.seq .nil (.meet false j4 (.seq .nil (.seq .nil (.meet false j4 (.seq .nil (.seq .nil (.meet false j4 (.seq .nil (.seq .nil (.meet false j4 (.seq .nil (.seq .nil (.meet false j4 (.seq .nil (.seq .nil (.meet false j4 (.seq .nil (.seq .nil (.meet false j4 (.seq .nil (.seq .nil (.meet false j4 (.seq .nil (.seq .nil (.meet false j4 (.seq .nil (.seq .nil (.meet false j4 .nil))))))))))))))))))))))))))))) .nil))))))
def aj1:TypeId->Option Ty:=fun t=>(([(1000057,(.prod (.st 0) .bool))]:List (Nat×Ty))++A_).lookup t
def ah9:dB:={ bD:=3,pin:=⟨[(0,xB),(1,q32),(2,tY)],[(50000,q11),(50001,q28)]⟩,aQ:=⟨[],[(50000,(.box [q13,S9,q22,q0,q0,(.own 61),q0])),(61,q9)]⟩,dA:=0,aY:=[50000],aV:=[61] }
def amA:fV:=(.seq .nil (.seq .nil (.seq .nil (.seq .nil (.seq .nil (.seq .nil (.seq .nil (.seq .nil (.seq .nil (.seq .nil (.seq .nil (.seq .nil (.seq .nil (.seq (.seq .nil (.meet false ⟨kS [0,10,11,12] [],[(50000,.ob (.box [q13,S9,q22,q0,q0,(.own 61),q0])),(61,.ob q9)]⟩ .nil)) .nil))))))))))))))
def aj2:TypeId->Option Ty:=fun t=>(([(1000057,(.prod (.st 0) .bool))]:List (Nat×Ty))++A_).lookup t
def ah_:dB:={ bD:=3,pin:=⟨[(0,xB),(1,(.one q50)),(2,tY)],[(50000,q11),(50001,q28)]⟩,aQ:=⟨[(0,q37)],[(50000,(.box [q13,S9,q22,q0,q0,(.own 100002),q0])),(100001,q6),(100002,q9)]⟩,dA:=1,aY:=[50000],aV:=[100001,100002] }
def amB:fV:=(.seq .nil (.seq .nil (.seq (.seq .nil (.meet false ⟨[(7,.sl q37)],[(50000,.ob q36),(100001,.ob q6),(100002,.ob q9)]⟩ (.loop ⟨kS [0,1,2] [(7,.sl q37),(8,.sl q7)],[(50000,.ob q36),(100001,.ob q6),(100002,.ob q9)]⟩ (.seq j0 j7)))) .nil)))
def aj3:TypeId->Option Ty:=fun t=>(([(1000057,(.prod (.st 0) .bool))]:List (Nat×Ty))++A_).lookup t
def amC:dB:={ bD:=1,pin:=⟨[(0,q49)],[]⟩,aQ:=⟨[(0,q60)],[(60000,q10)]⟩,dA:=1,aY:=[],aV:=[60000] }
def amD:fV:=(.seq .nil (.seq (.seq .nil (.seq (.seq (.seq .nil (.meet false j23 (.seq .nil (.seq .nil (.meet false j23 (.seq .nil (.seq .nil (.meet false j23 (.seq .nil (.seq .nil (.meet false j23 .nil))))))))))) (.seq .nil (.seq (.seq .nil (.meet false ⟨kS [1,4] [(14,.sl q2)],[(1,.keep)]⟩ .nil)) (.seq .nil j29)))) .nil)) .nil))
def amE:dB:={ bD:=1,pin:=⟨[(0,q49)],[]⟩,aQ:=⟨[(0,q7),(1,q2)],[]⟩,dA:=2,aY:=[],aV:=[] }
def amF:fV:=(.seq .nil (.seq (.seq .nil (.seq (.seq (.seq .nil (.meet false j36 (.seq .nil (.seq .nil (.meet false j36 (.seq .nil (.seq .nil (.meet false j36 .nil)))))))) j0) .nil)) (.seq (.seq (.meet false j33 .nil) j0) .nil)))
def amG:dB:={ bD:=3,pin:=⟨[(0,q35),(1,tY),(2,q68)],[]⟩,aQ:=⟨[(0,q2)],[]⟩,dA:=1,aY:=[],aV:=[] }
def amH:fV:=j41
def amI:dB:={ bD:=4,pin:=⟨[(0,xB),(1,q32),(2,tY),(3,tY)],[(50000,q12),(50001,wW)]⟩,aQ:=⟨[],[(50000,q17),(50001,wW)]⟩,dA:=0,aY:=[50000,50001],aV:=[],kept:=[50001] }
def amJ:fV:=(.seq .nil (.seq .nil (.seq (.seq .nil (.meet false j48 (.seq .nil (.seq (.meet false ⟨kS [0,5] [(20,.sl q2)],kO [50000,50001,5] []⟩ .nil) (.meet false j48 .nil))))) .nil)))
def amK:dB:={ bD:=3,pin:=⟨[(0,xB),(1,(.one VP)),(2,tY)],[(50000,q12),(50001,wW)]⟩,aQ:=⟨[(0,(.agg [q0,q0,q0,q0,KE,.dF]))],[(50000,q17),(50001,wW)]⟩,dA:=1,aY:=[50000,50001],aV:=[],kept:=[50001] }
def amL:fV:=(.seq .nil (.seq .nil (.seq (.seq .nil (.meet false ⟨kS [1,2,6] [(7,.sl q7)],kO [50000,50001,6] []⟩ .nil)) .nil)))
def aia:dB:={ bD:=2,pin:=⟨[(0,xB),(1,q32)],[(50000,q12),(50001,wW)]⟩,aQ:=⟨[(0,(.agg [q0,q0,q0,q0,KE,(.own 60002)]))],[(50000,q17),(50001,wW),(60002,q55)]⟩,dA:=1,aY:=[50000,50001],aV:=[60002],kept:=[50001] }
def amM:fV:=(.seq .nil (.seq (.seq .nil (.seq (.seq .nil (.seq j0 (.seq .nil (.meet true j10 (.seq .nil (.seq .nil (.meet true j10 (.seq .nil (.seq .nil (.meet true j10 (.seq (.seq .nil (.seq (.seq .nil (.meet true j13 (.seq .nil (.seq .nil (.meet true j13 (.seq .nil (.seq .nil (.seq (.seq .nil (.meet false j13 .nil)) (.seq (.seq .nil (.meet false j13 .nil)) .nil))))))))) .nil)) (.seq .nil (.meet false j10 (.seq (.seq .nil (.meet false j10 .nil)) .nil)))))))))))))) .nil)) j0))
def aib:dB:={ bD:=2,pin:=⟨[(0,xB),(1,(.one q50))],[(50000,q12),(50001,wW)]⟩,aQ:=⟨[(0,q63)],[(50000,q17),(50001,wW),(100002,q55)]⟩,dA:=1,aY:=[50000,50001],aV:=[100002],kept:=[50001] }
def amN:fV:=(.seq .nil (.seq .nil (.seq (.seq .nil (.meet false ⟨[(5,.sl q63)],[(50000,.ob q12),(50001,.keep),(100002,.ob q55)]⟩ (.loop ⟨kS [0,1] [(5,.sl q63),(6,.sl q7)],[(50000,.ob q12),(50001,.keep),(100002,.ob q55)]⟩ (.seq j0 j0)))) .nil)))
def amO:dB:={ bD:=3,pin:=⟨[(0,tY),(1,(.one VP)),(2,q32)],[]⟩,aQ:=⟨[(0,(.agg [q0,q0,KE,(.own 10),.dF,.dF]))],[(10,(.arr false true false (.st 16)))]⟩,dA:=1,aY:=[],aV:=[10] }
def amP:fV:=j0
def amQ:dB:={ bD:=2,pin:=⟨[(0,xB),(1,q68)],[(50000,X6),(50001,J8),(50002,q24),(50003,Na),(50004,wW)]⟩,aQ:=⟨[(0,(.one KE)),(1,q2)],[(50000,q41),(50001,q4),(50002,q24),(50003,Na),(50004,wW)]⟩,dA:=2,aY:=[50000,50001,50002,50003,50004],aV:=[],kept:=[50002,50003,50004] }
def amR:fV:=(.seq .nil (.seq .nil (.seq (.seq .nil (.meet false ⟨[(0,.keep),(6,.sl (.one (.own 100005)))],kO [50000,50001,50002,50003,50004] [(100005,.ob wW)]⟩ (.loop ⟨kS [0,1] [(6,.sl (.one (.own 100005))),(7,.sl q7)],kO [50000,50001,50002,50003,50004] [(100005,.ob wW)]⟩ (.seq j0 (.seq (.seq (.seq .nil (.meet false ⟨kS [0,1] [(6,.sl (.one (.own 101005))),(7,.keep)],kO [50000,50001,50002,50003,50004] [(101005,.ob wW)]⟩ .nil)) .nil) .nil))))) j3)))
def amS:dB:={ bD:=0,pin:=⟨[],[]⟩,aQ:=⟨[(0,(.one (.own 1)))],[(1,q67)]⟩,dA:=1,aY:=[],aV:=[1] }
def amT:fV:=j0
def amU:dB:={ bD:=1,pin:=⟨[(0,xB)],[(50000,X6),(50001,J8),(50002,q24),(50003,Na),(50004,wW)]⟩,aQ:=⟨[(0,(.agg [q0,q0,q0,q0,KE,.dF]))],[(50000,q41),(50001,q4),(50002,q24),(50003,Na),(50004,wW)]⟩,dA:=1,aY:=[50000,50001,50002,50003,50004],aV:=[],kept:=[50002,50003,50004] }
def amV:fV:=(.seq .nil (.seq .nil (.seq (.seq .nil (.seq (.seq .nil (.seq .nil (.seq .nil (.meet true ⟨kS [2,3] [],lO [(50000,.ob X6),(50001,.ob q4)] (kO [50002,50003,50004,2] [])⟩ (.seq j12 (.seq (.seq .nil (.meet false ⟨kS [0,2,3] [(26,.sl q2)],kO [50000,50001,50002,50003,50004,2] []⟩ .nil)) (.meet true ⟨kS [2,3] [],kO [50000,50001,50002,50003,50004,2] []⟩ j3))))))) .nil)) (.seq .nil (.seq (.seq .nil (.meet false ⟨[(2,.keep),(6,.sl q7)],lO [(50000,.keep),(50001,.ob q4)] (kO [50002,50003,50004,2] [])⟩ .nil)) .nil)))))
def amW:dB:={ bD:=3,pin:=⟨[(0,tY),(1,tY),(2,(.one q50))],[]⟩,aQ:=⟨[(0,(.agg [q0,q0,q0,q0,KE,q50]))],[]⟩,dA:=1,aY:=[],aV:=[] }
def amX:fV:=j0
def aqW:dB:={ bD:=2,pin:=⟨[(0,xB),(1,q16)],[(50000,J8)]⟩,aQ:=⟨[(0,(.one (.own 9)))],[(50000,q4),(9,q6)]⟩,dA:=1,aY:=[50000],aV:=[9] }
def aqX:fV:=(.seq .nil (.seq .nil (.seq (.seq .nil (.meet false ⟨[(5,.keep)],[(50000,.ob J8),(9,.ob q6)]⟩ (.loop ⟨kS [0,5] [(6,.sl q7)],[(50000,.ob J8),(9,.ob q6)]⟩ (.seq j0 j7)))) .nil)))
def aqY:dB:={ bD:=2,pin:=⟨[(0,q16),(1,q59)],[]⟩,aQ:=⟨[(0,q37),(1,q63)],[(100001,q34),(100002,q6)]⟩,dA:=2,aY:=[],aV:=[100001,100002] }
def aqZ:fV:=(.seq .nil (.seq .nil (.seq .nil (.seq (.seq .nil (.meet false ⟨[(6,.sl q37),(7,.sl q63)],[(100001,.ob q34),(100002,.ob q6)]⟩ (.loop ⟨kS [1,2] (lS [(6,.sl q37),(7,.sl q63)] (kS [13,14] [(15,.sl q7)])),[(2,.keep),(100001,.ob q34),(100002,.ob q6)]⟩ (.seq .nil (.seq .nil (.seq (.seq (.seq .nil (.seq .nil (.seq (.seq .nil (.meet false ⟨kS [1,2] (lS [(6,.sl q57)] (kS [7,8,9,13,14,15] [])),[(2,.keep),(101001,.ob q34),(24,.keep)]⟩ (.loop ⟨kS [1,2] (lS [(6,.sl q57)] (kS [7,8,9,13,14,15,30,31] [(32,.sl q7)])),[(2,.keep),(101001,.ob q34),(24,.keep)]⟩ j15))) (.seq .nil (.seq (.seq .nil (.meet false ⟨kS [1,2,6,7,9] (lS [(12,.sl tY)] (kS [13,14,15] [])),kO [2,101001,24] []⟩ .nil)) .nil))))) .nil) .nil)))))) .nil))))
def aq0:dB:={ bD:=1,pin:=⟨[(0,q16)],[]⟩,aQ:=⟨[(0,(.one (.own 11)))],[(11,q39)]⟩,dA:=1,aY:=[],aV:=[11] }
def aq1:fV:=(.seq .nil (.seq .nil (.seq j1 (.seq .nil (.seq .nil (.seq (.meet false ⟨[(3,.keep)],[(11,.ob q39)]⟩ (.loop ⟨kS [1,3] [(4,.sl q63)],[(1,.keep),(11,.ob q39),(100002,.ob q10)]⟩ (.seq j0 (.seq (.seq .nil (.seq .nil (.seq .nil (.seq .nil (.meet false ⟨kS [1,3] [(4,.sl (.one (.own 101002)))],[(1,.keep),(11,.ob q39),(101002,.ob q10)]⟩ (.loop ⟨kS [1,3] [(4,.sl (.one (.own 101002))),(6,.keep),(7,.sl q7)],[(1,.keep),(11,.ob q39),(101002,.ob q10),(39,.keep)]⟩ (.seq j0 (.seq (.seq (.seq .nil (.meet false ⟨kS [1,3] (lS [(4,.sl (.one (.own 102002)))] (kS [6,7] [])),[(1,.keep),(11,.ob q39),(102002,.ob q10),(39,.keep)]⟩ j0)) .nil) .nil)))))))) .nil)))) .nil))))))
def amY:TypeId->Option Ty:=fun t=>(([(2000000,.bool)]:List (Nat×Ty))++A_).lookup t
def aq2:dB:={ bD:=1,pin:=⟨[(0,q8)],[]⟩,aQ:=⟨[(0,q2)],[]⟩,dA:=1,aY:=[],aV:=[] }
def aq3:fV:=(.seq .nil (.seq .nil (.seq (.seq .nil (.meet true ⟨[],[]⟩ (.loop ⟨kS [1,3] [(4,.sl q7)],[(1,.keep)]⟩ (.seq j0 (.seq (.seq (.seq .nil (.seq (.seq .nil (.meet true j20 (.seq j1 (.seq .nil (.meet true j20 (.seq j1 (.seq .nil (.meet true j20 (.seq j1 (.seq .nil (.meet true j20 (.seq (.seq (.seq .nil (.meet true j20 (.loop ⟨kS [1,3,4] [(5,.sl q7)],[(1,.keep)]⟩ j14))) j1) .nil)))))))))))) .nil)) .nil) .nil))))) .nil)))
def aq4:dB:={ bD:=1,pin:=⟨[(0,(.agg [VP,q1,q70,q40]))],[]⟩,aQ:=⟨[(0,(.one (.own 8)))],[(8,(.arr false true false .str))]⟩,dA:=1,aY:=[],aV:=[8] }
def aq5:fV:=j0
def amZ:dB:={ bD:=2,pin:=⟨[(0,xB),(1,(.one q40))],[(50000,q11),(50001,q28)]⟩,aQ:=⟨[(0,q2)],[(50000,q58),(60001,q9)]⟩,dA:=1,aY:=[50000],aV:=[60001] }
def aq6:fV:=(.seq .nil (.seq (.seq .nil (.meet true ⟨[],[(50000,.ob (.box [q13,S9,q22,q3,q3,(.own 100001),q3])),(100001,.ob q9)]⟩ (.loop ⟨kS [0,1] [(5,.sl q7)],[(50000,.ob (.box [q13,S9,q22,q3,q3,(.own 100001),q3])),(100001,.ob q9)]⟩ j14))) .nil))
def am0:TypeId->Option Ty:=fun t=>(([(1000057,(.prod (.st 0) .bool))]:List (Nat×Ty))++A_).lookup t
def am1:dB:={ bD:=2,pin:=⟨[(0,xB),(1,q78)],[(50000,q11),(50001,q28)]⟩,aQ:=⟨[(0,q2)],[(50000,q58),(60001,q9)]⟩,dA:=1,aY:=[50000],aV:=[60001] }
def aq7:fV:=(.seq .nil (.seq .nil (.seq (.seq .nil j7) (.seq (.seq .nil (.meet false ⟨kS [0,3,5] [],[(50000,.ob q36),(3,.keep),(100002,.ob q9)]⟩ (.loop ⟨kS [0,3,5] [(6,.sl q7)],[(50000,.ob q36),(3,.keep),(100002,.ob q9)]⟩ (.seq j0 j0)))) (.seq (.seq .nil (.seq (.seq (.seq .nil (.meet false ⟨kS [0,3,5,38] [(39,.sl q2)],kO [50000,3,100002] []⟩ .nil)) (.meet true j31 (.seq (.seq .nil (.seq .nil (.meet false ⟨[],[(50000,.ob (.box [q13,S9,q22,q0,q0,(.own 100002),q0])),(100002,.ob q9)]⟩ .nil))) (.seq .nil (.meet true j31 (.seq .nil (.seq .nil (.seq j0 (.seq .nil (.meet true j31 j12)))))))))) .nil)) .nil)))))
def am2:TypeId->Option Ty:=fun t=>(([(1000057,(.prod (.st 0) .bool)),(3000022,.bool),(3000011,.bool)]:List (Nat×Ty))++A_).lookup t
def aic:dB:={ bD:=3,pin:=⟨[(0,xB),(1,q78),(2,tY)],[(50000,q11),(50001,q28)]⟩,aQ:=⟨[],[(50000,(.box [q13,S9,q22,q0,q0,(.own 57),q0])),(57,q9)]⟩,dA:=0,aY:=[50000],aV:=[57] }
def am3:fV:=(.seq .nil (.seq .nil (.seq .nil (.seq .nil (.seq .nil (.seq .nil (.seq .nil (.seq (.seq .nil (.meet false ⟨kS [0,2,4,8,9] [],[(50000,.ob (.box [q13,S9,q22,q0,q0,(.own 41),q0])),(4,.keep),(41,.ob q9)]⟩ .nil)) .nil))))))))
def aj6:TypeId->Option Ty:=fun t=>(([(1000057,(.prod (.st 0) .bool))]:List (Nat×Ty))++A_).lookup t
def aie:dB:={ bD:=3,pin:=⟨[(0,xB),(1,q78),(2,tY)],[(50000,q11),(50001,q28)]⟩,aQ:=⟨[(0,q2)],[(50000,q58),(60001,q9)]⟩,dA:=1,aY:=[50000],aV:=[60001] }
def am4:fV:=(.seq .nil (.seq .nil (.seq .nil (.seq .nil (.seq .nil (.seq (.seq .nil (.seq (.seq .nil (.seq .nil (.seq (.seq .nil (.meet false ⟨[],[(50000,.ob (.box [q13,S9,q22,q0,q0,(.own 39),q0])),(39,.ob q9)]⟩ .nil)) .nil))) .nil)) (.seq .nil (.seq .nil (.seq .nil (.seq .nil (.seq (.seq (.meet false ⟨kS [0,4,9,10,13,14] [(77,.sl q2)],kO [50000,4,67] []⟩ .nil) j0) (.seq .nil (.seq (.seq .nil (.meet false ⟨kS [0,13,14,15] [],[(50000,.ob (.box [q13,S9,q22,q0,q0,(.own 81),q0])),(81,.ob q9)]⟩ .nil)) (.seq (.seq .nil (.meet false ⟨[],[(50000,.ob (.box [q13,S9,q22,q0,q0,(.own 81),q0])),(81,.ob q9)]⟩ .nil)) .nil))))))))))))))
def aj7:TypeId->Option Ty:=fun t=>(([(1000057,(.prod (.st 0) .bool)),(3000033,.bool)]:List (Nat×Ty))++A_).lookup t
def aq8:dB:={ bD:=1,pin:=⟨[(0,q8)],[]⟩,aQ:=⟨[(0,q2)],[]⟩,dA:=1,aY:=[],aV:=[] }
def aq9:fV:=(.seq .nil (.seq (.seq (.seq (.seq .nil (.meet false j35 (.seq .nil (.meet false j35 .nil)))) (.seq .nil j29)) .nil) .nil))
def aq_:dB:={ bD:=1,pin:=⟨[(0,tY)],[]⟩,aQ:=⟨[(0,q2)],[]⟩,dA:=1,aY:=[],aV:=[] }
def ara:fV:=j0
def aif:dB:={ bD:=2,pin:=⟨[(0,xB),(1,(.one q40))],[(50000,q12),(50001,wW)]⟩,aQ:=⟨[(0,q37)],[(50000,q52),(100001,q84),(100002,q48)]⟩,dA:=1,aY:=[50000],aV:=[100001,100002] }
def am5:fV:=(.seq .nil (.seq .nil (.seq (.seq .nil (.meet false ⟨[(5,.sl q37)],[(50000,.ob q53),(100001,.ob q84),(100002,.ob q48)]⟩ (.loop ⟨kS [0,1] [(5,.sl q37),(6,.sl q7)],[(50000,.ob q53),(100001,.ob q84),(100002,.ob q48)]⟩ (.seq j0 (.seq (.seq (.seq .nil (.seq .nil (.seq (.seq .nil (.meet false ⟨kS [0,1,5,6,7] [(8,.sl (.one (.own 101003)))],lO [(50000,.ob q53)] (kO [100001,7] [(101003,.ob q55),(100002,.keep)])⟩ (.loop ⟨kS [0,1,5,6,7] [(8,.sl (.one (.own 101003))),(9,.sl q7)],lO [(50000,.ob q53)] (kO [100001,7] [(101003,.ob q55),(100002,.keep)])⟩ (.seq j0 (.seq (.seq (.seq (.seq .nil (.meet false ⟨kS [0,1,5,6,7,8,9] [],lO [(50000,.ob q53)] (kO [100001,7,101003,100002] [])⟩ .nil)) .nil) .nil) .nil))))) (.seq .nil (.seq .nil (.seq (.seq .nil (.seq (.seq .nil (.meet false ⟨kS [0,1,5,6,7] [],lO [(50000,.ob (.box [q13,S9,(.own 110003),q0,q0]))] (kO [100001,7] [(110003,.ob q48),(101003,.keep)])⟩ (.seq (.seq (.seq .nil (.meet false j11 .nil)) .nil) (.seq (.seq .nil (.meet false ⟨kS [0,1,5,6,7,10] [(80,.sl q2)],kO [50000,100001,7,100002,101003] []⟩ .nil)) (.meet false j11 (.seq (.seq .nil (.meet false j11 (.seq .nil (.seq (.meet false ⟨kS [0,1,5,6,7] [(108,.sl q2)],kO [50000,100001,7,100002,101003] []⟩ .nil) (.meet false j11 .nil))))) .nil)))))) .nil)) j0)))))) .nil) .nil))))) .nil)))
def am6:dB:={ bD:=2,pin:=⟨[(0,q59),(1,(.one (.fn 84 [])))],[]⟩,aQ:=⟨[(0,q7)],[]⟩,dA:=1,aY:=[],aV:=[] }
def am7:fV:=(.seq .nil (.seq (.seq .nil (.meet true ⟨[],[]⟩ (.loop ⟨kS [0,1,7] [(8,.sl q7)],[]⟩ (.seq .nil (.seq .nil j38))))) .nil))
def am8:dB:={ bD:=3,pin:=⟨[(0,q35),(1,q16),(2,q49)],[]⟩,aQ:=⟨[(0,q7)],[]⟩,dA:=1,aY:=[],aV:=[] }
def am9:fV:=(.seq .nil (.seq (.seq (.meet false ⟨kS [3,4,5] [(48,.sl q2)],kO [3,4,5] []⟩ .nil) j0) (.seq .nil (.seq (.seq .nil (.seq .nil (.meet false ⟨kS [3,4,5] [(7,.sl (.one (.own 101003)))],kO [3,4,5] [(101003,.ob q10)]⟩ .nil))) (.seq (.seq .nil (.meet true ⟨kS [3,5] [],kO [3,5] []⟩ (.loop ⟨kS [3,4,5,7] [(10,.sl q7)],kO [3,4,5,101003] []⟩ (.seq j0 (.seq (.seq (.seq (.meet false ⟨kS [3,4,5,7,10] [(80,.sl q2)],kO [3,4,5,101003] []⟩ .nil) j0) .nil) .nil))))) (.seq (.seq .nil (.seq (.seq (.seq .nil (.meet false ⟨kS [3,5,82] [(83,.sl q2)],kO [3,5] []⟩ .nil)) (.meet true ⟨[],[]⟩ (.seq j1 (.seq (.seq .nil (.meet false ⟨kS [3,5,82] [(91,.sl q2)],kO [3,5] []⟩ .nil)) (.meet true ⟨[],[]⟩ (.seq j1 (.seq .nil (.meet true ⟨[],[]⟩ (.seq (.seq (.seq (.meet false ⟨kS [3,5] [(111,.sl q2)],kO [3,5] []⟩ .nil) j0) j1) (.seq .nil (.meet true ⟨[],[]⟩ (.seq j1 (.seq .nil (.meet true ⟨[],[]⟩ (.seq (.seq (.meet false ⟨[(140,.sl q2)],[]⟩ .nil) j0) (.seq .nil (.meet true ⟨[],[]⟩ (.seq (.seq (.meet false ⟨[(152,.sl q2)],[]⟩ .nil) j0) .nil)))))))))))))))))) .nil)) .nil))))))
def am_:dB:={ bD:=1,pin:=⟨[(0,xB)],[(50000,X6),(50001,J8),(50002,q24),(50003,Na),(50004,wW)]⟩,aQ:=⟨[(0,(.one KE)),(1,q2)],[(50000,q41),(50001,q4),(50002,q24),(50003,Na),(50004,wW)]⟩,dA:=2,aY:=[50000,50001,50002,50003,50004],aV:=[],kept:=[50002,50003,50004] }
def ana:fV:=(.seq .nil (.seq .nil (.seq (.seq .nil (.meet true ⟨[],kO [50000,50001,50002,50003,50004] []⟩ (.loop ⟨kS [0,4] [(5,.sl q7)],kO [50000,50001,50002,50003,50004,8] []⟩ (.seq j0 (.seq (.seq (.seq .nil (.seq (.seq .nil (.meet false ⟨kS [0,4,5] [(6,.sl q2)],kO [50000,50001,50002,50003,50004,8] []⟩ (.loop ⟨kS [0,4,5] [(6,.sl q2),(7,.sl q7)],kO [50000,50001,50002,50003,50004,8] []⟩ (.seq j0 (.seq (.seq (.meet false ⟨kS [0,4,5] [(6,.sl q2),(7,.keep)],kO [50000,50001,50002,50003,50004,8] []⟩ .nil) .nil) .nil))))) j1)) .nil) .nil))))) .nil)))
def aii:dB:={ bD:=2,pin:=⟨[(0,xB),(1,tY)],[(50000,X6),(50001,J8),(50002,q24),(50003,Na),(50004,wW)]⟩,aQ:=⟨[(0,(.agg [q0,q0,q0,q0,KE,(.p false true (.sl (.st 16)))]))],[(50000,q41),(50001,q4),(50002,q24),(50003,Na),(50004,wW)]⟩,dA:=1,aY:=[50000,50001,50002,50003,50004],aV:=[],kept:=[50002,50003,50004] }
def anb:fV:=(.seq .nil (.seq .nil (.seq (.seq (.meet false ⟨kS [0,1,4,5] [(18,.sl q2)],lO [(50000,.keep),(50001,.ob J8)] (kO [50002,50003,50004,4] [])⟩ .nil) j0) (.seq (.seq .nil (.seq (.seq .nil (.seq .nil (.seq .nil (.seq .nil (.seq .nil (.seq .nil (.seq (.seq .nil (.meet false ⟨kS [0,1,4,5,22] [(58,.sl q2)],kO [50000,50001,50002,50003,50004,4] []⟩ .nil)) (.seq .nil (.seq .nil (.meet true ⟨kS [0,1,4,5] [],lO [(50000,.ob X6),(50001,.ob q4)] (kO [50002,50003,50004,4] [])⟩ (.seq j12 .nil))))))))))) .nil)) .nil))))
def aij:dB:={ bD:=2,pin:=⟨[(0,xB),(1,tY)],[(50000,X6),(50001,J8),(50002,q24),(50003,Na),(50004,wW)]⟩,aQ:=⟨[(0,(.agg [q0,q0,q0,q0,KE,(.own 60005)]))],[(50000,q41),(50001,q4),(50002,q24),(50003,Na),(50004,wW),(60005,q62)]⟩,dA:=1,aY:=[50000,50001,50002,50003,50004],aV:=[60005],kept:=[50002,50003,50004] }
def anc:fV:=(.seq .nil (.seq .nil (.seq .nil (.seq .nil (.seq (.seq (.meet false ⟨kS [0,1,4,5,6,7] [(46,.sl q2)],lO [(50000,.keep),(50001,.ob q4)] (kO [50002,50003,50004,4,5] [])⟩ .nil) (.meet false ⟨kS [0,1,4,5] [(6,.sl q7),(7,.keep)],lO [(50000,.keep),(50001,.ob q4)] (kO [50002,50003,50004,4,5] [])⟩ .nil)) (.seq .nil (.seq (.seq .nil (.meet false ⟨kS [0,1,4,5,7] [(8,.sl (.one (.own 102007)))],lO [(50000,.ob X6),(50001,.ob q4)] (kO [50002,50003,50004,4,5] [(102007,.ob q62)])⟩ (.loop ⟨kS [0,1,4,5,6,7] [(8,.sl (.one (.own 102007))),(9,.sl q7)],lO [(50000,.ob X6),(50001,.ob q4)] (kO [50002,50003,50004,4,5] [(102007,.ob q62)])⟩ (.seq j0 j0)))) (.seq j1 (.seq .nil (.seq (.seq .nil (.meet false ⟨kS [4,8,10] [],lO [(50000,.ob X6),(50001,.ob q4)] (kO [50002,50003,50004,4,102007] [(10,.ob (.box [q0,q0,q0,q0,(.p false true .str),(.p false true (.sl (.st 16)))]))])⟩ .nil)) j3))))))))))
def aik:dB:={ bD:=3,pin:=⟨[(0,xB),(1,tY),(2,tY)],[(50000,X6),(50001,J8),(50002,q24),(50003,Na),(50004,wW)]⟩,aQ:=⟨[(0,(.one (.own 100004)))],[(50000,(.box [(.box 50001 0),(.own 50002),(.own 50003),(.own 100005),q0])),(50001,q4),(50002,q24),(50003,Na),(100004,q47),(100005,wW)]⟩,dA:=1,aY:=[50000,50001,50002,50003],aV:=[100004,100005],kept:=[50002,50003] }
def ane:fV:=(.seq .nil (.seq .nil (.seq (.seq .nil (.meet false ⟨[(7,.sl (.one (.own 100004)))],lO [(50000,.ob q76),(50001,.ob J8)] (kO [50002,50003] [(100004,.ob q47),(100005,.ob wW)])⟩ (.loop ⟨kS [0,1,2] [(7,.sl (.one (.own 100004))),(8,.sl q7)],lO [(50000,.ob q76),(50001,.ob J8)] (kO [50002,50003] [(100004,.ob q47),(100005,.ob wW)])⟩ (.seq (.seq (.meet false ⟨kS [0,1,2,7,8] [(18,.sl q2)],kO [50000,50001,50002,50003,100004,100005] []⟩ .nil) .nil) j7)))) .nil)))
def ail:dB:={ bD:=2,pin:=⟨[(0,xB),(1,tY)],[(50000,X6),(50001,J8),(50002,q24),(50003,Na),(50004,wW)]⟩,aQ:=⟨[(0,(.agg [q0,q0,KE,(.own 60004),(.own 60005),(.own 60006)]))],[(50000,(.box [(.box 50001 0),(.own 50002),(.own 50003),(.own 60007),q0])),(50001,q4),(50002,q24),(50003,Na),(60004,q62),(60005,q47),(60006,q47),(60007,wW)]⟩,dA:=1,aY:=[50000,50001,50002,50003],aV:=[60004,60005,60006,60007],kept:=[50002,50003] }
def anf:fV:=(.seq .nil (.seq .nil (.seq (.seq .nil (.seq (.seq (.seq .nil (.meet false ⟨kS [0,1,4,5,19] [(20,.sl q2)],kO [50000,50001,50002,50003,4,50004] []⟩ .nil)) (.meet true j9 (.seq j49 (.seq .nil (.meet true j9 (.seq j1 (.seq .nil (.meet true j9 (.seq j12 (.seq .nil (.meet true j9 (.seq j12 (.seq (.seq .nil (.meet false ⟨kS [0,1,4,5,19] [(95,.sl q2)],kO [50000,50001,50002,50003,4,50004] []⟩ .nil)) (.meet true j44 (.seq (.seq .nil (.seq (.seq .nil (.seq .nil (.seq (.seq .nil (.meet false ⟨kS [4,13] [],lO [(50000,.ob (.box [(.box 50001 0),(.own 50002),(.own 50003),(.own 102006),q0])),(50001,.ob q4)] (kO [50002,50003,4] (lO [(13,.ob (.box [q0,q0,KE,(.own 102),(.own 109),(.own 102009)])),(102006,.ob wW)] (kO [102,109] [(102009,.ob q47)])))⟩ .nil)) .nil))) .nil)) (.seq .nil (.meet true j44 (.seq j1 (.seq .nil (.seq j3 .nil)))))))))))))))))))) .nil)) .nil)))
def ain:dB:={ bD:=2,pin:=⟨[(0,xB),(1,tY)],[(50000,X6),(50001,J8),(50002,q24),(50003,Na),(50004,wW)]⟩,aQ:=⟨[(0,(.agg [q0,q0,KE,(.own 60004),(.own 60005),.dF]))],[(50000,(.box [(.box 50001 0),(.own 50002),(.own 50003),(.own 60006),q0])),(50001,q4),(50002,q24),(50003,Na),(60004,q62),(60005,q47),(60006,wW)]⟩,dA:=1,aY:=[50000,50001,50002,50003],aV:=[60004,60005,60006],kept:=[50002,50003] }
def ang:fV:=(.seq .nil (.seq .nil (.seq (.seq (.meet false ⟨kS [0,1,4,5,6] [(28,.sl q2)],lO [(50000,.keep),(50001,.ob q4)] (kO [50002,50003,4,50004] [])⟩ .nil) (.meet false ⟨kS [0,1,4] [(5,.sl (.one (.p false true .str))),(6,.sl q2)],lO [(50000,.keep),(50001,.ob q4)] (kO [50002,50003,4,50004] [])⟩ .nil)) (.seq (.seq (.meet false ⟨kS [0,1,4,5] [(54,.sl q2)],lO [(50000,.keep),(50001,.ob q4)] (kO [50002,50003,4,50004] [])⟩ .nil) j3) j29))))
def arb:dB:={ bD:=1,pin:=⟨[(0,q16)],[]⟩,aQ:=⟨[(0,(.agg [KE,q0,q0,(.own 103005)]))],[(103005,q65)]⟩,dA:=1,aY:=[],aV:=[103005] }
def ard:fV:=(.seq .nil (.seq .nil (.seq .nil (.seq .nil (.seq (.seq .nil (.meet false ⟨kS [1,2,3,4] [],kO [1,2,11] [(14,.ob q6)]⟩ (.loop ⟨kS [1,2,3,4] [(5,.sl q7),(6,.sl q7)],kO [1,2,11] [(14,.ob q6)]⟩ (.seq j0 (.seq (.seq (.seq .nil (.seq .nil (.meet false ⟨kS [1,2,3,4] [(5,.sl q7),(6,.keep)],kO [1,2,11,14] []⟩ .nil))) .nil) .nil))))) (.seq .nil (.seq .nil (.seq (.seq .nil (.meet false ⟨kS [2,7] [],[(2,.keep),(7,.ob (.box [VP,q1,q1,(.own 103005)])),(103005,.ob q65)]⟩ (.loop ⟨kS [1,2,3,4,7] [(8,.sl q7)],kO [1,2,11,14] [(7,.ob (.box [VP,q1,q1,(.own 103005)])),(103005,.ob q65)]⟩ (.seq j0 (.seq (.meet false ⟨kS [1,2,3,4,7,8] [],kO [1,2,11,14] [(7,.ob (.box [VP,q1,q1,(.own 106005)])),(106005,.ob q65)]⟩ (.seq j0 (.seq .nil (.seq j26 (.seq j26 .nil))))) .nil))))) .nil))))))))
def arf:dB:={ bD:=1,pin:=⟨[(0,xB)],[(50000,J8)]⟩,aQ:=⟨[(0,(.agg [(.own 19),(.own 100004),q0,q0]))],[(50000,q4),(19,q51),(100004,q30)]⟩,dA:=1,aY:=[50000],aV:=[19,100004] }
def arh:fV:=(.seq .nil (.seq .nil (.seq .nil (.seq (.seq .nil (.meet false ⟨kS [0,2,3,4] [],[(50000,.ob q4),(2,.keep),(3,.ob (.box [(.own 19),(.own 100004),q0,q0])),(19,.keep),(100004,.ob q30)]⟩ (.loop ⟨kS [0,2,3,4] [(5,.sl q7)],[(50000,.ob q4),(2,.keep),(3,.ob (.box [(.own 19),(.own 100004),q0,q0])),(19,.keep),(100004,.ob q30)]⟩ (.seq j0 (.seq (.seq (.seq .nil (.seq (.seq .nil (.meet false ⟨kS [0,2,3,4,5,6] [],lO [(50000,.ob q4)] (kO [2,3] (lO [(6,.ob (.box [KE,q0,q0,.dF]))] (kO [19,100004] [])))⟩ .nil)) .nil)) .nil) .nil))))) (.seq .nil (.seq (.seq .nil (.meet false ⟨kS [2,3] [],lO [(50000,.ob q4)] (kO [2,3,19] [(100004,.ob q30)])⟩ (.loop ⟨kS [0,2,3,4] [(7,.sl q7)],lO [(50000,.ob q4)] (kO [2,3,19] [(100004,.ob q30)])⟩ (.seq j0 (.seq (.seq (.seq .nil (.seq (.seq .nil (.meet false j30 (.loop ⟨kS [0,2,3,4,7,8] [(9,.sl q7)],lO [(50000,.ob q4)] (kO [2,3] [(100004,.ob q30),(19,.keep)])⟩ (.seq j0 (.seq (.seq (.seq .nil (.seq (.seq .nil (.meet false ⟨kS [0,2,3,4,7,8,9,10] [],lO [(50000,.ob q4)] (kO [2,3] [(100004,.ob q30),(10,.ob (.box [(.own 105006),q0,q0,q0,q0,q0,q0,q0])),(19,.keep),(105006,.ob q64)])⟩ (.loop ⟨kS [0,2,3,4,7,8,9,10] [(11,.sl q7)],lO [(50000,.ob q4)] (kO [2,3] [(100004,.ob q30),(10,.ob (.box [(.own 105006),q0,q0,q0,q0,q0,q0,q0])),(19,.keep),(105006,.ob q64)])⟩ (.seq j0 j0)))) .nil)) .nil) .nil))))) (.seq (.seq .nil (.meet false j30 (.loop ⟨kS [0,2,3,4,7,8] [(12,.sl q7)],lO [(50000,.ob q4)] (kO [2,3] [(100004,.ob q30),(19,.keep)])⟩ (.seq j0 j7)))) .nil))) .nil) .nil))))) .nil))))))
def anh:TypeId->Option Ty:=fun t=>(([(1000028,(.prod (.st 3) .bool)),(3000140,.bool),(3000133,.bool),(3000113,.bool),(3000078,.bool)]:List (Nat×Ty))++A_).lookup t
def ari:dB:={ bD:=1,pin:=⟨[(0,q8)],[]⟩,aQ:=⟨[(0,q7)],[]⟩,dA:=1,aY:=[],aV:=[] }
def arj:fV:=(.seq .nil (.seq (.seq (.meet false ⟨[(1,.keep),(21,.sl q2)],[(1,.keep)]⟩ .nil) j0) (.seq j1 j3)))
def ark:dB:={ bD:=1,pin:=⟨[(0,q38)],[]⟩,aQ:=⟨[(0,(.agg [(.own 60000),(.own 60001)])),(1,q7),(2,q7)],[(60000,(.arr false true false (.st 10))),(60001,q82)]⟩,dA:=3,aY:=[],aV:=[60000,60001] }
def arl:fV:=(.seq .nil (.seq (.seq (.meet false ⟨kS [1,2] [(20,.sl q2)],kO [1,2] []⟩ .nil) j0) (.seq (.seq (.meet false ⟨kS [1,2] [(42,.sl q2)],kO [1,2] []⟩ .nil) j0) (.seq (.seq .nil (.meet true ⟨kS [1,2] [],kO [1,2] []⟩ (.loop ⟨kS [1,2] [(5,.sl q7)],kO [1,2] []⟩ j14))) (.seq (.seq .nil (.meet true ⟨kS [1,2] [],kO [1,2] []⟩ (.loop ⟨kS [1,2] [(6,.sl q7)],kO [1,2] []⟩ (.seq j0 (.seq (.seq (.seq (.meet false ⟨kS [1,2,6] [(89,.sl q2)],kO [1,2] []⟩ .nil) j0) .nil) .nil))))) (.seq .nil (.seq (.seq .nil (.meet true ⟨[(2,.keep)],[(2,.ob (.box [(.own 99),(.own 107003)])),(99,.keep),(107003,.ob q82)]⟩ (.loop ⟨kS [1,2] [(7,.sl q7)],[(1,.keep),(2,.ob (.box [(.own 99),(.own 107003)])),(99,.keep),(107003,.ob q82)]⟩ (.seq j0 (.seq (.seq (.seq .nil (.seq (.seq (.meet false ⟨kS [1,2,7,8] [(128,.sl q2)],kO [1,2,8,99,107003] []⟩ .nil) j0) (.seq (.seq .nil (.meet true ⟨kS [1,2,7,8] [],kO [1,2,8,99,107003] []⟩ (.loop ⟨kS [1,2,7,8] [(9,.sl q7)],kO [1,2,8,99,107003] []⟩ (.seq j0 (.seq (.seq (.seq (.meet false ⟨kS [1,2,7,8,9] [(158,.sl q2)],kO [1,2,8,99,107003] []⟩ .nil) j0) .nil) .nil))))) j49))) .nil) .nil))))) .nil)))))))
def arn:dB:={ bD:=1,pin:=⟨[(0,xB)],[(50000,J8)]⟩,aQ:=⟨[(0,(.agg [(.own 103003),(.own 105004)]))],[(50000,q4),(103003,q24),(105004,Na)]⟩,dA:=1,aY:=[50000],aV:=[103003,105004] }
def aro:fV:=(.seq .nil (.seq (.meet false ⟨kS [0,2] [(3,.sl (.one (.box 12 0)))],kO [50000,2] [(12,.ob (.box [(.box 50000 0),(.own 100700),(.own 100701),(.own 100702),q0])),(100700,.ob q51),(100701,.ob q81),(100702,.ob q67)]⟩ .nil) (.seq (.seq .nil (.meet false ⟨kS [0,2,3] [],kO [50000,2] (lO [(12,.ob q71),(101003,.ob q51)] (kO [100701,100702] []))⟩ (.loop ⟨kS [0,2,3] [(4,.sl q7)],kO [50000,2] (lO [(12,.ob q71),(101003,.ob q51)] (kO [100701,100702] []))⟩ (.seq j0 j0)))) (.seq (.seq .nil (.meet false ⟨kS [0,2,3] [],lO [(50000,.ob q4),(2,.keep),(12,.ob q72),(103003,.ob q51)] (kO [100701,100702] [])⟩ (.loop ⟨kS [0,2,3] [(5,.sl q7)],lO [(50000,.ob q4),(2,.keep),(12,.ob q72),(103003,.ob q51)] (kO [100701,100702] [])⟩ (.seq j0 j0)))) (.seq .nil (.seq (.seq .nil (.meet false ⟨kS [0,2,3] [],[(50000,.ob q4),(2,.keep),(12,.ob q73),(103003,.keep),(105004,.ob q81),(100702,.keep)]⟩ (.loop ⟨kS [0,2,3] [(6,.sl q7)],[(50000,.ob q4),(2,.keep),(12,.ob q73),(103003,.keep),(105004,.ob q81),(100702,.keep)]⟩ (.seq j0 (.seq (.seq (.seq .nil (.seq (.seq .nil (.meet false ⟨kS [0,2,3,6,7] [],kO [50000,2,12] (lO [(7,.ob (.box [KE,q0,(.own 106007),.dF]))] (kO [103003,105004,100702] [(106007,.ob q67)]))⟩ (.loop ⟨kS [0,2,3,6,7] [(8,.sl q7)],kO [50000,2,12] (lO [(7,.ob (.box [KE,q0,(.own 106007),.dF]))] (kO [103003,105004,100702] [(106007,.ob q67)]))⟩ (.seq j0 j0)))) .nil)) .nil) .nil))))) (.seq (.seq .nil (.meet false ⟨kS [2,3] [],[(50000,.ob q4),(2,.keep),(12,.ob q74),(103003,.ob q24),(105004,.ob Na),(109005,.ob wW)]⟩ (.loop ⟨kS [0,2,3] [(9,.sl q7)],[(50000,.ob q4),(2,.keep),(12,.ob q74),(103003,.ob q24),(105004,.ob Na),(109005,.ob wW)]⟩ (.seq j0 (.seq j7 .nil))))) .nil)))))))
def arp:dB:={ bD:=2,pin:=⟨[(0,q59),(1,(.one (.fn 84 [])))],[]⟩,aQ:=⟨[(0,q2)],[]⟩,dA:=1,aY:=[],aV:=[] }
def arq:fV:=j0
def ars:dB:={ bD:=2,pin:=⟨[(0,q35),(1,q16)],[]⟩,aQ:=⟨[(0,q7)],[]⟩,dA:=1,aY:=[],aV:=[] }
def aru:fV:=(.seq .nil (.seq (.seq (.meet false ⟨kS [2,3] [(25,.sl q2)],kO [2,3] []⟩ .nil) j0) (.seq (.seq (.meet false ⟨kS [2,3] [(45,.sl q2)],kO [2,3] []⟩ .nil) j0) (.seq (.seq .nil (.meet true ⟨[(3,.keep)],[(3,.keep)]⟩ (.loop ⟨kS [2,3] [(5,.sl q7)],kO [2,3] []⟩ (.seq j0 (.seq (.seq (.seq (.seq .nil (.meet true ⟨kS [2,3,5] [],kO [2,3] []⟩ (.loop ⟨kS [2,3,5] [(6,.sl q7)],kO [2,3] []⟩ (.seq j0 j38)))) j12) .nil) .nil))))) (.seq .nil (.seq (.seq .nil (.meet true ⟨[],[]⟩ (.loop ⟨[(9,.keep),(10,.sl q7)],[(91,.keep)]⟩ j14))) .nil))))))
def arv:dB:={ bD:=1,pin:=⟨[(0,xB)],[(50000,J8)]⟩,aQ:=⟨[(0,(.agg [KE,q0,q0,(.own 53)]))],[(50000,q4),(53,q83)]⟩,dA:=1,aY:=[50000],aV:=[53] }
def arw:fV:=(.seq .nil (.seq .nil (.seq .nil (.seq (.seq .nil (.meet false ⟨kS [2,3] [],[(50000,.ob q4),(2,.keep),(3,.ob (.box [KE,q0,q0,(.own 100003)])),(100003,.ob q83)]⟩ (.loop ⟨kS [0,2,3,4] [(5,.sl q7)],[(50000,.ob q4),(2,.keep),(3,.ob (.box [KE,q0,q0,(.own 100003)])),(100003,.ob q83)]⟩ (.seq j0 (.seq (.seq (.seq .nil (.seq (.seq .nil (.meet false ⟨kS [0,2,3,4,5,6] [],lO [(50000,.ob q4)] (kO [2,3] [(6,.ob (.box [(.own 101005),q0,q0,q0,q0,q0,q0,q0])),(100003,.keep),(101005,.ob q64)])⟩ (.loop ⟨kS [0,2,3,4,5,6] [(7,.sl q7)],lO [(50000,.ob q4)] (kO [2,3] [(6,.ob (.box [(.own 101005),q0,q0,q0,q0,q0,q0,q0])),(100003,.keep),(101005,.ob q64)])⟩ (.seq j0 j0)))) .nil)) .nil) .nil))))) .nil))))
def arx:dB:={ bD:=1,pin:=⟨[(0,q8)],[]⟩,aQ:=⟨[(0,q60),(1,q7)],[(60000,q23)]⟩,dA:=2,aY:=[],aV:=[60000] }
def arz:fV:=(.seq .nil (.seq j12 (.seq .nil (.seq (.seq .nil (.meet false ⟨[(1,.keep),(5,.sl tY)],[(1,.keep)]⟩ .nil)) (.seq .nil (.seq .nil (.seq (.seq .nil (.meet false ⟨[(6,.sl q57)],[(101001,.ob q23)]⟩ (.loop ⟨[(1,.keep),(6,.sl q57),(7,.keep),(8,.sl q7)],[(1,.keep),(101001,.ob q23)]⟩ (.seq j0 (.seq (.seq (.seq .nil (.seq (.seq .nil (.meet false ⟨lS [(1,.keep),(6,.sl (.one (.own 108001)))] (kS [7,8] []),[(1,.keep),(108001,.ob q23)]⟩ (.seq .nil (.seq .nil (.meet false ⟨lS [(1,.keep),(6,.sl (.one (.own 107001)))] (kS [7,8] []),[(1,.keep),(107001,.ob q23)]⟩ (.seq .nil (.seq .nil (.meet false ⟨lS [(1,.keep),(6,.sl (.one (.own 106001)))] (kS [7,8] []),[(1,.keep),(106001,.ob q23)]⟩ (.seq .nil (.seq .nil (.meet false ⟨lS [(1,.keep),(6,.sl (.one (.own 105001)))] (kS [7,8] []),[(1,.keep),(105001,.ob q23)]⟩ (.seq .nil (.seq .nil (.meet false ⟨lS [(1,.keep),(6,.sl (.one (.own 104001)))] (kS [7,8] []),[(1,.keep),(104001,.ob q23)]⟩ (.seq (.seq .nil (.seq .nil (.meet false ⟨lS [(1,.keep),(6,.sl q75)] (kS [7,8] []),[(1,.keep),(102001,.ob q23)]⟩ (.loop ⟨lS [(1,.keep),(6,.sl q75)] (kS [7,8] [(9,.sl q7)]),[(1,.keep),(102001,.ob q23)]⟩ (.seq j0 j0))))) .nil))))))))))))))) .nil)) .nil) .nil))))) .nil)))))))
def arA:dB:={ bD:=1,pin:=⟨[(0,xB)],[(50000,J8)]⟩,aQ:=⟨[(0,(.agg [(.own 9),(.own 1009)]))],[(50000,q4),(9,q24),(1009,Na)]⟩,dA:=1,aY:=[50000],aV:=[9,1009] }
def arB:fV:=j1
def arC:dB:={ bD:=1,pin:=⟨[(0,q8)],[]⟩,aQ:=⟨[(0,q7)],[]⟩,dA:=1,aY:=[],aV:=[] }
def arD:fV:=(.seq .nil (.seq j1 (.seq .nil (.seq (.seq (.meet false ⟨[(1,.keep),(30,.sl q2)],[(1,.keep)]⟩ .nil) j0) j3))))
def arE:dB:={ bD:=1,pin:=⟨[(0,q35)],[]⟩,aQ:=⟨[(0,q7)],[]⟩,dA:=1,aY:=[],aV:=[] }
def arF:fV:=(.seq .nil (.seq (.seq (.meet false ⟨[(1,.keep),(31,.sl q2)],[(1,.keep)]⟩ .nil) j0) (.seq (.seq .nil (.meet true ⟨[(1,.keep)],[(1,.keep)]⟩ (.loop ⟨[(1,.keep),(3,.sl q7)],[(1,.keep)]⟩ (.seq j0 (.seq (.seq (.seq (.meet false ⟨kS [1,3] [(54,.sl q2)],[(1,.keep)]⟩ .nil) j0) .nil) .nil))))) (.seq (.seq (.meet false ⟨[(1,.keep),(65,.sl q2)],[(1,.keep)]⟩ .nil) j0) (.seq j1 (.seq (.seq .nil (.meet true ⟨[],[]⟩ (.loop ⟨[(1,.keep),(4,.sl q7)],[(1,.keep)]⟩ (.seq j0 j38)))) .nil))))))
def arG:dB:={ bD:=1,pin:=⟨[(0,q8)],[]⟩,aQ:=⟨[(0,q7)],[]⟩,dA:=1,aY:=[],aV:=[] }
def arH:fV:=j1
def arI:dB:={ bD:=1,pin:=⟨[(0,q8)],[]⟩,aQ:=⟨[(0,q60),(1,q7)],[(60000,q23)]⟩,dA:=2,aY:=[],aV:=[60000] }
def arJ:fV:=(.seq .nil (.seq j12 (.seq .nil (.seq (.seq .nil (.meet false ⟨kS [1,5] [],[(1,.keep),(18,.ob q23)]⟩ .nil)) (.seq (.seq .nil (.meet false ⟨[(5,.sl q57)],[(101001,.ob q23)]⟩ (.loop ⟨[(1,.keep),(5,.sl q57),(30,.keep)],[(1,.keep),(101001,.ob q23),(30,.ob .it)]⟩ (.seq .nil (.seq .nil (.seq (.seq .nil (.seq .nil (.seq (.seq .nil (.meet false ⟨[(1,.keep),(5,.sl (.one (.own 109001))),(30,.keep)],[(1,.keep),(109001,.ob q23),(30,.keep)]⟩ (.seq .nil (.seq .nil (.meet false ⟨[(1,.keep),(5,.sl (.one (.own 108001))),(30,.keep)],[(1,.keep),(108001,.ob q23),(30,.keep)]⟩ (.seq .nil (.seq .nil (.meet false ⟨[(1,.keep),(5,.sl (.one (.own 107001))),(30,.keep)],[(1,.keep),(107001,.ob q23),(30,.keep)]⟩ (.seq .nil (.seq .nil (.meet false ⟨[(1,.keep),(5,.sl (.one (.own 106001))),(30,.keep)],[(1,.keep),(106001,.ob q23),(30,.keep)]⟩ (.seq .nil (.seq .nil (.meet false ⟨[(1,.keep),(5,.sl (.one (.own 105001))),(30,.keep)],[(1,.keep),(105001,.ob q23),(30,.keep)]⟩ (.seq .nil (.seq .nil (.meet false ⟨[(1,.keep),(5,.sl (.one (.own 104001))),(30,.keep)],[(1,.keep),(104001,.ob q23),(30,.keep)]⟩ (.seq (.seq .nil (.seq .nil (.meet false ⟨[(1,.keep),(5,.sl q75),(30,.keep)],[(1,.keep),(102001,.ob q23),(30,.keep)]⟩ (.loop ⟨lS [(1,.keep),(5,.sl q75)] (kS [30,83,84] [(85,.sl q7)]),[(1,.keep),(102001,.ob q23),(30,.keep)]⟩ j15)))) .nil)))))))))))))))))) .nil))) .nil)))))) .nil)))))
def arK:dB:={ bD:=1,pin:=⟨[(0,q38)],[]⟩,aQ:=⟨[(0,(.agg [(.own 60000),(.own 60001),q0,q0])),(1,q7)],[(60000,(.arr false true false (.st 10))),(60001,q85)]⟩,dA:=2,aY:=[],aV:=[60000,60001] }
def arL:fV:=(.seq .nil (.seq .nil (.seq (.seq .nil (.meet false ⟨kS [2,4] [],[(2,.keep),(4,.ob (.box [(.own 11),(.own 100004),q0,q0])),(11,.keep),(100004,.ob q85)]⟩ (.loop ⟨kS [1,2,4] [(5,.sl q7)],kO [1,2] [(4,.ob (.box [(.own 11),(.own 100004),q0,q0])),(11,.keep),(100004,.ob q85)]⟩ (.seq j0 (.seq (.seq (.seq .nil (.seq (.meet false ⟨kS [1,2,4,5,6] [(7,.sl (.one (.box 33 0)))],kO [1,2,4,6] (lO [(33,.ob (.box [(.p true false (.sl (.st 10))),(.p true false (.sl (.st 14))),q70,q0,q0,(.own 101700),q0]))] (kO [11,100004] [(101700,.ob (.aO false false (.st 3) [(0,(.st 4))]))]))⟩ .nil) (.seq .nil (.seq .nil (.seq (.seq .nil (.meet false ⟨kS [1,2,4,5,6,7] [],kO [1,2,4,6] (lO [(33,.ob (.box [(.p true false (.sl (.st 10))),(.p true false (.sl (.st 14))),q70,q0,q0,(.own 49),q0]))] (kO [11,100004] [(49,.ob (.aO true false (.st 3) [(0,(.st 4))]))]))⟩ j3)) .nil))))) .nil) .nil))))) j3)))
def ani:TypeId->Option Ty:=fun t=>(([(1000057,(.prod (.st 0) .bool)),(3000082,.bool),(3000053,.bool),(3000038,.bool),(3000018,.bool),(3000013,.bool)]:List (Nat×Ty))++A_).lookup t
def arM:dB:={ bD:=1,pin:=⟨[(0,q8)],[]⟩,aQ:=⟨[(0,q7)],[]⟩,dA:=1,aY:=[],aV:=[] }
def arN:fV:=j1
def arO:dB:={ bD:=1,pin:=⟨[(0,xB)],[(50000,J8)]⟩,aQ:=⟨[(0,(.agg [(.own 8),(.own 1008),q0,q0]))],[(50000,q4),(8,q24),(1008,(.arr false false true (.st 5)))]⟩,dA:=1,aY:=[50000],aV:=[8,1008] }
def arP:fV:=j1
def arQ:dB:={ bD:=1,pin:=⟨[(0,xB)],[(50000,J8)]⟩,aQ:=⟨[(0,(.agg [(.own 60001),(.p false true (.sl (.st 5))),q0,q0]))],[(50000,q4),(60001,q24)]⟩,dA:=1,aY:=[50000],aV:=[60001] }
def arR:fV:=j32
def arS:dB:={ bD:=1,pin:=⟨[(0,(.one (.p true false (.sl (.st 12)))))],[]⟩,aQ:=⟨[(0,X7)],[(100000,q6)]⟩,dA:=1,aY:=[],aV:=[100000] }
def arT:fV:=(.seq .nil (.seq .nil (.seq (.seq .nil (.meet false ⟨[(3,.sl X7)],[(100000,.ob q6)]⟩ (.loop ⟨lS [(3,.sl X7)] (kS [7,8] [(9,.sl q7)]),[(100000,.ob q6)]⟩ j15))) .nil)))
--HAND 34 Srt
def sg8:dB:={ bD:=1,pin:=⟨[(0,xB)],[(50000,J8)]⟩,aQ:=⟨[(0,(.agg [KE,q0,q0,(.p false true (.sl (.st 3)))])),(1,(.one (.own 25)))],[(50000,q4),(25,q6)]⟩,dA:=2,aY:=[50000],aV:=[25] }
def an8:fV:=(.seq .nil (.seq .nil (.seq (.seq .nil (.meet false ⟨kS [0,2,4] [],[(50000,.ob q4),(2,.keep),(4,.ob (.box [(.p false true .str),q3,q3,(.p false true (.sl (.st 3)))]))]⟩ j0)) .nil)))
def arU:dB:={ bD:=2,pin:=⟨[(0,q16),(1,q59)],[]⟩,aQ:=⟨[(0,q2)],[]⟩,dA:=1,aY:=[],aV:=[] }
def arV:fV:=(.seq .nil (.seq (.seq j43 j0) j1))
def sg9:dB:={ bD:=2,pin:=⟨[(0,q16),(1,q59)],[]⟩,aQ:=⟨[(0,q60),(1,(.one (.own 60001))),(2,q7)],[(60000,q56),(60001,q6)]⟩,dA:=3,aY:=[],aV:=[60000,60001] }
def an9:fV:=(.seq .nil (.seq j1 (.seq .nil (.seq .nil (.seq (.seq .nil (.meet false ⟨kS [4,5,7,8,9] [],kO [28,1028] [(34,.ob q6)]⟩ (.loop ⟨kS [4,5,7,8,9,35,36] [(37,.sl q7)],kO [28,1028] [(34,.ob q6)]⟩ j15))) (.seq .nil (.seq .nil (.seq (.meet false j27 (.loop j27 (.seq (.seq .nil (.seq (.seq .nil (.meet false ⟨kS [4,5,7,8,9,12] [(13,.sl q2)],lO [(28,.ob q34)] (kO [1028,34,102003] [])⟩ (.loop ⟨kS [4,5,7,8,9,12] (lS [(13,.sl q2)] (kS [52,53] [(54,.sl q7)])),lO [(28,.ob q34)] (kO [1028,34,102003] [])⟩ (.seq .nil (.seq .nil (.seq (.meet false j25 (.seq .nil (.seq (.seq (.meet false ⟨kS [4,5,7,8,9,12,13,14,15,52,53,54] [(66,.sl q68)],kO [28,1028,34,102003,15] []⟩ .nil) .nil) (.seq .nil (.seq (.meet false ⟨kS [4,5,7,8,9,12,13,14,52,53,54] [(86,.sl q2)],kO [28,1028,34,102003] []⟩ .nil) (.meet false j25 j0)))))) .nil)))))) j7)) .nil))) (.seq (.seq .nil (.meet false ⟨lS [(4,.sl (.one (.own 110000)))] (kS [5,8,12] []),lO [(110000,.ob q56)] (kO [1028,102003] [])⟩ (.loop ⟨lS [(4,.sl (.one (.own 110000)))] (kS [5,8,9,12,97,98] [(99,.sl q7)]),lO [(110000,.ob q56)] (kO [1028,34,102003,28] [])⟩ (.seq .nil (.seq .nil (.seq (.seq (.seq .nil (.seq (.seq .nil (.meet false ⟨kS [4,5,8,9,12,18,97,98,99] [],kO [110000,1028,34,102003] [(18,.ob (.box [q1,q1,q1,q1,q1,q1,(.p true false .bool),q20,q1])),(28,.keep)]⟩ .nil)) .nil)) .nil) .nil)))))) (.seq (.seq .nil (.meet false ⟨[(4,.keep),(5,.sl (.one (.own 113001)))],[(110000,.keep),(113001,.ob q6)]⟩ (.loop ⟨lS [(4,.keep),(5,.sl (.one (.own 113001)))] (kS [12,129,130] [(131,.sl q7)]),lO [(110000,.keep),(113001,.ob q6)] (kO [102003,1028] [])⟩ j15))) .nil))))))))))
def arW:dB:={ bD:=2,pin:=⟨[(0,q16),(1,q59)],[]⟩,aQ:=⟨[(0,q7)],[]⟩,dA:=1,aY:=[],aV:=[] }
def arX:fV:=(.seq .nil (.seq .nil (.seq .nil (.seq (.seq .nil (.meet false ⟨[(8,.sl q7)],[]⟩ (.loop ⟨lS [(8,.sl q7)] (kS [18,19] [(20,.sl q7)]),[(14,.keep)]⟩ j15))) .nil))))
def sg6:dB:={ bD:=0,pin:=⟨[],[]⟩,aQ:=⟨[(0,q2)],[]⟩,dA:=1,aY:=[],aV:=[] }
def an6:fV:=(.seq .nil (.seq .nil (.seq .nil (.seq (.meet false ⟨[(0,.sl q2)],[]⟩ .nil) .nil))))
def sg5:dB:={ bD:=1,pin:=⟨[(0,(.one q54))],[]⟩,aQ:=⟨[(0,q2)],[]⟩,dA:=1,aY:=[],aV:=[] }
def an5:fV:=(.seq .nil (.seq j1 (.seq .nil (.seq .nil (.seq .nil (.seq (.seq (.meet false ⟨kS [4,5,6,7] [(36,.sl q2)],kO [4,18,24,1024] []⟩ .nil) j0) (.seq .nil (.seq (.seq .nil (.meet true ⟨kS [4,5] [(9,.sl q7)],kO [4,18] []⟩ (.loop ⟨kS [4,5,6,7] [(9,.sl q7),(10,.sl q7)],kO [4,18,24,1024] []⟩ (.seq j0 (.seq (.meet true ⟨kS [4,5,6,7] [(9,.sl q7),(10,.keep)],kO [4,18,24,1024] []⟩ (.seq .nil (.seq (.seq (.meet false ⟨kS [4,5,6,7,9,10] [(71,.sl q2)],kO [4,18,24,1024] []⟩ .nil) .nil) (.seq (.seq (.meet false ⟨kS [4,5,6,7,9,10] [(105,.sl q2)],kO [4,18,24,1024] []⟩ .nil) j0) (.seq .nil (.seq (.seq .nil (.meet false ⟨kS [4,5,6,7,9,10] [(11,.sl tY)],kO [4,18,24,1024] []⟩ .nil)) (.seq (.meet false ⟨kS [4,5,6,7,9,10] [(127,.sl q2)],kO [4,18,24,1024] []⟩ .nil) j0))))))) .nil))))) .nil))))))))
end Go.Fg.YtapemkmlinejmaaGreatDoor

