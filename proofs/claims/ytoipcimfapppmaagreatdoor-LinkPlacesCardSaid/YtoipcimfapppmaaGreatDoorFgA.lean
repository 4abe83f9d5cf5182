/-
  Shapes of the functions of the seat, printed by a program (wip/gen/Infer.lean).
-/
import Derived.Test.YtoipcimfapppmaaGreatDoorFwT
import Derived.Test.YtoipcimfapppmaaGreatDoorZd
namespace Go.Fg.YtoipcimfapppmaaGreatDoor
open Go.Fw Go.Proofs Go.Fw.YtoipcimfapppmaaGreatDoor
set_option linter.unusedVariables false
def Qv:List (List UInt8):=[([]:List UInt8),([100,56]:List UInt8),([100,97]:List UInt8),([111,100,97]:List UInt8),([111,100,97,98]:List UInt8),([100,49]:List UInt8),([97,49]:List UInt8),([100,97,49]:List UInt8),([97,98,49]:List UInt8),([100]:List UInt8),([97]:List UInt8),([100,52,110]:List UInt8),([100,97,110]:List UInt8),([106]:List UInt8),([97,106]:List UInt8),([97,106]:List UInt8),([97]:List UInt8),([50]:List UInt8),([100,49]:List UInt8)]
structure aQ where
  kind:Int
  op:Int
  value:Int
  line:Int
  name:(List UInt8)
  args:(List aQ)
def ahi:aQ:=aQ.mk (0:Int) (0:Int) (0:Int) (0:Int) [] []
mutual
def sJ:aQ->List P
  |⟨y0,y1,y2,y3,y4,y5⟩=>[P.int .i64 y0,P.int .i64 y1,P.int .i64 y2,P.int .i64 y3,P.str ⟨List.toArray y4⟩,P.fU 6 (DJ y5)]
def DJ:List aQ->List (List P)
  | []=>[]
  |x::l=>sJ x::DJ l
end
theorem GK :∀l,DJ l=List.map sJ l
  | []=>rfl
  |x::l=>by rw [DJ,GK l];rfl
theorem Xa(x:aQ):sJ x=[P.int .i64 (aQ.kind x),P.int .i64 (aQ.op x),P.int .i64 (aQ.value x),P.int .i64 (aQ.line x),P.str ⟨List.toArray (aQ.name x)⟩,P.fU 6 (List.map sJ (aQ.args x))]:=by
  cases x
  rw [sJ]
  simp only [GK]
structure bZ where
  kind:Int
  line:Int
  name:(List UInt8)
  exprs:(List aQ)
  then':(List bZ)
  else':(List bZ)
def ahj:bZ:=bZ.mk (0:Int) (0:Int) [] [] [] []
mutual
def sK:bZ->List P
  |⟨y0,y1,y2,y3,y4,y5⟩=>[P.int .i64 y0,P.int .i64 y1,P.str ⟨List.toArray y2⟩,P.fU 6 (List.map sJ y3),P.fU 6 (yV y4),P.fU 6 (yV y5)]
def yV:List bZ->List (List P)
  | []=>[]
  |x::l=>sK x::yV l
end
theorem GR :∀l,yV l=List.map sK l
  | []=>rfl
  |x::l=>by rw [yV,GR l];rfl
theorem Xb(x:bZ):sK x=[P.int .i64 (bZ.kind x),P.int .i64 (bZ.line x),P.str ⟨List.toArray (bZ.name x)⟩,P.fU 6 (List.map sJ (bZ.exprs x)),P.fU 6 (List.map sK (bZ.then' x)),P.fU 6 (List.map sK (bZ.else' x))]:=by
  cases x
  rw [sK]
  simp only [GR]
structure lM where
  jd:Int
  iD:Int
  kL:Int
  qX:Int
  qY:Int
  gZ:Int
  fE:Bool
  iq:(List Int)
  to:Int
def ahk:lM:=lM.mk (0:Int) (0:Int) (0:Int) (0:Int) (0:Int) (0:Int) false [] (0:Int)
def ahl(x:lM):List P:=[P.int .i64 (lM.jd x),P.int .i64 (lM.iD x),P.int .i64 (lM.kL x),P.int .i64 (lM.qX x),P.int .i64 (lM.qY x),P.int .i64 (lM.gZ x),P.bool (lM.fE x),P.fU 1 (List.map (λ(x:Int)=>[P.int .i64 x]) (lM.iq x)),P.int .i64 (lM.to x)]
structure cu where
  jd:Int
  iD:Int
  kL:Int
  qX:Int
  qY:Int
  gZ:Int
  fE:Bool
  iq:(List Int)
  to:Int
def ahm:cu:=cu.mk (0:Int) (0:Int) (0:Int) (0:Int) (0:Int) (0:Int) false [] (0:Int)
def ahn(x:cu):List P:=[P.int .i64 (cu.jd x),P.int .i64 (cu.iD x),P.int .i64 (cu.kL x),P.int .i64 (cu.qX x),P.int .i64 (cu.qY x),P.int .i64 (cu.gZ x),P.bool (cu.fE x),P.fU 1 (List.map (λ(x:Int)=>[P.int .i64 x]) (cu.iq x)),P.int .i64 (cu.to x)]
structure aB where
  name:(List UInt8)
  line:Int
  params:(List (List UInt8))
  body:(List bZ)
def aho:aB:=aB.mk [] (0:Int) [] []
def ahp(x:aB):List P:=[P.str ⟨List.toArray (aB.name x)⟩,P.int .i64 (aB.line x),P.fU 1 (List.map (λ(x:List UInt8)=>[P.str ⟨x.toArray⟩]) (aB.params x)),P.fU 6 (List.map sK (aB.body x))]
structure gq where
  op:Int
  arith:Int
  dst:Int
  a:Int
  b:Int
  value:Int
  wide:Bool
  args:(List Int)
def ahq:gq:=gq.mk (0:Int) (0:Int) (0:Int) (0:Int) (0:Int) (0:Int) false []
def ahr(x:gq):List P:=[P.int .i64 (gq.op x),P.int .i64 (gq.arith x),P.int .i64 (gq.dst x),P.int .i64 (gq.a x),P.int .i64 (gq.b x),P.int .i64 (gq.value x),P.bool (gq.wide x),P.fU 1 (List.map (λ(x:Int)=>[P.int .i64 x]) (gq.args x))]
structure dB where
  kind:Int
  op:Int
  dst:Int
  a:Int
  b:Int
  value:Int
  args:(List Int)
def aej:dB:=dB.mk (0:Int) (0:Int) (0:Int) (0:Int) (0:Int) (0:Int) []
def Ur(x:dB):List P:=[P.int .i64 (dB.kind x),P.int .i64 (dB.op x),P.int .i64 (dB.dst x),P.int .i64 (dB.a x),P.int .i64 (dB.b x),P.int .i64 (dB.value x),P.fU 1 (List.map (λ(x:Int)=>[P.int .i64 x]) (dB.args x))]
structure aK where
  instrs:(List dB)
  bT:Int
  lY:Int
  f_:Int
  dF:Int
  line:Int
  gY:Int
  gG:Int
def aek:aK:=aK.mk [] (0:Int) (0:Int) (0:Int) (0:Int) (0:Int) (0:Int) (0:Int)
def Us(x:aK):List P:=[P.fU 7 (List.map Ur (aK.instrs x)),P.int .i64 (aK.bT x),P.int .i64 (aK.lY x),P.int .i64 (aK.f_ x),P.int .i64 (aK.dF x),P.int .i64 (aK.line x),P.int .i64 (aK.gY x),P.int .i64 (aK.gG x)]
structure fQ where
  func:Int
  block:Int
  address:Int
  size:Int
def ael:fQ:=fQ.mk (0:Int) (0:Int) (0:Int) (0:Int)
def aem(x:fQ):List P:=[P.int .i64 (fQ.func x),P.int .i64 (fQ.block x),P.int .i64 (fQ.address x),P.int .i64 (fQ.size x)]
structure aO where
  name:(List UInt8)
  params:Int
  regs:Int
  blocks:(List aK)
def Ut:aO:=aO.mk [] (0:Int) (0:Int) []
def Uu(x:aO):List P:=[P.str ⟨List.toArray (aO.name x)⟩,P.int .i64 (aO.params x),P.int .i64 (aO.regs x),P.fU 8 (List.map Us (aO.blocks x))]
structure aA where
  name:(List UInt8)
  size:Int
def abo:aA:=aA.mk [] (0:Int)
def abp(x:aA):List P:=[P.str ⟨List.toArray (aA.name x)⟩,P.int .i64 (aA.size x)]
def reC:Nat->Type
  |0=>Unit
  |1=>Unit
  |2=>Unit
  |3=>aA
  |4=>aO
  |5=>aK
  |6=>dB
  |7=>Unit
  |8=>Unit
  |9=>fQ
  |10=>Unit
  |11=>gq
  |12=>Unit
  |13=>Unit
  |14=>Unit
  |15=>aB
  |16=>bZ
  |17=>aQ
  |18=>Unit
  |19=>cu
  |20=>lM
  |21=>Unit
  |22=>Unit
  |23=>Unit
  |24=>Unit
  |25=>Unit
  |26=>Unit
  |27=>Unit
  |_=>Unit
def reF:Nat->List Ty
  |0=>[]
  |1=>[]
  |2=>[]
  |3=>[.str,(.int .i64)]
  |4=>[.str,(.int .i64),(.int .i64),(.sl (.st 5))]
  |5=>[(.sl (.st 6)),(.int .i64),(.int .i64),(.int .i64),(.int .i64),(.int .i64),(.int .i64),(.int .i64)]
  |6=>[(.int .i64),(.int .i64),(.int .i64),(.int .i64),(.int .i64),(.int .i64),(.sl (.int .i64))]
  |7=>[]
  |8=>[]
  |9=>[(.int .i64),(.int .i64),(.int .i64),(.int .i64)]
  |10=>[]
  |11=>[(.int .i64),(.int .i64),(.int .i64),(.int .i64),(.int .i64),(.int .i64),.bool,(.sl (.int .i64))]
  |12=>[]
  |13=>[]
  |14=>[]
  |15=>[.str,(.int .i64),(.sl .str),(.sl (.st 16))]
  |16=>[(.int .i64),(.int .i64),.str,(.sl (.st 17)),(.sl (.st 16)),(.sl (.st 16))]
  |17=>[(.int .i64),(.int .i64),(.int .i64),(.int .i64),.str,(.sl (.st 17))]
  |18=>[]
  |19=>[(.int .i64),(.int .i64),(.int .i64),(.int .i64),(.int .i64),(.int .i64),.bool,(.sl (.int .i64)),(.int .i64)]
  |20=>[(.int .i64),(.int .i64),(.int .i64),(.int .i64),(.int .i64),(.int .i64),.bool,(.sl (.int .i64)),(.int .i64)]
  |21=>[]
  |22=>[]
  |23=>[]
  |24=>[]
  |25=>[]
  |26=>[]
  |27=>[]
  |_=>[]
def aq8:(n:Nat)->reC n
  |0=>()
  |1=>()
  |2=>()
  |3=>abo
  |4=>Ut
  |5=>aek
  |6=>aej
  |7=>()
  |8=>()
  |9=>ael
  |10=>()
  |11=>ahq
  |12=>()
  |13=>()
  |14=>()
  |15=>aho
  |16=>ahj
  |17=>ahi
  |18=>()
  |19=>ahm
  |20=>ahk
  |21=>()
  |22=>()
  |23=>()
  |24=>()
  |25=>()
  |26=>()
  |27=>()
  |_+28=>()
def ahs:(n:Nat)->reC n->List (TP reC)
  |0,x=>[]
  |1,x=>[]
  |2,x=>[]
  |3,x=>[⟨.str,aA.name x⟩,⟨(.int .i64),aA.size x⟩]
  |4,x=>[⟨.str,aO.name x⟩,⟨(.int .i64),aO.params x⟩,⟨(.int .i64),aO.regs x⟩,⟨(.sl (.st 5)),aO.blocks x⟩]
  |5,x=>[⟨(.sl (.st 6)),aK.instrs x⟩,⟨(.int .i64),aK.bT x⟩,⟨(.int .i64),aK.lY x⟩,⟨(.int .i64),aK.f_ x⟩,⟨(.int .i64),aK.dF x⟩,⟨(.int .i64),aK.line x⟩,⟨(.int .i64),aK.gY x⟩,⟨(.int .i64),aK.gG x⟩]
  |6,x=>[⟨(.int .i64),dB.kind x⟩,⟨(.int .i64),dB.op x⟩,⟨(.int .i64),dB.dst x⟩,⟨(.int .i64),dB.a x⟩,⟨(.int .i64),dB.b x⟩,⟨(.int .i64),dB.value x⟩,⟨(.sl (.int .i64)),dB.args x⟩]
  |7,x=>[]
  |8,x=>[]
  |9,x=>[⟨(.int .i64),fQ.func x⟩,⟨(.int .i64),fQ.block x⟩,⟨(.int .i64),fQ.address x⟩,⟨(.int .i64),fQ.size x⟩]
  |10,x=>[]
  |11,x=>[⟨(.int .i64),gq.op x⟩,⟨(.int .i64),gq.arith x⟩,⟨(.int .i64),gq.dst x⟩,⟨(.int .i64),gq.a x⟩,⟨(.int .i64),gq.b x⟩,⟨(.int .i64),gq.value x⟩,⟨.bool,gq.wide x⟩,⟨(.sl (.int .i64)),gq.args x⟩]
  |12,x=>[]
  |13,x=>[]
  |14,x=>[]
  |15,x=>[⟨.str,aB.name x⟩,⟨(.int .i64),aB.line x⟩,⟨(.sl .str),aB.params x⟩,⟨(.sl (.st 16)),aB.body x⟩]
  |16,x=>[⟨(.int .i64),bZ.kind x⟩,⟨(.int .i64),bZ.line x⟩,⟨.str,bZ.name x⟩,⟨(.sl (.st 17)),bZ.exprs x⟩,⟨(.sl (.st 16)),bZ.then' x⟩,⟨(.sl (.st 16)),bZ.else' x⟩]
  |17,x=>[⟨(.int .i64),aQ.kind x⟩,⟨(.int .i64),aQ.op x⟩,⟨(.int .i64),aQ.value x⟩,⟨(.int .i64),aQ.line x⟩,⟨.str,aQ.name x⟩,⟨(.sl (.st 17)),aQ.args x⟩]
  |18,x=>[]
  |19,x=>[⟨(.int .i64),cu.jd x⟩,⟨(.int .i64),cu.iD x⟩,⟨(.int .i64),cu.kL x⟩,⟨(.int .i64),cu.qX x⟩,⟨(.int .i64),cu.qY x⟩,⟨(.int .i64),cu.gZ x⟩,⟨.bool,cu.fE x⟩,⟨(.sl (.int .i64)),cu.iq x⟩,⟨(.int .i64),cu.to x⟩]
  |20,x=>[⟨(.int .i64),lM.jd x⟩,⟨(.int .i64),lM.iD x⟩,⟨(.int .i64),lM.kL x⟩,⟨(.int .i64),lM.qX x⟩,⟨(.int .i64),lM.qY x⟩,⟨(.int .i64),lM.gZ x⟩,⟨.bool,lM.fE x⟩,⟨(.sl (.int .i64)),lM.iq x⟩,⟨(.int .i64),lM.to x⟩]
  |21,x=>[]
  |22,x=>[]
  |23,x=>[]
  |24,x=>[]
  |25,x=>[]
  |26,x=>[]
  |27,x=>[]
  |_+28,_=>[]
def anq:(n:Nat)->List (TP reC)->reC n
  |0,ws=>()
  |1,ws=>()
  |2,ws=>()
  |3,ws=>aA.mk (TP.get .str [] ws 0) (TP.get (.int .i64) (0:Int) ws 1)
  |4,ws=>aO.mk (TP.get .str [] ws 0) (TP.get (.int .i64) (0:Int) ws 1) (TP.get (.int .i64) (0:Int) ws 2) (TP.get (.sl (.st 5)) [] ws 3)
  |5,ws=>aK.mk (TP.get (.sl (.st 6)) [] ws 0) (TP.get (.int .i64) (0:Int) ws 1) (TP.get (.int .i64) (0:Int) ws 2) (TP.get (.int .i64) (0:Int) ws 3) (TP.get (.int .i64) (0:Int) ws 4) (TP.get (.int .i64) (0:Int) ws 5) (TP.get (.int .i64) (0:Int) ws 6) (TP.get (.int .i64) (0:Int) ws 7)
  |6,ws=>dB.mk (TP.get (.int .i64) (0:Int) ws 0) (TP.get (.int .i64) (0:Int) ws 1) (TP.get (.int .i64) (0:Int) ws 2) (TP.get (.int .i64) (0:Int) ws 3) (TP.get (.int .i64) (0:Int) ws 4) (TP.get (.int .i64) (0:Int) ws 5) (TP.get (.sl (.int .i64)) [] ws 6)
  |7,ws=>()
  |8,ws=>()
  |9,ws=>fQ.mk (TP.get (.int .i64) (0:Int) ws 0) (TP.get (.int .i64) (0:Int) ws 1) (TP.get (.int .i64) (0:Int) ws 2) (TP.get (.int .i64) (0:Int) ws 3)
  |10,ws=>()
  |11,ws=>gq.mk (TP.get (.int .i64) (0:Int) ws 0) (TP.get (.int .i64) (0:Int) ws 1) (TP.get (.int .i64) (0:Int) ws 2) (TP.get (.int .i64) (0:Int) ws 3) (TP.get (.int .i64) (0:Int) ws 4) (TP.get (.int .i64) (0:Int) ws 5) (TP.get .bool false ws 6) (TP.get (.sl (.int .i64)) [] ws 7)
  |12,ws=>()
  |13,ws=>()
  |14,ws=>()
  |15,ws=>aB.mk (TP.get .str [] ws 0) (TP.get (.int .i64) (0:Int) ws 1) (TP.get (.sl .str) [] ws 2) (TP.get (.sl (.st 16)) [] ws 3)
  |16,ws=>bZ.mk (TP.get (.int .i64) (0:Int) ws 0) (TP.get (.int .i64) (0:Int) ws 1) (TP.get .str [] ws 2) (TP.get (.sl (.st 17)) [] ws 3) (TP.get (.sl (.st 16)) [] ws 4) (TP.get (.sl (.st 16)) [] ws 5)
  |17,ws=>aQ.mk (TP.get (.int .i64) (0:Int) ws 0) (TP.get (.int .i64) (0:Int) ws 1) (TP.get (.int .i64) (0:Int) ws 2) (TP.get (.int .i64) (0:Int) ws 3) (TP.get .str [] ws 4) (TP.get (.sl (.st 17)) [] ws 5)
  |18,ws=>()
  |19,ws=>cu.mk (TP.get (.int .i64) (0:Int) ws 0) (TP.get (.int .i64) (0:Int) ws 1) (TP.get (.int .i64) (0:Int) ws 2) (TP.get (.int .i64) (0:Int) ws 3) (TP.get (.int .i64) (0:Int) ws 4) (TP.get (.int .i64) (0:Int) ws 5) (TP.get .bool false ws 6) (TP.get (.sl (.int .i64)) [] ws 7) (TP.get (.int .i64) (0:Int) ws 8)
  |20,ws=>lM.mk (TP.get (.int .i64) (0:Int) ws 0) (TP.get (.int .i64) (0:Int) ws 1) (TP.get (.int .i64) (0:Int) ws 2) (TP.get (.int .i64) (0:Int) ws 3) (TP.get (.int .i64) (0:Int) ws 4) (TP.get (.int .i64) (0:Int) ws 5) (TP.get .bool false ws 6) (TP.get (.sl (.int .i64)) [] ws 7) (TP.get (.int .i64) (0:Int) ws 8)
  |21,ws=>()
  |22,ws=>()
  |23,ws=>()
  |24,ws=>()
  |25,ws=>()
  |26,ws=>()
  |27,ws=>()
  |_+28,_=>()
def ak0:(n:Nat)->reC n->List P
  |0,x=>[]
  |1,x=>[]
  |2,x=>[]
  |3,x=>abp x
  |4,x=>Uu x
  |5,x=>Us x
  |6,x=>Ur x
  |7,x=>[]
  |8,x=>[]
  |9,x=>aem x
  |10,x=>[]
  |11,x=>ahr x
  |12,x=>[]
  |13,x=>[]
  |14,x=>[]
  |15,x=>ahp x
  |16,x=>sK x
  |17,x=>sJ x
  |18,x=>[]
  |19,x=>ahn x
  |20,x=>ahl x
  |21,x=>[]
  |22,x=>[]
  |23,x=>[]
  |24,x=>[]
  |25,x=>[]
  |26,x=>[]
  |27,x=>[]
  |_+28,_=>[]
theorem anr :∀n,(reF n).all Ty.word=true
  |0=>rfl
  |1=>rfl
  |2=>rfl
  |3=>rfl
  |4=>rfl
  |5=>rfl
  |6=>rfl
  |7=>rfl
  |8=>rfl
  |9=>rfl
  |10=>rfl
  |11=>rfl
  |12=>rfl
  |13=>rfl
  |14=>rfl
  |15=>rfl
  |16=>rfl
  |17=>rfl
  |18=>rfl
  |19=>rfl
  |20=>rfl
  |21=>rfl
  |22=>rfl
  |23=>rfl
  |24=>rfl
  |25=>rfl
  |26=>rfl
  |27=>rfl
  |_+28=>rfl
theorem ak1 :∀(n:Nat) (x:reC n),(ahs n x).map (·.t)=reF n
  |0,x=>rfl
  |1,x=>rfl
  |2,x=>rfl
  |3,x=>rfl
  |4,x=>rfl
  |5,x=>rfl
  |6,x=>rfl
  |7,x=>rfl
  |8,x=>rfl
  |9,x=>rfl
  |10,x=>rfl
  |11,x=>rfl
  |12,x=>rfl
  |13,x=>rfl
  |14,x=>rfl
  |15,x=>rfl
  |16,x=>rfl
  |17,x=>rfl
  |18,x=>rfl
  |19,x=>rfl
  |20,x=>rfl
  |21,x=>rfl
  |22,x=>rfl
  |23,x=>rfl
  |24,x=>rfl
  |25,x=>rfl
  |26,x=>rfl
  |27,x=>rfl
  |_+28,_=>rfl
theorem ak2 :∀(n:Nat) (ws:List (TP reC)),ws.map (·.t)=reF n->ahs n (anq n ws)=ws
  |0,ws,h=>by
    have e:=dM h
    subst e
    rfl
  |1,ws,h=>by
    have e:=dM h
    subst e
    rfl
  |2,ws,h=>by
    have e:=dM h
    subst e
    rfl
  |3,ws,h=>by
    obtain ⟨x0,VW,e0,h0⟩:=aP h
    subst e0
    obtain ⟨x1,ws1,e1,h1⟩:=aP h0
    subst e1
    have e:=dM h1
    subst e
    rfl
  |4,ws,h=>by
    obtain ⟨x0,VW,e0,h0⟩:=aP h
    subst e0
    obtain ⟨x1,ws1,e1,h1⟩:=aP h0
    subst e1
    obtain ⟨x2,ws2,e2,h2⟩:=aP h1
    subst e2
    obtain ⟨x3,ws3,e3,h3⟩:=aP h2
    subst e3
    have e:=dM h3
    subst e
    rfl
  |5,ws,h=>by
    obtain ⟨x0,VW,e0,h0⟩:=aP h
    subst e0
    obtain ⟨x1,ws1,e1,h1⟩:=aP h0
    subst e1
    obtain ⟨x2,ws2,e2,h2⟩:=aP h1
    subst e2
    obtain ⟨x3,ws3,e3,h3⟩:=aP h2
    subst e3
    obtain ⟨x4,ws4,e4,h4⟩:=aP h3
    subst e4
    obtain ⟨x5,ws5,e5,h5⟩:=aP h4
    subst e5
    obtain ⟨x6,ws6,e6,h6⟩:=aP h5
    subst e6
    obtain ⟨x7,ws7,e7,h7⟩:=aP h6
    subst e7
    have e:=dM h7
    subst e
    rfl
  |6,ws,h=>by
    obtain ⟨x0,VW,e0,h0⟩:=aP h
    subst e0
    obtain ⟨x1,ws1,e1,h1⟩:=aP h0
    subst e1
    obtain ⟨x2,ws2,e2,h2⟩:=aP h1
    subst e2
    obtain ⟨x3,ws3,e3,h3⟩:=aP h2
    subst e3
    obtain ⟨x4,ws4,e4,h4⟩:=aP h3
    subst e4
    obtain ⟨x5,ws5,e5,h5⟩:=aP h4
    subst e5
    obtain ⟨x6,ws6,e6,h6⟩:=aP h5
    subst e6
    have e:=dM h6
    subst e
    rfl
  |7,ws,h=>by
    have e:=dM h
    subst e
    rfl
  |8,ws,h=>by
    have e:=dM h
    subst e
    rfl
  |9,ws,h=>by
    obtain ⟨x0,VW,e0,h0⟩:=aP h
    subst e0
    obtain ⟨x1,ws1,e1,h1⟩:=aP h0
    subst e1
    obtain ⟨x2,ws2,e2,h2⟩:=aP h1
    subst e2
    obtain ⟨x3,ws3,e3,h3⟩:=aP h2
    subst e3
    have e:=dM h3
    subst e
    rfl
  |10,ws,h=>by
    have e:=dM h
    subst e
    rfl
  |11,ws,h=>by
    obtain ⟨x0,VW,e0,h0⟩:=aP h
    subst e0
    obtain ⟨x1,ws1,e1,h1⟩:=aP h0
    subst e1
    obtain ⟨x2,ws2,e2,h2⟩:=aP h1
    subst e2
    obtain ⟨x3,ws3,e3,h3⟩:=aP h2
    subst e3
    obtain ⟨x4,ws4,e4,h4⟩:=aP h3
    subst e4
    obtain ⟨x5,ws5,e5,h5⟩:=aP h4
    subst e5
    obtain ⟨x6,ws6,e6,h6⟩:=aP h5
    subst e6
    obtain ⟨x7,ws7,e7,h7⟩:=aP h6
    subst e7
    have e:=dM h7
    subst e
    rfl
  |12,ws,h=>by
    have e:=dM h
    subst e
    rfl
  |13,ws,h=>by
    have e:=dM h
    subst e
    rfl
  |14,ws,h=>by
    have e:=dM h
    subst e
    rfl
  |15,ws,h=>by
    obtain ⟨x0,VW,e0,h0⟩:=aP h
    subst e0
    obtain ⟨x1,ws1,e1,h1⟩:=aP h0
    subst e1
    obtain ⟨x2,ws2,e2,h2⟩:=aP h1
    subst e2
    obtain ⟨x3,ws3,e3,h3⟩:=aP h2
    subst e3
    have e:=dM h3
    subst e
    rfl
  |16,ws,h=>by
    obtain ⟨x0,VW,e0,h0⟩:=aP h
    subst e0
    obtain ⟨x1,ws1,e1,h1⟩:=aP h0
    subst e1
    obtain ⟨x2,ws2,e2,h2⟩:=aP h1
    subst e2
    obtain ⟨x3,ws3,e3,h3⟩:=aP h2
    subst e3
    obtain ⟨x4,ws4,e4,h4⟩:=aP h3
    subst e4
    obtain ⟨x5,ws5,e5,h5⟩:=aP h4
    subst e5
    have e:=dM h5
    subst e
    rfl
  |17,ws,h=>by
    obtain ⟨x0,VW,e0,h0⟩:=aP h
    subst e0
    obtain ⟨x1,ws1,e1,h1⟩:=aP h0
    subst e1
    obtain ⟨x2,ws2,e2,h2⟩:=aP h1
    subst e2
    obtain ⟨x3,ws3,e3,h3⟩:=aP h2
    subst e3
    obtain ⟨x4,ws4,e4,h4⟩:=aP h3
    subst e4
    obtain ⟨x5,ws5,e5,h5⟩:=aP h4
    subst e5
    have e:=dM h5
    subst e
    rfl
  |18,ws,h=>by
    have e:=dM h
    subst e
    rfl
  |19,ws,h=>by
    obtain ⟨x0,VW,e0,h0⟩:=aP h
    subst e0
    obtain ⟨x1,ws1,e1,h1⟩:=aP h0
    subst e1
    obtain ⟨x2,ws2,e2,h2⟩:=aP h1
    subst e2
    obtain ⟨x3,ws3,e3,h3⟩:=aP h2
    subst e3
    obtain ⟨x4,ws4,e4,h4⟩:=aP h3
    subst e4
    obtain ⟨x5,ws5,e5,h5⟩:=aP h4
    subst e5
    obtain ⟨x6,ws6,e6,h6⟩:=aP h5
    subst e6
    obtain ⟨x7,ws7,e7,h7⟩:=aP h6
    subst e7
    obtain ⟨x8,ws8,e8,h8⟩:=aP h7
    subst e8
    have e:=dM h8
    subst e
    rfl
  |20,ws,h=>by
    obtain ⟨x0,VW,e0,h0⟩:=aP h
    subst e0
    obtain ⟨x1,ws1,e1,h1⟩:=aP h0
    subst e1
    obtain ⟨x2,ws2,e2,h2⟩:=aP h1
    subst e2
    obtain ⟨x3,ws3,e3,h3⟩:=aP h2
    subst e3
    obtain ⟨x4,ws4,e4,h4⟩:=aP h3
    subst e4
    obtain ⟨x5,ws5,e5,h5⟩:=aP h4
    subst e5
    obtain ⟨x6,ws6,e6,h6⟩:=aP h5
    subst e6
    obtain ⟨x7,ws7,e7,h7⟩:=aP h6
    subst e7
    obtain ⟨x8,ws8,e8,h8⟩:=aP h7
    subst e8
    have e:=dM h8
    subst e
    rfl
  |21,ws,h=>by
    have e:=dM h
    subst e
    rfl
  |22,ws,h=>by
    have e:=dM h
    subst e
    rfl
  |23,ws,h=>by
    have e:=dM h
    subst e
    rfl
  |24,ws,h=>by
    have e:=dM h
    subst e
    rfl
  |25,ws,h=>by
    have e:=dM h
    subst e
    rfl
  |26,ws,h=>by
    have e:=dM h
    subst e
    rfl
  |27,ws,h=>by
    have e:=dM h
    subst e
    rfl
  |_+28,ws,h=>by have e:=dM h;subst e;rfl
theorem ak3 :∀(n:Nat) (x:reC n),ak0 n x=(ahs n x).map λw=>JB (jG reF) (pG reF ak0 (jG reF)) w.t w.x
  |0,x=>by kernel_rfl
  |1,x=>by kernel_rfl
  |2,x=>by kernel_rfl
  |3,x=>by kernel_rfl
  |4,x=>by kernel_rfl
  |5,x=>by kernel_rfl
  |6,x=>by kernel_rfl
  |7,x=>by kernel_rfl
  |8,x=>by kernel_rfl
  |9,x=>by kernel_rfl
  |10,x=>by kernel_rfl
  |11,x=>by kernel_rfl
  |12,x=>by kernel_rfl
  |13,x=>by kernel_rfl
  |14,x=>by kernel_rfl
  |15,x=>by kernel_rfl
  |16,x=>(Xb x).trans (by kernel_rfl)
  |17,x=>(Xa x).trans (by kernel_rfl)
  |18,x=>by kernel_rfl
  |19,x=>by kernel_rfl
  |20,x=>by kernel_rfl
  |21,x=>by kernel_rfl
  |22,x=>by kernel_rfl
  |23,x=>by kernel_rfl
  |24,x=>by kernel_rfl
  |25,x=>by kernel_rfl
  |26,x=>by kernel_rfl
  |27,x=>by kernel_rfl
  |_+28,_=>rfl
def reG:Nat->Option ((e:Ty)×List (D reC e))
  |0=>some ⟨.str,Qv⟩
  |_=>none
instance re:RE where
  C:=reC
  F:=reF
  dflt:=aq8
  un:=ahs
  ro:=anq
  er:=ak0
  Fwd:=anr
  aiX:=ak1
  aiY:=ak2
  aiZ:=ak3
  G:=reG
theorem mixed:Fit Tryz.prog:=⟨Fw.YtoipcimfapppmaaGreatDoor.akY,λ_ _ _ _ h=>h.elim⟩
def Bq:List (Nat×Ty):=[(3,(.int .i64)),(4,.bool),(5,(.int .u8)),(9,.str),(31,(.sl (.int .i64))),(43,(.st 9)),(46,(.st 4)),(53,(.st 11)),(69,(.st 5)),(77,(.st 3)),(99,(.st 6)),(110,(.st 19)),(117,(.st 20)),(129,(.st 15)),(150,(.st 16)),(179,(.st 17))]
def ety:TypeId->Option Ty:=λt=>Bq.lookup t
def kS(l:List Nat)(r:List (Nat×Md)):List (Nat×Md):=l.map (λn=>(n,.keep))++r
def kO(l:List Nat)(r:List (Nat×Mo)):List (Nat×Mo):=l.map (λn=>(n,.keep))++r
def lS(l r:List (Nat×Md)):=l++r
def lO(l r:List (Nat×Mo)):=l++r
abbrev q0:kD:=.p false false (.int .i64)
abbrev q1:kD:=.p true false (.int .i64)
abbrev q2:kD:=.p false false .bool
abbrev q3:kD:=.p false true (.int .i64)
abbrev q4:iO:=.arr false false false (.int .i64)
abbrev q5:kD:=.p false true (.sl (.int .u8))
abbrev q6:kD:=.p true false (.sl (.int .i64))
abbrev q7:iO:=.arr false true false (.int .i64)
abbrev q9:kK:=.one q0
abbrev q10:kD:=.p false true (.sl (.st 3))
abbrev q11:iO:=.aN true true (.st 5) [(0,(.st 6))]
abbrev q12:kD:=.p false true (.sl (.st 15))
abbrev q13:kD:=.p true true (.sl (.st 15))
abbrev Y1:iO:=.box [(.box 50001 0),(.own 50002),(.own 50003),(.own 50004),q3]
abbrev Uw:kD:=.p true true (.sl (.st 3))
abbrev Ux:iO:=.arr false false false (.int .u8)
abbrev kE:kK:=.one q2
abbrev xA:iO:=.arr false false true .str
abbrev q21:kK:=.agg [(.p true false (.sl (.st 3))),(.p true false (.sl (.st 4))),q1,q1]
abbrev q22:kK:=.one (.box 50000 0)
abbrev q23:iO:=.box [q5,q0]
abbrev Y2:kD:=.p true true (.sl .str)
abbrev q26:iO:=.box [q10,q12,(.p false true (.sl .str)),q3,q3,(.own 50001),q3]
abbrev xM:kK:=.one q1
abbrev LH:iO:=.arr false false true (.st 3)
abbrev q30:iO:=.arr false false true (.st 15)
abbrev q31:kD:=.p true false (.sl (.int .u8))
abbrev q20:kK:=.agg [q31,q6,q6,q6,q1,q1,(.p true false (.sl (.st 3))),(.p true false (.sl (.st 9)))]
abbrev q32:iO:=.box [q10,q12,(.own 50001),q3,q3]
abbrev q33:iO:=.aN false true (.st 5) [(0,(.st 6))]
abbrev q34:iO:=.box [q10,q12,(.own 50001),q0,q0]
abbrev q35:iO:=.box [Uw,q13,Y2,q0,q0,(.own 1033),q0]
abbrev q36:iO:=.aN false false (.st 4) [(3,(.st 5))]
abbrev q37:kK:=.one (.own 100001)
abbrev q40:iO:=.arr false true false (.st 19)
abbrev GV:iO:=.box [q5,q3]
abbrev q42:iO:=.arr false false false (.sl (.int .i64))
abbrev Uy:kD:=.p false false .str
abbrev q44:iO:=.arr false false false .bool
abbrev q45:iO:=.box [Uw,q13,Y2,q3,q3,(.own 100002),q3]
abbrev q46:kD:=.p true false (.sl (.st 16))
abbrev q47:kK:=.agg [(.p true false (.sl (.st 3))),(.p true false (.sl (.st 15)))]
abbrev q48:iO:=.box [(.box 50001 0),(.own 50002),(.own 50003),(.own 50004),q0]
abbrev q49:iO:=.arr false true false (.st 9)
abbrev q50:kK:=.one (.own 100000)
abbrev Xc:kD:=.p true false .str
abbrev q16:kK:=.agg [Xc,q1,q1,(.p true false (.sl (.st 5)))]
abbrev q52:iO:=.arr false false true (.int .u8)
abbrev q54:kK:=.one (.own 55000)
abbrev q56:iO:=.arr false false true (.st 16)
abbrev q57:iO:=.arr false true true .str
abbrev q58:kD:=.p true false (.sl (.st 17))
abbrev q38:kK:=.agg [q1,q1,q1,q1,Xc,q58]
abbrev q59:kK:=.agg [q1,q1,q1,q1,q1,q1,q6]
abbrev q61:iO:=.box [Uw,q13,(.own 100002),q0,q0]
abbrev q62:iO:=.box [Uw,q13,(.own 100002),q3,q3]
abbrev q63:kK:=.agg [q6,(.p true false (.sl (.sl (.int .i64))))]
abbrev q64:iO:=.arr false false false (.st 3)
abbrev q65:iO:=.arr false true false (.st 11)
abbrev q66:kK:=.one (.own 60000)
abbrev q68:iO:=.arr false true true (.st 17)
abbrev q69:iO:=.box [q10,q12,(.p false true (.sl .str)),q0,q0,(.own 50001),q0]
abbrev q70:kK:=.one (.own 101001)
abbrev q71:iO:=.box [Uw,q13,Y2,q0,q0,(.own 60001),q0]
abbrev q72:kD:=.p true false .bool
abbrev q24:kK:=.agg [q1,q1,q1,q1,q1,q1,q72,q6]
abbrev q74:iO:=.arr false false true (.st 17)
abbrev q75:iO:=.arr false true false (.st 3)
abbrev q76:kK:=.one q6
abbrev q77:kK:=.one (.own 100002)
abbrev q78:kK:=.agg [(.own 60000),(.own 60001),(.own 60002),(.own 60003),q0,q0,(.own 60004),(.own 60005)]
abbrev q80:iO:=.box [(.own 104004),(.own 42),(.own 100005),(.own 100006),q1,q1,(.own 38),(.own 104009)]
abbrev q81:iO:=.box [(.own 105006),(.own 42),(.own 100005),(.own 100006),q1,q1,(.own 38),(.own 104009)]
abbrev q82:iO:=.box [(.own 105006),(.own 42),(.own 100005),(.own 100006),q1,q1,(.own 38),(.own 108010)]
abbrev q83:iO:=.arr false true false (.st 5)
abbrev q84:kK:=.agg [q1,q1,q1,q1]
abbrev q85:iO:=.arr false false false .str
abbrev q89:iO:=.box [.dw,(.own 42),(.own 100005),(.own 100006),q1,q1,(.own 38),.dw]
abbrev q90:kD:=.p true false (.sl .str)
abbrev q91:iO:=.box [(.box 50000 0),(.own 101003),(.own 100701),(.own 100702),q0]
abbrev q92:iO:=.box [(.box 50000 0),(.own 103003),(.own 100701),(.own 100702),q0]
abbrev q93:iO:=.box [(.box 50000 0),(.own 103003),(.own 105004),(.own 100702),q0]
abbrev q94:iO:=.box [(.box 50000 0),(.own 103003),(.own 105004),(.own 109005),q0]
abbrev q95:kK:=.one (.own 102001)
abbrev q97:iO:=.box [(.box 50001 0),(.own 50002),(.own 50003),(.own 100005),q3]
abbrev q98:kK:=.agg [q1,q1,Xc,q58,q46,q46]
abbrev q99:iO:=.box [(.p true false (.sl (.st 6))),q1,q1,q1,q1,q1,q1,q1]
abbrev arf:kK:=.agg [q0,q0,q0,q0]
abbrev ak9:iO:=.arr false false false (.st 15)
abbrev ak_:iO:=.arr false true false (.st 15)
abbrev ala:iO:=.arr false true true (.st 16)
abbrev alb:iO:=.arr false true false (.st 4)
abbrev j0:gI:=.seq .nil .nil
abbrev j1:gI:=.seq .nil j0
abbrev j3:gI:=.seq j1 .nil
abbrev j4:gI:=.seq j0 .nil
abbrev j5:JT:=⟨[],[(50000,.ob q35),(1033,.ob q11)]⟩
abbrev j6:gI:=.seq .nil j1
abbrev j7:JT:=⟨[(1,.keep),(3,.sl q9),(4,.sl q9)],[(1,.keep)]⟩
abbrev j8:gI:=.seq (.meet false ⟨[(2,.sl kE)],[]⟩ .nil) .nil
abbrev j9:JT:=⟨kS [0,4] [],lO [(50000,.ob Y1),(50001,.ob q23)] (kO [50002,50003,4,50004] [])⟩
abbrev j11:JT:=⟨kS [0,3,4] [],lO [(50000,.ob q32)] (kO [50001,3,4] [])⟩
abbrev j12:JT:=⟨kS [0,1,5,6,7] [],lO [(50000,.ob q61)] (kO [100001,7,100002,101003] [])⟩
abbrev j13:gI:=.seq j0 (.seq j3 .nil)
abbrev j14:JT:=⟨kS [0,3,4] [],lO [(50000,.ob q34)] (kO [50001,3,4] [])⟩
abbrev j18:JT:=⟨[(1,.keep),(3,.sl q37),(4,.sl q9)],[(1,.keep),(100001,.ob q4)]⟩
abbrev j19:gI:=.seq .nil j3
abbrev j21:gI:=.seq (.seq j6 .nil) .nil
abbrev j23:JT:=⟨kS [1,4] [(5,.sl kE)],[(1,.keep)]⟩
abbrev j25:gI:=.seq .nil (.seq (.seq .nil (.meet true ⟨[],[]⟩ (.loop ⟨kS [1,2] [(5,.sl q9)],[(2,.keep)]⟩ j13))) .nil)
abbrev j26:gI:=.seq .nil (.seq .nil (.seq (.seq .nil (.meet false ⟨[(3,.sl q9)],[]⟩ (.loop j7 (.seq j0 j0)))) .nil))
abbrev j27:JT:=⟨kS [4,5,7,8,9,12] (lS [(13,.sl kE)] (kS [52,53,54] [])),lO [(28,.ob q40)] (kO [1028,34,102003] [])⟩
abbrev j28:gI:=.seq .nil (.meet false ⟨kS [1,2,3,4,7,8,9] [],kO [1,2,11,14,7] [(9,.ob q99),(103005,.keep)]⟩ .nil)
abbrev j29:JT:=⟨kS [4,5,7,8,9] [(12,.sl (.one (.own 102003)))],lO [(28,.ob q40)] (kO [1028,34] [(102003,.ob q4)])⟩
abbrev j31:gI:=.seq (.seq .nil (.meet true ⟨[],[]⟩ (.loop ⟨kS [0,1] [(5,.sl q9)],[]⟩ j13))) .nil
abbrev j32:gI:=.seq .nil j6
abbrev j33:JT:=⟨kS [0,2,3,4,7,8] [],lO [(50000,.ob q23)] (kO [2,3] [(100004,.ob q36),(19,.keep)])⟩
abbrev j34:JT:=⟨[],[(50000,.ob q45),(100002,.ob q11)]⟩
abbrev j35:JT:=⟨[(1,.keep),(18,.sl kE)],[(1,.keep)]⟩
abbrev j36:JT:=⟨kS [1,3,6] [(7,.sl kE)],[(1,.keep)]⟩
abbrev j2:gI:=.seq .nil (.seq (.seq (.seq .nil (.meet false j36 (.seq .nil (.seq .nil (.meet false j36 (.seq .nil (.seq .nil (.meet false j36 .nil)))))))) (.meet true j7 (.seq .nil (.seq .nil (.meet true j7 (.seq .nil (.seq .nil (.meet true j7 (.seq .nil (.seq .nil (.meet true j7 (.seq .nil (.seq (.seq .nil (.meet false j35 (.seq .nil (.seq .nil (.meet false j35 .nil))))) (.seq (.seq .nil (.seq .nil (.meet false j7 .nil))) .nil)))))))))))))) .nil)
abbrev j37:JT:=⟨[(1,.keep),(3,.sl kE)],[(1,.keep)]⟩
abbrev j38:JT:=⟨[(1,.keep),(6,.sl kE)],[(1,.keep)]⟩
abbrev j40:JT:=⟨kS [2,3] [],[(2,.keep),(3,.ob (.box [q0,q0,q1,q0,q0,q1,q2,.dw]))]⟩
abbrev j41:JT:=⟨[(3,.sl q37)],[(100001,.ob q4)]⟩
abbrev j43:gI:=.seq .nil (.seq (.meet false ⟨[(6,.sl kE)],[]⟩ .nil) .nil)
abbrev j45:gI:=.meet false ⟨kS [1,2] [(14,.sl kE)],[(2,.keep)]⟩ .nil
abbrev j46:gI:=.seq j4 .nil
abbrev j47:JT:=⟨kS [0,4] [],kO [50000,50001,50002,50003,4,50004] []⟩
abbrev j50:gI:=.seq .nil j19
abbrev j51:gI:=.seq .nil (.seq .nil j21)
abbrev j52:gI:=.seq .nil j4
abbrev j10:gI:=.seq .nil j52
abbrev j54:JT:=⟨[],[(50000,.ob q34),(50001,.keep)]⟩
abbrev j55:JT:=⟨[(0,.sl q50)],[(100000,.ob q52)]⟩
def sg7:dH:={ bn:=2,pin:=⟨[(0,(.one q31)),(1,xM)],[]⟩,aT:=⟨[(0,(.one (.box 14 0)))],[(14,(.box [q31,q0]))]⟩,dD:=1,bg:=[],aW:=[14] }
def an7:gI:=(.seq .nil (.seq (.seq .nil (.meet false ⟨[(0,.sl (.one q31))],[]⟩ .nil)) .nil))
def arh:dH:={ bn:=3,pin:=⟨[(0,q20),(1,xM),(2,xM)],[]⟩,aT:=⟨[(0,arf),(1,kE)],[]⟩,dD:=2,bg:=[],aW:=[] }
def ari:gI:=(.seq .nil (.seq (.seq .nil (.meet true ⟨[(6,.keep)],[(6,.keep)]⟩ (.loop ⟨kS [1,2,6,11,12] [(13,.sl q9)],[(6,.keep)]⟩ (.seq .nil (.seq .nil (.seq (.seq (.seq .nil (.seq (.meet false ⟨kS [1,2,6,9,11,12,13] [(26,.sl kE)],kO [6,9] []⟩ .nil) j0)) .nil) .nil)))))) .nil))
def anD:dH:={ bn:=2,pin:=⟨[(0,q22),(1,xM)],[(50000,GV)]⟩,aT:=⟨[(0,q9)],[(50000,q23)]⟩,dD:=1,bg:=[50000],aW:=[] }
def arj:gI:=(.seq .nil (.seq (.seq (.meet false ⟨kS [0,1] [(19,.sl kE)],[(50000,.keep)]⟩ .nil) j0) j50))
def ark:dH:={ bn:=1,pin:=⟨[(0,(.one (.p true false (.sl (.st 3)))))],[]⟩,aT:=⟨[(0,q66)],[(60000,q75)]⟩,dD:=1,bg:=[],aW:=[60000] }
def arl:gI:=j19
def arn:dH:={ bn:=1,pin:=⟨[(0,q16)],[]⟩,aT:=⟨[(0,q50)],[(100000,q4)]⟩,dD:=1,bg:=[],aW:=[100000] }
def aro:gI:=(.seq .nil (.seq .nil (.seq (.seq .nil (.meet false ⟨[(3,.sl q50)],[(100000,.ob q4)]⟩ (.loop ⟨[(3,.sl q50),(7,.keep),(8,.sl q9)],[(100000,.ob q4)]⟩ j10))) .nil)))
def anE:dH:={ bn:=1,pin:=⟨[(0,xM)],[]⟩,aT:=⟨[(0,(.one Uy))],[]⟩,dD:=1,bg:=[],aW:=[] }
def arp:gI:=j50
def arq:dH:={ bn:=3,pin:=⟨[(0,q22),(1,q21),(2,q16)],[(50000,GV)]⟩,aT:=⟨[(0,(.agg [q0,q0,q0,q0,q0,q0,(.own 60001)]))],[(50000,q23),(60001,q4)]⟩,dD:=1,bg:=[50000],aW:=[60001] }
def ars:gI:=(.seq .nil (.seq .nil (.seq (.seq .nil (.seq (.seq .nil (.meet false ⟨kS [0,4,6,7] [],lO [(50000,.ob q23)] (kO [4,6] [(7,.ob (.box [q0,q0,q0,q0,q0,q0,(.own 110004)])),(110004,.ob q4)])⟩ (.seq .nil (.seq .nil (.meet false ⟨kS [0,4,6,7] [],lO [(50000,.ob q23)] (kO [4,6] [(7,.ob (.box [q0,q0,q0,q0,q0,q0,(.own 109004)])),(109004,.ob q4)])⟩ (.seq .nil (.seq .nil (.meet false ⟨kS [0,4,6,7] [],lO [(50000,.ob q23)] (kO [4,6] [(7,.ob (.box [q0,q0,q0,q0,q0,q0,(.own 108004)])),(108004,.ob q4)])⟩ (.seq .nil (.seq (.seq .nil (.meet false ⟨kS [0,4,5,6,7,27] [(46,.sl kE)],kO [50000,4,5,6,7] []⟩ .nil)) (.meet false ⟨kS [0,4,6,7] [],lO [(50000,.ob q23)] (kO [4,6] [(7,.ob (.box [q0,q0,q0,q0,q0,q0,(.own 107004)])),(107004,.ob q4)])⟩ (.seq .nil (.seq .nil (.meet false ⟨kS [0,4,6,7] [],lO [(50000,.ob q23)] (kO [4,6] [(7,.ob (.box [q0,q0,q0,q0,q0,q0,(.own 106004)])),(106004,.ob q4)])⟩ (.seq (.seq .nil (.seq .nil (.meet false ⟨kS [0,4,6,7] [],lO [(50000,.ob q23)] (kO [4,6] [(7,.ob (.box [q0,q0,q0,q0,q0,q0,(.own 101005)])),(101005,.ob q4)])⟩ (.loop ⟨kS [0,4,5,6,7] [(8,.sl q9)],lO [(50000,.ob q23)] (kO [4,5,6] [(7,.ob (.box [q0,q0,q0,q0,q0,q0,(.own 101005)])),(101005,.ob q4)])⟩ (.seq j0 j0))))) (.seq .nil (.meet false ⟨kS [0,4,6,7] [],lO [(50000,.ob q23)] (kO [4,6] [(7,.ob (.box [q0,q0,q0,q0,q0,q0,(.own 105004)])),(105004,.ob q4)])⟩ (.seq (.seq .nil (.meet false ⟨kS [0,4,6,7] [],lO [(50000,.ob q23)] (kO [4,6] [(7,.ob (.box [q0,q0,q0,q0,q0,q0,(.own 103005)])),(103005,.ob q4)])⟩ (.loop ⟨kS [0,4,5,6,7] [(9,.sl q9)],lO [(50000,.ob q23)] (kO [4,5,6] [(7,.ob (.box [q0,q0,q0,q0,q0,q0,(.own 103005)])),(103005,.ob q4)])⟩ (.seq j0 j0)))) .nil)))))))))))))))))) .nil)) (.seq (.seq (.meet false ⟨kS [0,4,6,7] [(107,.sl kE)],lO [(50000,.ob q23)] (kO [4,6,7,110004] [])⟩ .nil) j0) .nil))))
def aru:dH:={ bn:=1,pin:=⟨[(0,q16)],[]⟩,aT:=⟨[(0,q37)],[(100001,q4)]⟩,dD:=1,bg:=[],aW:=[100001] }
def arv:gI:=(.seq .nil (.seq .nil (.seq (.seq .nil (.meet false j41 (.loop j18 (.seq j0 j0)))) .nil)))
def arw:dH:={ bn:=1,pin:=⟨[(0,q76)],[]⟩,aT:=⟨[(0,q66)],[(60000,q7)]⟩,dD:=1,bg:=[],aW:=[60000] }
def arx:gI:=j19
def arz:dH:={ bn:=2,pin:=⟨[(0,q76),(1,q76)],[]⟩,aT:=⟨[(0,kE)],[]⟩,dD:=1,bg:=[],aW:=[] }
def arA:gI:=(.seq .nil (.seq j1 (.seq (.seq .nil (.meet true ⟨[],[]⟩ (.loop ⟨kS [0,1,12] [(13,.sl q9)],[]⟩ j51))) .nil)))
def arB:dH:={ bn:=3,pin:=⟨[(0,q54),(1,xM),(2,xM)],[(55000,q52)]⟩,aT:=⟨[(0,q50)],[(100000,q52)]⟩,dD:=1,bg:=[],aW:=[100000] }
def arC:gI:=(.seq .nil (.seq (.seq .nil (.meet false j55 (.loop ⟨lS [(0,.sl q50)] (kS [1,8] [(9,.sl q9)]),[(100000,.ob q52)]⟩ j10))) .nil))
def arD:dH:={ bn:=1,pin:=⟨[(0,(.one q72))],[]⟩,aT:=⟨[(0,q9)],[]⟩,dD:=1,bg:=[],aW:=[] }
def arE:gI:=j19
def arF:dH:={ bn:=3,pin:=⟨[(0,xM),(1,xM),(2,xM)],[]⟩,aT:=⟨[(0,kE)],[]⟩,dD:=1,bg:=[],aW:=[] }
def arG:gI:=j43
def arH:dH:={ bn:=1,pin:=⟨[(0,xM)],[]⟩,aT:=⟨[(0,kE)],[]⟩,dD:=1,bg:=[],aW:=[] }
def arI:gI:=j0
def arJ:dH:={ bn:=2,pin:=⟨[(0,q22),(1,xM)],[(50000,q26),(50001,q33)]⟩,aT:=⟨[(0,q9)],[(50000,(.box [q10,q12,(.p false true (.sl .str)),q0,q0,(.own 30),q0])),(30,q11)]⟩,dD:=1,bg:=[50000],aW:=[30] }
def arK:gI:=j6
def anF:TypeId->Option Ty:=λt=>(([(1000069,(.prod (.st 0) .bool)),(3000009,.bool)]:List (Nat×Ty))++Bq).lookup t
def arL:dH:={ bn:=2,pin:=⟨[(0,q22),(1,q59)],[(50000,q26),(50001,q33)]⟩,aT:=⟨[],[(50000,q69),(50001,q11)]⟩,dD:=0,bg:=[50000,50001],aW:=[] }
def arM:gI:=.nil
def anG:TypeId->Option Ty:=λt=>(([(1000069,(.prod (.st 0) .bool))]:List (Nat×Ty))++Bq).lookup t
def arN:dH:={ bn:=3,pin:=⟨[(0,q22),(1,xM),(2,q84)],[(50000,q26),(50001,q33)]⟩,aT:=⟨[],[(50000,q69),(50001,q11)]⟩,dD:=0,bg:=[50000,50001],aW:=[] }
def arO:gI:=.nil
def anH:TypeId->Option Ty:=λt=>(([(1000069,(.prod (.st 0) .bool))]:List (Nat×Ty))++Bq).lookup t
def arP:dH:={ bn:=1,pin:=⟨[(0,q59)],[]⟩,aT:=⟨[(0,(.agg [q0,q0,q0,q0,q0,q0,q2,(.own 113002)]))],[(113002,q7)]⟩,dD:=1,bg:=[],aW:=[113002] }
def arQ:gI:=(.seq .nil (.seq .nil (.seq (.seq .nil (.seq (.seq .nil (.meet false ⟨kS [2,3] [],[(2,.keep),(3,.ob (.box [q0,q1,q1,q1,q1,q1,q2,(.own 113002)])),(113002,.ob q7)]⟩ (.seq .nil (.seq .nil (.meet false ⟨kS [2,3] [],[(2,.keep),(3,.ob (.box [q0,q1,q1,q1,q1,q1,q2,(.own 112002)])),(112002,.ob q7)]⟩ (.seq .nil (.seq .nil (.meet false ⟨kS [2,3] [],[(2,.keep),(3,.ob (.box [q0,q1,q1,q1,q1,q1,q2,(.own 111002)])),(111002,.ob q7)]⟩ (.seq .nil (.seq .nil (.meet false ⟨kS [2,3] [],[(2,.keep),(3,.ob (.box [q0,q1,q1,q1,q1,q1,q2,(.own 110002)])),(110002,.ob q7)]⟩ (.seq .nil (.seq .nil (.meet false ⟨kS [2,3] [],[(2,.keep),(3,.ob (.box [q0,q0,q1,q1,q1,q1,q2,(.own 109002)])),(109002,.ob q7)]⟩ (.seq .nil (.seq .nil (.meet false ⟨kS [2,3] [],[(2,.keep),(3,.ob (.box [q0,q0,q1,q1,q1,q1,q2,(.own 108002)])),(108002,.ob q7)]⟩ (.seq .nil (.seq .nil (.meet false ⟨kS [2,3] [],[(2,.keep),(3,.ob (.box [q0,q0,q1,q1,q1,q1,q2,(.own 107002)])),(107002,.ob q7)]⟩ (.seq .nil (.seq .nil (.meet false ⟨kS [2,3] [],[(2,.keep),(3,.ob (.box [q0,q0,q1,q1,q1,q1,q2,(.own 106002)])),(106002,.ob q7)]⟩ (.seq .nil (.seq .nil (.meet false ⟨kS [2,3] [],[(2,.keep),(3,.ob (.box [q0,q0,q1,q1,q0,q1,q2,(.own 105002)])),(105002,.ob q7)]⟩ (.seq .nil (.seq .nil (.meet false ⟨kS [2,3] [],[(2,.keep),(3,.ob (.box [q0,q0,q1,q1,q0,q1,q2,(.own 104002)])),(104002,.ob q7)]⟩ (.seq .nil (.seq .nil (.meet false ⟨kS [2,3] [],[(2,.keep),(3,.ob (.box [q0,q0,q1,q1,q0,q1,q2,(.own 103002)])),(103002,.ob q7)]⟩ (.seq .nil (.seq .nil (.meet false ⟨kS [2,3] [],[(2,.keep),(3,.ob (.box [q0,q0,q1,q1,q0,q1,q2,(.own 102002)])),(102002,.ob q7)]⟩ (.seq .nil (.seq .nil (.meet false j40 (.seq .nil (.seq .nil (.meet false j40 .nil))))))))))))))))))))))))))))))))))))))))) .nil)) .nil)))
def arR:dH:={ bn:=2,pin:=⟨[(0,q84),(1,xM)],[]⟩,aT:=⟨[(0,q66)],[(60000,q40)]⟩,dD:=1,bg:=[],aW:=[60000] }
def arS:gI:=(.seq .nil (.seq .nil (.seq (.seq (.seq .nil (.seq .nil (.seq (.meet false ⟨kS [1,2,5] [(19,.sl kE)],kO [2,5] []⟩ .nil) (.seq j3 j32)))) .nil) j0)))
def arT:dH:={ bn:=1,pin:=⟨[(0,q24)],[]⟩,aT:=⟨[(0,kE)],[]⟩,dD:=1,bg:=[],aW:=[] }
def arU:gI:=(.seq .nil (.seq (.seq (.seq (.seq .nil (.meet false j37 (.seq .nil (.meet false j37 .nil)))) (.seq .nil j32)) .nil) .nil))
def arV:dH:={ bn:=1,pin:=⟨[(0,q24)],[]⟩,aT:=⟨[(0,q37)],[(100001,q7)]⟩,dD:=1,bg:=[],aW:=[100001] }
def arW:gI:=(.seq .nil (.seq .nil (.seq (.seq .nil (.meet false ⟨[(3,.sl q37)],[(100001,.ob q7)]⟩ (.loop ⟨[(1,.keep),(3,.sl q37),(10,.keep)],[(1,.keep),(100001,.ob q7),(10,.ob .it)]⟩ (.seq .nil (.seq .nil (.seq (.seq .nil (.seq .nil (.seq (.seq .nil (.meet false ⟨[(1,.keep),(3,.sl (.one (.own 104001))),(10,.keep)],[(1,.keep),(104001,.ob q7),(10,.keep)]⟩ (.seq .nil (.seq .nil (.meet false ⟨[(1,.keep),(3,.sl (.one (.own 103001))),(10,.keep)],[(1,.keep),(103001,.ob q7),(10,.keep)]⟩ (.seq .nil (.seq .nil (.meet false ⟨[(1,.keep),(3,.sl q95),(10,.keep)],[(1,.keep),(102001,.ob q7),(10,.keep)]⟩ (.seq .nil (.seq .nil (.meet false ⟨[(1,.keep),(3,.sl q70),(10,.keep)],[(1,.keep),(101001,.ob q7),(10,.keep)]⟩ .nil))))))))))) .nil))) .nil)))))) .nil)))
def arX:dH:={ bn:=1,pin:=⟨[(0,xM)],[]⟩,aT:=⟨[(0,kE)],[]⟩,dD:=1,bg:=[],aW:=[] }
def arY:gI:=j0
def arZ:dH:={ bn:=1,pin:=⟨[(0,q24)],[]⟩,aT:=⟨[(0,kE)],[]⟩,dD:=1,bg:=[],aW:=[] }
def ar0:gI:=(.seq .nil (.seq .nil (.seq j2 .nil)))
def anI:dH:={ bn:=2,pin:=⟨[(0,q54),(1,(.one q46))],[(55000,xA)]⟩,aT:=⟨[(0,q50)],[(100000,q57)]⟩,dD:=1,bg:=[],aW:=[100000] }
def ar1:gI:=(.seq .nil (.seq (.seq .nil (.meet false ⟨[(0,.sl q50)],[(100000,.ob q57)]⟩ (.loop ⟨[(0,.sl q50),(1,.keep),(5,.sl q9)],[(100000,.ob q57)]⟩ (.seq j0 (.seq (.seq (.seq (.seq .nil (.meet false ⟨lS [(0,.sl (.one (.own 101000)))] (kS [1,5] []),[(101000,.ob q57)]⟩ .nil)) .nil) .nil) .nil))))) .nil))
def ar2:dH:={ bn:=2,pin:=⟨[(0,q47),(1,(.one Xc))],[]⟩,aT:=⟨[(0,q9)],[]⟩,dD:=1,bg:=[],aW:=[] }
def ar4:gI:=j25
def ar5:dH:={ bn:=2,pin:=⟨[(0,q47),(1,(.one Xc))],[]⟩,aT:=⟨[(0,q9)],[]⟩,dD:=1,bg:=[],aW:=[] }
def ar6:gI:=j25
def anJ:dH:={ bn:=1,pin:=⟨[(0,(.one q46))],[]⟩,aT:=⟨[(0,q9)],[]⟩,dD:=1,bg:=[],aW:=[] }
def ar7:gI:=(.seq .nil (.seq .nil (.seq (.seq .nil (.meet false ⟨[(3,.sl q9)],[]⟩ (.loop ⟨[(0,.keep),(3,.sl q9),(4,.sl q9)],[]⟩ (.seq j0 j0)))) .nil)))
def anK:dH:={ bn:=2,pin:=⟨[(0,(.one q90)),(1,(.one Xc))],[]⟩,aT:=⟨[(0,kE)],[]⟩,dD:=1,bg:=[],aW:=[] }
def anL:gI:=(.seq .nil j31)
def anM:dH:={ bn:=2,pin:=⟨[(0,q47),(1,(.one Xc))],[]⟩,aT:=⟨[(0,q9)],[]⟩,dD:=1,bg:=[],aW:=[] }
def anN:gI:=(.seq .nil (.seq (.seq .nil (.seq .nil (.seq j3 .nil))) j3))
def anO:dH:={ bn:=1,pin:=⟨[(0,q84)],[]⟩,aT:=⟨[(0,q66)],[(60000,q7)]⟩,dD:=1,bg:=[],aW:=[60000] }
def anP:gI:=(.seq .nil (.seq (.seq (.seq (.meet false j37 .nil) (.seq .nil (.seq (.meet false ⟨[(1,.keep),(19,.sl kE)],[(1,.keep)]⟩ .nil) j0))) .nil) .nil))
def anQ:dH:={ bn:=2,pin:=⟨[(0,q76),(1,(.one (.fn 90 [])))],[]⟩,aT:=⟨[(0,q9)],[]⟩,dD:=1,bg:=[],aW:=[] }
def anR:gI:=(.seq .nil (.seq (.seq .nil (.meet true ⟨[],[]⟩ (.loop ⟨kS [0,1,7] [(8,.sl q9)],[]⟩ j51))) .nil))
def anS:dH:={ bn:=2,pin:=⟨[(0,q22),(1,(.one Xc))],[(50000,q26),(50001,q33)]⟩,aT:=⟨[(0,q9)],[(50000,q69),(50001,q33)]⟩,dD:=1,bg:=[50000,50001],aW:=[],kept:=[50001] }
def anT:gI:=(.seq .nil (.seq (.seq .nil (.meet true ⟨[],kO [50000,50001] []⟩ (.loop ⟨kS [0,1] [(5,.sl q9)],kO [50000,50001] []⟩ j13))) .nil))
def alc:TypeId->Option Ty:=λt=>(([(1000069,(.prod (.st 0) .bool)),(3000010,.bool)]:List (Nat×Ty))++Bq).lookup t
def anU:dH:={ bn:=1,pin:=⟨[(0,q16)],[]⟩,aT:=⟨[(0,q9)],[]⟩,dD:=1,bg:=[],aW:=[] }
def anV:gI:=j26
def anW:dH:={ bn:=2,pin:=⟨[(0,q16),(1,q84)],[]⟩,aT:=⟨[(0,q9)],[]⟩,dD:=1,bg:=[],aW:=[] }
def anX:gI:=(.seq .nil (.seq (.seq (.meet false ⟨kS [2,3] [(14,.sl kE)],kO [2,3] []⟩ .nil) j0) (.seq (.seq (.meet false ⟨kS [2,3] [(29,.sl kE)],kO [2,3] []⟩ .nil) j0) (.seq .nil (.seq (.seq .nil (.meet true ⟨[],[]⟩ (.loop ⟨kS [2,5] [(6,.sl q9)],kO [2,31] []⟩ (.seq j0 (.seq (.seq (.seq (.meet false ⟨kS [2,5,6] [(52,.sl kE)],kO [2,31] []⟩ .nil) j0) .nil) .nil))))) .nil)))))
def ai8:dH:={ bn:=1,pin:=⟨[(0,q38)],[]⟩,aT:=⟨[(0,q9)],[]⟩,dD:=1,bg:=[],aW:=[] }
def anY:gI:=j26
def anZ:dH:={ bn:=3,pin:=⟨[(0,q22),(1,xM),(2,xM)],[(50000,q32),(50001,xA)]⟩,aT:=⟨[],[(50000,q34),(50001,xA)]⟩,dD:=0,bg:=[50000,50001],aW:=[],kept:=[50001] }
def an0:gI:=(.seq .nil (.meet false ⟨[],[(50000,.ob (.box [q10,q12,(.own 50001),(.p true true (.int .i64)),(.p true true (.int .i64))])),(50001,.keep)]⟩ .nil))
def an1:dH:={ bn:=2,pin:=⟨[(0,q22),(1,(.one Xc))],[(50000,q32),(50001,xA)]⟩,aT:=⟨[(0,q9)],[(50000,q34),(50001,xA)]⟩,dD:=1,bg:=[50000,50001],aW:=[],kept:=[50001] }
def an2:gI:=j19
def ai9:dH:={ bn:=3,pin:=⟨[(0,q22),(1,q38),(2,xM)],[(50000,q26),(50001,q33)]⟩,aT:=⟨[],[(50000,q71),(60001,q11)]⟩,dD:=0,bg:=[50000],aW:=[60001] }
def an4:gI:=(.seq .nil (.seq .nil (.seq (.seq (.meet false ⟨kS [0,2,4] [(24,.sl kE)],kO [50000,4,50001] []⟩ .nil) j0) (.seq .nil (.seq .nil (.seq (.seq .nil (.meet false j5 (.seq .nil (.seq .nil (.meet false j5 (.seq .nil (.seq .nil (.meet false j5 (.seq .nil (.seq .nil (.meet false j5 (.seq .nil (.seq .nil (.meet false j5 (.seq .nil (.seq .nil (.meet false j5 (.seq .nil (.seq .nil (.meet false j5 (.seq .nil (.seq .nil (.meet false j5 (.seq .nil (.seq .nil (.meet false j5 (.seq .nil (.seq .nil (.meet false j5 .nil))))))))))))))))))))))))))))) .nil))))))
def ald:TypeId->Option Ty:=λt=>(([(1000069,(.prod (.st 0) .bool))]:List (Nat×Ty))++Bq).lookup t
def ai_:dH:={ bn:=3,pin:=⟨[(0,q22),(1,q38),(2,xM)],[(50000,q26),(50001,q33)]⟩,aT:=⟨[],[(50000,(.box [Uw,q13,Y2,q0,q0,(.own 61),q0])),(61,q11)]⟩,dD:=0,bg:=[50000],aW:=[61] }
def an5:gI:=(.seq .nil (.seq .nil (.seq .nil (.seq .nil (.seq .nil (.seq .nil (.seq .nil (.seq .nil (.seq .nil (.seq .nil (.seq .nil (.seq .nil (.seq .nil (.seq (.seq .nil (.meet false ⟨kS [0,10,11,12] [],[(50000,.ob (.box [Uw,q13,Y2,q0,q0,(.own 61),q0])),(61,.ob q11)]⟩ .nil)) .nil))))))))))))))
def ale:TypeId->Option Ty:=λt=>(([(1000069,(.prod (.st 0) .bool))]:List (Nat×Ty))++Bq).lookup t
def aja:dH:={ bn:=3,pin:=⟨[(0,q22),(1,(.one q58)),(2,xM)],[(50000,q26),(50001,q33)]⟩,aT:=⟨[(0,q37)],[(50000,(.box [Uw,q13,Y2,q0,q0,(.own 100002),q0])),(100001,q4),(100002,q11)]⟩,dD:=1,bg:=[50000],aW:=[100001,100002] }
def an_:gI:=(.seq .nil (.seq .nil (.seq (.seq .nil (.meet false ⟨[(7,.sl q37)],[(50000,.ob q45),(100001,.ob q4),(100002,.ob q11)]⟩ (.loop ⟨kS [0,1,2] [(7,.sl q37),(8,.sl q9)],[(50000,.ob q45),(100001,.ob q4),(100002,.ob q11)]⟩ (.seq j0 j4)))) .nil)))
def alf:TypeId->Option Ty:=λt=>(([(1000069,(.prod (.st 0) .bool))]:List (Nat×Ty))++Bq).lookup t
def aoa:dH:={ bn:=1,pin:=⟨[(0,q59)],[]⟩,aT:=⟨[(0,q66)],[(60000,q7)]⟩,dD:=1,bg:=[],aW:=[60000] }
def aob:gI:=(.seq .nil (.seq (.seq .nil (.seq (.seq (.seq .nil (.meet false j23 (.seq .nil (.seq .nil (.meet false j23 (.seq .nil (.seq .nil (.meet false j23 (.seq .nil (.seq .nil (.meet false j23 .nil))))))))))) (.seq .nil (.seq (.seq .nil (.meet false ⟨kS [1,4] [(14,.sl kE)],[(1,.keep)]⟩ .nil)) (.seq .nil j32)))) .nil)) .nil))
def aoc:dH:={ bn:=1,pin:=⟨[(0,q59)],[]⟩,aT:=⟨[(0,q9),(1,kE)],[]⟩,dD:=2,bg:=[],aW:=[] }
def aod:gI:=(.seq .nil (.seq (.seq .nil (.seq (.seq (.seq .nil (.meet false j38 (.seq .nil (.seq .nil (.meet false j38 (.seq .nil (.seq .nil (.meet false j38 .nil)))))))) j0) .nil)) (.seq (.seq (.meet false j35 .nil) j0) .nil)))
def aoe:dH:={ bn:=3,pin:=⟨[(0,q21),(1,xM),(2,(.one q72))],[]⟩,aT:=⟨[(0,kE)],[]⟩,dD:=1,bg:=[],aW:=[] }
def aof:gI:=j43
def aog:dH:={ bn:=4,pin:=⟨[(0,q22),(1,q38),(2,xM),(3,xM)],[(50000,q32),(50001,xA)]⟩,aT:=⟨[],[(50000,q34),(50001,xA)]⟩,dD:=0,bg:=[50000,50001],aW:=[],kept:=[50001] }
def aoh:gI:=(.seq .nil (.seq .nil (.seq (.seq .nil (.meet false j54 (.seq .nil (.seq (.meet false ⟨kS [0,5] [(20,.sl kE)],kO [50000,50001,5] []⟩ .nil) (.meet false j54 .nil))))) .nil)))
def aoi:dH:={ bn:=3,pin:=⟨[(0,q22),(1,(.one Xc)),(2,xM)],[(50000,q32),(50001,xA)]⟩,aT:=⟨[(0,(.agg [q0,q0,q0,q0,Uy,.dw]))],[(50000,q34),(50001,xA)]⟩,dD:=1,bg:=[50000,50001],aW:=[],kept:=[50001] }
def aoj:gI:=(.seq .nil (.seq .nil (.seq (.seq .nil (.meet false ⟨kS [1,2,6] [(7,.sl q9)],kO [50000,50001,6] []⟩ .nil)) .nil)))
def ajb:dH:={ bn:=2,pin:=⟨[(0,q22),(1,q38)],[(50000,q32),(50001,xA)]⟩,aT:=⟨[(0,(.agg [q0,q0,q0,q0,Uy,(.own 60002)]))],[(50000,q34),(50001,xA),(60002,q68)]⟩,dD:=1,bg:=[50000,50001],aW:=[60002],kept:=[50001] }
def aok:gI:=(.seq .nil (.seq (.seq .nil (.seq (.seq .nil (.seq j0 (.seq .nil (.meet true j11 (.seq .nil (.seq .nil (.meet true j11 (.seq .nil (.seq .nil (.meet true j11 (.seq (.seq .nil (.seq (.seq .nil (.meet true j14 (.seq .nil (.seq .nil (.meet true j14 (.seq .nil (.seq .nil (.seq (.seq .nil (.meet false j14 .nil)) (.seq (.seq .nil (.meet false j14 .nil)) .nil))))))))) .nil)) (.seq .nil (.meet false j11 (.seq (.seq .nil (.meet false j11 .nil)) .nil)))))))))))))) .nil)) j0))
def ajc:dH:={ bn:=2,pin:=⟨[(0,q22),(1,(.one q58))],[(50000,q32),(50001,xA)]⟩,aT:=⟨[(0,q77)],[(50000,q34),(50001,xA),(100002,q68)]⟩,dD:=1,bg:=[50000,50001],aW:=[100002],kept:=[50001] }
def aol:gI:=(.seq .nil (.seq .nil (.seq (.seq .nil (.meet false ⟨[(5,.sl q77)],[(50000,.ob q32),(50001,.keep),(100002,.ob q68)]⟩ (.loop ⟨kS [0,1] [(5,.sl q77),(6,.sl q9)],[(50000,.ob q32),(50001,.keep),(100002,.ob q68)]⟩ (.seq j0 j0)))) .nil)))
def aom:dH:={ bn:=3,pin:=⟨[(0,xM),(1,(.one Xc)),(2,q38)],[]⟩,aT:=⟨[(0,(.agg [q0,q0,Uy,(.own 10),.dw,.dw]))],[(10,(.arr false true false (.st 17)))]⟩,dD:=1,bg:=[],aW:=[10] }
def aon:gI:=j0
def aoo:dH:={ bn:=2,pin:=⟨[(0,q22),(1,(.one q72))],[(50000,Y1),(50001,GV),(50002,LH),(50003,q30),(50004,xA)]⟩,aT:=⟨[(0,(.one Uy)),(1,kE)],[(50000,q48),(50001,q23),(50002,LH),(50003,q30),(50004,xA)]⟩,dD:=2,bg:=[50000,50001,50002,50003,50004],aW:=[],kept:=[50002,50003,50004] }
def aop:gI:=(.seq .nil (.seq .nil (.seq (.seq .nil (.meet false ⟨[(0,.keep),(6,.sl (.one (.own 100005)))],kO [50000,50001,50002,50003,50004] [(100005,.ob xA)]⟩ (.loop ⟨kS [0,1] [(6,.sl (.one (.own 100005))),(7,.sl q9)],kO [50000,50001,50002,50003,50004] [(100005,.ob xA)]⟩ (.seq j0 (.seq (.seq (.seq .nil (.meet false ⟨kS [0,1] [(6,.sl (.one (.own 101005))),(7,.keep)],kO [50000,50001,50002,50003,50004] [(101005,.ob xA)]⟩ .nil)) .nil) .nil))))) j3)))
def aoq:dH:={ bn:=0,pin:=⟨[],[]⟩,aT:=⟨[(0,(.one (.own 1)))],[(1,q85)]⟩,dD:=1,bg:=[],aW:=[1] }
def aor:gI:=j0
def aos:dH:={ bn:=1,pin:=⟨[(0,q22)],[(50000,Y1),(50001,GV),(50002,LH),(50003,q30),(50004,xA)]⟩,aT:=⟨[(0,(.agg [q0,q0,q0,q0,Uy,.dw]))],[(50000,q48),(50001,q23),(50002,LH),(50003,q30),(50004,xA)]⟩,dD:=1,bg:=[50000,50001,50002,50003,50004],aW:=[],kept:=[50002,50003,50004] }
def aot:gI:=(.seq .nil (.seq .nil (.seq (.seq .nil (.seq (.seq .nil (.seq .nil (.seq .nil (.meet true ⟨kS [2,3] [],lO [(50000,.ob Y1),(50001,.ob q23)] (kO [50002,50003,50004,2] [])⟩ (.seq j6 (.seq (.seq .nil (.meet false ⟨kS [0,2,3] [(26,.sl kE)],kO [50000,50001,50002,50003,50004,2] []⟩ .nil)) (.meet true ⟨kS [2,3] [],kO [50000,50001,50002,50003,50004,2] []⟩ j3))))))) .nil)) (.seq .nil (.seq (.seq .nil (.meet false ⟨[(2,.keep),(6,.sl q9)],lO [(50000,.keep),(50001,.ob q23)] (kO [50002,50003,50004,2] [])⟩ .nil)) .nil)))))
def aou:dH:={ bn:=3,pin:=⟨[(0,xM),(1,xM),(2,(.one q58))],[]⟩,aT:=⟨[(0,(.agg [q0,q0,q0,q0,Uy,q58]))],[]⟩,dD:=1,bg:=[],aW:=[] }
def aov:gI:=j0
def ar8:dH:={ bn:=1,pin:=⟨[(0,q21)],[]⟩,aT:=⟨[(0,(.agg [(.own 100002),(.own 100003)]))],[(100002,q4),(100003,q42)]⟩,dD:=1,bg:=[],aW:=[100002,100003] }
def ar9:gI:=(.seq .nil (.seq .nil (.seq (.seq .nil (.meet false ⟨kS [2,3] [],[(2,.keep),(3,.ob (.box [(.own 100002),(.own 100003)])),(100002,.ob q4),(100003,.ob q42)]⟩ (.loop ⟨kS [2,3,7,8] [(9,.sl q9)],[(2,.keep),(3,.ob (.box [(.own 100002),(.own 100003)])),(100002,.ob q4),(100003,.ob q42)]⟩ (.seq .nil (.seq .nil j46))))) .nil)))
def ar_:dH:={ bn:=1,pin:=⟨[(0,q21)],[]⟩,aT:=⟨[(0,(.agg [(.own 100003),(.own 100004)]))],[(100003,q4),(100004,q42)]⟩,dD:=1,bg:=[],aW:=[100003,100004] }
def asa:gI:=(.seq .nil (.seq .nil (.seq (.seq .nil (.meet false ⟨kS [2,3] [],[(2,.keep),(3,.ob (.box [(.own 100003),(.own 100004)])),(100003,.ob q4),(100004,.ob q42)]⟩ (.loop ⟨kS [1,2,3] [(4,.sl q9)],kO [1,2] [(3,.ob (.box [(.own 100003),(.own 100004)])),(100003,.ob q4),(100004,.ob q42)]⟩ (.seq j0 j4)))) .nil)))
def asb:dH:={ bn:=2,pin:=⟨[(0,q22),(1,q16)],[(50000,GV)]⟩,aT:=⟨[(0,(.one (.own 9)))],[(50000,q23),(9,q4)]⟩,dD:=1,bg:=[50000],aW:=[9] }
def asc:gI:=(.seq .nil (.seq .nil (.seq (.seq .nil (.meet false ⟨[(5,.keep)],[(50000,.ob GV),(9,.ob q4)]⟩ (.loop ⟨kS [0,5] [(6,.sl q9)],[(50000,.ob GV),(9,.ob q4)]⟩ (.seq j0 j4)))) .nil)))
def ase:dH:={ bn:=2,pin:=⟨[(0,q16),(1,q76)],[]⟩,aT:=⟨[(0,q37),(1,q77)],[(100001,q40),(100002,q4)]⟩,dD:=2,bg:=[],aW:=[100001,100002] }
def asf:gI:=(.seq .nil (.seq .nil (.seq .nil (.seq (.seq .nil (.meet false ⟨[(6,.sl q37),(7,.sl q77)],[(100001,.ob q40),(100002,.ob q4)]⟩ (.loop ⟨kS [1,2] (lS [(6,.sl q37),(7,.sl q77)] (kS [13,14] [(15,.sl q9)])),[(2,.keep),(100001,.ob q40),(100002,.ob q4)]⟩ (.seq .nil (.seq .nil (.seq (.seq (.seq .nil (.seq .nil (.seq (.seq .nil (.meet false ⟨kS [1,2] (lS [(6,.sl q70)] (kS [7,8,9,13,14,15] [])),[(2,.keep),(101001,.ob q40),(24,.keep)]⟩ (.loop ⟨kS [1,2] (lS [(6,.sl q70)] (kS [7,8,9,13,14,15,30,31] [(32,.sl q9)])),[(2,.keep),(101001,.ob q40),(24,.keep)]⟩ j10))) (.seq .nil (.seq (.seq .nil (.meet false ⟨kS [1,2,6,7,9] (lS [(12,.sl xM)] (kS [13,14,15] [])),kO [2,101001,24] []⟩ .nil)) .nil))))) .nil) .nil)))))) .nil))))
def ash:dH:={ bn:=1,pin:=⟨[(0,(.agg [Xc,q1,q90,q46]))],[]⟩,aT:=⟨[(0,(.one (.own 8)))],[(8,(.arr false true false .str))]⟩,dD:=1,bg:=[],aW:=[8] }
def asi:gI:=j0
def aow:dH:={ bn:=2,pin:=⟨[(0,q22),(1,(.one q46))],[(50000,q26),(50001,q33)]⟩,aT:=⟨[(0,kE)],[(50000,q71),(60001,q11)]⟩,dD:=1,bg:=[50000],aW:=[60001] }
def asj:gI:=(.seq .nil (.seq (.seq .nil (.meet true ⟨[],[(50000,.ob (.box [Uw,q13,Y2,q3,q3,(.own 100001),q3])),(100001,.ob q11)]⟩ (.loop ⟨kS [0,1] [(5,.sl q9)],[(50000,.ob (.box [Uw,q13,Y2,q3,q3,(.own 100001),q3])),(100001,.ob q11)]⟩ j13))) .nil))
def aox:TypeId->Option Ty:=λt=>(([(1000069,(.prod (.st 0) .bool))]:List (Nat×Ty))++Bq).lookup t
def aoy:dH:={ bn:=2,pin:=⟨[(0,q22),(1,q98)],[(50000,q26),(50001,q33)]⟩,aT:=⟨[(0,kE)],[(50000,q71),(60001,q11)]⟩,dD:=1,bg:=[50000],aW:=[60001] }
def asl:gI:=(.seq .nil (.seq .nil (.seq j52 (.seq (.seq .nil (.meet false ⟨kS [0,3,5] [],[(50000,.ob q45),(3,.keep),(100002,.ob q11)]⟩ (.loop ⟨kS [0,3,5] [(6,.sl q9)],[(50000,.ob q45),(3,.keep),(100002,.ob q11)]⟩ (.seq j0 j0)))) (.seq (.seq .nil (.seq (.seq (.seq .nil (.meet false ⟨kS [0,3,5,38] [(39,.sl kE)],kO [50000,3,100002] []⟩ .nil)) (.meet true j34 (.seq (.seq .nil (.seq .nil (.meet false ⟨[],[(50000,.ob (.box [Uw,q13,Y2,q0,q0,(.own 100002),q0])),(100002,.ob q11)]⟩ .nil))) (.seq .nil (.meet true j34 (.seq .nil (.seq .nil (.seq j0 (.seq .nil (.meet true j34 j6)))))))))) .nil)) .nil)))))
def aoz:TypeId->Option Ty:=λt=>(([(1000069,(.prod (.st 0) .bool)),(3000022,.bool),(3000011,.bool)]:List (Nat×Ty))++Bq).lookup t
def ajd:dH:={ bn:=3,pin:=⟨[(0,q22),(1,q98),(2,xM)],[(50000,q26),(50001,q33)]⟩,aT:=⟨[],[(50000,(.box [Uw,q13,Y2,q0,q0,(.own 57),q0])),(57,q11)]⟩,dD:=0,bg:=[50000],aW:=[57] }
def aoA:gI:=(.seq .nil (.seq .nil (.seq .nil (.seq .nil (.seq .nil (.seq .nil (.seq .nil (.seq (.seq .nil (.meet false ⟨kS [0,2,4,8,9] [],[(50000,.ob (.box [Uw,q13,Y2,q0,q0,(.own 41),q0])),(4,.keep),(41,.ob q11)]⟩ .nil)) .nil))))))))
def alg:TypeId->Option Ty:=λt=>(([(1000069,(.prod (.st 0) .bool))]:List (Nat×Ty))++Bq).lookup t
def aje:dH:={ bn:=3,pin:=⟨[(0,q22),(1,q98),(2,xM)],[(50000,q26),(50001,q33)]⟩,aT:=⟨[(0,kE)],[(50000,q71),(60001,q11)]⟩,dD:=1,bg:=[50000],aW:=[60001] }
def aoB:gI:=(.seq .nil (.seq .nil (.seq .nil (.seq .nil (.seq .nil (.seq (.seq .nil (.seq (.seq .nil (.seq .nil (.seq (.seq .nil (.meet false ⟨[],[(50000,.ob (.box [Uw,q13,Y2,q0,q0,(.own 39),q0])),(39,.ob q11)]⟩ .nil)) .nil))) .nil)) (.seq .nil (.seq .nil (.seq .nil (.seq .nil (.seq (.seq (.meet false ⟨kS [0,4,9,10,13,14] [(77,.sl kE)],kO [50000,4,67] []⟩ .nil) j0) (.seq .nil (.seq (.seq .nil (.meet false ⟨kS [0,13,14,15] [],[(50000,.ob (.box [Uw,q13,Y2,q0,q0,(.own 81),q0])),(81,.ob q11)]⟩ .nil)) (.seq (.seq .nil (.meet false ⟨[],[(50000,.ob (.box [Uw,q13,Y2,q0,q0,(.own 81),q0])),(81,.ob q11)]⟩ .nil)) .nil))))))))))))))
def alh:TypeId->Option Ty:=λt=>(([(1000069,(.prod (.st 0) .bool)),(3000033,.bool)]:List (Nat×Ty))++Bq).lookup t
def asn:dH:={ bn:=1,pin:=⟨[(0,q16)],[]⟩,aT:=⟨[(0,(.one (.own 11)))],[(11,q44)]⟩,dD:=1,bg:=[],aW:=[11] }
def aso:gI:=(.seq .nil (.seq .nil (.seq j1 (.seq .nil (.seq .nil (.seq (.meet false ⟨[(3,.keep)],[(11,.ob q44)]⟩ (.loop ⟨kS [1,3] [(4,.sl q77)],[(1,.keep),(11,.ob q44),(100002,.ob q7)]⟩ (.seq j0 (.seq (.seq .nil (.seq .nil (.seq .nil (.seq .nil (.meet false ⟨kS [1,3] [(4,.sl (.one (.own 101002)))],[(1,.keep),(11,.ob q44),(101002,.ob q7)]⟩ (.loop ⟨kS [1,3] [(4,.sl (.one (.own 101002))),(6,.keep),(7,.sl q9)],[(1,.keep),(11,.ob q44),(101002,.ob q7),(39,.keep)]⟩ (.seq j0 (.seq (.seq (.seq .nil (.meet false ⟨kS [1,3] (lS [(4,.sl (.one (.own 102002)))] (kS [6,7] [])),[(1,.keep),(11,.ob q44),(102002,.ob q7),(39,.keep)]⟩ j0)) .nil) .nil)))))))) .nil)))) .nil))))))
def aoC:TypeId->Option Ty:=λt=>(([(2000000,.bool)]:List (Nat×Ty))++Bq).lookup t
def asq:dH:={ bn:=2,pin:=⟨[(0,q76),(1,(.one (.fn 90 [])))],[]⟩,aT:=⟨[(0,kE)],[]⟩,dD:=1,bg:=[],aW:=[] }
def asr:gI:=j0
def ajf:dH:={ bn:=2,pin:=⟨[(0,q22),(1,(.one q46))],[(50000,q32),(50001,xA)]⟩,aT:=⟨[(0,q37)],[(50000,q61),(100001,ala),(100002,q57)]⟩,dD:=1,bg:=[50000],aW:=[100001,100002] }
def aoD:gI:=(.seq .nil (.seq .nil (.seq (.seq .nil (.meet false ⟨[(5,.sl q37)],[(50000,.ob q62),(100001,.ob ala),(100002,.ob q57)]⟩ (.loop ⟨kS [0,1] [(5,.sl q37),(6,.sl q9)],[(50000,.ob q62),(100001,.ob ala),(100002,.ob q57)]⟩ (.seq j0 (.seq (.seq (.seq .nil (.seq .nil (.seq (.seq .nil (.meet false ⟨kS [0,1,5,6,7] [(8,.sl (.one (.own 101003)))],lO [(50000,.ob q62)] (kO [100001,7] [(101003,.ob q68),(100002,.keep)])⟩ (.loop ⟨kS [0,1,5,6,7] [(8,.sl (.one (.own 101003))),(9,.sl q9)],lO [(50000,.ob q62)] (kO [100001,7] [(101003,.ob q68),(100002,.keep)])⟩ (.seq j0 (.seq (.seq (.seq (.seq .nil (.meet false ⟨kS [0,1,5,6,7,8,9] [],lO [(50000,.ob q62)] (kO [100001,7,101003,100002] [])⟩ .nil)) .nil) .nil) .nil))))) (.seq .nil (.seq .nil (.seq (.seq .nil (.seq (.seq .nil (.meet false ⟨kS [0,1,5,6,7] [],lO [(50000,.ob (.box [Uw,q13,(.own 110003),q0,q0]))] (kO [100001,7] [(110003,.ob q57),(101003,.keep)])⟩ (.seq (.seq (.seq .nil (.meet false j12 .nil)) .nil) (.seq (.seq .nil (.meet false ⟨kS [0,1,5,6,7,10] [(80,.sl kE)],kO [50000,100001,7,100002,101003] []⟩ .nil)) (.meet false j12 (.seq (.seq .nil (.meet false j12 (.seq .nil (.seq (.meet false ⟨kS [0,1,5,6,7] [(108,.sl kE)],kO [50000,100001,7,100002,101003] []⟩ .nil) (.meet false j12 .nil))))) .nil)))))) .nil)) j0)))))) .nil) .nil))))) .nil)))
def aoE:dH:={ bn:=3,pin:=⟨[(0,q21),(1,q16),(2,q59)],[]⟩,aT:=⟨[(0,q9)],[]⟩,dD:=1,bg:=[],aW:=[] }
def aoF:gI:=(.seq .nil (.seq (.seq (.meet false ⟨kS [3,4,5] [(48,.sl kE)],kO [3,4,5] []⟩ .nil) j0) (.seq .nil (.seq (.seq .nil (.seq .nil (.meet false ⟨kS [3,4,5] [(7,.sl (.one (.own 101003)))],kO [3,4,5] [(101003,.ob q7)]⟩ .nil))) (.seq (.seq .nil (.meet true ⟨kS [3,5] [],kO [3,5] []⟩ (.loop ⟨kS [3,4,5,7] [(10,.sl q9)],kO [3,4,5,101003] []⟩ (.seq j0 (.seq (.seq (.seq (.meet false ⟨kS [3,4,5,7,10] [(80,.sl kE)],kO [3,4,5,101003] []⟩ .nil) j0) .nil) .nil))))) (.seq (.seq .nil (.seq (.seq (.seq .nil (.meet false ⟨kS [3,5,82] [(83,.sl kE)],kO [3,5] []⟩ .nil)) (.meet true ⟨[],[]⟩ (.seq j1 (.seq (.seq .nil (.meet false ⟨kS [3,5,82] [(91,.sl kE)],kO [3,5] []⟩ .nil)) (.meet true ⟨[],[]⟩ (.seq j1 (.seq .nil (.meet true ⟨[],[]⟩ (.seq (.seq (.seq (.meet false ⟨kS [3,5] [(111,.sl kE)],kO [3,5] []⟩ .nil) j0) j1) (.seq .nil (.meet true ⟨[],[]⟩ (.seq j1 (.seq .nil (.meet true ⟨[],[]⟩ (.seq (.seq (.meet false ⟨[(140,.sl kE)],[]⟩ .nil) j0) (.seq .nil (.meet true ⟨[],[]⟩ (.seq (.seq (.meet false ⟨[(152,.sl kE)],[]⟩ .nil) j0) .nil)))))))))))))))))) .nil)) .nil))))))
def aoG:dH:={ bn:=1,pin:=⟨[(0,q22)],[(50000,Y1),(50001,GV),(50002,LH),(50003,q30),(50004,xA)]⟩,aT:=⟨[(0,(.one Uy)),(1,kE)],[(50000,q48),(50001,q23),(50002,LH),(50003,q30),(50004,xA)]⟩,dD:=2,bg:=[50000,50001,50002,50003,50004],aW:=[],kept:=[50002,50003,50004] }
def aoH:gI:=(.seq .nil (.seq .nil (.seq (.seq .nil (.meet true ⟨[],kO [50000,50001,50002,50003,50004] []⟩ (.loop ⟨kS [0,4] [(5,.sl q9)],kO [50000,50001,50002,50003,50004,8] []⟩ (.seq j0 (.seq (.seq (.seq .nil (.seq (.seq .nil (.meet false ⟨kS [0,4,5] [(6,.sl kE)],kO [50000,50001,50002,50003,50004,8] []⟩ (.loop ⟨kS [0,4,5] [(6,.sl kE),(7,.sl q9)],kO [50000,50001,50002,50003,50004,8] []⟩ (.seq j0 (.seq (.seq (.meet false ⟨kS [0,4,5] [(6,.sl kE),(7,.keep)],kO [50000,50001,50002,50003,50004,8] []⟩ .nil) .nil) .nil))))) j1)) .nil) .nil))))) .nil)))
def ajg:dH:={ bn:=2,pin:=⟨[(0,q22),(1,xM)],[(50000,Y1),(50001,GV),(50002,LH),(50003,q30),(50004,xA)]⟩,aT:=⟨[(0,(.agg [q0,q0,q0,q0,Uy,(.p false true (.sl (.st 17)))]))],[(50000,q48),(50001,q23),(50002,LH),(50003,q30),(50004,xA)]⟩,dD:=1,bg:=[50000,50001,50002,50003,50004],aW:=[],kept:=[50002,50003,50004] }
def aoI:gI:=(.seq .nil (.seq .nil (.seq (.seq (.meet false ⟨kS [0,1,4,5] [(18,.sl kE)],lO [(50000,.keep),(50001,.ob GV)] (kO [50002,50003,50004,4] [])⟩ .nil) j0) (.seq (.seq .nil (.seq (.seq .nil (.seq .nil (.seq .nil (.seq .nil (.seq .nil (.seq .nil (.seq (.seq .nil (.meet false ⟨kS [0,1,4,5,22] [(58,.sl kE)],kO [50000,50001,50002,50003,50004,4] []⟩ .nil)) (.seq .nil (.seq .nil (.meet true ⟨kS [0,1,4,5] [],lO [(50000,.ob Y1),(50001,.ob q23)] (kO [50002,50003,50004,4] [])⟩ (.seq j6 .nil))))))))))) .nil)) .nil))))
def ajh:dH:={ bn:=2,pin:=⟨[(0,q22),(1,xM)],[(50000,Y1),(50001,GV),(50002,LH),(50003,q30),(50004,xA)]⟩,aT:=⟨[(0,(.agg [q0,q0,q0,q0,Uy,(.own 60005)]))],[(50000,q48),(50001,q23),(50002,LH),(50003,q30),(50004,xA),(60005,q74)]⟩,dD:=1,bg:=[50000,50001,50002,50003,50004],aW:=[60005],kept:=[50002,50003,50004] }
def aoJ:gI:=(.seq .nil (.seq .nil (.seq .nil (.seq .nil (.seq (.seq (.meet false ⟨kS [0,1,4,5,6,7] [(46,.sl kE)],lO [(50000,.keep),(50001,.ob q23)] (kO [50002,50003,50004,4,5] [])⟩ .nil) (.meet false ⟨kS [0,1,4,5] [(6,.sl q9),(7,.keep)],lO [(50000,.keep),(50001,.ob q23)] (kO [50002,50003,50004,4,5] [])⟩ .nil)) (.seq .nil (.seq (.seq .nil (.meet false ⟨kS [0,1,4,5,7] [(8,.sl (.one (.own 102007)))],lO [(50000,.ob Y1),(50001,.ob q23)] (kO [50002,50003,50004,4,5] [(102007,.ob q74)])⟩ (.loop ⟨kS [0,1,4,5,6,7] [(8,.sl (.one (.own 102007))),(9,.sl q9)],lO [(50000,.ob Y1),(50001,.ob q23)] (kO [50002,50003,50004,4,5] [(102007,.ob q74)])⟩ (.seq j0 j0)))) (.seq j1 (.seq .nil (.seq (.seq .nil (.meet false ⟨kS [4,8,10] [],lO [(50000,.ob Y1),(50001,.ob q23)] (kO [50002,50003,50004,4,102007] [(10,.ob (.box [q0,q0,q0,q0,(.p false true .str),(.p false true (.sl (.st 17)))]))])⟩ .nil)) j3))))))))))
def aji:dH:={ bn:=3,pin:=⟨[(0,q22),(1,xM),(2,xM)],[(50000,Y1),(50001,GV),(50002,LH),(50003,q30),(50004,xA)]⟩,aT:=⟨[(0,(.one (.own 100004)))],[(50000,(.box [(.box 50001 0),(.own 50002),(.own 50003),(.own 100005),q0])),(50001,q23),(50002,LH),(50003,q30),(100004,q56),(100005,xA)]⟩,dD:=1,bg:=[50000,50001,50002,50003],aW:=[100004,100005],kept:=[50002,50003] }
def aoK:gI:=(.seq .nil (.seq .nil (.seq (.seq .nil (.meet false ⟨[(7,.sl (.one (.own 100004)))],lO [(50000,.ob q97),(50001,.ob GV)] (kO [50002,50003] [(100004,.ob q56),(100005,.ob xA)])⟩ (.loop ⟨kS [0,1,2] [(7,.sl (.one (.own 100004))),(8,.sl q9)],lO [(50000,.ob q97),(50001,.ob GV)] (kO [50002,50003] [(100004,.ob q56),(100005,.ob xA)])⟩ (.seq (.seq (.meet false ⟨kS [0,1,2,7,8] [(18,.sl kE)],kO [50000,50001,50002,50003,100004,100005] []⟩ .nil) .nil) j4)))) .nil)))
def ajj:dH:={ bn:=2,pin:=⟨[(0,q22),(1,xM)],[(50000,Y1),(50001,GV),(50002,LH),(50003,q30),(50004,xA)]⟩,aT:=⟨[(0,(.agg [q0,q0,Uy,(.own 60004),(.own 60005),(.own 60006)]))],[(50000,(.box [(.box 50001 0),(.own 50002),(.own 50003),(.own 60007),q0])),(50001,q23),(50002,LH),(50003,q30),(60004,q74),(60005,q56),(60006,q56),(60007,xA)]⟩,dD:=1,bg:=[50000,50001,50002,50003],aW:=[60004,60005,60006,60007],kept:=[50002,50003] }
def aoL:gI:=(.seq .nil (.seq .nil (.seq (.seq .nil (.seq (.seq (.seq .nil (.meet false ⟨kS [0,1,4,5,19] [(20,.sl kE)],kO [50000,50001,50002,50003,4,50004] []⟩ .nil)) (.meet true j9 (.seq j50 (.seq .nil (.meet true j9 (.seq j1 (.seq .nil (.meet true j9 (.seq j6 (.seq .nil (.meet true j9 (.seq j6 (.seq (.seq .nil (.meet false ⟨kS [0,1,4,5,19] [(95,.sl kE)],kO [50000,50001,50002,50003,4,50004] []⟩ .nil)) (.meet true j47 (.seq (.seq .nil (.seq (.seq .nil (.seq .nil (.seq (.seq .nil (.meet false ⟨kS [4,13] [],lO [(50000,.ob (.box [(.box 50001 0),(.own 50002),(.own 50003),(.own 102006),q0])),(50001,.ob q23)] (kO [50002,50003,4] (lO [(13,.ob (.box [q0,q0,Uy,(.own 102),(.own 109),(.own 102009)])),(102006,.ob xA)] (kO [102,109] [(102009,.ob q56)])))⟩ .nil)) .nil))) .nil)) (.seq .nil (.meet true j47 (.seq j1 (.seq .nil (.seq j3 .nil)))))))))))))))))))) .nil)) .nil)))
def ajk:dH:={ bn:=2,pin:=⟨[(0,q22),(1,xM)],[(50000,Y1),(50001,GV),(50002,LH),(50003,q30),(50004,xA)]⟩,aT:=⟨[(0,(.agg [q0,q0,Uy,(.own 60004),(.own 60005),.dw]))],[(50000,(.box [(.box 50001 0),(.own 50002),(.own 50003),(.own 60006),q0])),(50001,q23),(50002,LH),(50003,q30),(60004,q74),(60005,q56),(60006,xA)]⟩,dD:=1,bg:=[50000,50001,50002,50003],aW:=[60004,60005,60006],kept:=[50002,50003] }
def aoM:gI:=(.seq .nil (.seq .nil (.seq (.seq (.meet false ⟨kS [0,1,4,5,6] [(28,.sl kE)],lO [(50000,.keep),(50001,.ob q23)] (kO [50002,50003,4,50004] [])⟩ .nil) (.meet false ⟨kS [0,1,4] [(5,.sl (.one (.p false true .str))),(6,.sl kE)],lO [(50000,.keep),(50001,.ob q23)] (kO [50002,50003,4,50004] [])⟩ .nil)) (.seq (.seq (.meet false ⟨kS [0,1,4,5] [(54,.sl kE)],lO [(50000,.keep),(50001,.ob q23)] (kO [50002,50003,4,50004] [])⟩ .nil) j3) j32))))
def sg9:dH:={ bn:=2,pin:=⟨[(0,q22),(1,q21)],[(50000,GV)]⟩,aT:=⟨[(0,(.agg [(.own 10),(.own 1010)]))],[(50000,q23),(10,q4),(1010,q42)]⟩,dD:=1,bg:=[50000],aW:=[10,1010] }
def an9:gI:=(.seq .nil (.seq .nil (.seq (.seq .nil (.meet false ⟨kS [0,3,4,5] [],lO [(50000,.ob GV)] (kO [3,4,5] [(10,.ob q4),(1010,.keep)])⟩ (.loop ⟨kS [0,3,4,5] [(6,.sl q9)],lO [(50000,.ob GV)] (kO [3,4,5] [(10,.ob q4),(1010,.keep)])⟩ (.seq j0 j4)))) (.seq (.seq .nil (.meet false ⟨kS [4,5] [],lO [(50000,.ob GV)] (kO [4,5,10] [(1010,.ob q42)])⟩ (.loop ⟨kS [0,3,4,5] [(8,.sl q9)],lO [(50000,.ob GV)] (kO [3,4,5,10] [(1010,.ob q42)])⟩ (.seq j0 j0)))) .nil))))
def asu:dH:={ bn:=1,pin:=⟨[(0,q16)],[]⟩,aT:=⟨[(0,(.agg [Uy,q0,q0,(.own 103005)]))],[(103005,q83)]⟩,dD:=1,bg:=[],aW:=[103005] }
def asv:gI:=(.seq .nil (.seq .nil (.seq .nil (.seq .nil (.seq (.seq .nil (.meet false ⟨kS [1,2,3,4] [],kO [1,2,11] [(14,.ob q4)]⟩ (.loop ⟨kS [1,2,3,4] [(5,.sl q9),(6,.sl q9)],kO [1,2,11] [(14,.ob q4)]⟩ (.seq j0 (.seq (.seq (.seq .nil (.seq .nil (.meet false ⟨kS [1,2,3,4] [(5,.sl q9),(6,.keep)],kO [1,2,11,14] []⟩ .nil))) .nil) .nil))))) (.seq .nil (.seq .nil (.seq (.seq .nil (.meet false ⟨kS [2,7] [],[(2,.keep),(7,.ob (.box [Xc,q1,q1,(.own 103005)])),(103005,.ob q83)]⟩ (.loop ⟨kS [1,2,3,4,7] [(8,.sl q9)],kO [1,2,11,14] [(7,.ob (.box [Xc,q1,q1,(.own 103005)])),(103005,.ob q83)]⟩ (.seq j0 (.seq (.meet false ⟨kS [1,2,3,4,7,8] [],kO [1,2,11,14] [(7,.ob (.box [Xc,q1,q1,(.own 106005)])),(106005,.ob q83)]⟩ (.seq j0 (.seq .nil (.seq j28 (.seq j28 .nil))))) .nil))))) .nil))))))))
def asw:dH:={ bn:=1,pin:=⟨[(0,q24)],[]⟩,aT:=⟨[(0,q9)],[]⟩,dD:=1,bg:=[],aW:=[] }
def asx:gI:=(.seq .nil (.seq j1 (.seq .nil (.seq (.seq (.meet false ⟨[(1,.keep),(30,.sl kE)],[(1,.keep)]⟩ .nil) j0) j3))))
def asy:dH:={ bn:=1,pin:=⟨[(0,q47)],[]⟩,aT:=⟨[(0,(.agg [(.own 60000),(.own 60001)])),(1,q9),(2,q9)],[(60000,q75),(60001,ak_)]⟩,dD:=3,bg:=[],aW:=[60000,60001] }
def asz:gI:=(.seq .nil (.seq (.seq (.meet false ⟨kS [1,2] [(20,.sl kE)],kO [1,2] []⟩ .nil) j0) (.seq (.seq (.meet false ⟨kS [1,2] [(42,.sl kE)],kO [1,2] []⟩ .nil) j0) (.seq (.seq .nil (.meet true ⟨kS [1,2] [],kO [1,2] []⟩ (.loop ⟨kS [1,2] [(5,.sl q9)],kO [1,2] []⟩ j13))) (.seq (.seq .nil (.meet true ⟨kS [1,2] [],kO [1,2] []⟩ (.loop ⟨kS [1,2] [(6,.sl q9)],kO [1,2] []⟩ (.seq j0 (.seq (.seq (.seq (.meet false ⟨kS [1,2,6] [(89,.sl kE)],kO [1,2] []⟩ .nil) j0) .nil) .nil))))) (.seq .nil (.seq (.seq .nil (.meet true ⟨[(2,.keep)],[(2,.ob (.box [(.own 99),(.own 107003)])),(99,.keep),(107003,.ob ak_)]⟩ (.loop ⟨kS [1,2] [(7,.sl q9)],[(1,.keep),(2,.ob (.box [(.own 99),(.own 107003)])),(99,.keep),(107003,.ob ak_)]⟩ (.seq j0 (.seq (.seq (.seq .nil (.seq (.seq (.meet false ⟨kS [1,2,7,8] [(128,.sl kE)],kO [1,2,8,99,107003] []⟩ .nil) j0) (.seq (.seq .nil (.meet true ⟨kS [1,2,7,8] [],kO [1,2,8,99,107003] []⟩ (.loop ⟨kS [1,2,7,8] [(9,.sl q9)],kO [1,2,8,99,107003] []⟩ (.seq j0 (.seq (.seq (.seq (.meet false ⟨kS [1,2,7,8,9] [(158,.sl kE)],kO [1,2,8,99,107003] []⟩ .nil) j0) .nil) .nil))))) j50))) .nil) .nil))))) .nil)))))))
def asA:dH:={ bn:=1,pin:=⟨[(0,q22)],[(50000,GV)]⟩,aT:=⟨[(0,(.agg [(.own 103003),(.own 105004)]))],[(50000,q23),(103003,LH),(105004,q30)]⟩,dD:=1,bg:=[50000],aW:=[103003,105004] }
def asB:gI:=(.seq .nil (.seq (.meet false ⟨kS [0,2] [(3,.sl (.one (.box 12 0)))],kO [50000,2] [(12,.ob (.box [(.box 50000 0),(.own 100700),(.own 100701),(.own 100702),q0])),(100700,.ob q64),(100701,.ob ak9),(100702,.ob q85)]⟩ .nil) (.seq (.seq .nil (.meet false ⟨kS [0,2,3] [],kO [50000,2] (lO [(12,.ob q91),(101003,.ob q64)] (kO [100701,100702] []))⟩ (.loop ⟨kS [0,2,3] [(4,.sl q9)],kO [50000,2] (lO [(12,.ob q91),(101003,.ob q64)] (kO [100701,100702] []))⟩ (.seq j0 j0)))) (.seq (.seq .nil (.meet false ⟨kS [0,2,3] [],lO [(50000,.ob q23),(2,.keep),(12,.ob q92),(103003,.ob q64)] (kO [100701,100702] [])⟩ (.loop ⟨kS [0,2,3] [(5,.sl q9)],lO [(50000,.ob q23),(2,.keep),(12,.ob q92),(103003,.ob q64)] (kO [100701,100702] [])⟩ (.seq j0 j0)))) (.seq .nil (.seq (.seq .nil (.meet false ⟨kS [0,2,3] [],[(50000,.ob q23),(2,.keep),(12,.ob q93),(103003,.keep),(105004,.ob ak9),(100702,.keep)]⟩ (.loop ⟨kS [0,2,3] [(6,.sl q9)],[(50000,.ob q23),(2,.keep),(12,.ob q93),(103003,.keep),(105004,.ob ak9),(100702,.keep)]⟩ (.seq j0 (.seq (.seq (.seq .nil (.seq (.seq .nil (.meet false ⟨kS [0,2,3,6,7] [],kO [50000,2,12] (lO [(7,.ob (.box [Uy,q0,(.own 106007),.dw]))] (kO [103003,105004,100702] [(106007,.ob q85)]))⟩ (.loop ⟨kS [0,2,3,6,7] [(8,.sl q9)],kO [50000,2,12] (lO [(7,.ob (.box [Uy,q0,(.own 106007),.dw]))] (kO [103003,105004,100702] [(106007,.ob q85)]))⟩ (.seq j0 j0)))) .nil)) .nil) .nil))))) (.seq (.seq .nil (.meet false ⟨kS [2,3] [],[(50000,.ob q23),(2,.keep),(12,.ob q94),(103003,.ob LH),(105004,.ob q30),(109005,.ob xA)]⟩ (.loop ⟨kS [0,2,3] [(9,.sl q9)],[(50000,.ob q23),(2,.keep),(12,.ob q94),(103003,.ob LH),(105004,.ob q30),(109005,.ob xA)]⟩ (.seq j0 j46)))) .nil)))))))
def asC:dH:={ bn:=2,pin:=⟨[(0,q21),(1,q16)],[]⟩,aT:=⟨[(0,q9)],[]⟩,dD:=1,bg:=[],aW:=[] }
def asD:gI:=(.seq .nil (.seq (.seq (.meet false ⟨kS [2,3] [(25,.sl kE)],kO [2,3] []⟩ .nil) j0) (.seq (.seq (.meet false ⟨kS [2,3] [(45,.sl kE)],kO [2,3] []⟩ .nil) j0) (.seq (.seq .nil (.meet true ⟨[(3,.keep)],[(3,.keep)]⟩ (.loop ⟨kS [2,3] [(5,.sl q9)],kO [2,3] []⟩ (.seq j0 (.seq (.seq (.seq (.seq .nil (.meet true ⟨kS [2,3,5] [],kO [2,3] []⟩ (.loop ⟨kS [2,3,5] [(6,.sl q9)],kO [2,3] []⟩ (.seq j0 j21)))) j6) .nil) .nil))))) (.seq .nil (.seq (.seq .nil (.meet true ⟨[],[]⟩ (.loop ⟨[(9,.keep),(10,.sl q9)],[(91,.keep)]⟩ j13))) .nil))))))
def asE:dH:={ bn:=1,pin:=⟨[(0,q22)],[(50000,GV)]⟩,aT:=⟨[(0,(.agg [(.own 19),(.own 100004),q0,q0]))],[(50000,q23),(19,q64),(100004,q36)]⟩,dD:=1,bg:=[50000],aW:=[19,100004] }
def asF:gI:=(.seq .nil (.seq .nil (.seq .nil (.seq (.seq .nil (.meet false ⟨kS [0,2,3,4] [],[(50000,.ob q23),(2,.keep),(3,.ob (.box [(.own 19),(.own 100004),q0,q0])),(19,.keep),(100004,.ob q36)]⟩ (.loop ⟨kS [0,2,3,4] [(5,.sl q9)],[(50000,.ob q23),(2,.keep),(3,.ob (.box [(.own 19),(.own 100004),q0,q0])),(19,.keep),(100004,.ob q36)]⟩ (.seq j0 (.seq (.seq (.seq .nil (.seq (.seq .nil (.meet false ⟨kS [0,2,3,4,5,6] [],lO [(50000,.ob q23)] (kO [2,3] (lO [(6,.ob (.box [Uy,q0,q0,.dw]))] (kO [19,100004] [])))⟩ .nil)) .nil)) .nil) .nil))))) (.seq .nil (.seq (.seq .nil (.meet false ⟨kS [2,3] [],lO [(50000,.ob q23)] (kO [2,3,19] [(100004,.ob q36)])⟩ (.loop ⟨kS [0,2,3,4] [(7,.sl q9)],lO [(50000,.ob q23)] (kO [2,3,19] [(100004,.ob q36)])⟩ (.seq j0 (.seq (.seq (.seq .nil (.seq (.seq .nil (.meet false j33 (.loop ⟨kS [0,2,3,4,7,8] [(9,.sl q9)],lO [(50000,.ob q23)] (kO [2,3] [(100004,.ob q36),(19,.keep)])⟩ (.seq j0 (.seq (.seq (.seq .nil (.seq (.seq .nil (.meet false ⟨kS [0,2,3,4,7,8,9,10] [],lO [(50000,.ob q23)] (kO [2,3] [(100004,.ob q36),(10,.ob (.box [(.own 105006),q0,q0,q0,q0,q0,q0,q0])),(19,.keep),(105006,.ob (.arr false false false (.st 6)))])⟩ (.loop ⟨kS [0,2,3,4,7,8,9,10] [(11,.sl q9)],lO [(50000,.ob q23)] (kO [2,3] [(100004,.ob q36),(10,.ob (.box [(.own 105006),q0,q0,q0,q0,q0,q0,q0])),(19,.keep),(105006,.ob (.arr false false false (.st 6)))])⟩ (.seq j0 j0)))) .nil)) .nil) .nil))))) (.seq (.seq .nil (.meet false j33 (.loop ⟨kS [0,2,3,4,7,8] [(12,.sl q9)],lO [(50000,.ob q23)] (kO [2,3] [(100004,.ob q36),(19,.keep)])⟩ (.seq j0 j4)))) .nil))) .nil) .nil))))) .nil))))))
def aoN:TypeId->Option Ty:=λt=>(([(1000046,(.prod (.st 3) .bool)),(3000140,.bool),(3000133,.bool),(3000113,.bool),(3000078,.bool)]:List (Nat×Ty))++Bq).lookup t
def asG:dH:={ bn:=1,pin:=⟨[(0,q24)],[]⟩,aT:=⟨[(0,q66),(1,q9)],[(60000,Ux)]⟩,dD:=2,bg:=[],aW:=[60000] }
def asH:gI:=(.seq .nil (.seq j6 (.seq .nil (.seq (.seq .nil (.meet false ⟨kS [1,5] [],[(1,.keep),(18,.ob Ux)]⟩ .nil)) (.seq (.seq .nil (.meet false ⟨[(5,.sl q70)],[(101001,.ob Ux)]⟩ (.loop ⟨[(1,.keep),(5,.sl q70),(30,.keep)],[(1,.keep),(101001,.ob Ux),(30,.ob .it)]⟩ (.seq .nil (.seq .nil (.seq (.seq .nil (.seq .nil (.seq (.seq .nil (.meet false ⟨[(1,.keep),(5,.sl (.one (.own 109001))),(30,.keep)],[(1,.keep),(109001,.ob Ux),(30,.keep)]⟩ (.seq .nil (.seq .nil (.meet false ⟨[(1,.keep),(5,.sl (.one (.own 108001))),(30,.keep)],[(1,.keep),(108001,.ob Ux),(30,.keep)]⟩ (.seq .nil (.seq .nil (.meet false ⟨[(1,.keep),(5,.sl (.one (.own 107001))),(30,.keep)],[(1,.keep),(107001,.ob Ux),(30,.keep)]⟩ (.seq .nil (.seq .nil (.meet false ⟨[(1,.keep),(5,.sl (.one (.own 106001))),(30,.keep)],[(1,.keep),(106001,.ob Ux),(30,.keep)]⟩ (.seq .nil (.seq .nil (.meet false ⟨[(1,.keep),(5,.sl (.one (.own 105001))),(30,.keep)],[(1,.keep),(105001,.ob Ux),(30,.keep)]⟩ (.seq .nil (.seq .nil (.meet false ⟨[(1,.keep),(5,.sl (.one (.own 104001))),(30,.keep)],[(1,.keep),(104001,.ob Ux),(30,.keep)]⟩ (.seq (.seq .nil (.seq .nil (.meet false ⟨[(1,.keep),(5,.sl q95),(30,.keep)],[(1,.keep),(102001,.ob Ux),(30,.keep)]⟩ (.loop ⟨lS [(1,.keep),(5,.sl q95)] (kS [30,83,84] [(85,.sl q9)]),[(1,.keep),(102001,.ob Ux),(30,.keep)]⟩ j10)))) .nil)))))))))))))))))) .nil))) .nil)))))) .nil)))))
def asI:dH:={ bn:=1,pin:=⟨[(0,q22)],[(50000,GV)]⟩,aT:=⟨[(0,(.agg [(.own 9),(.own 1009)]))],[(50000,q23),(9,LH),(1009,q30)]⟩,dD:=1,bg:=[50000],aW:=[9,1009] }
def asJ:gI:=j1
def asK:dH:={ bn:=1,pin:=⟨[(0,q24)],[]⟩,aT:=⟨[(0,q9)],[]⟩,dD:=1,bg:=[],aW:=[] }
def asL:gI:=j1
def asM:dH:={ bn:=1,pin:=⟨[(0,(.one (.p true false (.sl (.st 19)))))],[]⟩,aT:=⟨[(0,q50)],[(100000,q4)]⟩,dD:=1,bg:=[],aW:=[100000] }
def asN:gI:=(.seq .nil (.seq .nil (.seq (.seq .nil (.meet false ⟨[(3,.sl q50)],[(100000,.ob q4)]⟩ (.loop ⟨lS [(3,.sl q50)] (kS [7,8] [(9,.sl q9)]),[(100000,.ob q4)]⟩ j10))) .nil)))
def asO:dH:={ bn:=1,pin:=⟨[(0,q21)],[]⟩,aT:=⟨[(0,q9)],[]⟩,dD:=1,bg:=[],aW:=[] }
def asP:gI:=(.seq .nil (.seq (.seq (.meet false ⟨[(1,.keep),(31,.sl kE)],[(1,.keep)]⟩ .nil) j0) (.seq (.seq .nil (.meet true ⟨[(1,.keep)],[(1,.keep)]⟩ (.loop ⟨[(1,.keep),(3,.sl q9)],[(1,.keep)]⟩ (.seq j0 (.seq (.seq (.seq (.meet false ⟨kS [1,3] [(54,.sl kE)],[(1,.keep)]⟩ .nil) j0) .nil) .nil))))) (.seq (.seq (.meet false ⟨[(1,.keep),(65,.sl kE)],[(1,.keep)]⟩ .nil) j0) (.seq j1 (.seq (.seq .nil (.meet true ⟨[],[]⟩ (.loop ⟨[(1,.keep),(4,.sl q9)],[(1,.keep)]⟩ (.seq j0 j21)))) .nil))))))
def asQ:dH:={ bn:=1,pin:=⟨[(0,q47)],[]⟩,aT:=⟨[(0,(.agg [(.own 60000),(.own 60001),q0,q0])),(1,q9)],[(60000,q75),(60001,alb)]⟩,dD:=2,bg:=[],aW:=[60000,60001] }
def asR:gI:=(.seq .nil (.seq .nil (.seq (.seq .nil (.meet false ⟨kS [2,4] [],[(2,.keep),(4,.ob (.box [(.own 11),(.own 100004),q0,q0])),(11,.keep),(100004,.ob alb)]⟩ (.loop ⟨kS [1,2,4] [(5,.sl q9)],kO [1,2] [(4,.ob (.box [(.own 11),(.own 100004),q0,q0])),(11,.keep),(100004,.ob alb)]⟩ (.seq j0 (.seq (.seq (.seq .nil (.seq (.meet false ⟨kS [1,2,4,5,6] [(7,.sl (.one (.box 33 0)))],kO [1,2,4,6] (lO [(33,.ob (.box [(.p true false (.sl (.st 3))),(.p true false (.sl (.st 15))),q90,q0,q0,(.own 101700),q0]))] (kO [11,100004] [(101700,.ob (.aN false false (.st 5) [(0,(.st 6))]))]))⟩ .nil) (.seq .nil (.seq .nil (.seq (.seq .nil (.meet false ⟨kS [1,2,4,5,6,7] [],kO [1,2,4,6] (lO [(33,.ob (.box [(.p true false (.sl (.st 3))),(.p true false (.sl (.st 15))),q90,q0,q0,(.own 49),q0]))] (kO [11,100004] [(49,.ob (.aN true false (.st 5) [(0,(.st 6))]))]))⟩ j3)) .nil))))) .nil) .nil))))) j3)))
def aoO:TypeId->Option Ty:=λt=>(([(1000069,(.prod (.st 0) .bool)),(3000082,.bool),(3000053,.bool),(3000038,.bool),(3000018,.bool),(3000013,.bool)]:List (Nat×Ty))++Bq).lookup t
def asT:dH:={ bn:=1,pin:=⟨[(0,q22)],[(50000,GV)]⟩,aT:=⟨[(0,(.agg [(.own 8),(.own 1008),q0,q0]))],[(50000,q23),(8,LH),(1008,(.arr false false true (.st 4)))]⟩,dD:=1,bg:=[50000],aW:=[8,1008] }
def asU:gI:=j1
def sg8:dH:={ bn:=1,pin:=⟨[(0,q22)],[(50000,GV)]⟩,aT:=⟨[(0,(.agg [(.own 60001),(.p false true (.sl (.st 4))),q0,q0]))],[(50000,q23),(60001,LH)]⟩,dD:=1,bg:=[50000],aW:=[60001] }
def an8:gI:=j19
--HAND 52 Srt
def asV:dH:={ bn:=2,pin:=⟨[(0,q16),(1,q76)],[]⟩,aT:=⟨[(0,kE)],[]⟩,dD:=1,bg:=[],aW:=[] }
def asW:gI:=(.seq .nil (.seq (.seq j45 j0) j1))
def asX:dH:={ bn:=2,pin:=⟨[(0,q21),(1,q63)],[]⟩,aT:=⟨[(0,q9)],[]⟩,dD:=1,bg:=[],aW:=[] }
def asY:gI:=(.seq .nil (.seq .nil (.seq .nil (.seq (.seq (.meet false ⟨kS [2,3] [(27,.sl kE)],kO [2,3] []⟩ .nil) j0) (.seq (.seq .nil (.meet true ⟨[],[]⟩ (.loop ⟨kS [3,29,30] [(31,.sl q9)],[(3,.keep)]⟩ j51))) .nil)))))
def asZ:dH:={ bn:=2,pin:=⟨[(0,q16),(1,q76)],[]⟩,aT:=⟨[(0,q66),(1,(.one (.own 60001))),(2,q9)],[(60000,q65),(60001,q4)]⟩,dD:=3,bg:=[],aW:=[60000,60001] }
def as1:gI:=(.seq .nil (.seq j1 (.seq .nil (.seq .nil (.seq (.seq .nil (.meet false ⟨kS [4,5,7,8,9] [],kO [28,1028] [(34,.ob q4)]⟩ (.loop ⟨kS [4,5,7,8,9,35,36] [(37,.sl q9)],kO [28,1028] [(34,.ob q4)]⟩ j10))) (.seq .nil (.seq .nil (.seq (.meet false j29 (.loop j29 (.seq (.seq .nil (.seq (.seq .nil (.meet false ⟨kS [4,5,7,8,9,12] [(13,.sl kE)],lO [(28,.ob q40)] (kO [1028,34,102003] [])⟩ (.loop ⟨kS [4,5,7,8,9,12] (lS [(13,.sl kE)] (kS [52,53] [(54,.sl q9)])),lO [(28,.ob q40)] (kO [1028,34,102003] [])⟩ (.seq .nil (.seq .nil (.seq (.meet false j27 (.seq .nil (.seq (.seq (.meet false ⟨kS [4,5,7,8,9,12,13,14,15,52,53,54] [(66,.sl (.one q72))],kO [28,1028,34,102003,15] []⟩ .nil) .nil) (.seq .nil (.seq (.meet false ⟨kS [4,5,7,8,9,12,13,14,52,53,54] [(86,.sl kE)],kO [28,1028,34,102003] []⟩ .nil) (.meet false j27 j0)))))) .nil)))))) j4)) .nil))) (.seq (.seq .nil (.meet false ⟨lS [(4,.sl (.one (.own 110000)))] (kS [5,8,12] []),lO [(110000,.ob q65)] (kO [1028,102003] [])⟩ (.loop ⟨lS [(4,.sl (.one (.own 110000)))] (kS [5,8,9,12,97,98] [(99,.sl q9)]),lO [(110000,.ob q65)] (kO [1028,34,102003,28] [])⟩ (.seq .nil (.seq .nil (.seq (.seq (.seq .nil (.seq (.seq .nil (.meet false ⟨kS [4,5,8,9,12,18,97,98,99] [],kO [110000,1028,34,102003] [(18,.ob (.box [q1,q1,q1,q1,q1,q1,q72,q6,q1])),(28,.keep)]⟩ .nil)) .nil)) .nil) .nil)))))) (.seq (.seq .nil (.meet false ⟨[(4,.keep),(5,.sl (.one (.own 113001)))],[(110000,.keep),(113001,.ob q4)]⟩ (.loop ⟨lS [(4,.keep),(5,.sl (.one (.own 113001)))] (kS [12,129,130] [(131,.sl q9)]),lO [(110000,.keep),(113001,.ob q4)] (kO [102003,1028] [])⟩ j10))) .nil))))))))))
def as2:dH:={ bn:=2,pin:=⟨[(0,q16),(1,q76)],[]⟩,aT:=⟨[(0,q9)],[]⟩,dD:=1,bg:=[],aW:=[] }
def as3:gI:=(.seq .nil (.seq .nil (.seq .nil (.seq (.seq .nil (.meet false ⟨[(8,.sl q9)],[]⟩ (.loop ⟨lS [(8,.sl q9)] (kS [18,19] [(20,.sl q9)]),[(14,.keep)]⟩ j10))) .nil))))
def as4:dH:={ bn:=2,pin:=⟨[(0,q21),(1,q63)],[]⟩,aT:=⟨[(0,q78),(1,q9)],[(60000,Ux),(60001,q4),(60002,q7),(60003,q7),(60004,q75),(60005,q49)]⟩,dD:=2,bg:=[],aW:=[60000,60001,60002,60003,60004,60005] }
def as5:gI:=(.seq .nil (.seq j6 (.seq .nil (.seq (.seq .nil (.meet false ⟨kS [2,3,4,7] [],kO [2,3,4] [(7,.ob q89),(42,.keep),(100005,.ob q7),(100006,.ob q7),(38,.keep)]⟩ (.loop ⟨kS [2,3,4,7,45,46] [(47,.sl q9)],kO [2,3,4] [(7,.ob q89),(42,.keep),(100005,.ob q7),(100006,.ob q7),(38,.keep)]⟩ j10))) (.seq .nil (.seq (.seq .nil (.meet false ⟨kS [2,3,4,7] [(10,.sl q9)],kO [2,3,4,7] (lO [(42,.ob q4)] (kO [100005,100006,38] []))⟩ (.loop ⟨kS [2,3,4,7] (lS [(10,.sl q9)] (kS [67,68] [(69,.sl q9)])),kO [2,3,4,7] (lO [(42,.ob q4)] (kO [100005,100006,38] []))⟩ (.seq .nil (.seq .nil j46))))) (.seq j1 (.seq (.seq .nil (.meet false ⟨kS [4,7] [],lO [(4,.keep),(7,.ob q80),(104004,.ob Ux)] (kO [42,100005,100006,38] [(104009,.ob q49)])⟩ (.loop ⟨kS [2,3,4,7,96,97] [(98,.sl q9)],kO [2,3,4] (lO [(7,.ob q80),(104004,.ob Ux)] (kO [42,100005,100006,38] [(104009,.ob q49)]))⟩ (.seq .nil (.seq .nil (.seq (.seq (.seq .nil (.seq .nil (.seq .nil (.seq (.seq .nil (.meet false ⟨kS [2,3,4,7,14,16,18,96,97,98] [],kO [2,3,4] (lO [(7,.ob q81),(1113,.keep),(105006,.ob Ux)] (kO [42,100005,100006,38,104009] []))⟩ (.loop ⟨kS [2,3,4,7,14,16,18,96,97,98,120,121] [(122,.sl q9)],kO [2,3,4] (lO [(7,.ob q81)] (kO [1113,113] (lO [(105006,.ob Ux)] (kO [42,100005,100006,38,104009] []))))⟩ (.seq .nil (.seq .nil (.seq (.seq (.seq .nil (.seq (.seq .nil (.meet false ⟨kS [2,3,4,7,14,16,18,20,96,97,98,120,121,122] [],kO [2,3,4,7,1113] (lO [(20,.ob (.box [q1,q1,q1,q1,q1,q1,q72,q6]))] (kO [113,105006,42,100005,100006,38,104009] []))⟩ .nil)) .nil)) .nil) .nil)))))) (.seq .nil (.seq .nil (.meet false ⟨kS [2,3,4,7,96,97,98] [],kO [2,3,4] (lO [(7,.ob q82)] (kO [105006,42,100005,100006,38] [(108010,.ob q49)]))⟩ (.loop ⟨kS [2,3,4,7,14,16,18,96,97,98,159,160] [(161,.sl q9)],kO [2,3,4] (lO [(7,.ob q82)] (kO [154,105006,42,100005,100006,38] [(108010,.ob q49)]))⟩ j10)))))))) .nil) .nil)))))) .nil))))))))
def sg6:dH:={ bn:=0,pin:=⟨[],[]⟩,aT:=⟨[(0,kE)],[]⟩,dD:=1,bg:=[],aW:=[] }
def an6:gI:=(.seq .nil (.seq .nil (.seq .nil (.seq (.meet false ⟨[(0,.sl kE)],[]⟩ .nil) .nil))))
def sg3:dH:={ bn:=1,pin:=⟨[(0,(.one q31))],[]⟩,aT:=⟨[(0,kE)],[]⟩,dD:=1,bg:=[],aW:=[] }
def an3:gI:=(.seq .nil (.seq j1 (.seq .nil (.seq .nil (.seq .nil (.seq .nil (.seq (.seq (.meet false ⟨kS [4,6] [(41,.sl kE)],kO [4,6,21,28,1028,2028,3028,4028,5028] []⟩ .nil) j0) (.seq .nil (.seq (.seq .nil (.meet true ⟨kS [4,6] [(8,.sl q9),(9,.keep)],kO [4,6,21,28,1028,2028,3028,4028,5028] []⟩ (.loop ⟨kS [4,6] [(8,.sl q9),(9,.keep),(10,.sl q9)],kO [4,6,21,28,1028,2028,3028,4028,5028] []⟩ (.seq j0 (.seq (.seq (.seq .nil (.seq (.seq (.meet false ⟨kS [4,6,8,9,10,11] [(90,.sl kE)],kO [4,6,11,21,28,1028,2028,3028,4028,5028] []⟩ .nil) j0) .nil)) .nil) .nil))))) (.seq (.seq .nil (.meet true ⟨kS [6,8] [(9,.sl q9)],kO [6,28,1028,2028,3028,4028,5028] []⟩ (.loop ⟨kS [4,6,8] [(9,.sl q9),(12,.sl q9)],kO [4,6,21,28,1028,2028,3028,4028,5028] []⟩ (.seq j0 (.seq (.seq (.seq .nil (.seq .nil (.meet true ⟨kS [4,6,8,9,12] [],kO [4,6,21,28,1028,2028,3028,4028,5028] []⟩ (.loop ⟨kS [4,6,8,9,12] [(13,.sl q9)],kO [4,6,21,28,1028,2028,3028,4028,5028] []⟩ (.seq j0 j21))))) .nil) .nil))))) j8))))))))))
end Go.Fg.YtoipcimfapppmaaGreatDoor

