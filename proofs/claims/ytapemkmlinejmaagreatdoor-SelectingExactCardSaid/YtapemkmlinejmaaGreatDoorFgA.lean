/-
  Shapes of the functions of the seat, printed by a program (wip/gen/Infer.lean).
-/
import Derived.Test.YtapemkmlinejmaaGreatDoorFwT
import Derived.Test.YtapemkmlinejmaaGreatDoorZd
namespace Go.Fg.YtapemkmlinejmaaGreatDoor
open Go.Fw Go.Proofs Go.Fw.YtapemkmlinejmaaGreatDoor
set_option linter.unusedVariables false
def Lj:List (List UInt8):=[([]:List UInt8),([100,56]:List UInt8),([100,97]:List UInt8),([111,100,97]:List UInt8),([111,100,97,98]:List UInt8),([100,49]:List UInt8),([97,49]:List UInt8),([100,97,49]:List UInt8),([97,98,49]:List UInt8),([100]:List UInt8),([97]:List UInt8),([100,52,110]:List UInt8),([100,97,110]:List UInt8),([106]:List UInt8),([97,106]:List UInt8),([97,106]:List UInt8),([97]:List UInt8),([50]:List UInt8),([100,49]:List UInt8)]
structure aP where
  kind:Int
  op:Int
  value:Int
  line:Int
  name:(List UInt8)
  args:(List aP)
def afX:aP:=aP.mk (0:Int) (0:Int) (0:Int) (0:Int) [] []
mutual
def rX:aP->List P
  |⟨y0,y1,y2,y3,y4,y5⟩=>[P.int .i64 y0,P.int .i64 y1,P.int .i64 y2,P.int .i64 y3,P.str ⟨List.toArray y4⟩,P.gq 6 (Dh y5)]
def Dh:List aP->List (List P)
  | []=>[]
  |x::l=>rX x::Dh l
end
theorem F9 :∀l,Dh l=List.map rX l
  | []=>rfl
  |x::l=>by rw [Dh,F9 l];rfl
theorem VG (x:aP):rX x=[P.int .i64 (aP.kind x),P.int .i64 (aP.op x),P.int .i64 (aP.value x),P.int .i64 (aP.line x),P.str ⟨List.toArray (aP.name x)⟩,P.gq 6 (List.map rX (aP.args x))]:=by
  cases x
  rw [rX]
  simp only [F9]
structure cO where
  kind:Int
  line:Int
  name:(List UInt8)
  exprs:(List aP)
  then':(List cO)
  else':(List cO)
def afY:cO:=cO.mk (0:Int) (0:Int) [] [] [] []
mutual
def rY:cO->List P
  |⟨y0,y1,y2,y3,y4,y5⟩=>[P.int .i64 y0,P.int .i64 y1,P.str ⟨List.toArray y2⟩,P.gq 6 (List.map rX y3),P.gq 6 (yK y4),P.gq 6 (yK y5)]
def yK:List cO->List (List P)
  | []=>[]
  |x::l=>rY x::yK l
end
theorem Gf :∀l,yK l=List.map rY l
  | []=>rfl
  |x::l=>by rw [yK,Gf l];rfl
theorem VH (x:cO):rY x=[P.int .i64 (cO.kind x),P.int .i64 (cO.line x),P.str ⟨List.toArray (cO.name x)⟩,P.gq 6 (List.map rX (cO.exprs x)),P.gq 6 (List.map rY (cO.then' x)),P.gq 6 (List.map rY (cO.else' x))]:=by
  cases x
  rw [rY]
  simp only [Gf]
structure aA where
  name:(List UInt8)
  line:Int
  params:(List (List UInt8))
  body:(List cO)
def afZ:aA:=aA.mk [] (0:Int) [] []
def af0 (x:aA):List P:=[P.str ⟨List.toArray (aA.name x)⟩,P.int .i64 (aA.line x),P.gq 1 (List.map (fun (x:List UInt8)=>[P.str ⟨x.toArray⟩]) (aA.params x)),P.gq 6 (List.map rY (aA.body x))]
structure fO where
  gX:Int
  eY:Int
  gZ:Int
  lG:Int
  lH:Int
  fU:Int
  dn:Bool
  fG:(List Int)
  to:Int
def af2:fO:=fO.mk (0:Int) (0:Int) (0:Int) (0:Int) (0:Int) (0:Int) false [] (0:Int)
def af4 (x:fO):List P:=[P.int .i64 (fO.gX x),P.int .i64 (fO.eY x),P.int .i64 (fO.gZ x),P.int .i64 (fO.lG x),P.int .i64 (fO.lH x),P.int .i64 (fO.fU x),P.bool (fO.dn x),P.gq 1 (List.map (fun (x:Int)=>[P.int .i64 x]) (fO.fG x)),P.int .i64 (fO.to x)]
structure dw where
  gX:Int
  eY:Int
  gZ:Int
  lG:Int
  lH:Int
  fU:Int
  dn:Bool
  fG:(List Int)
  to:Int
def af5:dw:=dw.mk (0:Int) (0:Int) (0:Int) (0:Int) (0:Int) (0:Int) false [] (0:Int)
def af6 (x:dw):List P:=[P.int .i64 (dw.gX x),P.int .i64 (dw.eY x),P.int .i64 (dw.gZ x),P.int .i64 (dw.lG x),P.int .i64 (dw.lH x),P.int .i64 (dw.fU x),P.bool (dw.dn x),P.gq 1 (List.map (fun (x:Int)=>[P.int .i64 x]) (dw.fG x)),P.int .i64 (dw.to x)]
structure aB where
  name:(List UInt8)
  size:Int
def aad:aB:=aB.mk [] (0:Int)
def aae (x:aB):List P:=[P.str ⟨List.toArray (aB.name x)⟩,P.int .i64 (aB.size x)]
structure dA where
  kind:Int
  op:Int
  dst:Int
  a:Int
  b:Int
  value:Int
  args:(List Int)
def ac5:dA:=dA.mk (0:Int) (0:Int) (0:Int) (0:Int) (0:Int) (0:Int) []
def SK (x:dA):List P:=[P.int .i64 (dA.kind x),P.int .i64 (dA.op x),P.int .i64 (dA.dst x),P.int .i64 (dA.a x),P.int .i64 (dA.b x),P.int .i64 (dA.value x),P.gq 1 (List.map (fun (x:Int)=>[P.int .i64 x]) (dA.args x))]
structure iW where
  op:Int
  arith:Int
  dst:Int
  a:Int
  b:Int
  value:Int
  wide:Bool
  args:(List Int)
def af7:iW:=iW.mk (0:Int) (0:Int) (0:Int) (0:Int) (0:Int) (0:Int) false []
def af8 (x:iW):List P:=[P.int .i64 (iW.op x),P.int .i64 (iW.arith x),P.int .i64 (iW.dst x),P.int .i64 (iW.a x),P.int .i64 (iW.b x),P.int .i64 (iW.value x),P.bool (iW.wide x),P.gq 1 (List.map (fun (x:Int)=>[P.int .i64 x]) (iW.args x))]
structure aJ where
  instrs:(List dA)
  bG:Int
  j_:Int
  fB:Int
  bV:Int
  line:Int
  g_:Int
  gJ:Int
def ac6:aJ:=aJ.mk [] (0:Int) (0:Int) (0:Int) (0:Int) (0:Int) (0:Int) (0:Int)
def SL (x:aJ):List P:=[P.gq 7 (List.map SK (aJ.instrs x)),P.int .i64 (aJ.bG x),P.int .i64 (aJ.j_ x),P.int .i64 (aJ.fB x),P.int .i64 (aJ.bV x),P.int .i64 (aJ.line x),P.int .i64 (aJ.g_ x),P.int .i64 (aJ.gJ x)]
structure aY where
  name:(List UInt8)
  params:Int
  regs:Int
  blocks:(List aJ)
def SN:aY:=aY.mk [] (0:Int) (0:Int) []
def SQ (x:aY):List P:=[P.str ⟨List.toArray (aY.name x)⟩,P.int .i64 (aY.params x),P.int .i64 (aY.regs x),P.gq 8 (List.map SL (aY.blocks x))]
def reC:Nat->Type
  |0=>Unit
  |1=>Unit
  |2=>Unit
  |3=>aJ
  |4=>dA
  |5=>aY
  |6=>iW
  |7=>Unit
  |8=>Unit
  |9=>Unit
  |10=>aB
  |11=>Unit
  |12=>dw
  |13=>fO
  |14=>aA
  |15=>cO
  |16=>aP
  |17=>Unit
  |18=>Unit
  |19=>Unit
  |20=>Unit
  |21=>Unit
  |22=>Unit
  |23=>Unit
  |_=>Unit
def reF:Nat->List Ty
  |0=>[]
  |1=>[]
  |2=>[]
  |3=>[(.sl (.st 4)),(.int .i64),(.int .i64),(.int .i64),(.int .i64),(.int .i64),(.int .i64),(.int .i64)]
  |4=>[(.int .i64),(.int .i64),(.int .i64),(.int .i64),(.int .i64),(.int .i64),(.sl (.int .i64))]
  |5=>[.str,(.int .i64),(.int .i64),(.sl (.st 3))]
  |6=>[(.int .i64),(.int .i64),(.int .i64),(.int .i64),(.int .i64),(.int .i64),.bool,(.sl (.int .i64))]
  |7=>[]
  |8=>[]
  |9=>[]
  |10=>[.str,(.int .i64)]
  |11=>[]
  |12=>[(.int .i64),(.int .i64),(.int .i64),(.int .i64),(.int .i64),(.int .i64),.bool,(.sl (.int .i64)),(.int .i64)]
  |13=>[(.int .i64),(.int .i64),(.int .i64),(.int .i64),(.int .i64),(.int .i64),.bool,(.sl (.int .i64)),(.int .i64)]
  |14=>[.str,(.int .i64),(.sl .str),(.sl (.st 15))]
  |15=>[(.int .i64),(.int .i64),.str,(.sl (.st 16)),(.sl (.st 15)),(.sl (.st 15))]
  |16=>[(.int .i64),(.int .i64),(.int .i64),(.int .i64),.str,(.sl (.st 16))]
  |17=>[]
  |18=>[]
  |19=>[]
  |20=>[]
  |21=>[]
  |22=>[]
  |23=>[]
  |_=>[]
def apW:(n:Nat)->reC n
  |0=>()
  |1=>()
  |2=>()
  |3=>ac6
  |4=>ac5
  |5=>SN
  |6=>af7
  |7=>()
  |8=>()
  |9=>()
  |10=>aad
  |11=>()
  |12=>af5
  |13=>af2
  |14=>afZ
  |15=>afY
  |16=>afX
  |17=>()
  |18=>()
  |19=>()
  |20=>()
  |21=>()
  |22=>()
  |23=>()
  |_+24=>()
def af9:(n:Nat)->reC n->List (TP reC)
  |0,x=>[]
  |1,x=>[]
  |2,x=>[]
  |3,x=>[⟨(.sl (.st 4)),aJ.instrs x⟩,⟨(.int .i64),aJ.bG x⟩,⟨(.int .i64),aJ.j_ x⟩,⟨(.int .i64),aJ.fB x⟩,⟨(.int .i64),aJ.bV x⟩,⟨(.int .i64),aJ.line x⟩,⟨(.int .i64),aJ.g_ x⟩,⟨(.int .i64),aJ.gJ x⟩]
  |4,x=>[⟨(.int .i64),dA.kind x⟩,⟨(.int .i64),dA.op x⟩,⟨(.int .i64),dA.dst x⟩,⟨(.int .i64),dA.a x⟩,⟨(.int .i64),dA.b x⟩,⟨(.int .i64),dA.value x⟩,⟨(.sl (.int .i64)),dA.args x⟩]
  |5,x=>[⟨.str,aY.name x⟩,⟨(.int .i64),aY.params x⟩,⟨(.int .i64),aY.regs x⟩,⟨(.sl (.st 3)),aY.blocks x⟩]
  |6,x=>[⟨(.int .i64),iW.op x⟩,⟨(.int .i64),iW.arith x⟩,⟨(.int .i64),iW.dst x⟩,⟨(.int .i64),iW.a x⟩,⟨(.int .i64),iW.b x⟩,⟨(.int .i64),iW.value x⟩,⟨.bool,iW.wide x⟩,⟨(.sl (.int .i64)),iW.args x⟩]
  |7,x=>[]
  |8,x=>[]
  |9,x=>[]
  |10,x=>[⟨.str,aB.name x⟩,⟨(.int .i64),aB.size x⟩]
  |11,x=>[]
  |12,x=>[⟨(.int .i64),dw.gX x⟩,⟨(.int .i64),dw.eY x⟩,⟨(.int .i64),dw.gZ x⟩,⟨(.int .i64),dw.lG x⟩,⟨(.int .i64),dw.lH x⟩,⟨(.int .i64),dw.fU x⟩,⟨.bool,dw.dn x⟩,⟨(.sl (.int .i64)),dw.fG x⟩,⟨(.int .i64),dw.to x⟩]
  |13,x=>[⟨(.int .i64),fO.gX x⟩,⟨(.int .i64),fO.eY x⟩,⟨(.int .i64),fO.gZ x⟩,⟨(.int .i64),fO.lG x⟩,⟨(.int .i64),fO.lH x⟩,⟨(.int .i64),fO.fU x⟩,⟨.bool,fO.dn x⟩,⟨(.sl (.int .i64)),fO.fG x⟩,⟨(.int .i64),fO.to x⟩]
  |14,x=>[⟨.str,aA.name x⟩,⟨(.int .i64),aA.line x⟩,⟨(.sl .str),aA.params x⟩,⟨(.sl (.st 15)),aA.body x⟩]
  |15,x=>[⟨(.int .i64),cO.kind x⟩,⟨(.int .i64),cO.line x⟩,⟨.str,cO.name x⟩,⟨(.sl (.st 16)),cO.exprs x⟩,⟨(.sl (.st 15)),cO.then' x⟩,⟨(.sl (.st 15)),cO.else' x⟩]
  |16,x=>[⟨(.int .i64),aP.kind x⟩,⟨(.int .i64),aP.op x⟩,⟨(.int .i64),aP.value x⟩,⟨(.int .i64),aP.line x⟩,⟨.str,aP.name x⟩,⟨(.sl (.st 16)),aP.args x⟩]
  |17,x=>[]
  |18,x=>[]
  |19,x=>[]
  |20,x=>[]
  |21,x=>[]
  |22,x=>[]
  |23,x=>[]
  |_+24,_=>[]
def al4:(n:Nat)->List (TP reC)->reC n
  |0,ws=>()
  |1,ws=>()
  |2,ws=>()
  |3,ws=>aJ.mk (TP.get (.sl (.st 4)) [] ws 0) (TP.get (.int .i64) (0:Int) ws 1) (TP.get (.int .i64) (0:Int) ws 2) (TP.get (.int .i64) (0:Int) ws 3) (TP.get (.int .i64) (0:Int) ws 4) (TP.get (.int .i64) (0:Int) ws 5) (TP.get (.int .i64) (0:Int) ws 6) (TP.get (.int .i64) (0:Int) ws 7)
  |4,ws=>dA.mk (TP.get (.int .i64) (0:Int) ws 0) (TP.get (.int .i64) (0:Int) ws 1) (TP.get (.int .i64) (0:Int) ws 2) (TP.get (.int .i64) (0:Int) ws 3) (TP.get (.int .i64) (0:Int) ws 4) (TP.get (.int .i64) (0:Int) ws 5) (TP.get (.sl (.int .i64)) [] ws 6)
  |5,ws=>aY.mk (TP.get .str [] ws 0) (TP.get (.int .i64) (0:Int) ws 1) (TP.get (.int .i64) (0:Int) ws 2) (TP.get (.sl (.st 3)) [] ws 3)
  |6,ws=>iW.mk (TP.get (.int .i64) (0:Int) ws 0) (TP.get (.int .i64) (0:Int) ws 1) (TP.get (.int .i64) (0:Int) ws 2) (TP.get (.int .i64) (0:Int) ws 3) (TP.get (.int .i64) (0:Int) ws 4) (TP.get (.int .i64) (0:Int) ws 5) (TP.get .bool false ws 6) (TP.get (.sl (.int .i64)) [] ws 7)
  |7,ws=>()
  |8,ws=>()
  |9,ws=>()
  |10,ws=>aB.mk (TP.get .str [] ws 0) (TP.get (.int .i64) (0:Int) ws 1)
  |11,ws=>()
  |12,ws=>dw.mk (TP.get (.int .i64) (0:Int) ws 0) (TP.get (.int .i64) (0:Int) ws 1) (TP.get (.int .i64) (0:Int) ws 2) (TP.get (.int .i64) (0:Int) ws 3) (TP.get (.int .i64) (0:Int) ws 4) (TP.get (.int .i64) (0:Int) ws 5) (TP.get .bool false ws 6) (TP.get (.sl (.int .i64)) [] ws 7) (TP.get (.int .i64) (0:Int) ws 8)
  |13,ws=>fO.mk (TP.get (.int .i64) (0:Int) ws 0) (TP.get (.int .i64) (0:Int) ws 1) (TP.get (.int .i64) (0:Int) ws 2) (TP.get (.int .i64) (0:Int) ws 3) (TP.get (.int .i64) (0:Int) ws 4) (TP.get (.int .i64) (0:Int) ws 5) (TP.get .bool false ws 6) (TP.get (.sl (.int .i64)) [] ws 7) (TP.get (.int .i64) (0:Int) ws 8)
  |14,ws=>aA.mk (TP.get .str [] ws 0) (TP.get (.int .i64) (0:Int) ws 1) (TP.get (.sl .str) [] ws 2) (TP.get (.sl (.st 15)) [] ws 3)
  |15,ws=>cO.mk (TP.get (.int .i64) (0:Int) ws 0) (TP.get (.int .i64) (0:Int) ws 1) (TP.get .str [] ws 2) (TP.get (.sl (.st 16)) [] ws 3) (TP.get (.sl (.st 15)) [] ws 4) (TP.get (.sl (.st 15)) [] ws 5)
  |16,ws=>aP.mk (TP.get (.int .i64) (0:Int) ws 0) (TP.get (.int .i64) (0:Int) ws 1) (TP.get (.int .i64) (0:Int) ws 2) (TP.get (.int .i64) (0:Int) ws 3) (TP.get .str [] ws 4) (TP.get (.sl (.st 16)) [] ws 5)
  |17,ws=>()
  |18,ws=>()
  |19,ws=>()
  |20,ws=>()
  |21,ws=>()
  |22,ws=>()
  |23,ws=>()
  |_+24,_=>()
def ajK:(n:Nat)->reC n->List P
  |0,x=>[]
  |1,x=>[]
  |2,x=>[]
  |3,x=>SL x
  |4,x=>SK x
  |5,x=>SQ x
  |6,x=>af8 x
  |7,x=>[]
  |8,x=>[]
  |9,x=>[]
  |10,x=>aae x
  |11,x=>[]
  |12,x=>af6 x
  |13,x=>af4 x
  |14,x=>af0 x
  |15,x=>rY x
  |16,x=>rX x
  |17,x=>[]
  |18,x=>[]
  |19,x=>[]
  |20,x=>[]
  |21,x=>[]
  |22,x=>[]
  |23,x=>[]
  |_+24,_=>[]
theorem al5 :∀n,(reF n).all Ty.word=true
  |0=>rfl
  |1=>rfl
  |2=>rfl
  |3=>rfl
  |4=>rfl
  |5=>rfl
  |6=>rfl
  |7=>rfl
  |8=>rfl
  |9=>rfl
  |10=>rfl
  |11=>rfl
  |12=>rfl
  |13=>rfl
  |14=>rfl
  |15=>rfl
  |16=>rfl
  |17=>rfl
  |18=>rfl
  |19=>rfl
  |20=>rfl
  |21=>rfl
  |22=>rfl
  |23=>rfl
  |_+24=>rfl
theorem ajL :∀(n:Nat) (x:reC n),(af9 n x).map (·.t)=reF n
  |0,x=>rfl
  |1,x=>rfl
  |2,x=>rfl
  |3,x=>rfl
  |4,x=>rfl
  |5,x=>rfl
  |6,x=>rfl
  |7,x=>rfl
  |8,x=>rfl
  |9,x=>rfl
  |10,x=>rfl
  |11,x=>rfl
  |12,x=>rfl
  |13,x=>rfl
  |14,x=>rfl
  |15,x=>rfl
  |16,x=>rfl
  |17,x=>rfl
  |18,x=>rfl
  |19,x=>rfl
  |20,x=>rfl
  |21,x=>rfl
  |22,x=>rfl
  |23,x=>rfl
  |_+24,_=>rfl
theorem ajM :∀(n:Nat) (ws:List (TP reC)),ws.map (·.t)=reF n->af9 n (al4 n ws)=ws
  |0,ws,h=>by
    have e:=dY h
    subst e
    rfl
  |1,ws,h=>by
    have e:=dY h
    subst e
    rfl
  |2,ws,h=>by
    have e:=dY h
    subst e
    rfl
  |3,ws,h=>by
    obtain ⟨x0,WW,e0,h0⟩:=aN h
    subst e0
    obtain ⟨x1,ws1,e1,h1⟩:=aN h0
    subst e1
    obtain ⟨x2,ws2,e2,h2⟩:=aN h1
    subst e2
    obtain ⟨x3,ws3,e3,h3⟩:=aN h2
    subst e3
    obtain ⟨x4,ws4,e4,h4⟩:=aN h3
    subst e4
    obtain ⟨x5,ws5,e5,h5⟩:=aN h4
    subst e5
    obtain ⟨x6,ws6,e6,h6⟩:=aN h5
    subst e6
    obtain ⟨x7,ws7,e7,h7⟩:=aN h6
    subst e7
    have e:=dY h7
    subst e
    rfl
  |4,ws,h=>by
    obtain ⟨x0,WW,e0,h0⟩:=aN h
    subst e0
    obtain ⟨x1,ws1,e1,h1⟩:=aN h0
    subst e1
    obtain ⟨x2,ws2,e2,h2⟩:=aN h1
    subst e2
    obtain ⟨x3,ws3,e3,h3⟩:=aN h2
    subst e3
    obtain ⟨x4,ws4,e4,h4⟩:=aN h3
    subst e4
    obtain ⟨x5,ws5,e5,h5⟩:=aN h4
    subst e5
    obtain ⟨x6,ws6,e6,h6⟩:=aN h5
    subst e6
    have e:=dY h6
    subst e
    rfl
  |5,ws,h=>by
    obtain ⟨x0,WW,e0,h0⟩:=aN h
    subst e0
    obtain ⟨x1,ws1,e1,h1⟩:=aN h0
    subst e1
    obtain ⟨x2,ws2,e2,h2⟩:=aN h1
    subst e2
    obtain ⟨x3,ws3,e3,h3⟩:=aN h2
    subst e3
    have e:=dY h3
    subst e
    rfl
  |6,ws,h=>by
    obtain ⟨x0,WW,e0,h0⟩:=aN h
    subst e0
    obtain ⟨x1,ws1,e1,h1⟩:=aN h0
    subst e1
    obtain ⟨x2,ws2,e2,h2⟩:=aN h1
    subst e2
    obtain ⟨x3,ws3,e3,h3⟩:=aN h2
    subst e3
    obtain ⟨x4,ws4,e4,h4⟩:=aN h3
    subst e4
    obtain ⟨x5,ws5,e5,h5⟩:=aN h4
    subst e5
    obtain ⟨x6,ws6,e6,h6⟩:=aN h5
    subst e6
    obtain ⟨x7,ws7,e7,h7⟩:=aN h6
    subst e7
    have e:=dY h7
    subst e
    rfl
  |7,ws,h=>by
    have e:=dY h
    subst e
    rfl
  |8,ws,h=>by
    have e:=dY h
    subst e
    rfl
  |9,ws,h=>by
    have e:=dY h
    subst e
    rfl
  |10,ws,h=>by
    obtain ⟨x0,WW,e0,h0⟩:=aN h
    subst e0
    obtain ⟨x1,ws1,e1,h1⟩:=aN h0
    subst e1
    have e:=dY h1
    subst e
    rfl
  |11,ws,h=>by
    have e:=dY h
    subst e
    rfl
  |12,ws,h=>by
    obtain ⟨x0,WW,e0,h0⟩:=aN h
    subst e0
    obtain ⟨x1,ws1,e1,h1⟩:=aN h0
    subst e1
    obtain ⟨x2,ws2,e2,h2⟩:=aN h1
    subst e2
    obtain ⟨x3,ws3,e3,h3⟩:=aN h2
    subst e3
    obtain ⟨x4,ws4,e4,h4⟩:=aN h3
    subst e4
    obtain ⟨x5,ws5,e5,h5⟩:=aN h4
    subst e5
    obtain ⟨x6,ws6,e6,h6⟩:=aN h5
    subst e6
    obtain ⟨x7,ws7,e7,h7⟩:=aN h6
    subst e7
    obtain ⟨x8,ws8,e8,h8⟩:=aN h7
    subst e8
    have e:=dY h8
    subst e
    rfl
  |13,ws,h=>by
    obtain ⟨x0,WW,e0,h0⟩:=aN h
    subst e0
    obtain ⟨x1,ws1,e1,h1⟩:=aN h0
    subst e1
    obtain ⟨x2,ws2,e2,h2⟩:=aN h1
    subst e2
    obtain ⟨x3,ws3,e3,h3⟩:=aN h2
    subst e3
    obtain ⟨x4,ws4,e4,h4⟩:=aN h3
    subst e4
    obtain ⟨x5,ws5,e5,h5⟩:=aN h4
    subst e5
    obtain ⟨x6,ws6,e6,h6⟩:=aN h5
    subst e6
    obtain ⟨x7,ws7,e7,h7⟩:=aN h6
    subst e7
    obtain ⟨x8,ws8,e8,h8⟩:=aN h7
    subst e8
    have e:=dY h8
    subst e
    rfl
  |14,ws,h=>by
    obtain ⟨x0,WW,e0,h0⟩:=aN h
    subst e0
    obtain ⟨x1,ws1,e1,h1⟩:=aN h0
    subst e1
    obtain ⟨x2,ws2,e2,h2⟩:=aN h1
    subst e2
    obtain ⟨x3,ws3,e3,h3⟩:=aN h2
    subst e3
    have e:=dY h3
    subst e
    rfl
  |15,ws,h=>by
    obtain ⟨x0,WW,e0,h0⟩:=aN h
    subst e0
    obtain ⟨x1,ws1,e1,h1⟩:=aN h0
    subst e1
    obtain ⟨x2,ws2,e2,h2⟩:=aN h1
    subst e2
    obtain ⟨x3,ws3,e3,h3⟩:=aN h2
    subst e3
    obtain ⟨x4,ws4,e4,h4⟩:=aN h3
    subst e4
    obtain ⟨x5,ws5,e5,h5⟩:=aN h4
    subst e5
    have e:=dY h5
    subst e
    rfl
  |16,ws,h=>by
    obtain ⟨x0,WW,e0,h0⟩:=aN h
    subst e0
    obtain ⟨x1,ws1,e1,h1⟩:=aN h0
    subst e1
    obtain ⟨x2,ws2,e2,h2⟩:=aN h1
    subst e2
    obtain ⟨x3,ws3,e3,h3⟩:=aN h2
    subst e3
    obtain ⟨x4,ws4,e4,h4⟩:=aN h3
    subst e4
    obtain ⟨x5,ws5,e5,h5⟩:=aN h4
    subst e5
    have e:=dY h5
    subst e
    rfl
  |17,ws,h=>by
    have e:=dY h
    subst e
    rfl
  |18,ws,h=>by
    have e:=dY h
    subst e
    rfl
  |19,ws,h=>by
    have e:=dY h
    subst e
    rfl
  |20,ws,h=>by
    have e:=dY h
    subst e
    rfl
  |21,ws,h=>by
    have e:=dY h
    subst e
    rfl
  |22,ws,h=>by
    have e:=dY h
    subst e
    rfl
  |23,ws,h=>by
    have e:=dY h
    subst e
    rfl
  |_+24,ws,h=>by have e:=dY h;subst e;rfl
theorem ajN :∀(n:Nat) (x:reC n),ajK n x=(af9 n x).map fun w=>Jd (jC reF) (pz reF ajK (jC reF)) w.t w.x
  |0,x=>by kernel_rfl
  |1,x=>by kernel_rfl
  |2,x=>by kernel_rfl
  |3,x=>by kernel_rfl
  |4,x=>by kernel_rfl
  |5,x=>by kernel_rfl
  |6,x=>by kernel_rfl
  |7,x=>by kernel_rfl
  |8,x=>by kernel_rfl
  |9,x=>by kernel_rfl
  |10,x=>by kernel_rfl
  |11,x=>by kernel_rfl
  |12,x=>by kernel_rfl
  |13,x=>by kernel_rfl
  |14,x=>by kernel_rfl
  |15,x=>(VH x).trans (by kernel_rfl)
  |16,x=>(VG x).trans (by kernel_rfl)
  |17,x=>by kernel_rfl
  |18,x=>by kernel_rfl
  |19,x=>by kernel_rfl
  |20,x=>by kernel_rfl
  |21,x=>by kernel_rfl
  |22,x=>by kernel_rfl
  |23,x=>by kernel_rfl
  |_+24,_=>rfl
def reG:Nat->Option ((e:Ty)×List (D reC e))
  |0=>some ⟨.str,Lj⟩
  |_=>none
instance re:RE where
  C:=reC
  F:=reF
  dflt:=apW
  un:=af9
  ro:=al4
  er:=ajK
  Fwd:=al5
  ahJ:=ajL
  ahK:=ajM
  ahL:=ajN
  G:=reG
theorem mixed:Fit Tryz.prog:=⟨Fw.YtapemkmlinejmaaGreatDoor.ajI,fun _ _ _ _ h=>h.elim⟩
def AX:List (Nat×Ty):=[(3,(.int .i64)),(4,.bool),(5,(.int .u8)),(9,.str),(28,(.st 5)),(29,(.sl (.int .i64))),(49,(.st 6)),(57,(.st 3)),(71,(.st 12)),(75,(.st 4)),(77,(.st 13)),(102,(.st 10)),(126,(.st 14)),(150,(.st 15)),(169,(.st 16))]
def ety:TypeId->Option Ty:=fun t=>AX.lookup t
def kS (l:List Nat) (r:List (Nat×Md)):List (Nat×Md):=l.map (fun n=>(n,.keep))++r
def kO (l:List Nat) (r:List (Nat×Mo)):List (Nat×Mo):=l.map (fun n=>(n,.keep))++r
def lS (l r:List (Nat×Md)):=l++r
def lO (l r:List (Nat×Mo)):=l++r
abbrev q0:kG:=.p false false (.int .i64)
abbrev q1:kG:=.p true false (.int .i64)
abbrev q3:kG:=.p false true (.int .i64)
abbrev q4:iO:=.box [(.p false true (.sl (.int .u8))),q0]
abbrev q6:iO:=.arr false false false (.int .i64)
abbrev q7:kL:=.one q0
abbrev q9:iO:=.aO true true (.st 3) [(0,(.st 4))]
abbrev q10:iO:=.arr false true false (.int .i64)
abbrev q11:iO:=.box [(.p false true (.sl (.st 10))),(.p false true (.sl (.st 14))),(.p false true (.sl .str)),q3,q3,(.own 50001),q3]
abbrev q12:iO:=.box [(.p false true (.sl (.st 10))),(.p false true (.sl (.st 14))),(.own 50001),q3,q3]
abbrev q13:kG:=.p true true (.sl (.st 10))
abbrev Na:kG:=.p true true (.sl (.st 14))
abbrev XY:iO:=.box [(.box 50001 0),(.own 50002),(.own 50003),(.own 50004),q3]
abbrev q17:iO:=.box [(.p false true (.sl (.st 10))),(.p false true (.sl (.st 14))),(.own 50001),q0,q0]
abbrev wS:iO:=.arr false false true .str
abbrev J_:iO:=.box [(.p false true (.sl (.int .u8))),q3]
abbrev q20:kG:=.p true false (.sl (.int .i64))
abbrev q8:kL:=.agg [q1,q1,q1,q1,q1,q1,(.p true false .bool),q20]
abbrev xq:kL:=.one (.box 50000 0)
abbrev q22:kG:=.p true true (.sl .str)
abbrev q23:iO:=.arr false false false (.int .u8)
abbrev q24:iO:=.arr false false true (.st 10)
abbrev Nb:iO:=.arr false false true (.st 14)
abbrev DK:kG:=.p false false .bool
abbrev q2:kL:=.one DK
abbrev tJ:kL:=.one q1
abbrev q28:iO:=.aO false true (.st 3) [(0,(.st 4))]
abbrev q29:iO:=.box [q13,Na,q22,q0,q0,(.own 1033),q0]
abbrev q30:iO:=.aO false false (.st 5) [(3,(.st 3))]
abbrev KG:kG:=.p false false .str
abbrev q33:iO:=.arr false true false (.st 13)
abbrev q34:iO:=.arr false true false (.st 12)
abbrev q35:kL:=.agg [(.p true false (.sl (.st 10))),(.p true false (.sl (.st 5))),q1,q1]
abbrev q36:iO:=.box [q13,Na,q22,q3,q3,(.own 100002),q3]
abbrev q37:kL:=.one (.own 100001)
abbrev q38:kL:=.agg [(.p true false (.sl (.st 10))),(.p true false (.sl (.st 14)))]
abbrev q39:iO:=.arr false false false .bool
abbrev q40:kG:=.p true false (.sl (.st 15))
abbrev q41:iO:=.box [(.box 50001 0),(.own 50002),(.own 50003),(.own 50004),q0]
abbrev q42:iO:=.box [(.p false true (.sl (.st 10))),(.p false true (.sl (.st 14))),(.p false true (.sl .str)),q0,q0,(.own 50001),q0]
abbrev XZ:kL:=.one (.own 100000)
abbrev VI:kG:=.p true false .str
abbrev q16:kL:=.agg [VI,q1,q1,(.p true false (.sl (.st 3)))]
abbrev q45:iO:=.arr false false true (.int .u8)
abbrev q46:kL:=.one (.own 55000)
abbrev q47:iO:=.arr false false true (.st 15)
abbrev q48:iO:=.arr false true true .str
abbrev q49:kL:=.agg [q1,q1,q1,q1,q1,q1,q20]
abbrev q50:kG:=.p true false (.sl (.st 16))
abbrev q32:kL:=.agg [q1,q1,q1,q1,VI,q50]
abbrev q51:iO:=.arr false false false (.st 10)
abbrev q52:iO:=.box [q13,Na,(.own 100002),q0,q0]
abbrev q53:iO:=.box [q13,Na,(.own 100002),q3,q3]
abbrev q54:kG:=.p true false (.sl (.int .u8))
abbrev q55:iO:=.arr false true true (.st 16)
abbrev q56:iO:=.arr false true false (.st 6)
abbrev q57:kL:=.one (.own 101001)
abbrev q58:iO:=.box [q13,Na,q22,q0,q0,(.own 60001),q0]
abbrev VJ:kL:=.one q20
abbrev q60:kL:=.one (.own 60000)
abbrev q62:iO:=.arr false false true (.st 16)
abbrev q63:kL:=.one (.own 100002)
abbrev q64:iO:=.arr false false false (.st 4)
abbrev q65:iO:=.arr false true false (.st 3)
abbrev q66:kL:=.agg [q1,q1,q1,q1]
abbrev q67:iO:=.arr false false false .str
abbrev q68:kL:=.one (.p true false .bool)
abbrev q70:kG:=.p true false (.sl .str)
abbrev q71:iO:=.box [(.box 50000 0),(.own 101003),(.own 100701),(.own 100702),q0]
abbrev q72:iO:=.box [(.box 50000 0),(.own 103003),(.own 100701),(.own 100702),q0]
abbrev q73:iO:=.box [(.box 50000 0),(.own 103003),(.own 105004),(.own 100702),q0]
abbrev q74:iO:=.box [(.box 50000 0),(.own 103003),(.own 105004),(.own 109005),q0]
abbrev q75:kL:=.one (.own 102001)
abbrev q76:iO:=.box [(.box 50001 0),(.own 50002),(.own 50003),(.own 100005),q3]
abbrev q77:kL:=.one (.p true false (.sl (.st 6)))
abbrev q78:kL:=.agg [q1,q1,VI,q50,q40,q40]
abbrev q79:iO:=.box [(.p true false (.sl (.st 4))),q1,q1,q1,q1,q1,q1,q1]
abbrev q81:iO:=.arr false false false (.st 14)
abbrev q82:iO:=.arr false true false (.st 14)
abbrev q83:iO:=.arr false false false (.st 3)
abbrev q84:iO:=.arr false true true (.st 15)
abbrev q85:iO:=.arr false true false (.st 5)
abbrev j0:fQ:=.seq .nil .nil
abbrev j1:fQ:=.seq .nil j0
abbrev j3:fQ:=.seq j1 .nil
abbrev j4:JT:=⟨[],[(50000,.ob q29),(1033,.ob q9)]⟩
abbrev j6:JT:=⟨[(1,.keep),(3,.sl q7),(4,.sl q7)],[(1,.keep)]⟩
abbrev j7:fQ:=.seq j0 .nil
abbrev j8:fQ:=.seq (.meet false ⟨[(2,.sl q2)],[]⟩ .nil) .nil
abbrev j9:JT:=⟨kS [0,4] [],lO [(50000,.ob XY),(50001,.ob q4)] (kO [50002,50003,4,50004] [])⟩
abbrev j10:JT:=⟨kS [0,3,4] [],lO [(50000,.ob q12)] (kO [50001,3,4] [])⟩
abbrev j11:JT:=⟨kS [0,1,5,6,7] [],lO [(50000,.ob q52)] (kO [100001,7,100002,101003] [])⟩
abbrev j12:fQ:=.seq .nil j1
abbrev j13:JT:=⟨kS [0,3,4] [],lO [(50000,.ob q17)] (kO [50001,3,4] [])⟩
abbrev j14:fQ:=.seq j0 (.seq j3 .nil)
abbrev j5:fQ:=.seq (.seq .nil (.meet true ⟨[],[]⟩ (.loop ⟨kS [0,1] [(5,.sl q7)],[]⟩ j14))) .nil
abbrev j15:fQ:=.seq .nil (.seq .nil j7)
abbrev j20:JT:=⟨kS [1,3,4] [],[(1,.keep)]⟩
abbrev j22:fQ:=.seq .nil (.seq (.seq .nil (.meet true ⟨[],[]⟩ (.loop ⟨kS [1,2] [(5,.sl q7)],[(2,.keep)]⟩ j14))) .nil)
abbrev j23:JT:=⟨kS [1,4] [(5,.sl q2)],[(1,.keep)]⟩
abbrev j24:fQ:=.seq .nil (.seq .nil (.seq (.seq .nil (.meet false ⟨[(3,.sl q7)],[]⟩ (.loop j6 (.seq j0 j0)))) .nil))
abbrev j25:JT:=⟨kS [4,5,7,8,9,12] (lS [(13,.sl q2)] (kS [52,53,54] [])),lO [(28,.ob q34)] (kO [1028,34,102003] [])⟩
abbrev j26:fQ:=.seq .nil (.meet false ⟨kS [1,2,3,4,7,8,9] [],kO [1,2,11,14,7] [(9,.ob q79),(103005,.keep)]⟩ .nil)
abbrev j27:JT:=⟨kS [4,5,7,8,9] [(12,.sl (.one (.own 102003)))],lO [(28,.ob q34)] (kO [1028,34] [(102003,.ob q6)])⟩
abbrev j29:fQ:=.seq .nil j12
abbrev j30:JT:=⟨kS [0,2,3,4,7,8] [],lO [(50000,.ob q4)] (kO [2,3] [(100004,.ob q30),(19,.keep)])⟩
abbrev j31:JT:=⟨[],[(50000,.ob q36),(100002,.ob q9)]⟩
abbrev j32:fQ:=.seq .nil j3
abbrev j33:JT:=⟨[(1,.keep),(18,.sl q2)],[(1,.keep)]⟩
abbrev j34:JT:=⟨kS [1,3,6] [(7,.sl q2)],[(1,.keep)]⟩
abbrev j2:fQ:=.seq .nil (.seq (.seq (.seq .nil (.meet false j34 (.seq .nil (.seq .nil (.meet false j34 (.seq .nil (.seq .nil (.meet false j34 .nil)))))))) (.meet true j6 (.seq .nil (.seq .nil (.meet true j6 (.seq .nil (.seq .nil (.meet true j6 (.seq .nil (.seq .nil (.meet true j6 (.seq .nil (.seq (.seq .nil (.meet false j33 (.seq .nil (.seq .nil (.meet false j33 .nil))))) (.seq (.seq .nil (.seq .nil (.meet false j6 .nil))) .nil)))))))))))))) .nil)
abbrev j35:JT:=⟨[(1,.keep),(3,.sl q2)],[(1,.keep)]⟩
abbrev j36:JT:=⟨[(1,.keep),(6,.sl q2)],[(1,.keep)]⟩
abbrev j37:JT:=⟨kS [2,3] [],[(2,.keep),(3,.ob (.box [q1,q0,q1,q0,q0,q1,DK,.dF]))]⟩
abbrev j38:fQ:=.seq (.seq j12 .nil) .nil
abbrev j39:JT:=⟨kS [2,3] [],[(2,.keep),(3,.ob (.box [q0,q0,q1,q0,q0,q1,DK,.dF]))]⟩
abbrev j40:fQ:=.seq .nil (.seq (.meet false ⟨[(4,.sl q2)],[]⟩ .nil) .nil)
abbrev j41:fQ:=.seq .nil (.seq (.meet false ⟨[(6,.sl q2)],[]⟩ .nil) .nil)
abbrev j43:fQ:=.meet false ⟨kS [1,2] [(14,.sl q2)],[(2,.keep)]⟩ .nil
abbrev j44:JT:=⟨kS [0,4] [],kO [50000,50001,50002,50003,4,50004] []⟩
abbrev j48:JT:=⟨[],[(50000,.ob q17),(50001,.keep)]⟩
abbrev j49:fQ:=.seq .nil j32
abbrev j50:JT:=⟨[(0,.sl XZ)],[(100000,.ob q45)]⟩
def sg7:cZ:={ aZ:=2,pin:=⟨[(0,(.one q54)),(1,tJ)],[]⟩,aT:=⟨[(0,(.one (.box 14 0)))],[(14,(.box [q54,q0]))]⟩,cu:=1,bD:=[],aV:=[14] }
def an7:fQ:=(.seq .nil (.seq (.seq .nil (.meet false ⟨[(0,.sl (.one q54))],[]⟩ .nil)) .nil))
def amc:cZ:={ aZ:=2,pin:=⟨[(0,xq),(1,tJ)],[(50000,J_)]⟩,aT:=⟨[(0,q7)],[(50000,q4)]⟩,cu:=1,bD:=[50000],aV:=[] }
def ap6:fQ:=(.seq .nil (.seq (.seq (.meet false ⟨kS [0,1] [(19,.sl q2)],[(50000,.keep)]⟩ .nil) j0) j49))
def ap7:cZ:={ aZ:=1,pin:=⟨[(0,q16)],[]⟩,aT:=⟨[(0,q37)],[(100001,q6)]⟩,cu:=1,bD:=[],aV:=[100001] }
def ap8:fQ:=(.seq .nil (.seq .nil (.seq (.seq .nil (.meet false ⟨[(3,.sl q37)],[(100001,.ob q6)]⟩ (.loop ⟨[(1,.keep),(3,.sl q37),(4,.sl q7)],[(1,.keep),(100001,.ob q6)]⟩ (.seq j0 j0)))) .nil)))
def ap9:cZ:={ aZ:=2,pin:=⟨[(0,VJ),(1,VJ)],[]⟩,aT:=⟨[(0,q2)],[]⟩,cu:=1,bD:=[],aV:=[] }
def ap_:fQ:=(.seq .nil (.seq j1 j5))
def aqa:cZ:={ aZ:=2,pin:=⟨[(0,q16),(1,VJ)],[]⟩,aT:=⟨[(0,q2)],[]⟩,cu:=1,bD:=[],aV:=[] }
def aqb:fQ:=(.seq .nil (.seq (.seq (.meet false ⟨[(1,.keep),(23,.sl q2)],[]⟩ .nil) j0) (.seq .nil (.seq (.seq .nil (.meet true ⟨[],[]⟩ (.loop ⟨kS [1,5] [(6,.sl q7)],[(26,.ob q39)]⟩ (.seq j0 (.seq (.seq (.seq (.seq (.meet false ⟨kS [1,5,6] [(55,.sl q2)],[(26,.keep)]⟩ .nil) j0) .nil) .nil) .nil))))) .nil))))
def aqc:cZ:={ aZ:=1,pin:=⟨[(0,q16)],[]⟩,aT:=⟨[(0,XZ)],[(100000,q6)]⟩,cu:=1,bD:=[],aV:=[100000] }
def aqd:fQ:=(.seq .nil (.seq .nil (.seq (.seq .nil (.meet false ⟨[(3,.sl XZ)],[(100000,.ob q6)]⟩ (.loop ⟨[(3,.sl XZ),(7,.keep),(8,.sl q7)],[(100000,.ob q6)]⟩ j15))) .nil)))
def aqe:cZ:={ aZ:=1,pin:=⟨[(0,q49)],[]⟩,aT:=⟨[(0,(.agg [q0,q0,q0,q0,q0,q0,DK,(.own 113002)]))],[(113002,q10)]⟩,cu:=1,bD:=[],aV:=[113002] }
def aqf:fQ:=(.seq .nil (.seq .nil (.seq (.seq .nil (.seq (.seq (.seq .nil (.meet false ⟨kS [1,2,3,8] [(9,.sl q2)],kO [1,2,3] []⟩ .nil)) (.meet false ⟨kS [2,3] [],[(2,.keep),(3,.ob (.box [q1,q1,q1,q1,q1,q1,DK,(.own 113002)])),(113002,.ob q10)]⟩ (.seq .nil (.seq .nil (.meet false ⟨kS [2,3] [],[(2,.keep),(3,.ob (.box [q1,q1,q1,q1,q1,q1,DK,(.own 112002)])),(112002,.ob q10)]⟩ (.seq .nil (.seq .nil (.meet false ⟨kS [2,3] [],[(2,.keep),(3,.ob (.box [q1,q1,q1,q1,q1,q1,DK,(.own 111002)])),(111002,.ob q10)]⟩ (.seq .nil (.seq .nil (.meet false ⟨kS [2,3] [],[(2,.keep),(3,.ob (.box [q1,q1,q1,q1,q1,q1,DK,(.own 110002)])),(110002,.ob q10)]⟩ (.seq .nil (.seq .nil (.meet false ⟨kS [2,3] [],[(2,.keep),(3,.ob (.box [q1,q0,q1,q1,q1,q1,DK,(.own 109002)])),(109002,.ob q10)]⟩ (.seq .nil (.seq .nil (.meet false ⟨kS [2,3] [],[(2,.keep),(3,.ob (.box [q1,q0,q1,q1,q1,q1,DK,(.own 108002)])),(108002,.ob q10)]⟩ (.seq .nil (.seq .nil (.meet false ⟨kS [2,3] [],[(2,.keep),(3,.ob (.box [q1,q0,q1,q1,q1,q1,DK,(.own 107002)])),(107002,.ob q10)]⟩ (.seq .nil (.seq .nil (.meet false ⟨kS [2,3] [],[(2,.keep),(3,.ob (.box [q1,q0,q1,q1,q0,q1,DK,(.own 106002)])),(106002,.ob q10)]⟩ (.seq .nil (.seq .nil (.meet false ⟨kS [2,3] [],[(2,.keep),(3,.ob (.box [q1,q0,q1,q1,q0,q1,DK,(.own 105002)])),(105002,.ob q10)]⟩ (.seq .nil (.seq .nil (.meet false ⟨kS [2,3] [],[(2,.keep),(3,.ob (.box [q1,q0,q1,q1,q0,q1,DK,(.own 104002)])),(104002,.ob q10)]⟩ (.seq .nil (.seq .nil (.meet false ⟨kS [2,3] [],[(2,.keep),(3,.ob (.box [q1,q0,q1,q1,q0,q1,DK,(.own 103002)])),(103002,.ob q10)]⟩ (.seq .nil (.seq .nil (.meet false j37 (.seq .nil (.seq .nil (.meet false j37 .nil)))))))))))))))))))))))))))))))))))))) .nil)) .nil)))
def aqg:cZ:={ aZ:=2,pin:=⟨[(0,q66),(1,tJ)],[]⟩,aT:=⟨[(0,q60)],[(60000,q33)]⟩,cu:=1,bD:=[],aV:=[60000] }
def aqh:fQ:=(.seq .nil (.seq (.seq (.seq .nil (.seq .nil (.seq j43 (.seq j3 j29)))) .nil) .nil))
def aqi:cZ:={ aZ:=2,pin:=⟨[(0,q8),(1,q8)],[]⟩,aT:=⟨[(0,q2)],[]⟩,cu:=1,bD:=[],aV:=[] }
def aqj:fQ:=j40
def aqk:cZ:={ aZ:=1,pin:=⟨[(0,VJ)],[]⟩,aT:=⟨[(0,q60)],[(60000,q10)]⟩,cu:=1,bD:=[],aV:=[60000] }
def aql:fQ:=j32
def aqm:cZ:={ aZ:=2,pin:=⟨[(0,VJ),(1,VJ)],[]⟩,aT:=⟨[(0,q2)],[]⟩,cu:=1,bD:=[],aV:=[] }
def aqn:fQ:=(.seq .nil (.seq j1 (.seq (.seq .nil (.meet true ⟨[],[]⟩ (.loop ⟨kS [0,1,12] [(13,.sl q7)],[]⟩ (.seq .nil (.seq .nil j38))))) .nil)))
def aqo:cZ:={ aZ:=1,pin:=⟨[(0,q49)],[]⟩,aT:=⟨[(0,(.agg [q0,q0,q0,q0,q0,q0,DK,(.own 113002)]))],[(113002,q10)]⟩,cu:=1,bD:=[],aV:=[113002] }
def aqp:fQ:=(.seq .nil (.seq .nil (.seq (.seq .nil (.seq (.seq .nil (.meet false ⟨kS [2,3] [],[(2,.keep),(3,.ob (.box [q0,q1,q1,q1,q1,q1,DK,(.own 113002)])),(113002,.ob q10)]⟩ (.seq .nil (.seq .nil (.meet false ⟨kS [2,3] [],[(2,.keep),(3,.ob (.box [q0,q1,q1,q1,q1,q1,DK,(.own 112002)])),(112002,.ob q10)]⟩ (.seq .nil (.seq .nil (.meet false ⟨kS [2,3] [],[(2,.keep),(3,.ob (.box [q0,q1,q1,q1,q1,q1,DK,(.own 111002)])),(111002,.ob q10)]⟩ (.seq .nil (.seq .nil (.meet false ⟨kS [2,3] [],[(2,.keep),(3,.ob (.box [q0,q1,q1,q1,q1,q1,DK,(.own 110002)])),(110002,.ob q10)]⟩ (.seq .nil (.seq .nil (.meet false ⟨kS [2,3] [],[(2,.keep),(3,.ob (.box [q0,q0,q1,q1,q1,q1,DK,(.own 109002)])),(109002,.ob q10)]⟩ (.seq .nil (.seq .nil (.meet false ⟨kS [2,3] [],[(2,.keep),(3,.ob (.box [q0,q0,q1,q1,q1,q1,DK,(.own 108002)])),(108002,.ob q10)]⟩ (.seq .nil (.seq .nil (.meet false ⟨kS [2,3] [],[(2,.keep),(3,.ob (.box [q0,q0,q1,q1,q1,q1,DK,(.own 107002)])),(107002,.ob q10)]⟩ (.seq .nil (.seq .nil (.meet false ⟨kS [2,3] [],[(2,.keep),(3,.ob (.box [q0,q0,q1,q1,q1,q1,DK,(.own 106002)])),(106002,.ob q10)]⟩ (.seq .nil (.seq .nil (.meet false ⟨kS [2,3] [],[(2,.keep),(3,.ob (.box [q0,q0,q1,q1,q0,q1,DK,(.own 105002)])),(105002,.ob q10)]⟩ (.seq .nil (.seq .nil (.meet false ⟨kS [2,3] [],[(2,.keep),(3,.ob (.box [q0,q0,q1,q1,q0,q1,DK,(.own 104002)])),(104002,.ob q10)]⟩ (.seq .nil (.seq .nil (.meet false ⟨kS [2,3] [],[(2,.keep),(3,.ob (.box [q0,q0,q1,q1,q0,q1,DK,(.own 103002)])),(103002,.ob q10)]⟩ (.seq .nil (.seq .nil (.meet false ⟨kS [2,3] [],[(2,.keep),(3,.ob (.box [q0,q0,q1,q1,q0,q1,DK,(.own 102002)])),(102002,.ob q10)]⟩ (.seq .nil (.seq .nil (.meet false j39 (.seq .nil (.seq .nil (.meet false j39 .nil))))))))))))))))))))))))))))))))))))))))) .nil)) .nil)))
def aqr:cZ:={ aZ:=2,pin:=⟨[(0,q66),(1,tJ)],[]⟩,aT:=⟨[(0,q60)],[(60000,q34)]⟩,cu:=1,bD:=[],aV:=[60000] }
def aqs:fQ:=(.seq .nil (.seq .nil (.seq (.seq (.seq .nil (.seq .nil (.seq (.meet false ⟨kS [1,2,5] [(19,.sl q2)],kO [2,5] []⟩ .nil) (.seq j3 j29)))) .nil) j0)))
def aqt:cZ:={ aZ:=1,pin:=⟨[(0,tJ)],[]⟩,aT:=⟨[(0,(.one KG))],[]⟩,cu:=1,bD:=[],aV:=[] }
def aqu:fQ:=(.seq .nil (.seq .nil (.seq (.seq (.meet false ⟨kS [0,3] [(12,.sl q2)],[(4,.keep)]⟩ .nil) j0) .nil)))
def aqv:cZ:={ aZ:=3,pin:=⟨[(0,q46),(1,tJ),(2,tJ)],[(55000,q45)]⟩,aT:=⟨[(0,XZ)],[(100000,q45)]⟩,cu:=1,bD:=[],aV:=[100000] }
def aqw:fQ:=(.seq .nil (.seq (.seq .nil (.meet false j50 (.loop ⟨lS [(0,.sl XZ)] (kS [1,2] [(7,.sl q7)]),[(100000,.ob q45)]⟩ (.seq j0 j0)))) .nil))
def aqx:cZ:={ aZ:=2,pin:=⟨[(0,q8),(1,(.one (.p true false (.int .u8))))],[]⟩,aT:=⟨[(0,q7)],[]⟩,cu:=1,bD:=[],aV:=[] }
def aqy:fQ:=(.seq .nil (.seq (.seq .nil (.seq (.seq .nil (.seq .nil (.seq .nil (.seq .nil (.seq .nil (.seq .nil (.seq .nil (.meet true ⟨[],[]⟩ j3)))))))) .nil)) .nil))
def amd:cZ:={ aZ:=1,pin:=⟨[(0,tJ)],[]⟩,aT:=⟨[(0,(.one KG))],[]⟩,cu:=1,bD:=[],aV:=[] }
def aqz:fQ:=j49
def aqA:cZ:={ aZ:=3,pin:=⟨[(0,xq),(1,q35),(2,q16)],[(50000,J_)]⟩,aT:=⟨[(0,(.agg [q0,q0,q0,q0,q0,q0,(.own 60001)]))],[(50000,q4),(60001,q6)]⟩,cu:=1,bD:=[50000],aV:=[60001] }
def aqB:fQ:=(.seq .nil (.seq .nil (.seq (.seq .nil (.seq (.seq .nil (.meet false ⟨kS [0,4,6,7] [],lO [(50000,.ob q4)] (kO [4,6] [(7,.ob (.box [q0,q0,q0,q0,q0,q0,(.own 110004)])),(110004,.ob q6)])⟩ (.seq .nil (.seq .nil (.meet false ⟨kS [0,4,6,7] [],lO [(50000,.ob q4)] (kO [4,6] [(7,.ob (.box [q0,q0,q0,q0,q0,q0,(.own 109004)])),(109004,.ob q6)])⟩ (.seq .nil (.seq .nil (.meet false ⟨kS [0,4,6,7] [],lO [(50000,.ob q4)] (kO [4,6] [(7,.ob (.box [q0,q0,q0,q0,q0,q0,(.own 108004)])),(108004,.ob q6)])⟩ (.seq .nil (.seq (.seq .nil (.meet false ⟨kS [0,4,5,6,7,27] [(46,.sl q2)],kO [50000,4,5,6,7] []⟩ .nil)) (.meet false ⟨kS [0,4,6,7] [],lO [(50000,.ob q4)] (kO [4,6] [(7,.ob (.box [q0,q0,q0,q0,q0,q0,(.own 107004)])),(107004,.ob q6)])⟩ (.seq .nil (.seq .nil (.meet false ⟨kS [0,4,6,7] [],lO [(50000,.ob q4)] (kO [4,6] [(7,.ob (.box [q0,q0,q0,q0,q0,q0,(.own 106004)])),(106004,.ob q6)])⟩ (.seq (.seq .nil (.seq .nil (.meet false ⟨kS [0,4,6,7] [],lO [(50000,.ob q4)] (kO [4,6] [(7,.ob (.box [q0,q0,q0,q0,q0,q0,(.own 101005)])),(101005,.ob q6)])⟩ (.loop ⟨kS [0,4,5,6,7] [(8,.sl q7)],lO [(50000,.ob q4)] (kO [4,5,6] [(7,.ob (.box [q0,q0,q0,q0,q0,q0,(.own 101005)])),(101005,.ob q6)])⟩ (.seq j0 j0))))) (.seq .nil (.meet false ⟨kS [0,4,6,7] [],lO [(50000,.ob q4)] (kO [4,6] [(7,.ob (.box [q0,q0,q0,q0,q0,q0,(.own 105004)])),(105004,.ob q6)])⟩ (.seq (.seq .nil (.meet false ⟨kS [0,4,6,7] [],lO [(50000,.ob q4)] (kO [4,6] [(7,.ob (.box [q0,q0,q0,q0,q0,q0,(.own 103005)])),(103005,.ob q6)])⟩ (.loop ⟨kS [0,4,5,6,7] [(9,.sl q7)],lO [(50000,.ob q4)] (kO [4,5,6] [(7,.ob (.box [q0,q0,q0,q0,q0,q0,(.own 103005)])),(103005,.ob q6)])⟩ (.seq j0 j0)))) .nil)))))))))))))))))) .nil)) (.seq (.seq (.meet false ⟨kS [0,4,6,7] [(107,.sl q2)],lO [(50000,.ob q4)] (kO [4,6,7,110004] [])⟩ .nil) j0) .nil))))
def aqC:cZ:={ aZ:=3,pin:=⟨[(0,q46),(1,tJ),(2,tJ)],[(55000,q45)]⟩,aT:=⟨[(0,XZ)],[(100000,q45)]⟩,cu:=1,bD:=[],aV:=[100000] }
def aqD:fQ:=(.seq .nil (.seq (.seq .nil (.meet false j50 (.loop ⟨lS [(0,.sl XZ)] (kS [1,8] [(9,.sl q7)]),[(100000,.ob q45)]⟩ j15))) .nil))
def aqE:cZ:={ aZ:=1,pin:=⟨[(0,q68)],[]⟩,aT:=⟨[(0,q7)],[]⟩,cu:=1,bD:=[],aV:=[] }
def aqF:fQ:=j32
def aqG:cZ:={ aZ:=1,pin:=⟨[(0,q8)],[]⟩,aT:=⟨[(0,q2)],[]⟩,cu:=1,bD:=[],aV:=[] }
def aqH:fQ:=(.seq .nil (.seq (.seq .nil (.seq (.seq .nil (.seq j8 (.seq .nil (.seq j8 .nil)))) .nil)) .nil))
def aqI:cZ:={ aZ:=1,pin:=⟨[(0,tJ)],[]⟩,aT:=⟨[(0,q2)],[]⟩,cu:=1,bD:=[],aV:=[] }
def aqJ:fQ:=(.seq .nil j8)
def aqK:cZ:={ aZ:=1,pin:=⟨[(0,q8)],[]⟩,aT:=⟨[(0,q2)],[]⟩,cu:=1,bD:=[],aV:=[] }
def aqL:fQ:=(.seq .nil (.seq .nil (.seq j2 j8)))
def aqM:cZ:={ aZ:=1,pin:=⟨[(0,q66)],[]⟩,aT:=⟨[(0,q60)],[(60000,q10)]⟩,cu:=1,bD:=[],aV:=[60000] }
def aqN:fQ:=(.seq .nil (.seq (.seq (.seq (.meet false j35 .nil) (.seq .nil (.seq (.meet false ⟨[(1,.keep),(19,.sl q2)],[(1,.keep)]⟩ .nil) j0))) .nil) .nil))
def aqO:cZ:={ aZ:=2,pin:=⟨[(0,xq),(1,tJ)],[(50000,q11),(50001,q28)]⟩,aT:=⟨[(0,q7)],[(50000,(.box [(.p false true (.sl (.st 10))),(.p false true (.sl (.st 14))),(.p false true (.sl .str)),q0,q0,(.own 30),q0])),(30,q9)]⟩,cu:=1,bD:=[50000],aV:=[30] }
def aqP:fQ:=j12
def ame:TypeId->Option Ty:=fun t=>(([(1000057,(.prod (.st 0) .bool)),(3000009,.bool)]:List (Nat×Ty))++AX).lookup t
def aqQ:cZ:={ aZ:=2,pin:=⟨[(0,xq),(1,q49)],[(50000,q11),(50001,q28)]⟩,aT:=⟨[],[(50000,q42),(50001,q9)]⟩,cu:=0,bD:=[50000,50001],aV:=[] }
def aqR:fQ:=.nil
def amf:TypeId->Option Ty:=fun t=>(([(1000057,(.prod (.st 0) .bool))]:List (Nat×Ty))++AX).lookup t
def aqS:cZ:={ aZ:=3,pin:=⟨[(0,xq),(1,tJ),(2,q66)],[(50000,q11),(50001,q28)]⟩,aT:=⟨[],[(50000,q42),(50001,q9)]⟩,cu:=0,bD:=[50000,50001],aV:=[] }
def aqT:fQ:=.nil
def amg:TypeId->Option Ty:=fun t=>(([(1000057,(.prod (.st 0) .bool))]:List (Nat×Ty))++AX).lookup t
def aqU:cZ:={ aZ:=1,pin:=⟨[(0,q8)],[]⟩,aT:=⟨[(0,q37)],[(100001,q10)]⟩,cu:=1,bD:=[],aV:=[100001] }
def aqV:fQ:=(.seq .nil (.seq .nil (.seq (.seq .nil (.meet false ⟨[(3,.sl q37)],[(100001,.ob q10)]⟩ (.loop ⟨[(1,.keep),(3,.sl q37),(10,.keep)],[(1,.keep),(100001,.ob q10),(10,.ob .it)]⟩ (.seq .nil (.seq .nil (.seq (.seq .nil (.seq .nil (.seq (.seq .nil (.meet false ⟨[(1,.keep),(3,.sl (.one (.own 104001))),(10,.keep)],[(1,.keep),(104001,.ob q10),(10,.keep)]⟩ (.seq .nil (.seq .nil (.meet false ⟨[(1,.keep),(3,.sl (.one (.own 103001))),(10,.keep)],[(1,.keep),(103001,.ob q10),(10,.keep)]⟩ (.seq .nil (.seq .nil (.meet false ⟨[(1,.keep),(3,.sl q75),(10,.keep)],[(1,.keep),(102001,.ob q10),(10,.keep)]⟩ (.seq .nil (.seq .nil (.meet false ⟨[(1,.keep),(3,.sl q57),(10,.keep)],[(1,.keep),(101001,.ob q10),(10,.keep)]⟩ .nil))))))))))) .nil))) .nil)))))) .nil)))
def aqW:cZ:={ aZ:=3,pin:=⟨[(0,tJ),(1,tJ),(2,tJ)],[]⟩,aT:=⟨[(0,q2)],[]⟩,cu:=1,bD:=[],aV:=[] }
def aqX:fQ:=j41
def aqY:cZ:={ aZ:=1,pin:=⟨[(0,q8)],[]⟩,aT:=⟨[(0,q2)],[]⟩,cu:=1,bD:=[],aV:=[] }
def aqZ:fQ:=(.seq .nil (.seq .nil (.seq j2 .nil)))
def aq0:cZ:={ aZ:=1,pin:=⟨[(0,tJ)],[]⟩,aT:=⟨[(0,q2)],[]⟩,cu:=1,bD:=[],aV:=[] }
def aq1:fQ:=(.seq .nil j8)
def amh:cZ:={ aZ:=2,pin:=⟨[(0,q46),(1,(.one q40))],[(55000,wS)]⟩,aT:=⟨[(0,XZ)],[(100000,q48)]⟩,cu:=1,bD:=[],aV:=[100000] }
def aq2:fQ:=(.seq .nil (.seq (.seq .nil (.meet false ⟨[(0,.sl XZ)],[(100000,.ob q48)]⟩ (.loop ⟨[(0,.sl XZ),(1,.keep),(5,.sl q7)],[(100000,.ob q48)]⟩ (.seq j0 (.seq (.seq (.seq (.seq .nil (.meet false ⟨lS [(0,.sl (.one (.own 101000)))] (kS [1,5] []),[(101000,.ob q48)]⟩ .nil)) .nil) .nil) .nil))))) .nil))
def aq3:cZ:={ aZ:=2,pin:=⟨[(0,q38),(1,(.one VI))],[]⟩,aT:=⟨[(0,q7)],[]⟩,cu:=1,bD:=[],aV:=[] }
def aq4:fQ:=j22
def aq5:cZ:={ aZ:=2,pin:=⟨[(0,q38),(1,(.one VI))],[]⟩,aT:=⟨[(0,q7)],[]⟩,cu:=1,bD:=[],aV:=[] }
def aq6:fQ:=j22
def ami:cZ:={ aZ:=1,pin:=⟨[(0,(.one q40))],[]⟩,aT:=⟨[(0,q7)],[]⟩,cu:=1,bD:=[],aV:=[] }
def aq7:fQ:=(.seq .nil (.seq .nil (.seq (.seq .nil (.meet false ⟨[(3,.sl q7)],[]⟩ (.loop ⟨[(0,.keep),(3,.sl q7),(4,.sl q7)],[]⟩ (.seq j0 j0)))) .nil)))
def amj:cZ:={ aZ:=2,pin:=⟨[(0,(.one q70)),(1,(.one VI))],[]⟩,aT:=⟨[(0,q2)],[]⟩,cu:=1,bD:=[],aV:=[] }
def amk:fQ:=(.seq .nil j5)
def aml:cZ:={ aZ:=2,pin:=⟨[(0,q38),(1,(.one VI))],[]⟩,aT:=⟨[(0,q7)],[]⟩,cu:=1,bD:=[],aV:=[] }
def amm:fQ:=(.seq .nil (.seq (.seq .nil (.seq .nil (.seq j3 .nil))) j3))
def amn:cZ:={ aZ:=1,pin:=⟨[(0,tJ)],[]⟩,aT:=⟨[(0,q2)],[]⟩,cu:=1,bD:=[],aV:=[] }
def amo:fQ:=j0
def amq:cZ:={ aZ:=2,pin:=⟨[(0,xq),(1,(.one VI))],[(50000,q11),(50001,q28)]⟩,aT:=⟨[(0,q7)],[(50000,q42),(50001,q28)]⟩,cu:=1,bD:=[50000,50001],aV:=[],kept:=[50001] }
def amr:fQ:=(.seq .nil (.seq (.seq .nil (.meet true ⟨[],kO [50000,50001] []⟩ (.loop ⟨kS [0,1] [(5,.sl q7)],kO [50000,50001] []⟩ j14))) .nil))
def ajS:TypeId->Option Ty:=fun t=>(([(1000057,(.prod (.st 0) .bool)),(3000010,.bool)]:List (Nat×Ty))++AX).lookup t
def ams:cZ:={ aZ:=1,pin:=⟨[(0,q16)],[]⟩,aT:=⟨[(0,q7)],[]⟩,cu:=1,bD:=[],aV:=[] }
def amu:fQ:=j24
def amv:cZ:={ aZ:=2,pin:=⟨[(0,q16),(1,q66)],[]⟩,aT:=⟨[(0,q7)],[]⟩,cu:=1,bD:=[],aV:=[] }
def amw:fQ:=(.seq .nil (.seq (.seq (.meet false ⟨kS [2,3] [(14,.sl q2)],kO [2,3] []⟩ .nil) j0) (.seq (.seq (.meet false ⟨kS [2,3] [(29,.sl q2)],kO [2,3] []⟩ .nil) j0) (.seq .nil (.seq (.seq .nil (.meet true ⟨[],[]⟩ (.loop ⟨kS [2,5] [(6,.sl q7)],kO [2,31] []⟩ (.seq j0 (.seq (.seq (.seq (.meet false ⟨kS [2,5,6] [(52,.sl q2)],kO [2,31] []⟩ .nil) j0) .nil) .nil))))) .nil)))))
def ahV:cZ:={ aZ:=1,pin:=⟨[(0,q32)],[]⟩,aT:=⟨[(0,q7)],[]⟩,cu:=1,bD:=[],aV:=[] }
def amx:fQ:=j24
def amy:cZ:={ aZ:=3,pin:=⟨[(0,xq),(1,tJ),(2,tJ)],[(50000,q12),(50001,wS)]⟩,aT:=⟨[],[(50000,q17),(50001,wS)]⟩,cu:=0,bD:=[50000,50001],aV:=[],kept:=[50001] }
def amA:fQ:=(.seq .nil (.meet false ⟨[],[(50000,.ob (.box [(.p false true (.sl (.st 10))),(.p false true (.sl (.st 14))),(.own 50001),(.p true true (.int .i64)),(.p true true (.int .i64))])),(50001,.keep)]⟩ .nil))
def amB:cZ:={ aZ:=2,pin:=⟨[(0,xq),(1,(.one VI))],[(50000,q12),(50001,wS)]⟩,aT:=⟨[(0,q7)],[(50000,q17),(50001,wS)]⟩,cu:=1,bD:=[50000,50001],aV:=[],kept:=[50001] }
def amC:fQ:=j32
def ahW:cZ:={ aZ:=3,pin:=⟨[(0,xq),(1,q32),(2,tJ)],[(50000,q11),(50001,q28)]⟩,aT:=⟨[],[(50000,q58),(60001,q9)]⟩,cu:=0,bD:=[50000],aV:=[60001] }
def amD:fQ:=(.seq .nil (.seq .nil (.seq (.seq (.meet false ⟨kS [0,2,4] [(24,.sl q2)],kO [50000,4,50001] []⟩ .nil) j0) (.seq .nil (.seq .nil (.seq (.seq .nil (.meet false j4 (.seq .nil (.seq .nil (.meet false j4 (.seq .nil (.seq .nil (.meet false j4 (.seq .nil (.seq .nil (.meet false j4 (.seq .nil (.seq .nil (.meet false j4 (.seq .nil (.seq .nil (.meet false j4 (.seq .nil (.seq .nil (.meet false j4 (.seq .nil (.seq .nil (.meet false j4 (.seq .nil (.seq .nil (.meet false j4 (.seq .nil (.seq .nil (.meet false j4 .nil))))))))))))))))))))))))))))) .nil))))))
def ajT:TypeId->Option Ty:=fun t=>(([(1000057,(.prod (.st 0) .bool))]:List (Nat×Ty))++AX).lookup t
def ahX:cZ:={ aZ:=3,pin:=⟨[(0,xq),(1,q32),(2,tJ)],[(50000,q11),(50001,q28)]⟩,aT:=⟨[],[(50000,(.box [q13,Na,q22,q0,q0,(.own 61),q0])),(61,q9)]⟩,cu:=0,bD:=[50000],aV:=[61] }
def amE:fQ:=(.seq .nil (.seq .nil (.seq .nil (.seq .nil (.seq .nil (.seq .nil (.seq .nil (.seq .nil (.seq .nil (.seq .nil (.seq .nil (.seq .nil (.seq .nil (.seq (.seq .nil (.meet false ⟨kS [0,10,11,12] [],[(50000,.ob (.box [q13,Na,q22,q0,q0,(.own 61),q0])),(61,.ob q9)]⟩ .nil)) .nil))))))))))))))
def ajU:TypeId->Option Ty:=fun t=>(([(1000057,(.prod (.st 0) .bool))]:List (Nat×Ty))++AX).lookup t
def ahY:cZ:={ aZ:=3,pin:=⟨[(0,xq),(1,(.one q50)),(2,tJ)],[(50000,q11),(50001,q28)]⟩,aT:=⟨[(0,q37)],[(50000,(.box [q13,Na,q22,q0,q0,(.own 100002),q0])),(100001,q6),(100002,q9)]⟩,cu:=1,bD:=[50000],aV:=[100001,100002] }
def amF:fQ:=(.seq .nil (.seq .nil (.seq (.seq .nil (.meet false ⟨[(7,.sl q37)],[(50000,.ob q36),(100001,.ob q6),(100002,.ob q9)]⟩ (.loop ⟨kS [0,1,2] [(7,.sl q37),(8,.sl q7)],[(50000,.ob q36),(100001,.ob q6),(100002,.ob q9)]⟩ (.seq j0 j7)))) .nil)))
def ajV:TypeId->Option Ty:=fun t=>(([(1000057,(.prod (.st 0) .bool))]:List (Nat×Ty))++AX).lookup t
def amG:cZ:={ aZ:=1,pin:=⟨[(0,q49)],[]⟩,aT:=⟨[(0,q60)],[(60000,q10)]⟩,cu:=1,bD:=[],aV:=[60000] }
def amH:fQ:=(.seq .nil (.seq (.seq .nil (.seq (.seq (.seq .nil (.meet false j23 (.seq .nil (.seq .nil (.meet false j23 (.seq .nil (.seq .nil (.meet false j23 (.seq .nil (.seq .nil (.meet false j23 .nil))))))))))) (.seq .nil (.seq (.seq .nil (.meet false ⟨kS [1,4] [(14,.sl q2)],[(1,.keep)]⟩ .nil)) (.seq .nil j29)))) .nil)) .nil))
def amI:cZ:={ aZ:=1,pin:=⟨[(0,q49)],[]⟩,aT:=⟨[(0,q7),(1,q2)],[]⟩,cu:=2,bD:=[],aV:=[] }
def amJ:fQ:=(.seq .nil (.seq (.seq .nil (.seq (.seq (.seq .nil (.meet false j36 (.seq .nil (.seq .nil (.meet false j36 (.seq .nil (.seq .nil (.meet false j36 .nil)))))))) j0) .nil)) (.seq (.seq (.meet false j33 .nil) j0) .nil)))
def amK:cZ:={ aZ:=3,pin:=⟨[(0,q35),(1,tJ),(2,q68)],[]⟩,aT:=⟨[(0,q2)],[]⟩,cu:=1,bD:=[],aV:=[] }
def amL:fQ:=j41
def amM:cZ:={ aZ:=4,pin:=⟨[(0,xq),(1,q32),(2,tJ),(3,tJ)],[(50000,q12),(50001,wS)]⟩,aT:=⟨[],[(50000,q17),(50001,wS)]⟩,cu:=0,bD:=[50000,50001],aV:=[],kept:=[50001] }
def amN:fQ:=(.seq .nil (.seq .nil (.seq (.seq .nil (.meet false j48 (.seq .nil (.seq (.meet false ⟨kS [0,5] [(20,.sl q2)],kO [50000,50001,5] []⟩ .nil) (.meet false j48 .nil))))) .nil)))
def amO:cZ:={ aZ:=3,pin:=⟨[(0,xq),(1,(.one VI)),(2,tJ)],[(50000,q12),(50001,wS)]⟩,aT:=⟨[(0,(.agg [q0,q0,q0,q0,KG,.dF]))],[(50000,q17),(50001,wS)]⟩,cu:=1,bD:=[50000,50001],aV:=[],kept:=[50001] }
def amP:fQ:=(.seq .nil (.seq .nil (.seq (.seq .nil (.meet false ⟨kS [1,2,6] [(7,.sl q7)],kO [50000,50001,6] []⟩ .nil)) .nil)))
def ahZ:cZ:={ aZ:=2,pin:=⟨[(0,xq),(1,q32)],[(50000,q12),(50001,wS)]⟩,aT:=⟨[(0,(.agg [q0,q0,q0,q0,KG,(.own 60002)]))],[(50000,q17),(50001,wS),(60002,q55)]⟩,cu:=1,bD:=[50000,50001],aV:=[60002],kept:=[50001] }
def amQ:fQ:=(.seq .nil (.seq (.seq .nil (.seq (.seq .nil (.seq j0 (.seq .nil (.meet true j10 (.seq .nil (.seq .nil (.meet true j10 (.seq .nil (.seq .nil (.meet true j10 (.seq (.seq .nil (.seq (.seq .nil (.meet true j13 (.seq .nil (.seq .nil (.meet true j13 (.seq .nil (.seq .nil (.seq (.seq .nil (.meet false j13 .nil)) (.seq (.seq .nil (.meet false j13 .nil)) .nil))))))))) .nil)) (.seq .nil (.meet false j10 (.seq (.seq .nil (.meet false j10 .nil)) .nil)))))))))))))) .nil)) j0))
def ah0:cZ:={ aZ:=2,pin:=⟨[(0,xq),(1,(.one q50))],[(50000,q12),(50001,wS)]⟩,aT:=⟨[(0,q63)],[(50000,q17),(50001,wS),(100002,q55)]⟩,cu:=1,bD:=[50000,50001],aV:=[100002],kept:=[50001] }
def amR:fQ:=(.seq .nil (.seq .nil (.seq (.seq .nil (.meet false ⟨[(5,.sl q63)],[(50000,.ob q12),(50001,.keep),(100002,.ob q55)]⟩ (.loop ⟨kS [0,1] [(5,.sl q63),(6,.sl q7)],[(50000,.ob q12),(50001,.keep),(100002,.ob q55)]⟩ (.seq j0 j0)))) .nil)))
def amS:cZ:={ aZ:=3,pin:=⟨[(0,tJ),(1,(.one VI)),(2,q32)],[]⟩,aT:=⟨[(0,(.agg [q0,q0,KG,(.own 10),.dF,.dF]))],[(10,(.arr false true false (.st 16)))]⟩,cu:=1,bD:=[],aV:=[10] }
def amT:fQ:=j0
def amU:cZ:={ aZ:=2,pin:=⟨[(0,xq),(1,q68)],[(50000,XY),(50001,J_),(50002,q24),(50003,Nb),(50004,wS)]⟩,aT:=⟨[(0,(.one KG)),(1,q2)],[(50000,q41),(50001,q4),(50002,q24),(50003,Nb),(50004,wS)]⟩,cu:=2,bD:=[50000,50001,50002,50003,50004],aV:=[],kept:=[50002,50003,50004] }
def amV:fQ:=(.seq .nil (.seq .nil (.seq (.seq .nil (.meet false ⟨[(0,.keep),(6,.sl (.one (.own 100005)))],kO [50000,50001,50002,50003,50004] [(100005,.ob wS)]⟩ (.loop ⟨kS [0,1] [(6,.sl (.one (.own 100005))),(7,.sl q7)],kO [50000,50001,50002,50003,50004] [(100005,.ob wS)]⟩ (.seq j0 (.seq (.seq (.seq .nil (.meet false ⟨kS [0,1] [(6,.sl (.one (.own 101005))),(7,.keep)],kO [50000,50001,50002,50003,50004] [(101005,.ob wS)]⟩ .nil)) .nil) .nil))))) j3)))
def amW:cZ:={ aZ:=0,pin:=⟨[],[]⟩,aT:=⟨[(0,(.one (.own 1)))],[(1,q67)]⟩,cu:=1,bD:=[],aV:=[1] }
def amX:fQ:=j0
def amY:cZ:={ aZ:=1,pin:=⟨[(0,xq)],[(50000,XY),(50001,J_),(50002,q24),(50003,Nb),(50004,wS)]⟩,aT:=⟨[(0,(.agg [q0,q0,q0,q0,KG,.dF]))],[(50000,q41),(50001,q4),(50002,q24),(50003,Nb),(50004,wS)]⟩,cu:=1,bD:=[50000,50001,50002,50003,50004],aV:=[],kept:=[50002,50003,50004] }
def amZ:fQ:=(.seq .nil (.seq .nil (.seq (.seq .nil (.seq (.seq .nil (.seq .nil (.seq .nil (.meet true ⟨kS [2,3] [],lO [(50000,.ob XY),(50001,.ob q4)] (kO [50002,50003,50004,2] [])⟩ (.seq j12 (.seq (.seq .nil (.meet false ⟨kS [0,2,3] [(26,.sl q2)],kO [50000,50001,50002,50003,50004,2] []⟩ .nil)) (.meet true ⟨kS [2,3] [],kO [50000,50001,50002,50003,50004,2] []⟩ j3))))))) .nil)) (.seq .nil (.seq (.seq .nil (.meet false ⟨[(2,.keep),(6,.sl q7)],lO [(50000,.keep),(50001,.ob q4)] (kO [50002,50003,50004,2] [])⟩ .nil)) .nil)))))
def am0:cZ:={ aZ:=3,pin:=⟨[(0,tJ),(1,tJ),(2,(.one q50))],[]⟩,aT:=⟨[(0,(.agg [q0,q0,q0,q0,KG,q50]))],[]⟩,cu:=1,bD:=[],aV:=[] }
def am1:fQ:=j0
def aq8:cZ:={ aZ:=2,pin:=⟨[(0,xq),(1,q16)],[(50000,J_)]⟩,aT:=⟨[(0,(.one (.own 9)))],[(50000,q4),(9,q6)]⟩,cu:=1,bD:=[50000],aV:=[9] }
def aq9:fQ:=(.seq .nil (.seq .nil (.seq (.seq .nil (.meet false ⟨[(5,.keep)],[(50000,.ob J_),(9,.ob q6)]⟩ (.loop ⟨kS [0,5] [(6,.sl q7)],[(50000,.ob J_),(9,.ob q6)]⟩ (.seq j0 j7)))) .nil)))
def aq_:cZ:={ aZ:=2,pin:=⟨[(0,q77),(1,q77)],[]⟩,aT:=⟨[(0,q2)],[]⟩,cu:=1,bD:=[],aV:=[] }
def ara:fQ:=(.seq .nil (.seq j1 j5))
def arb:cZ:={ aZ:=2,pin:=⟨[(0,q16),(1,VJ)],[]⟩,aT:=⟨[(0,q37),(1,q63)],[(100001,q34),(100002,q6)]⟩,cu:=2,bD:=[],aV:=[100001,100002] }
def ard:fQ:=(.seq .nil (.seq .nil (.seq .nil (.seq (.seq .nil (.meet false ⟨[(6,.sl q37),(7,.sl q63)],[(100001,.ob q34),(100002,.ob q6)]⟩ (.loop ⟨kS [1,2] (lS [(6,.sl q37),(7,.sl q63)] (kS [13,14] [(15,.sl q7)])),[(2,.keep),(100001,.ob q34),(100002,.ob q6)]⟩ (.seq .nil (.seq .nil (.seq (.seq (.seq .nil (.seq .nil (.seq (.seq .nil (.meet false ⟨kS [1,2] (lS [(6,.sl q57)] (kS [7,8,9,13,14,15] [])),[(2,.keep),(101001,.ob q34),(24,.keep)]⟩ (.loop ⟨kS [1,2] (lS [(6,.sl q57)] (kS [7,8,9,13,14,15,30,31] [(32,.sl q7)])),[(2,.keep),(101001,.ob q34),(24,.keep)]⟩ j15))) (.seq .nil (.seq (.seq .nil (.meet false ⟨kS [1,2,6,7,9] (lS [(12,.sl tJ)] (kS [13,14,15] [])),kO [2,101001,24] []⟩ .nil)) .nil))))) .nil) .nil)))))) .nil))))
def arf:cZ:={ aZ:=1,pin:=⟨[(0,q16)],[]⟩,aT:=⟨[(0,(.one (.own 11)))],[(11,q39)]⟩,cu:=1,bD:=[],aV:=[11] }
def arh:fQ:=(.seq .nil (.seq .nil (.seq j1 (.seq .nil (.seq .nil (.seq (.meet false ⟨[(3,.keep)],[(11,.ob q39)]⟩ (.loop ⟨kS [1,3] [(4,.sl q63)],[(1,.keep),(11,.ob q39),(100002,.ob q10)]⟩ (.seq j0 (.seq (.seq .nil (.seq .nil (.seq .nil (.seq .nil (.meet false ⟨kS [1,3] [(4,.sl (.one (.own 101002)))],[(1,.keep),(11,.ob q39),(101002,.ob q10)]⟩ (.loop ⟨kS [1,3] [(4,.sl (.one (.own 101002))),(6,.keep),(7,.sl q7)],[(1,.keep),(11,.ob q39),(101002,.ob q10),(39,.keep)]⟩ (.seq j0 (.seq (.seq (.seq .nil (.meet false ⟨kS [1,3] (lS [(4,.sl (.one (.own 102002)))] (kS [6,7] [])),[(1,.keep),(11,.ob q39),(102002,.ob q10),(39,.keep)]⟩ j0)) .nil) .nil)))))))) .nil)))) .nil))))))
def am2:TypeId->Option Ty:=fun t=>(([(2000000,.bool)]:List (Nat×Ty))++AX).lookup t
def ari:cZ:={ aZ:=1,pin:=⟨[(0,q8)],[]⟩,aT:=⟨[(0,q2)],[]⟩,cu:=1,bD:=[],aV:=[] }
def arj:fQ:=(.seq .nil (.seq .nil (.seq (.seq .nil (.meet true ⟨[],[]⟩ (.loop ⟨kS [1,3] [(4,.sl q7)],[(1,.keep)]⟩ (.seq j0 (.seq (.seq (.seq .nil (.seq (.seq .nil (.meet true j20 (.seq j1 (.seq .nil (.meet true j20 (.seq j1 (.seq .nil (.meet true j20 (.seq j1 (.seq .nil (.meet true j20 (.seq (.seq (.seq .nil (.meet true j20 (.loop ⟨kS [1,3,4] [(5,.sl q7)],[(1,.keep)]⟩ j14))) j1) .nil)))))))))))) .nil)) .nil) .nil))))) .nil)))
def ark:cZ:={ aZ:=1,pin:=⟨[(0,(.agg [VI,q1,q70,q40]))],[]⟩,aT:=⟨[(0,(.one (.own 8)))],[(8,(.arr false true false .str))]⟩,cu:=1,bD:=[],aV:=[8] }
def arl:fQ:=j0
def am3:cZ:={ aZ:=2,pin:=⟨[(0,xq),(1,(.one q40))],[(50000,q11),(50001,q28)]⟩,aT:=⟨[(0,q2)],[(50000,q58),(60001,q9)]⟩,cu:=1,bD:=[50000],aV:=[60001] }
def arn:fQ:=(.seq .nil (.seq (.seq .nil (.meet true ⟨[],[(50000,.ob (.box [q13,Na,q22,q3,q3,(.own 100001),q3])),(100001,.ob q9)]⟩ (.loop ⟨kS [0,1] [(5,.sl q7)],[(50000,.ob (.box [q13,Na,q22,q3,q3,(.own 100001),q3])),(100001,.ob q9)]⟩ j14))) .nil))
def am4:TypeId->Option Ty:=fun t=>(([(1000057,(.prod (.st 0) .bool))]:List (Nat×Ty))++AX).lookup t
def am5:cZ:={ aZ:=2,pin:=⟨[(0,xq),(1,q78)],[(50000,q11),(50001,q28)]⟩,aT:=⟨[(0,q2)],[(50000,q58),(60001,q9)]⟩,cu:=1,bD:=[50000],aV:=[60001] }
def aro:fQ:=(.seq .nil (.seq .nil (.seq (.seq .nil j7) (.seq (.seq .nil (.meet false ⟨kS [0,3,5] [],[(50000,.ob q36),(3,.keep),(100002,.ob q9)]⟩ (.loop ⟨kS [0,3,5] [(6,.sl q7)],[(50000,.ob q36),(3,.keep),(100002,.ob q9)]⟩ (.seq j0 j0)))) (.seq (.seq .nil (.seq (.seq (.seq .nil (.meet false ⟨kS [0,3,5,38] [(39,.sl q2)],kO [50000,3,100002] []⟩ .nil)) (.meet true j31 (.seq (.seq .nil (.seq .nil (.meet false ⟨[],[(50000,.ob (.box [q13,Na,q22,q0,q0,(.own 100002),q0])),(100002,.ob q9)]⟩ .nil))) (.seq .nil (.meet true j31 (.seq .nil (.seq .nil (.seq j0 (.seq .nil (.meet true j31 j12)))))))))) .nil)) .nil)))))
def am6:TypeId->Option Ty:=fun t=>(([(1000057,(.prod (.st 0) .bool)),(3000022,.bool),(3000011,.bool)]:List (Nat×Ty))++AX).lookup t
def ah1:cZ:={ aZ:=3,pin:=⟨[(0,xq),(1,q78),(2,tJ)],[(50000,q11),(50001,q28)]⟩,aT:=⟨[],[(50000,(.box [q13,Na,q22,q0,q0,(.own 57),q0])),(57,q9)]⟩,cu:=0,bD:=[50000],aV:=[57] }
def am7:fQ:=(.seq .nil (.seq .nil (.seq .nil (.seq .nil (.seq .nil (.seq .nil (.seq .nil (.seq (.seq .nil (.meet false ⟨kS [0,2,4,8,9] [],[(50000,.ob (.box [q13,Na,q22,q0,q0,(.own 41),q0])),(4,.keep),(41,.ob q9)]⟩ .nil)) .nil))))))))
def ajW:TypeId->Option Ty:=fun t=>(([(1000057,(.prod (.st 0) .bool))]:List (Nat×Ty))++AX).lookup t
def ah2:cZ:={ aZ:=3,pin:=⟨[(0,xq),(1,q78),(2,tJ)],[(50000,q11),(50001,q28)]⟩,aT:=⟨[(0,q2)],[(50000,q58),(60001,q9)]⟩,cu:=1,bD:=[50000],aV:=[60001] }
def am8:fQ:=(.seq .nil (.seq .nil (.seq .nil (.seq .nil (.seq .nil (.seq (.seq .nil (.seq (.seq .nil (.seq .nil (.seq (.seq .nil (.meet false ⟨[],[(50000,.ob (.box [q13,Na,q22,q0,q0,(.own 39),q0])),(39,.ob q9)]⟩ .nil)) .nil))) .nil)) (.seq .nil (.seq .nil (.seq .nil (.seq .nil (.seq (.seq (.meet false ⟨kS [0,4,9,10,13,14] [(77,.sl q2)],kO [50000,4,67] []⟩ .nil) j0) (.seq .nil (.seq (.seq .nil (.meet false ⟨kS [0,13,14,15] [],[(50000,.ob (.box [q13,Na,q22,q0,q0,(.own 81),q0])),(81,.ob q9)]⟩ .nil)) (.seq (.seq .nil (.meet false ⟨[],[(50000,.ob (.box [q13,Na,q22,q0,q0,(.own 81),q0])),(81,.ob q9)]⟩ .nil)) .nil))))))))))))))
def ajX:TypeId->Option Ty:=fun t=>(([(1000057,(.prod (.st 0) .bool)),(3000033,.bool)]:List (Nat×Ty))++AX).lookup t
def arp:cZ:={ aZ:=1,pin:=⟨[(0,q8)],[]⟩,aT:=⟨[(0,q2)],[]⟩,cu:=1,bD:=[],aV:=[] }
def arq:fQ:=(.seq .nil (.seq (.seq (.seq (.seq .nil (.meet false j35 (.seq .nil (.meet false j35 .nil)))) (.seq .nil j29)) .nil) .nil))
def ars:cZ:={ aZ:=1,pin:=⟨[(0,tJ)],[]⟩,aT:=⟨[(0,q2)],[]⟩,cu:=1,bD:=[],aV:=[] }
def aru:fQ:=j0
def ah3:cZ:={ aZ:=2,pin:=⟨[(0,xq),(1,(.one q40))],[(50000,q12),(50001,wS)]⟩,aT:=⟨[(0,q37)],[(50000,q52),(100001,q84),(100002,q48)]⟩,cu:=1,bD:=[50000],aV:=[100001,100002] }
def am9:fQ:=(.seq .nil (.seq .nil (.seq (.seq .nil (.meet false ⟨[(5,.sl q37)],[(50000,.ob q53),(100001,.ob q84),(100002,.ob q48)]⟩ (.loop ⟨kS [0,1] [(5,.sl q37),(6,.sl q7)],[(50000,.ob q53),(100001,.ob q84),(100002,.ob q48)]⟩ (.seq j0 (.seq (.seq (.seq .nil (.seq .nil (.seq (.seq .nil (.meet false ⟨kS [0,1,5,6,7] [(8,.sl (.one (.own 101003)))],lO [(50000,.ob q53)] (kO [100001,7] [(101003,.ob q55),(100002,.keep)])⟩ (.loop ⟨kS [0,1,5,6,7] [(8,.sl (.one (.own 101003))),(9,.sl q7)],lO [(50000,.ob q53)] (kO [100001,7] [(101003,.ob q55),(100002,.keep)])⟩ (.seq j0 (.seq (.seq (.seq (.seq .nil (.meet false ⟨kS [0,1,5,6,7,8,9] [],lO [(50000,.ob q53)] (kO [100001,7,101003,100002] [])⟩ .nil)) .nil) .nil) .nil))))) (.seq .nil (.seq .nil (.seq (.seq .nil (.seq (.seq .nil (.meet false ⟨kS [0,1,5,6,7] [],lO [(50000,.ob (.box [q13,Na,(.own 110003),q0,q0]))] (kO [100001,7] [(110003,.ob q48),(101003,.keep)])⟩ (.seq (.seq (.seq .nil (.meet false j11 .nil)) .nil) (.seq (.seq .nil (.meet false ⟨kS [0,1,5,6,7,10] [(80,.sl q2)],kO [50000,100001,7,100002,101003] []⟩ .nil)) (.meet false j11 (.seq (.seq .nil (.meet false j11 (.seq .nil (.seq (.meet false ⟨kS [0,1,5,6,7] [(108,.sl q2)],kO [50000,100001,7,100002,101003] []⟩ .nil) (.meet false j11 .nil))))) .nil)))))) .nil)) j0)))))) .nil) .nil))))) .nil)))
def am_:cZ:={ aZ:=2,pin:=⟨[(0,VJ),(1,(.one (.fn 84 [])))],[]⟩,aT:=⟨[(0,q7)],[]⟩,cu:=1,bD:=[],aV:=[] }
def ana:fQ:=(.seq .nil (.seq (.seq .nil (.meet true ⟨[],[]⟩ (.loop ⟨kS [0,1,7] [(8,.sl q7)],[]⟩ (.seq .nil (.seq .nil j38))))) .nil))
def anb:cZ:={ aZ:=3,pin:=⟨[(0,q35),(1,q16),(2,q49)],[]⟩,aT:=⟨[(0,q7)],[]⟩,cu:=1,bD:=[],aV:=[] }
def anc:fQ:=(.seq .nil (.seq (.seq (.meet false ⟨kS [3,4,5] [(48,.sl q2)],kO [3,4,5] []⟩ .nil) j0) (.seq .nil (.seq (.seq .nil (.seq .nil (.meet false ⟨kS [3,4,5] [(7,.sl (.one (.own 101003)))],kO [3,4,5] [(101003,.ob q10)]⟩ .nil))) (.seq (.seq .nil (.meet true ⟨kS [3,5] [],kO [3,5] []⟩ (.loop ⟨kS [3,4,5,7] [(10,.sl q7)],kO [3,4,5,101003] []⟩ (.seq j0 (.seq (.seq (.seq (.meet false ⟨kS [3,4,5,7,10] [(80,.sl q2)],kO [3,4,5,101003] []⟩ .nil) j0) .nil) .nil))))) (.seq (.seq .nil (.seq (.seq (.seq .nil (.meet false ⟨kS [3,5,82] [(83,.sl q2)],kO [3,5] []⟩ .nil)) (.meet true ⟨[],[]⟩ (.seq j1 (.seq (.seq .nil (.meet false ⟨kS [3,5,82] [(91,.sl q2)],kO [3,5] []⟩ .nil)) (.meet true ⟨[],[]⟩ (.seq j1 (.seq .nil (.meet true ⟨[],[]⟩ (.seq (.seq (.seq (.meet false ⟨kS [3,5] [(111,.sl q2)],kO [3,5] []⟩ .nil) j0) j1) (.seq .nil (.meet true ⟨[],[]⟩ (.seq j1 (.seq .nil (.meet true ⟨[],[]⟩ (.seq (.seq (.meet false ⟨[(140,.sl q2)],[]⟩ .nil) j0) (.seq .nil (.meet true ⟨[],[]⟩ (.seq (.seq (.meet false ⟨[(152,.sl q2)],[]⟩ .nil) j0) .nil)))))))))))))))))) .nil)) .nil))))))
def ane:cZ:={ aZ:=1,pin:=⟨[(0,xq)],[(50000,XY),(50001,J_),(50002,q24),(50003,Nb),(50004,wS)]⟩,aT:=⟨[(0,(.one KG)),(1,q2)],[(50000,q41),(50001,q4),(50002,q24),(50003,Nb),(50004,wS)]⟩,cu:=2,bD:=[50000,50001,50002,50003,50004],aV:=[],kept:=[50002,50003,50004] }
def anf:fQ:=(.seq .nil (.seq .nil (.seq (.seq .nil (.meet true ⟨[],kO [50000,50001,50002,50003,50004] []⟩ (.loop ⟨kS [0,4] [(5,.sl q7)],kO [50000,50001,50002,50003,50004,8] []⟩ (.seq j0 (.seq (.seq (.seq .nil (.seq (.seq .nil (.meet false ⟨kS [0,4,5] [(6,.sl q2)],kO [50000,50001,50002,50003,50004,8] []⟩ (.loop ⟨kS [0,4,5] [(6,.sl q2),(7,.sl q7)],kO [50000,50001,50002,50003,50004,8] []⟩ (.seq j0 (.seq (.seq (.meet false ⟨kS [0,4,5] [(6,.sl q2),(7,.keep)],kO [50000,50001,50002,50003,50004,8] []⟩ .nil) .nil) .nil))))) j1)) .nil) .nil))))) .nil)))
def ah4:cZ:={ aZ:=2,pin:=⟨[(0,xq),(1,tJ)],[(50000,XY),(50001,J_),(50002,q24),(50003,Nb),(50004,wS)]⟩,aT:=⟨[(0,(.agg [q0,q0,q0,q0,KG,(.p false true (.sl (.st 16)))]))],[(50000,q41),(50001,q4),(50002,q24),(50003,Nb),(50004,wS)]⟩,cu:=1,bD:=[50000,50001,50002,50003,50004],aV:=[],kept:=[50002,50003,50004] }
def ang:fQ:=(.seq .nil (.seq .nil (.seq (.seq (.meet false ⟨kS [0,1,4,5] [(18,.sl q2)],lO [(50000,.keep),(50001,.ob J_)] (kO [50002,50003,50004,4] [])⟩ .nil) j0) (.seq (.seq .nil (.seq (.seq .nil (.seq .nil (.seq .nil (.seq .nil (.seq .nil (.seq .nil (.seq (.seq .nil (.meet false ⟨kS [0,1,4,5,22] [(58,.sl q2)],kO [50000,50001,50002,50003,50004,4] []⟩ .nil)) (.seq .nil (.seq .nil (.meet true ⟨kS [0,1,4,5] [],lO [(50000,.ob XY),(50001,.ob q4)] (kO [50002,50003,50004,4] [])⟩ (.seq j12 .nil))))))))))) .nil)) .nil))))
def ah5:cZ:={ aZ:=2,pin:=⟨[(0,xq),(1,tJ)],[(50000,XY),(50001,J_),(50002,q24),(50003,Nb),(50004,wS)]⟩,aT:=⟨[(0,(.agg [q0,q0,q0,q0,KG,(.own 60005)]))],[(50000,q41),(50001,q4),(50002,q24),(50003,Nb),(50004,wS),(60005,q62)]⟩,cu:=1,bD:=[50000,50001,50002,50003,50004],aV:=[60005],kept:=[50002,50003,50004] }
def anh:fQ:=(.seq .nil (.seq .nil (.seq .nil (.seq .nil (.seq (.seq (.meet false ⟨kS [0,1,4,5,6,7] [(46,.sl q2)],lO [(50000,.keep),(50001,.ob q4)] (kO [50002,50003,50004,4,5] [])⟩ .nil) (.meet false ⟨kS [0,1,4,5] [(6,.sl q7),(7,.keep)],lO [(50000,.keep),(50001,.ob q4)] (kO [50002,50003,50004,4,5] [])⟩ .nil)) (.seq .nil (.seq (.seq .nil (.meet false ⟨kS [0,1,4,5,7] [(8,.sl (.one (.own 102007)))],lO [(50000,.ob XY),(50001,.ob q4)] (kO [50002,50003,50004,4,5] [(102007,.ob q62)])⟩ (.loop ⟨kS [0,1,4,5,6,7] [(8,.sl (.one (.own 102007))),(9,.sl q7)],lO [(50000,.ob XY),(50001,.ob q4)] (kO [50002,50003,50004,4,5] [(102007,.ob q62)])⟩ (.seq j0 j0)))) (.seq j1 (.seq .nil (.seq (.seq .nil (.meet false ⟨kS [4,8,10] [],lO [(50000,.ob XY),(50001,.ob q4)] (kO [50002,50003,50004,4,102007] [(10,.ob (.box [q0,q0,q0,q0,(.p false true .str),(.p false true (.sl (.st 16)))]))])⟩ .nil)) j3))))))))))
def ah6:cZ:={ aZ:=3,pin:=⟨[(0,xq),(1,tJ),(2,tJ)],[(50000,XY),(50001,J_),(50002,q24),(50003,Nb),(50004,wS)]⟩,aT:=⟨[(0,(.one (.own 100004)))],[(50000,(.box [(.box 50001 0),(.own 50002),(.own 50003),(.own 100005),q0])),(50001,q4),(50002,q24),(50003,Nb),(100004,q47),(100005,wS)]⟩,cu:=1,bD:=[50000,50001,50002,50003],aV:=[100004,100005],kept:=[50002,50003] }
def ani:fQ:=(.seq .nil (.seq .nil (.seq (.seq .nil (.meet false ⟨[(7,.sl (.one (.own 100004)))],lO [(50000,.ob q76),(50001,.ob J_)] (kO [50002,50003] [(100004,.ob q47),(100005,.ob wS)])⟩ (.loop ⟨kS [0,1,2] [(7,.sl (.one (.own 100004))),(8,.sl q7)],lO [(50000,.ob q76),(50001,.ob J_)] (kO [50002,50003] [(100004,.ob q47),(100005,.ob wS)])⟩ (.seq (.seq (.meet false ⟨kS [0,1,2,7,8] [(18,.sl q2)],kO [50000,50001,50002,50003,100004,100005] []⟩ .nil) .nil) j7)))) .nil)))
def ah7:cZ:={ aZ:=2,pin:=⟨[(0,xq),(1,tJ)],[(50000,XY),(50001,J_),(50002,q24),(50003,Nb),(50004,wS)]⟩,aT:=⟨[(0,(.agg [q0,q0,KG,(.own 60004),(.own 60005),(.own 60006)]))],[(50000,(.box [(.box 50001 0),(.own 50002),(.own 50003),(.own 60007),q0])),(50001,q4),(50002,q24),(50003,Nb),(60004,q62),(60005,q47),(60006,q47),(60007,wS)]⟩,cu:=1,bD:=[50000,50001,50002,50003],aV:=[60004,60005,60006,60007],kept:=[50002,50003] }
def anj:fQ:=(.seq .nil (.seq .nil (.seq (.seq .nil (.seq (.seq (.seq .nil (.meet false ⟨kS [0,1,4,5,19] [(20,.sl q2)],kO [50000,50001,50002,50003,4,50004] []⟩ .nil)) (.meet true j9 (.seq j49 (.seq .nil (.meet true j9 (.seq j1 (.seq .nil (.meet true j9 (.seq j12 (.seq .nil (.meet true j9 (.seq j12 (.seq (.seq .nil (.meet false ⟨kS [0,1,4,5,19] [(95,.sl q2)],kO [50000,50001,50002,50003,4,50004] []⟩ .nil)) (.meet true j44 (.seq (.seq .nil (.seq (.seq .nil (.seq .nil (.seq (.seq .nil (.meet false ⟨kS [4,13] [],lO [(50000,.ob (.box [(.box 50001 0),(.own 50002),(.own 50003),(.own 102006),q0])),(50001,.ob q4)] (kO [50002,50003,4] (lO [(13,.ob (.box [q0,q0,KG,(.own 102),(.own 109),(.own 102009)])),(102006,.ob wS)] (kO [102,109] [(102009,.ob q47)])))⟩ .nil)) .nil))) .nil)) (.seq .nil (.meet true j44 (.seq j1 (.seq .nil (.seq j3 .nil)))))))))))))))))))) .nil)) .nil)))
def ah8:cZ:={ aZ:=2,pin:=⟨[(0,xq),(1,tJ)],[(50000,XY),(50001,J_),(50002,q24),(50003,Nb),(50004,wS)]⟩,aT:=⟨[(0,(.agg [q0,q0,KG,(.own 60004),(.own 60005),.dF]))],[(50000,(.box [(.box 50001 0),(.own 50002),(.own 50003),(.own 60006),q0])),(50001,q4),(50002,q24),(50003,Nb),(60004,q62),(60005,q47),(60006,wS)]⟩,cu:=1,bD:=[50000,50001,50002,50003],aV:=[60004,60005,60006],kept:=[50002,50003] }
def ank:fQ:=(.seq .nil (.seq .nil (.seq (.seq (.meet false ⟨kS [0,1,4,5,6] [(28,.sl q2)],lO [(50000,.keep),(50001,.ob q4)] (kO [50002,50003,4,50004] [])⟩ .nil) (.meet false ⟨kS [0,1,4] [(5,.sl (.one (.p false true .str))),(6,.sl q2)],lO [(50000,.keep),(50001,.ob q4)] (kO [50002,50003,4,50004] [])⟩ .nil)) (.seq (.seq (.meet false ⟨kS [0,1,4,5] [(54,.sl q2)],lO [(50000,.keep),(50001,.ob q4)] (kO [50002,50003,4,50004] [])⟩ .nil) j3) j29))))
def arv:cZ:={ aZ:=1,pin:=⟨[(0,q16)],[]⟩,aT:=⟨[(0,(.agg [KG,q0,q0,(.own 103005)]))],[(103005,q65)]⟩,cu:=1,bD:=[],aV:=[103005] }
def arw:fQ:=(.seq .nil (.seq .nil (.seq .nil (.seq .nil (.seq (.seq .nil (.meet false ⟨kS [1,2,3,4] [],kO [1,2,11] [(14,.ob q6)]⟩ (.loop ⟨kS [1,2,3,4] [(5,.sl q7),(6,.sl q7)],kO [1,2,11] [(14,.ob q6)]⟩ (.seq j0 (.seq (.seq (.seq .nil (.seq .nil (.meet false ⟨kS [1,2,3,4] [(5,.sl q7),(6,.keep)],kO [1,2,11,14] []⟩ .nil))) .nil) .nil))))) (.seq .nil (.seq .nil (.seq (.seq .nil (.meet false ⟨kS [2,7] [],[(2,.keep),(7,.ob (.box [VI,q1,q1,(.own 103005)])),(103005,.ob q65)]⟩ (.loop ⟨kS [1,2,3,4,7] [(8,.sl q7)],kO [1,2,11,14] [(7,.ob (.box [VI,q1,q1,(.own 103005)])),(103005,.ob q65)]⟩ (.seq j0 (.seq (.meet false ⟨kS [1,2,3,4,7,8] [],kO [1,2,11,14] [(7,.ob (.box [VI,q1,q1,(.own 106005)])),(106005,.ob q65)]⟩ (.seq j0 (.seq .nil (.seq j26 (.seq j26 .nil))))) .nil))))) .nil))))))))
def arx:cZ:={ aZ:=1,pin:=⟨[(0,xq)],[(50000,J_)]⟩,aT:=⟨[(0,(.agg [(.own 19),(.own 100004),q0,q0]))],[(50000,q4),(19,q51),(100004,q30)]⟩,cu:=1,bD:=[50000],aV:=[19,100004] }
def arz:fQ:=(.seq .nil (.seq .nil (.seq .nil (.seq (.seq .nil (.meet false ⟨kS [0,2,3,4] [],[(50000,.ob q4),(2,.keep),(3,.ob (.box [(.own 19),(.own 100004),q0,q0])),(19,.keep),(100004,.ob q30)]⟩ (.loop ⟨kS [0,2,3,4] [(5,.sl q7)],[(50000,.ob q4),(2,.keep),(3,.ob (.box [(.own 19),(.own 100004),q0,q0])),(19,.keep),(100004,.ob q30)]⟩ (.seq j0 (.seq (.seq (.seq .nil (.seq (.seq .nil (.meet false ⟨kS [0,2,3,4,5,6] [],lO [(50000,.ob q4)] (kO [2,3] (lO [(6,.ob (.box [KG,q0,q0,.dF]))] (kO [19,100004] [])))⟩ .nil)) .nil)) .nil) .nil))))) (.seq .nil (.seq (.seq .nil (.meet false ⟨kS [2,3] [],lO [(50000,.ob q4)] (kO [2,3,19] [(100004,.ob q30)])⟩ (.loop ⟨kS [0,2,3,4] [(7,.sl q7)],lO [(50000,.ob q4)] (kO [2,3,19] [(100004,.ob q30)])⟩ (.seq j0 (.seq (.seq (.seq .nil (.seq (.seq .nil (.meet false j30 (.loop ⟨kS [0,2,3,4,7,8] [(9,.sl q7)],lO [(50000,.ob q4)] (kO [2,3] [(100004,.ob q30),(19,.keep)])⟩ (.seq j0 (.seq (.seq (.seq .nil (.seq (.seq .nil (.meet false ⟨kS [0,2,3,4,7,8,9,10] [],lO [(50000,.ob q4)] (kO [2,3] [(100004,.ob q30),(10,.ob (.box [(.own 105006),q0,q0,q0,q0,q0,q0,q0])),(19,.keep),(105006,.ob q64)])⟩ (.loop ⟨kS [0,2,3,4,7,8,9,10] [(11,.sl q7)],lO [(50000,.ob q4)] (kO [2,3] [(100004,.ob q30),(10,.ob (.box [(.own 105006),q0,q0,q0,q0,q0,q0,q0])),(19,.keep),(105006,.ob q64)])⟩ (.seq j0 j0)))) .nil)) .nil) .nil))))) (.seq (.seq .nil (.meet false j30 (.loop ⟨kS [0,2,3,4,7,8] [(12,.sl q7)],lO [(50000,.ob q4)] (kO [2,3] [(100004,.ob q30),(19,.keep)])⟩ (.seq j0 j7)))) .nil))) .nil) .nil))))) .nil))))))
def anl:TypeId->Option Ty:=fun t=>(([(1000028,(.prod (.st 3) .bool)),(3000140,.bool),(3000133,.bool),(3000113,.bool),(3000078,.bool)]:List (Nat×Ty))++AX).lookup t
def arA:cZ:={ aZ:=1,pin:=⟨[(0,q8)],[]⟩,aT:=⟨[(0,q7)],[]⟩,cu:=1,bD:=[],aV:=[] }
def arB:fQ:=(.seq .nil (.seq (.seq (.meet false ⟨[(1,.keep),(21,.sl q2)],[(1,.keep)]⟩ .nil) j0) (.seq j1 j3)))
def arC:cZ:={ aZ:=1,pin:=⟨[(0,q38)],[]⟩,aT:=⟨[(0,(.agg [(.own 60000),(.own 60001)])),(1,q7),(2,q7)],[(60000,(.arr false true false (.st 10))),(60001,q82)]⟩,cu:=3,bD:=[],aV:=[60000,60001] }
def arD:fQ:=(.seq .nil (.seq (.seq (.meet false ⟨kS [1,2] [(20,.sl q2)],kO [1,2] []⟩ .nil) j0) (.seq (.seq (.meet false ⟨kS [1,2] [(42,.sl q2)],kO [1,2] []⟩ .nil) j0) (.seq (.seq .nil (.meet true ⟨kS [1,2] [],kO [1,2] []⟩ (.loop ⟨kS [1,2] [(5,.sl q7)],kO [1,2] []⟩ j14))) (.seq (.seq .nil (.meet true ⟨kS [1,2] [],kO [1,2] []⟩ (.loop ⟨kS [1,2] [(6,.sl q7)],kO [1,2] []⟩ (.seq j0 (.seq (.seq (.seq (.meet false ⟨kS [1,2,6] [(89,.sl q2)],kO [1,2] []⟩ .nil) j0) .nil) .nil))))) (.seq .nil (.seq (.seq .nil (.meet true ⟨[(2,.keep)],[(2,.ob (.box [(.own 99),(.own 107003)])),(99,.keep),(107003,.ob q82)]⟩ (.loop ⟨kS [1,2] [(7,.sl q7)],[(1,.keep),(2,.ob (.box [(.own 99),(.own 107003)])),(99,.keep),(107003,.ob q82)]⟩ (.seq j0 (.seq (.seq (.seq .nil (.seq (.seq (.meet false ⟨kS [1,2,7,8] [(128,.sl q2)],kO [1,2,8,99,107003] []⟩ .nil) j0) (.seq (.seq .nil (.meet true ⟨kS [1,2,7,8] [],kO [1,2,8,99,107003] []⟩ (.loop ⟨kS [1,2,7,8] [(9,.sl q7)],kO [1,2,8,99,107003] []⟩ (.seq j0 (.seq (.seq (.seq (.meet false ⟨kS [1,2,7,8,9] [(158,.sl q2)],kO [1,2,8,99,107003] []⟩ .nil) j0) .nil) .nil))))) j49))) .nil) .nil))))) .nil)))))))
def arE:cZ:={ aZ:=1,pin:=⟨[(0,xq)],[(50000,J_)]⟩,aT:=⟨[(0,(.agg [(.own 103003),(.own 105004)]))],[(50000,q4),(103003,q24),(105004,Nb)]⟩,cu:=1,bD:=[50000],aV:=[103003,105004] }
def arF:fQ:=(.seq .nil (.seq (.meet false ⟨kS [0,2] [(3,.sl (.one (.box 12 0)))],kO [50000,2] [(12,.ob (.box [(.box 50000 0),(.own 100700),(.own 100701),(.own 100702),q0])),(100700,.ob q51),(100701,.ob q81),(100702,.ob q67)]⟩ .nil) (.seq (.seq .nil (.meet false ⟨kS [0,2,3] [],kO [50000,2] (lO [(12,.ob q71),(101003,.ob q51)] (kO [100701,100702] []))⟩ (.loop ⟨kS [0,2,3] [(4,.sl q7)],kO [50000,2] (lO [(12,.ob q71),(101003,.ob q51)] (kO [100701,100702] []))⟩ (.seq j0 j0)))) (.seq (.seq .nil (.meet false ⟨kS [0,2,3] [],lO [(50000,.ob q4),(2,.keep),(12,.ob q72),(103003,.ob q51)] (kO [100701,100702] [])⟩ (.loop ⟨kS [0,2,3] [(5,.sl q7)],lO [(50000,.ob q4),(2,.keep),(12,.ob q72),(103003,.ob q51)] (kO [100701,100702] [])⟩ (.seq j0 j0)))) (.seq .nil (.seq (.seq .nil (.meet false ⟨kS [0,2,3] [],[(50000,.ob q4),(2,.keep),(12,.ob q73),(103003,.keep),(105004,.ob q81),(100702,.keep)]⟩ (.loop ⟨kS [0,2,3] [(6,.sl q7)],[(50000,.ob q4),(2,.keep),(12,.ob q73),(103003,.keep),(105004,.ob q81),(100702,.keep)]⟩ (.seq j0 (.seq (.seq (.seq .nil (.seq (.seq .nil (.meet false ⟨kS [0,2,3,6,7] [],kO [50000,2,12] (lO [(7,.ob (.box [KG,q0,(.own 106007),.dF]))] (kO [103003,105004,100702] [(106007,.ob q67)]))⟩ (.loop ⟨kS [0,2,3,6,7] [(8,.sl q7)],kO [50000,2,12] (lO [(7,.ob (.box [KG,q0,(.own 106007),.dF]))] (kO [103003,105004,100702] [(106007,.ob q67)]))⟩ (.seq j0 j0)))) .nil)) .nil) .nil))))) (.seq (.seq .nil (.meet false ⟨kS [2,3] [],[(50000,.ob q4),(2,.keep),(12,.ob q74),(103003,.ob q24),(105004,.ob Nb),(109005,.ob wS)]⟩ (.loop ⟨kS [0,2,3] [(9,.sl q7)],[(50000,.ob q4),(2,.keep),(12,.ob q74),(103003,.ob q24),(105004,.ob Nb),(109005,.ob wS)]⟩ (.seq j0 (.seq j7 .nil))))) .nil)))))))
def arG:cZ:={ aZ:=2,pin:=⟨[(0,VJ),(1,(.one (.fn 84 [])))],[]⟩,aT:=⟨[(0,q2)],[]⟩,cu:=1,bD:=[],aV:=[] }
def arH:fQ:=j0
def arI:cZ:={ aZ:=2,pin:=⟨[(0,q35),(1,q16)],[]⟩,aT:=⟨[(0,q7)],[]⟩,cu:=1,bD:=[],aV:=[] }
def arJ:fQ:=(.seq .nil (.seq (.seq (.meet false ⟨kS [2,3] [(25,.sl q2)],kO [2,3] []⟩ .nil) j0) (.seq (.seq (.meet false ⟨kS [2,3] [(45,.sl q2)],kO [2,3] []⟩ .nil) j0) (.seq (.seq .nil (.meet true ⟨[(3,.keep)],[(3,.keep)]⟩ (.loop ⟨kS [2,3] [(5,.sl q7)],kO [2,3] []⟩ (.seq j0 (.seq (.seq (.seq (.seq .nil (.meet true ⟨kS [2,3,5] [],kO [2,3] []⟩ (.loop ⟨kS [2,3,5] [(6,.sl q7)],kO [2,3] []⟩ (.seq j0 j38)))) j12) .nil) .nil))))) (.seq .nil (.seq (.seq .nil (.meet true ⟨[],[]⟩ (.loop ⟨[(9,.keep),(10,.sl q7)],[(91,.keep)]⟩ j14))) .nil))))))
def arK:cZ:={ aZ:=1,pin:=⟨[(0,xq)],[(50000,J_)]⟩,aT:=⟨[(0,(.agg [KG,q0,q0,(.own 53)]))],[(50000,q4),(53,q83)]⟩,cu:=1,bD:=[50000],aV:=[53] }
def arL:fQ:=(.seq .nil (.seq .nil (.seq .nil (.seq (.seq .nil (.meet false ⟨kS [2,3] [],[(50000,.ob q4),(2,.keep),(3,.ob (.box [KG,q0,q0,(.own 100003)])),(100003,.ob q83)]⟩ (.loop ⟨kS [0,2,3,4] [(5,.sl q7)],[(50000,.ob q4),(2,.keep),(3,.ob (.box [KG,q0,q0,(.own 100003)])),(100003,.ob q83)]⟩ (.seq j0 (.seq (.seq (.seq .nil (.seq (.seq .nil (.meet false ⟨kS [0,2,3,4,5,6] [],lO [(50000,.ob q4)] (kO [2,3] [(6,.ob (.box [(.own 101005),q0,q0,q0,q0,q0,q0,q0])),(100003,.keep),(101005,.ob q64)])⟩ (.loop ⟨kS [0,2,3,4,5,6] [(7,.sl q7)],lO [(50000,.ob q4)] (kO [2,3] [(6,.ob (.box [(.own 101005),q0,q0,q0,q0,q0,q0,q0])),(100003,.keep),(101005,.ob q64)])⟩ (.seq j0 j0)))) .nil)) .nil) .nil))))) .nil))))
def arM:cZ:={ aZ:=1,pin:=⟨[(0,q8)],[]⟩,aT:=⟨[(0,q60),(1,q7)],[(60000,q23)]⟩,cu:=2,bD:=[],aV:=[60000] }
def arN:fQ:=(.seq .nil (.seq j12 (.seq .nil (.seq (.seq .nil (.meet false ⟨[(1,.keep),(5,.sl tJ)],[(1,.keep)]⟩ .nil)) (.seq .nil (.seq .nil (.seq (.seq .nil (.meet false ⟨[(6,.sl q57)],[(101001,.ob q23)]⟩ (.loop ⟨[(1,.keep),(6,.sl q57),(7,.keep),(8,.sl q7)],[(1,.keep),(101001,.ob q23)]⟩ (.seq j0 (.seq (.seq (.seq .nil (.seq (.seq .nil (.meet false ⟨lS [(1,.keep),(6,.sl (.one (.own 108001)))] (kS [7,8] []),[(1,.keep),(108001,.ob q23)]⟩ (.seq .nil (.seq .nil (.meet false ⟨lS [(1,.keep),(6,.sl (.one (.own 107001)))] (kS [7,8] []),[(1,.keep),(107001,.ob q23)]⟩ (.seq .nil (.seq .nil (.meet false ⟨lS [(1,.keep),(6,.sl (.one (.own 106001)))] (kS [7,8] []),[(1,.keep),(106001,.ob q23)]⟩ (.seq .nil (.seq .nil (.meet false ⟨lS [(1,.keep),(6,.sl (.one (.own 105001)))] (kS [7,8] []),[(1,.keep),(105001,.ob q23)]⟩ (.seq .nil (.seq .nil (.meet false ⟨lS [(1,.keep),(6,.sl (.one (.own 104001)))] (kS [7,8] []),[(1,.keep),(104001,.ob q23)]⟩ (.seq (.seq .nil (.seq .nil (.meet false ⟨lS [(1,.keep),(6,.sl q75)] (kS [7,8] []),[(1,.keep),(102001,.ob q23)]⟩ (.loop ⟨lS [(1,.keep),(6,.sl q75)] (kS [7,8] [(9,.sl q7)]),[(1,.keep),(102001,.ob q23)]⟩ (.seq j0 j0))))) .nil))))))))))))))) .nil)) .nil) .nil))))) .nil)))))))
def arO:cZ:={ aZ:=1,pin:=⟨[(0,xq)],[(50000,J_)]⟩,aT:=⟨[(0,(.agg [(.own 9),(.own 1009)]))],[(50000,q4),(9,q24),(1009,Nb)]⟩,cu:=1,bD:=[50000],aV:=[9,1009] }
def arP:fQ:=j1
def arQ:cZ:={ aZ:=1,pin:=⟨[(0,q8)],[]⟩,aT:=⟨[(0,q7)],[]⟩,cu:=1,bD:=[],aV:=[] }
def arR:fQ:=(.seq .nil (.seq j1 (.seq .nil (.seq (.seq (.meet false ⟨[(1,.keep),(30,.sl q2)],[(1,.keep)]⟩ .nil) j0) j3))))
def arS:cZ:={ aZ:=1,pin:=⟨[(0,q35)],[]⟩,aT:=⟨[(0,q7)],[]⟩,cu:=1,bD:=[],aV:=[] }
def arT:fQ:=(.seq .nil (.seq (.seq (.meet false ⟨[(1,.keep),(31,.sl q2)],[(1,.keep)]⟩ .nil) j0) (.seq (.seq .nil (.meet true ⟨[(1,.keep)],[(1,.keep)]⟩ (.loop ⟨[(1,.keep),(3,.sl q7)],[(1,.keep)]⟩ (.seq j0 (.seq (.seq (.seq (.meet false ⟨kS [1,3] [(54,.sl q2)],[(1,.keep)]⟩ .nil) j0) .nil) .nil))))) (.seq (.seq (.meet false ⟨[(1,.keep),(65,.sl q2)],[(1,.keep)]⟩ .nil) j0) (.seq j1 (.seq (.seq .nil (.meet true ⟨[],[]⟩ (.loop ⟨[(1,.keep),(4,.sl q7)],[(1,.keep)]⟩ (.seq j0 j38)))) .nil))))))
def arU:cZ:={ aZ:=1,pin:=⟨[(0,q8)],[]⟩,aT:=⟨[(0,q7)],[]⟩,cu:=1,bD:=[],aV:=[] }
def arV:fQ:=j1
def arW:cZ:={ aZ:=1,pin:=⟨[(0,q8)],[]⟩,aT:=⟨[(0,q7)],[]⟩,cu:=1,bD:=[],aV:=[] }
def arX:fQ:=j1
def arY:cZ:={ aZ:=1,pin:=⟨[(0,q8)],[]⟩,aT:=⟨[(0,q60),(1,q7)],[(60000,q23)]⟩,cu:=2,bD:=[],aV:=[60000] }
def arZ:fQ:=(.seq .nil (.seq j12 (.seq .nil (.seq (.seq .nil (.meet false ⟨kS [1,5] [],[(1,.keep),(18,.ob q23)]⟩ .nil)) (.seq (.seq .nil (.meet false ⟨[(5,.sl q57)],[(101001,.ob q23)]⟩ (.loop ⟨[(1,.keep),(5,.sl q57),(30,.keep)],[(1,.keep),(101001,.ob q23),(30,.ob .it)]⟩ (.seq .nil (.seq .nil (.seq (.seq .nil (.seq .nil (.seq (.seq .nil (.meet false ⟨[(1,.keep),(5,.sl (.one (.own 109001))),(30,.keep)],[(1,.keep),(109001,.ob q23),(30,.keep)]⟩ (.seq .nil (.seq .nil (.meet false ⟨[(1,.keep),(5,.sl (.one (.own 108001))),(30,.keep)],[(1,.keep),(108001,.ob q23),(30,.keep)]⟩ (.seq .nil (.seq .nil (.meet false ⟨[(1,.keep),(5,.sl (.one (.own 107001))),(30,.keep)],[(1,.keep),(107001,.ob q23),(30,.keep)]⟩ (.seq .nil (.seq .nil (.meet false ⟨[(1,.keep),(5,.sl (.one (.own 106001))),(30,.keep)],[(1,.keep),(106001,.ob q23),(30,.keep)]⟩ (.seq .nil (.seq .nil (.meet false ⟨[(1,.keep),(5,.sl (.one (.own 105001))),(30,.keep)],[(1,.keep),(105001,.ob q23),(30,.keep)]⟩ (.seq .nil (.seq .nil (.meet false ⟨[(1,.keep),(5,.sl (.one (.own 104001))),(30,.keep)],[(1,.keep),(104001,.ob q23),(30,.keep)]⟩ (.seq (.seq .nil (.seq .nil (.meet false ⟨[(1,.keep),(5,.sl q75),(30,.keep)],[(1,.keep),(102001,.ob q23),(30,.keep)]⟩ (.loop ⟨lS [(1,.keep),(5,.sl q75)] (kS [30,83,84] [(85,.sl q7)]),[(1,.keep),(102001,.ob q23),(30,.keep)]⟩ j15)))) .nil)))))))))))))))))) .nil))) .nil)))))) .nil)))))
def ar0:cZ:={ aZ:=1,pin:=⟨[(0,q38)],[]⟩,aT:=⟨[(0,(.agg [(.own 60000),(.own 60001),q0,q0])),(1,q7)],[(60000,(.arr false true false (.st 10))),(60001,q85)]⟩,cu:=2,bD:=[],aV:=[60000,60001] }
def ar1:fQ:=(.seq .nil (.seq .nil (.seq (.seq .nil (.meet false ⟨kS [2,4] [],[(2,.keep),(4,.ob (.box [(.own 11),(.own 100004),q0,q0])),(11,.keep),(100004,.ob q85)]⟩ (.loop ⟨kS [1,2,4] [(5,.sl q7)],kO [1,2] [(4,.ob (.box [(.own 11),(.own 100004),q0,q0])),(11,.keep),(100004,.ob q85)]⟩ (.seq j0 (.seq (.seq (.seq .nil (.seq (.meet false ⟨kS [1,2,4,5,6] [(7,.sl (.one (.box 33 0)))],kO [1,2,4,6] (lO [(33,.ob (.box [(.p true false (.sl (.st 10))),(.p true false (.sl (.st 14))),q70,q0,q0,(.own 101700),q0]))] (kO [11,100004] [(101700,.ob (.aO false false (.st 3) [(0,(.st 4))]))]))⟩ .nil) (.seq .nil (.seq .nil (.seq (.seq .nil (.meet false ⟨kS [1,2,4,5,6,7] [],kO [1,2,4,6] (lO [(33,.ob (.box [(.p true false (.sl (.st 10))),(.p true false (.sl (.st 14))),q70,q0,q0,(.own 49),q0]))] (kO [11,100004] [(49,.ob (.aO true false (.st 3) [(0,(.st 4))]))]))⟩ j3)) .nil))))) .nil) .nil))))) j3)))
def anm:TypeId->Option Ty:=fun t=>(([(1000057,(.prod (.st 0) .bool)),(3000082,.bool),(3000053,.bool),(3000038,.bool),(3000018,.bool),(3000013,.bool)]:List (Nat×Ty))++AX).lookup t
def ar2:cZ:={ aZ:=2,pin:=⟨[(0,q16),(1,VJ)],[]⟩,aT:=⟨[(0,q60),(1,(.one (.own 60001))),(2,q7)],[(60000,q56),(60001,q6)]⟩,cu:=3,bD:=[],aV:=[60000,60001] }
def ar4:fQ:=(.seq .nil (.seq j1 (.seq .nil (.seq .nil (.seq (.seq .nil (.meet false ⟨kS [1,4,5] [(7,.sl q37),(8,.keep)],[(100001,.ob q33),(28,.ob q6)]⟩ (.loop ⟨kS [1,2,4,5] [(7,.sl q37),(8,.keep),(9,.sl q7)],[(2,.keep),(100001,.ob q33),(28,.ob q6)]⟩ (.seq j0 (.seq (.seq (.seq .nil (.seq .nil (.seq (.seq .nil (.meet false ⟨kS [1,2,4,5] (lS [(7,.sl q57)] (kS [8,9,10] [])),lO [(2,.keep),(101001,.ob q33)] (kO [28,10] [])⟩ (.loop ⟨kS [1,2,4,5] (lS [(7,.sl q57)] (kS [8,9,10] [(11,.sl q7)])),lO [(2,.keep),(101001,.ob q33)] (kO [28,10] [])⟩ (.seq j0 j0)))) (.seq .nil (.seq (.seq .nil (.meet false ⟨kS [1,2,4,5,7,8,9,10] [(12,.sl tJ)],kO [2,101001,28,10] []⟩ .nil)) .nil))))) .nil) .nil))))) (.seq .nil (.seq (.seq .nil (.meet false ⟨kS [1,4,5,7,8,13] [],[(100001,.ob q33),(28,.keep),(87,.ob q6)]⟩ (.loop ⟨kS [1,4,5,7,8,13] [(14,.sl q2)],[(100001,.ob q33),(28,.keep),(87,.ob q6)]⟩ (.seq j0 (.seq (.seq .nil (.seq (.seq .nil (.meet false ⟨kS [1,4,5,7,8,13,14] [],kO [100001,28] [(87,.ob q6)]⟩ (.loop ⟨kS [1,4,5,7,8,13,14] [(15,.sl q7)],kO [100001,28] [(87,.ob q6)]⟩ (.seq j0 j0)))) (.seq .nil (.seq (.seq .nil (.meet false ⟨kS [1,4,5,7,8,13] [(14,.sl q2),(16,.keep)],lO [(100001,.ob q33)] (kO [28,87] [(112,.ob q39)])⟩ (.loop ⟨kS [1,4,5,7,8,13] [(14,.sl q2),(16,.keep),(17,.sl q7)],lO [(100001,.ob q33)] (kO [28,87] [(112,.ob q39)])⟩ (.seq j0 (.seq (.meet false ⟨kS [1,4,5,7,8,13] (lS [(14,.sl q2)] (kS [16,17] [])),lO [(100001,.ob q33)] (kO [28,87] [(112,.ob q39)])⟩ (.seq j0 (.seq .nil (.seq .nil (.seq (.meet false ⟨kS [1,4,5,7,8,13,14,16,17] [],kO [100001,28,87] [(112,.ob q39)]⟩ .nil) (.meet false ⟨kS [1,4,5,7,8,13] (lS [(14,.sl q2)] (kS [16,17] [])),kO [100001,28,87,112] []⟩ .nil)))))) .nil))))) (.seq .nil (.meet false ⟨kS [1,4,5,7,8,13,14] [],lO [(100001,.ob q33)] (kO [28,87] [])⟩ (.loop ⟨kS [1,4,5,7,8,13,14,16] [(19,.sl q7)],lO [(100001,.ob q33)] (kO [28,87,112] [])⟩ (.seq j0 (.seq (.seq (.meet false ⟨kS [1,4,5,7,8,13,14,16,19] [],lO [(100001,.ob q33)] (kO [28,87,112] [])⟩ .nil) .nil) .nil))))))))) .nil))))) (.seq (.seq .nil (.meet false ⟨lS [(1,.keep),(4,.sl (.one (.own 117000)))] (kS [5,8,13] []),lO [(117000,.ob q56)] (kO [28,87] [])⟩ (.loop ⟨lS [(1,.keep),(4,.sl (.one (.own 117000)))] (kS [5,7,8,13] [(20,.sl q7)]),lO [(117000,.ob q56)] (kO [100001,28,87] [])⟩ (.seq j0 j0)))) (.seq (.seq .nil (.meet false ⟨[(4,.keep),(5,.sl (.one (.own 119001)))],[(117000,.keep),(119001,.ob q6)]⟩ (.loop ⟨kS [1,4] (lS [(5,.sl (.one (.own 119001)))] (kS [8,13] [(21,.sl q7)])),lO [(117000,.keep),(119001,.ob q6)] (kO [28,87] [])⟩ (.seq j0 j0)))) .nil)))))))))
def ar5:cZ:={ aZ:=2,pin:=⟨[(0,q16),(1,VJ)],[]⟩,aT:=⟨[(0,q7)],[]⟩,cu:=1,bD:=[],aV:=[] }
def ar6:fQ:=(.seq .nil (.seq .nil (.seq .nil (.seq (.seq .nil (.meet false ⟨[(8,.sl q7)],[]⟩ (.loop ⟨[(5,.keep),(8,.sl q7),(9,.sl q7)],[(13,.keep)]⟩ (.seq j0 j0)))) .nil))))
def ar7:cZ:={ aZ:=1,pin:=⟨[(0,q8)],[]⟩,aT:=⟨[(0,q7)],[]⟩,cu:=1,bD:=[],aV:=[] }
def ar8:fQ:=j1
def ar9:cZ:={ aZ:=1,pin:=⟨[(0,xq)],[(50000,J_)]⟩,aT:=⟨[(0,(.agg [(.own 8),(.own 1008),q0,q0]))],[(50000,q4),(8,q24),(1008,(.arr false false true (.st 5)))]⟩,cu:=1,bD:=[50000],aV:=[8,1008] }
def ar_:fQ:=j1
def asa:cZ:={ aZ:=1,pin:=⟨[(0,xq)],[(50000,J_)]⟩,aT:=⟨[(0,(.agg [(.own 60001),(.p false true (.sl (.st 5))),q0,q0]))],[(50000,q4),(60001,q24)]⟩,cu:=1,bD:=[50000],aV:=[60001] }
def asb:fQ:=j32
def asc:cZ:={ aZ:=1,pin:=⟨[(0,(.one (.p true false (.sl (.st 12)))))],[]⟩,aT:=⟨[(0,XZ)],[(100000,q6)]⟩,cu:=1,bD:=[],aV:=[100000] }
def ase:fQ:=(.seq .nil (.seq .nil (.seq (.seq .nil (.meet false ⟨[(3,.sl XZ)],[(100000,.ob q6)]⟩ (.loop ⟨lS [(3,.sl XZ)] (kS [7,8] [(9,.sl q7)]),[(100000,.ob q6)]⟩ j15))) .nil)))
--HAND 34 Srt
def sg8:cZ:={ aZ:=1,pin:=⟨[(0,xq)],[(50000,J_)]⟩,aT:=⟨[(0,(.agg [KG,q0,q0,(.p false true (.sl (.st 3)))])),(1,(.one (.own 25)))],[(50000,q4),(25,q6)]⟩,cu:=2,bD:=[50000],aV:=[25] }
def an8:fQ:=(.seq .nil (.seq .nil (.seq (.seq .nil (.meet false ⟨kS [0,2,4] [],[(50000,.ob q4),(2,.keep),(4,.ob (.box [(.p false true .str),q3,q3,(.p false true (.sl (.st 3)))]))]⟩ j0)) .nil)))
def asf:cZ:={ aZ:=2,pin:=⟨[(0,q16),(1,VJ)],[]⟩,aT:=⟨[(0,q2)],[]⟩,cu:=1,bD:=[],aV:=[] }
def ash:fQ:=(.seq .nil (.seq (.seq j43 j0) j1))
def sg9:cZ:={ aZ:=2,pin:=⟨[(0,q16),(1,VJ)],[]⟩,aT:=⟨[(0,q60),(1,(.one (.own 60001))),(2,q7)],[(60000,q56),(60001,q6)]⟩,cu:=3,bD:=[],aV:=[60000,60001] }
def an9:fQ:=(.seq .nil (.seq j1 (.seq .nil (.seq .nil (.seq (.seq .nil (.meet false ⟨kS [4,5,7,8,9] [],kO [28,1028] [(34,.ob q6)]⟩ (.loop ⟨kS [4,5,7,8,9,35,36] [(37,.sl q7)],kO [28,1028] [(34,.ob q6)]⟩ j15))) (.seq .nil (.seq .nil (.seq (.meet false j27 (.loop j27 (.seq (.seq .nil (.seq (.seq .nil (.meet false ⟨kS [4,5,7,8,9,12] [(13,.sl q2)],lO [(28,.ob q34)] (kO [1028,34,102003] [])⟩ (.loop ⟨kS [4,5,7,8,9,12] (lS [(13,.sl q2)] (kS [52,53] [(54,.sl q7)])),lO [(28,.ob q34)] (kO [1028,34,102003] [])⟩ (.seq .nil (.seq .nil (.seq (.meet false j25 (.seq .nil (.seq (.seq (.meet false ⟨kS [4,5,7,8,9,12,13,14,15,52,53,54] [(66,.sl q68)],kO [28,1028,34,102003,15] []⟩ .nil) .nil) (.seq .nil (.seq (.meet false ⟨kS [4,5,7,8,9,12,13,14,52,53,54] [(86,.sl q2)],kO [28,1028,34,102003] []⟩ .nil) (.meet false j25 j0)))))) .nil)))))) j7)) .nil))) (.seq (.seq .nil (.meet false ⟨lS [(4,.sl (.one (.own 110000)))] (kS [5,8,12] []),lO [(110000,.ob q56)] (kO [1028,102003] [])⟩ (.loop ⟨lS [(4,.sl (.one (.own 110000)))] (kS [5,8,9,12,97,98] [(99,.sl q7)]),lO [(110000,.ob q56)] (kO [1028,34,102003,28] [])⟩ (.seq .nil (.seq .nil (.seq (.seq (.seq .nil (.seq (.seq .nil (.meet false ⟨kS [4,5,8,9,12,18,97,98,99] [],kO [110000,1028,34,102003] [(18,.ob (.box [q1,q1,q1,q1,q1,q1,(.p true false .bool),q20,q1])),(28,.keep)]⟩ .nil)) .nil)) .nil) .nil)))))) (.seq (.seq .nil (.meet false ⟨[(4,.keep),(5,.sl (.one (.own 113001)))],[(110000,.keep),(113001,.ob q6)]⟩ (.loop ⟨lS [(4,.keep),(5,.sl (.one (.own 113001)))] (kS [12,129,130] [(131,.sl q7)]),lO [(110000,.keep),(113001,.ob q6)] (kO [102003,1028] [])⟩ j15))) .nil))))))))))
def asi:cZ:={ aZ:=2,pin:=⟨[(0,q16),(1,VJ)],[]⟩,aT:=⟨[(0,q7)],[]⟩,cu:=1,bD:=[],aV:=[] }
def asj:fQ:=(.seq .nil (.seq .nil (.seq .nil (.seq (.seq .nil (.meet false ⟨[(8,.sl q7)],[]⟩ (.loop ⟨lS [(8,.sl q7)] (kS [18,19] [(20,.sl q7)]),[(14,.keep)]⟩ j15))) .nil))))
def sg6:cZ:={ aZ:=0,pin:=⟨[],[]⟩,aT:=⟨[(0,q2)],[]⟩,cu:=1,bD:=[],aV:=[] }
def an6:fQ:=(.seq .nil (.seq .nil (.seq .nil (.seq (.meet false ⟨[(0,.sl q2)],[]⟩ .nil) .nil))))
def sg4:cZ:={ aZ:=2,pin:=⟨[(0,(.one q54)),(1,VJ)],[]⟩,aT:=⟨[(0,q2)],[]⟩,cu:=1,bD:=[],aV:=[] }
def an4:fQ:=(.seq .nil (.seq (.seq (.meet false ⟨kS [0,1] [(23,.sl q2)],[]⟩ .nil) j0) (.seq .nil (.seq .nil (.seq .nil (.seq .nil (.seq (.seq .nil (.meet true ⟨[(6,.keep)],[(6,.keep)]⟩ (.loop ⟨kS [6,58,59] [(60,.sl q7)],kO [6,58] []⟩ (.seq .nil (.seq .nil (.seq (.seq (.seq .nil (.seq .nil (.seq .nil (.seq (.meet false ⟨kS [6,58,59,60] [(110,.sl q2)],kO [6,58] []⟩ .nil) j0)))) .nil) .nil)))))) .nil)))))))
end Go.Fg.YtapemkmlinejmaaGreatDoor

