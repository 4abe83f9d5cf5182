/-
  Shapes of the functions of the seat, printed by a program (wip/gen/Infer.lean).
-/
import Derived.Test.YtapemkmlinejmaaGreatDoorFwT
import Derived.Test.YtapemkmlinejmaaGreatDoorZd
namespace Go.Fg.YtapemkmlinejmaaGreatDoor
open Go.Fw Go.Proofs Go.Fw.YtapemkmlinejmaaGreatDoor
set_option linter.unusedVariables false
def Lc:List (List UInt8):=[([]:List UInt8),([100,56]:List UInt8),([100,97]:List UInt8),([111,100,97]:List UInt8),([111,100,97,98]:List UInt8),([100,49]:List UInt8),([97,49]:List UInt8),([100,97,49]:List UInt8),([97,98,49]:List UInt8),([100]:List UInt8),([97]:List UInt8),([100,52,110]:List UInt8),([100,97,110]:List UInt8),([106]:List UInt8),([97,106]:List UInt8),([97,106]:List UInt8),([97]:List UInt8),([50]:List UInt8),([100,49]:List UInt8)]
structure aO where
  kind:Int
  op:Int
  value:Int
  line:Int
  name:(List UInt8)
  args:(List aO)
def af6:aO:=aO.mk (0:Int) (0:Int) (0:Int) (0:Int) [] []
mutual
def r_:aO->List P
  |⟨y0,y1,y2,y3,y4,y5⟩=>[P.int .i64 y0,P.int .i64 y1,P.int .i64 y2,P.int .i64 y3,P.str ⟨List.toArray y4⟩,P.fO 6 (CZ y5)]
def CZ:List aO->List (List P)
  | []=>[]
  |x::l=>r_ x::CZ l
end
theorem FV :∀l,CZ l=List.map r_ l
  | []=>rfl
  |x::l=>by rw [CZ,FV l];rfl
theorem VG (x:aO):r_ x=[P.int .i64 (aO.kind x),P.int .i64 (aO.op x),P.int .i64 (aO.value x),P.int .i64 (aO.line x),P.str ⟨List.toArray (aO.name x)⟩,P.fO 6 (List.map r_ (aO.args x))]:=by
  cases x
  rw [r_]
  simp only [FV]
structure cu where
  kind:Int
  line:Int
  name:(List UInt8)
  exprs:(List aO)
  then':(List cu)
  else':(List cu)
def af7:cu:=cu.mk (0:Int) (0:Int) [] [] [] []
mutual
def su:cu->List P
  |⟨y0,y1,y2,y3,y4,y5⟩=>[P.int .i64 y0,P.int .i64 y1,P.str ⟨List.toArray y2⟩,P.fO 6 (List.map r_ y3),P.fO 6 (yN y4),P.fO 6 (yN y5)]
def yN:List cu->List (List P)
  | []=>[]
  |x::l=>su x::yN l
end
theorem FW :∀l,yN l=List.map su l
  | []=>rfl
  |x::l=>by rw [yN,FW l];rfl
theorem VH (x:cu):su x=[P.int .i64 (cu.kind x),P.int .i64 (cu.line x),P.str ⟨List.toArray (cu.name x)⟩,P.fO 6 (List.map r_ (cu.exprs x)),P.fO 6 (List.map su (cu.then' x)),P.fO 6 (List.map su (cu.else' x))]:=by
  cases x
  rw [su]
  simp only [FW]
structure ak where
  name:(List UInt8)
  line:Int
  params:(List (List UInt8))
  body:(List cu)
def af8:ak:=ak.mk [] (0:Int) [] []
def af9 (x:ak):List P:=[P.str ⟨List.toArray (ak.name x)⟩,P.int .i64 (ak.line x),P.fO 1 (List.map (fun (x:List UInt8)=>[P.str ⟨x.toArray⟩]) (ak.params x)),P.fO 6 (List.map su (ak.body x))]
structure lD where
  iJ:Int
  gU:Int
  jQ:Int
  pV:Int
  pW:Int
  iI:Int
  fB:Bool
  iD:(List Int)
  to:Int
def af_:lD:=lD.mk (0:Int) (0:Int) (0:Int) (0:Int) (0:Int) (0:Int) false [] (0:Int)
def aga (x:lD):List P:=[P.int .i64 (lD.iJ x),P.int .i64 (lD.gU x),P.int .i64 (lD.jQ x),P.int .i64 (lD.pV x),P.int .i64 (lD.pW x),P.int .i64 (lD.iI x),P.bool (lD.fB x),P.fO 1 (List.map (fun (x:Int)=>[P.int .i64 x]) (lD.iD x)),P.int .i64 (lD.to x)]
structure bM where
  iJ:Int
  gU:Int
  jQ:Int
  pV:Int
  pW:Int
  iI:Int
  fB:Bool
  iD:(List Int)
  to:Int
def agb:bM:=bM.mk (0:Int) (0:Int) (0:Int) (0:Int) (0:Int) (0:Int) false [] (0:Int)
def agc (x:bM):List P:=[P.int .i64 (bM.iJ x),P.int .i64 (bM.gU x),P.int .i64 (bM.jQ x),P.int .i64 (bM.pV x),P.int .i64 (bM.pW x),P.int .i64 (bM.iI x),P.bool (bM.fB x),P.fO 1 (List.map (fun (x:Int)=>[P.int .i64 x]) (bM.iD x)),P.int .i64 (bM.to x)]
structure aA where
  name:(List UInt8)
  size:Int
def Z9:aA:=aA.mk [] (0:Int)
def Z_ (x:aA):List P:=[P.str ⟨List.toArray (aA.name x)⟩,P.int .i64 (aA.size x)]
structure dn where
  kind:Int
  op:Int
  dst:Int
  a:Int
  b:Int
  value:Int
  args:(List Int)
def ac7:dn:=dn.mk (0:Int) (0:Int) (0:Int) (0:Int) (0:Int) (0:Int) []
def SI (x:dn):List P:=[P.int .i64 (dn.kind x),P.int .i64 (dn.op x),P.int .i64 (dn.dst x),P.int .i64 (dn.a x),P.int .i64 (dn.b x),P.int .i64 (dn.value x),P.fO 1 (List.map (fun (x:Int)=>[P.int .i64 x]) (dn.args x))]
structure jd where
  op:Int
  arith:Int
  dst:Int
  a:Int
  b:Int
  value:Int
  wide:Bool
  args:(List Int)
def agd:jd:=jd.mk (0:Int) (0:Int) (0:Int) (0:Int) (0:Int) (0:Int) false []
def agf (x:jd):List P:=[P.int .i64 (jd.op x),P.int .i64 (jd.arith x),P.int .i64 (jd.dst x),P.int .i64 (jd.a x),P.int .i64 (jd.b x),P.int .i64 (jd.value x),P.bool (jd.wide x),P.fO 1 (List.map (fun (x:Int)=>[P.int .i64 x]) (jd.args x))]
structure aG where
  instrs:(List dn)
  bn:Int
  j_:Int
  eY:Int
  bZ:Int
  line:Int
  gQ:Int
  gq:Int
def ac8:aG:=aG.mk [] (0:Int) (0:Int) (0:Int) (0:Int) (0:Int) (0:Int) (0:Int)
def SK (x:aG):List P:=[P.fO 7 (List.map SI (aG.instrs x)),P.int .i64 (aG.bn x),P.int .i64 (aG.j_ x),P.int .i64 (aG.eY x),P.int .i64 (aG.bZ x),P.int .i64 (aG.line x),P.int .i64 (aG.gQ x),P.int .i64 (aG.gq x)]
structure aW where
  name:(List UInt8)
  params:Int
  regs:Int
  blocks:(List aG)
def SL:aW:=aW.mk [] (0:Int) (0:Int) []
def SN (x:aW):List P:=[P.str ⟨List.toArray (aW.name x)⟩,P.int .i64 (aW.params x),P.int .i64 (aW.regs x),P.fO 8 (List.map SK (aW.blocks x))]
def reC:Nat->Type
  |0=>Unit
  |1=>Unit
  |2=>Unit
  |3=>aG
  |4=>dn
  |5=>aW
  |6=>jd
  |7=>Unit
  |8=>Unit
  |9=>Unit
  |10=>aA
  |11=>Unit
  |12=>bM
  |13=>lD
  |14=>ak
  |15=>cu
  |16=>aO
  |17=>Unit
  |18=>Unit
  |19=>Unit
  |20=>Unit
  |21=>Unit
  |22=>Unit
  |23=>Unit
  |_=>Unit
def reF:Nat->List Ty
  |0=>[]
  |1=>[]
  |2=>[]
  |3=>[(.sl (.st 4)),(.int .i64),(.int .i64),(.int .i64),(.int .i64),(.int .i64),(.int .i64),(.int .i64)]
  |4=>[(.int .i64),(.int .i64),(.int .i64),(.int .i64),(.int .i64),(.int .i64),(.sl (.int .i64))]
  |5=>[.str,(.int .i64),(.int .i64),(.sl (.st 3))]
  |6=>[(.int .i64),(.int .i64),(.int .i64),(.int .i64),(.int .i64),(.int .i64),.bool,(.sl (.int .i64))]
  |7=>[]
  |8=>[]
  |9=>[]
  |10=>[.str,(.int .i64)]
  |11=>[]
  |12=>[(.int .i64),(.int .i64),(.int .i64),(.int .i64),(.int .i64),(.int .i64),.bool,(.sl (.int .i64)),(.int .i64)]
  |13=>[(.int .i64),(.int .i64),(.int .i64),(.int .i64),(.int .i64),(.int .i64),.bool,(.sl (.int .i64)),(.int .i64)]
  |14=>[.str,(.int .i64),(.sl .str),(.sl (.st 15))]
  |15=>[(.int .i64),(.int .i64),.str,(.sl (.st 16)),(.sl (.st 15)),(.sl (.st 15))]
  |16=>[(.int .i64),(.int .i64),(.int .i64),(.int .i64),.str,(.sl (.st 16))]
  |17=>[]
  |18=>[]
  |19=>[]
  |20=>[]
  |21=>[]
  |22=>[]
  |23=>[]
  |_=>[]
def apJ:(n:Nat)->reC n
  |0=>()
  |1=>()
  |2=>()
  |3=>ac8
  |4=>ac7
  |5=>SL
  |6=>agd
  |7=>()
  |8=>()
  |9=>()
  |10=>Z9
  |11=>()
  |12=>agb
  |13=>af_
  |14=>af8
  |15=>af7
  |16=>af6
  |17=>()
  |18=>()
  |19=>()
  |20=>()
  |21=>()
  |22=>()
  |23=>()
  |_+24=>()
def agh:(n:Nat)->reC n->List (TP reC)
  |0,x=>[]
  |1,x=>[]
  |2,x=>[]
  |3,x=>[⟨(.sl (.st 4)),aG.instrs x⟩,⟨(.int .i64),aG.bn x⟩,⟨(.int .i64),aG.j_ x⟩,⟨(.int .i64),aG.eY x⟩,⟨(.int .i64),aG.bZ x⟩,⟨(.int .i64),aG.line x⟩,⟨(.int .i64),aG.gQ x⟩,⟨(.int .i64),aG.gq x⟩]
  |4,x=>[⟨(.int .i64),dn.kind x⟩,⟨(.int .i64),dn.op x⟩,⟨(.int .i64),dn.dst x⟩,⟨(.int .i64),dn.a x⟩,⟨(.int .i64),dn.b x⟩,⟨(.int .i64),dn.value x⟩,⟨(.sl (.int .i64)),dn.args x⟩]
  |5,x=>[⟨.str,aW.name x⟩,⟨(.int .i64),aW.params x⟩,⟨(.int .i64),aW.regs x⟩,⟨(.sl (.st 3)),aW.blocks x⟩]
  |6,x=>[⟨(.int .i64),jd.op x⟩,⟨(.int .i64),jd.arith x⟩,⟨(.int .i64),jd.dst x⟩,⟨(.int .i64),jd.a x⟩,⟨(.int .i64),jd.b x⟩,⟨(.int .i64),jd.value x⟩,⟨.bool,jd.wide x⟩,⟨(.sl (.int .i64)),jd.args x⟩]
  |7,x=>[]
  |8,x=>[]
  |9,x=>[]
  |10,x=>[⟨.str,aA.name x⟩,⟨(.int .i64),aA.size x⟩]
  |11,x=>[]
  |12,x=>[⟨(.int .i64),bM.iJ x⟩,⟨(.int .i64),bM.gU x⟩,⟨(.int .i64),bM.jQ x⟩,⟨(.int .i64),bM.pV x⟩,⟨(.int .i64),bM.pW x⟩,⟨(.int .i64),bM.iI x⟩,⟨.bool,bM.fB x⟩,⟨(.sl (.int .i64)),bM.iD x⟩,⟨(.int .i64),bM.to x⟩]
  |13,x=>[⟨(.int .i64),lD.iJ x⟩,⟨(.int .i64),lD.gU x⟩,⟨(.int .i64),lD.jQ x⟩,⟨(.int .i64),lD.pV x⟩,⟨(.int .i64),lD.pW x⟩,⟨(.int .i64),lD.iI x⟩,⟨.bool,lD.fB x⟩,⟨(.sl (.int .i64)),lD.iD x⟩,⟨(.int .i64),lD.to x⟩]
  |14,x=>[⟨.str,ak.name x⟩,⟨(.int .i64),ak.line x⟩,⟨(.sl .str),ak.params x⟩,⟨(.sl (.st 15)),ak.body x⟩]
  |15,x=>[⟨(.int .i64),cu.kind x⟩,⟨(.int .i64),cu.line x⟩,⟨.str,cu.name x⟩,⟨(.sl (.st 16)),cu.exprs x⟩,⟨(.sl (.st 15)),cu.then' x⟩,⟨(.sl (.st 15)),cu.else' x⟩]
  |16,x=>[⟨(.int .i64),aO.kind x⟩,⟨(.int .i64),aO.op x⟩,⟨(.int .i64),aO.value x⟩,⟨(.int .i64),aO.line x⟩,⟨.str,aO.name x⟩,⟨(.sl (.st 16)),aO.args x⟩]
  |17,x=>[]
  |18,x=>[]
  |19,x=>[]
  |20,x=>[]
  |21,x=>[]
  |22,x=>[]
  |23,x=>[]
  |_+24,_=>[]
def alQ:(n:Nat)->List (TP reC)->reC n
  |0,ws=>()
  |1,ws=>()
  |2,ws=>()
  |3,ws=>aG.mk (TP.get (.sl (.st 4)) [] ws 0) (TP.get (.int .i64) (0:Int) ws 1) (TP.get (.int .i64) (0:Int) ws 2) (TP.get (.int .i64) (0:Int) ws 3) (TP.get (.int .i64) (0:Int) ws 4) (TP.get (.int .i64) (0:Int) ws 5) (TP.get (.int .i64) (0:Int) ws 6) (TP.get (.int .i64) (0:Int) ws 7)
  |4,ws=>dn.mk (TP.get (.int .i64) (0:Int) ws 0) (TP.get (.int .i64) (0:Int) ws 1) (TP.get (.int .i64) (0:Int) ws 2) (TP.get (.int .i64) (0:Int) ws 3) (TP.get (.int .i64) (0:Int) ws 4) (TP.get (.int .i64) (0:Int) ws 5) (TP.get (.sl (.int .i64)) [] ws 6)
  |5,ws=>aW.mk (TP.get .str [] ws 0) (TP.get (.int .i64) (0:Int) ws 1) (TP.get (.int .i64) (0:Int) ws 2) (TP.get (.sl (.st 3)) [] ws 3)
  |6,ws=>jd.mk (TP.get (.int .i64) (0:Int) ws 0) (TP.get (.int .i64) (0:Int) ws 1) (TP.get (.int .i64) (0:Int) ws 2) (TP.get (.int .i64) (0:Int) ws 3) (TP.get (.int .i64) (0:Int) ws 4) (TP.get (.int .i64) (0:Int) ws 5) (TP.get .bool false ws 6) (TP.get (.sl (.int .i64)) [] ws 7)
  |7,ws=>()
  |8,ws=>()
  |9,ws=>()
  |10,ws=>aA.mk (TP.get .str [] ws 0) (TP.get (.int .i64) (0:Int) ws 1)
  |11,ws=>()
  |12,ws=>bM.mk (TP.get (.int .i64) (0:Int) ws 0) (TP.get (.int .i64) (0:Int) ws 1) (TP.get (.int .i64) (0:Int) ws 2) (TP.get (.int .i64) (0:Int) ws 3) (TP.get (.int .i64) (0:Int) ws 4) (TP.get (.int .i64) (0:Int) ws 5) (TP.get .bool false ws 6) (TP.get (.sl (.int .i64)) [] ws 7) (TP.get (.int .i64) (0:Int) ws 8)
  |13,ws=>lD.mk (TP.get (.int .i64) (0:Int) ws 0) (TP.get (.int .i64) (0:Int) ws 1) (TP.get (.int .i64) (0:Int) ws 2) (TP.get (.int .i64) (0:Int) ws 3) (TP.get (.int .i64) (0:Int) ws 4) (TP.get (.int .i64) (0:Int) ws 5) (TP.get .bool false ws 6) (TP.get (.sl (.int .i64)) [] ws 7) (TP.get (.int .i64) (0:Int) ws 8)
  |14,ws=>ak.mk (TP.get .str [] ws 0) (TP.get (.int .i64) (0:Int) ws 1) (TP.get (.sl .str) [] ws 2) (TP.get (.sl (.st 15)) [] ws 3)
  |15,ws=>cu.mk (TP.get (.int .i64) (0:Int) ws 0) (TP.get (.int .i64) (0:Int) ws 1) (TP.get .str [] ws 2) (TP.get (.sl (.st 16)) [] ws 3) (TP.get (.sl (.st 15)) [] ws 4) (TP.get (.sl (.st 15)) [] ws 5)
  |16,ws=>aO.mk (TP.get (.int .i64) (0:Int) ws 0) (TP.get (.int .i64) (0:Int) ws 1) (TP.get (.int .i64) (0:Int) ws 2) (TP.get (.int .i64) (0:Int) ws 3) (TP.get .str [] ws 4) (TP.get (.sl (.st 16)) [] ws 5)
  |17,ws=>()
  |18,ws=>()
  |19,ws=>()
  |20,ws=>()
  |21,ws=>()
  |22,ws=>()
  |23,ws=>()
  |_+24,_=>()
def ajL:(n:Nat)->reC n->List P
  |0,x=>[]
  |1,x=>[]
  |2,x=>[]
  |3,x=>SK x
  |4,x=>SI x
  |5,x=>SN x
  |6,x=>agf x
  |7,x=>[]
  |8,x=>[]
  |9,x=>[]
  |10,x=>Z_ x
  |11,x=>[]
  |12,x=>agc x
  |13,x=>aga x
  |14,x=>af9 x
  |15,x=>su x
  |16,x=>r_ x
  |17,x=>[]
  |18,x=>[]
  |19,x=>[]
  |20,x=>[]
  |21,x=>[]
  |22,x=>[]
  |23,x=>[]
  |_+24,_=>[]
theorem alR :∀n,(reF n).all Ty.word=true
  |0=>rfl
  |1=>rfl
  |2=>rfl
  |3=>rfl
  |4=>rfl
  |5=>rfl
  |6=>rfl
  |7=>rfl
  |8=>rfl
  |9=>rfl
  |10=>rfl
  |11=>rfl
  |12=>rfl
  |13=>rfl
  |14=>rfl
  |15=>rfl
  |16=>rfl
  |17=>rfl
  |18=>rfl
  |19=>rfl
  |20=>rfl
  |21=>rfl
  |22=>rfl
  |23=>rfl
  |_+24=>rfl
theorem ajM :∀(n:Nat) (x:reC n),(agh n x).map (·.t)=reF n
  |0,x=>rfl
  |1,x=>rfl
  |2,x=>rfl
  |3,x=>rfl
  |4,x=>rfl
  |5,x=>rfl
  |6,x=>rfl
  |7,x=>rfl
  |8,x=>rfl
  |9,x=>rfl
  |10,x=>rfl
  |11,x=>rfl
  |12,x=>rfl
  |13,x=>rfl
  |14,x=>rfl
  |15,x=>rfl
  |16,x=>rfl
  |17,x=>rfl
  |18,x=>rfl
  |19,x=>rfl
  |20,x=>rfl
  |21,x=>rfl
  |22,x=>rfl
  |23,x=>rfl
  |_+24,_=>rfl
theorem ajN :∀(n:Nat) (ws:List (TP reC)),ws.map (·.t)=reF n->agh n (alQ n ws)=ws
  |0,ws,h=>by
    have e:=dV h
    subst e
    rfl
  |1,ws,h=>by
    have e:=dV h
    subst e
    rfl
  |2,ws,h=>by
    have e:=dV h
    subst e
    rfl
  |3,ws,h=>by
    obtain ⟨x0,WV,e0,h0⟩:=aK h
    subst e0
    obtain ⟨x1,ws1,e1,h1⟩:=aK h0
    subst e1
    obtain ⟨x2,ws2,e2,h2⟩:=aK h1
    subst e2
    obtain ⟨x3,ws3,e3,h3⟩:=aK h2
    subst e3
    obtain ⟨x4,ws4,e4,h4⟩:=aK h3
    subst e4
    obtain ⟨x5,ws5,e5,h5⟩:=aK h4
    subst e5
    obtain ⟨x6,ws6,e6,h6⟩:=aK h5
    subst e6
    obtain ⟨x7,ws7,e7,h7⟩:=aK h6
    subst e7
    have e:=dV h7
    subst e
    rfl
  |4,ws,h=>by
    obtain ⟨x0,WV,e0,h0⟩:=aK h
    subst e0
    obtain ⟨x1,ws1,e1,h1⟩:=aK h0
    subst e1
    obtain ⟨x2,ws2,e2,h2⟩:=aK h1
    subst e2
    obtain ⟨x3,ws3,e3,h3⟩:=aK h2
    subst e3
    obtain ⟨x4,ws4,e4,h4⟩:=aK h3
    subst e4
    obtain ⟨x5,ws5,e5,h5⟩:=aK h4
    subst e5
    obtain ⟨x6,ws6,e6,h6⟩:=aK h5
    subst e6
    have e:=dV h6
    subst e
    rfl
  |5,ws,h=>by
    obtain ⟨x0,WV,e0,h0⟩:=aK h
    subst e0
    obtain ⟨x1,ws1,e1,h1⟩:=aK h0
    subst e1
    obtain ⟨x2,ws2,e2,h2⟩:=aK h1
    subst e2
    obtain ⟨x3,ws3,e3,h3⟩:=aK h2
    subst e3
    have e:=dV h3
    subst e
    rfl
  |6,ws,h=>by
    obtain ⟨x0,WV,e0,h0⟩:=aK h
    subst e0
    obtain ⟨x1,ws1,e1,h1⟩:=aK h0
    subst e1
    obtain ⟨x2,ws2,e2,h2⟩:=aK h1
    subst e2
    obtain ⟨x3,ws3,e3,h3⟩:=aK h2
    subst e3
    obtain ⟨x4,ws4,e4,h4⟩:=aK h3
    subst e4
    obtain ⟨x5,ws5,e5,h5⟩:=aK h4
    subst e5
    obtain ⟨x6,ws6,e6,h6⟩:=aK h5
    subst e6
    obtain ⟨x7,ws7,e7,h7⟩:=aK h6
    subst e7
    have e:=dV h7
    subst e
    rfl
  |7,ws,h=>by
    have e:=dV h
    subst e
    rfl
  |8,ws,h=>by
    have e:=dV h
    subst e
    rfl
  |9,ws,h=>by
    have e:=dV h
    subst e
    rfl
  |10,ws,h=>by
    obtain ⟨x0,WV,e0,h0⟩:=aK h
    subst e0
    obtain ⟨x1,ws1,e1,h1⟩:=aK h0
    subst e1
    have e:=dV h1
    subst e
    rfl
  |11,ws,h=>by
    have e:=dV h
    subst e
    rfl
  |12,ws,h=>by
    obtain ⟨x0,WV,e0,h0⟩:=aK h
    subst e0
    obtain ⟨x1,ws1,e1,h1⟩:=aK h0
    subst e1
    obtain ⟨x2,ws2,e2,h2⟩:=aK h1
    subst e2
    obtain ⟨x3,ws3,e3,h3⟩:=aK h2
    subst e3
    obtain ⟨x4,ws4,e4,h4⟩:=aK h3
    subst e4
    obtain ⟨x5,ws5,e5,h5⟩:=aK h4
    subst e5
    obtain ⟨x6,ws6,e6,h6⟩:=aK h5
    subst e6
    obtain ⟨x7,ws7,e7,h7⟩:=aK h6
    subst e7
    obtain ⟨x8,ws8,e8,h8⟩:=aK h7
    subst e8
    have e:=dV h8
    subst e
    rfl
  |13,ws,h=>by
    obtain ⟨x0,WV,e0,h0⟩:=aK h
    subst e0
    obtain ⟨x1,ws1,e1,h1⟩:=aK h0
    subst e1
    obtain ⟨x2,ws2,e2,h2⟩:=aK h1
    subst e2
    obtain ⟨x3,ws3,e3,h3⟩:=aK h2
    subst e3
    obtain ⟨x4,ws4,e4,h4⟩:=aK h3
    subst e4
    obtain ⟨x5,ws5,e5,h5⟩:=aK h4
    subst e5
    obtain ⟨x6,ws6,e6,h6⟩:=aK h5
    subst e6
    obtain ⟨x7,ws7,e7,h7⟩:=aK h6
    subst e7
    obtain ⟨x8,ws8,e8,h8⟩:=aK h7
    subst e8
    have e:=dV h8
    subst e
    rfl
  |14,ws,h=>by
    obtain ⟨x0,WV,e0,h0⟩:=aK h
    subst e0
    obtain ⟨x1,ws1,e1,h1⟩:=aK h0
    subst e1
    obtain ⟨x2,ws2,e2,h2⟩:=aK h1
    subst e2
    obtain ⟨x3,ws3,e3,h3⟩:=aK h2
    subst e3
    have e:=dV h3
    subst e
    rfl
  |15,ws,h=>by
    obtain ⟨x0,WV,e0,h0⟩:=aK h
    subst e0
    obtain ⟨x1,ws1,e1,h1⟩:=aK h0
    subst e1
    obtain ⟨x2,ws2,e2,h2⟩:=aK h1
    subst e2
    obtain ⟨x3,ws3,e3,h3⟩:=aK h2
    subst e3
    obtain ⟨x4,ws4,e4,h4⟩:=aK h3
    subst e4
    obtain ⟨x5,ws5,e5,h5⟩:=aK h4
    subst e5
    have e:=dV h5
    subst e
    rfl
  |16,ws,h=>by
    obtain ⟨x0,WV,e0,h0⟩:=aK h
    subst e0
    obtain ⟨x1,ws1,e1,h1⟩:=aK h0
    subst e1
    obtain ⟨x2,ws2,e2,h2⟩:=aK h1
    subst e2
    obtain ⟨x3,ws3,e3,h3⟩:=aK h2
    subst e3
    obtain ⟨x4,ws4,e4,h4⟩:=aK h3
    subst e4
    obtain ⟨x5,ws5,e5,h5⟩:=aK h4
    subst e5
    have e:=dV h5
    subst e
    rfl
  |17,ws,h=>by
    have e:=dV h
    subst e
    rfl
  |18,ws,h=>by
    have e:=dV h
    subst e
    rfl
  |19,ws,h=>by
    have e:=dV h
    subst e
    rfl
  |20,ws,h=>by
    have e:=dV h
    subst e
    rfl
  |21,ws,h=>by
    have e:=dV h
    subst e
    rfl
  |22,ws,h=>by
    have e:=dV h
    subst e
    rfl
  |23,ws,h=>by
    have e:=dV h
    subst e
    rfl
  |_+24,ws,h=>by have e:=dV h;subst e;rfl
theorem ajO :∀(n:Nat) (x:reC n),ajL n x=(agh n x).map fun w=>I4 (jw reF) (o9 reF ajL (jw reF)) w.t w.x
  |0,x=>by kernel_rfl
  |1,x=>by kernel_rfl
  |2,x=>by kernel_rfl
  |3,x=>by kernel_rfl
  |4,x=>by kernel_rfl
  |5,x=>by kernel_rfl
  |6,x=>by kernel_rfl
  |7,x=>by kernel_rfl
  |8,x=>by kernel_rfl
  |9,x=>by kernel_rfl
  |10,x=>by kernel_rfl
  |11,x=>by kernel_rfl
  |12,x=>by kernel_rfl
  |13,x=>by kernel_rfl
  |14,x=>by kernel_rfl
  |15,x=>(VH x).trans (by kernel_rfl)
  |16,x=>(VG x).trans (by kernel_rfl)
  |17,x=>by kernel_rfl
  |18,x=>by kernel_rfl
  |19,x=>by kernel_rfl
  |20,x=>by kernel_rfl
  |21,x=>by kernel_rfl
  |22,x=>by kernel_rfl
  |23,x=>by kernel_rfl
  |_+24,_=>rfl
def reG:Nat->Option ((e:Ty)×List (D reC e))
  |0=>some ⟨.str,Lc⟩
  |_=>none
instance re:RE where
  C:=reC
  F:=reF
  dflt:=apJ
  un:=agh
  ro:=alQ
  er:=ajL
  Fwd:=alR
  ahP:=ajM
  ahQ:=ajN
  ahR:=ajO
  G:=reG
theorem mixed:Fit Tryz.prog:=⟨Fw.YtapemkmlinejmaaGreatDoor.ajJ,fun _ _ _ _ h=>h.elim⟩
def AX:List (Nat×Ty):=[(3,(.int .i64)),(4,.bool),(5,(.int .u8)),(9,.str),(28,(.st 5)),(29,(.sl (.int .i64))),(49,(.st 6)),(57,(.st 3)),(71,(.st 12)),(75,(.st 4)),(77,(.st 13)),(102,(.st 10)),(126,(.st 14)),(150,(.st 15)),(169,(.st 16))]
def ety:TypeId->Option Ty:=fun t=>AX.lookup t
def kS (l:List Nat) (r:List (Nat×Md)):List (Nat×Md):=l.map (fun n=>(n,.keep))++r
def kO (l:List Nat) (r:List (Nat×Mo)):List (Nat×Mo):=l.map (fun n=>(n,.keep))++r
def lS (l r:List (Nat×Md)):=l++r
def lO (l r:List (Nat×Mo)):=l++r
abbrev q0:kC:=.p false false (.int .i64)
abbrev q1:kC:=.p true false (.int .i64)
abbrev q3:kC:=.p false true (.int .i64)
abbrev q4:iM:=.box [(.p false true (.sl (.int .u8))),q0]
abbrev q6:iM:=.arr false false false (.int .i64)
abbrev q7:kH:=.one q0
abbrev q9:iM:=.aN true true (.st 3) [(0,(.st 4))]
abbrev q10:iM:=.arr false true false (.int .i64)
abbrev q11:iM:=.box [(.p false true (.sl (.st 10))),(.p false true (.sl (.st 14))),(.p false true (.sl .str)),q3,q3,(.own 50001),q3]
abbrev q12:iM:=.box [(.p false true (.sl (.st 10))),(.p false true (.sl (.st 14))),(.own 50001),q3,q3]
abbrev q13:kC:=.p true true (.sl (.st 10))
abbrev SQ:kC:=.p true true (.sl (.st 14))
abbrev XW:iM:=.box [(.box 50001 0),(.own 50002),(.own 50003),(.own 50004),q3]
abbrev q17:iM:=.box [(.p false true (.sl (.st 10))),(.p false true (.sl (.st 14))),(.own 50001),q0,q0]
abbrev wS:iM:=.arr false false true .str
abbrev J3:iM:=.box [(.p false true (.sl (.int .u8))),q3]
abbrev q20:kC:=.p true false (.sl (.int .i64))
abbrev q8:kH:=.agg [q1,q1,q1,q1,q1,q1,(.p true false .bool),q20]
abbrev xu:kH:=.one (.box 50000 0)
abbrev q22:kC:=.p true true (.sl .str)
abbrev q23:iM:=.arr false false false (.int .u8)
abbrev q24:iM:=.arr false false true (.st 10)
abbrev MV:iM:=.arr false false true (.st 14)
abbrev VI:kC:=.p false false .bool
abbrev q2:kH:=.one VI
abbrev uX:kH:=.one q1
abbrev q28:iM:=.aN false true (.st 3) [(0,(.st 4))]
abbrev q29:iM:=.box [q13,SQ,q22,q0,q0,(.own 1033),q0]
abbrev q30:iM:=.aN false false (.st 5) [(3,(.st 3))]
abbrev KA:kC:=.p false false .str
abbrev q34:iM:=.arr false true false (.st 12)
abbrev q35:kH:=.agg [(.p true false (.sl (.st 10))),(.p true false (.sl (.st 5))),q1,q1]
abbrev q36:iM:=.box [q13,SQ,q22,q3,q3,(.own 100002),q3]
abbrev q37:kH:=.one (.own 100001)
abbrev q38:kH:=.agg [(.p true false (.sl (.st 10))),(.p true false (.sl (.st 14)))]
abbrev q39:iM:=.arr false false false .bool
abbrev q40:kC:=.p true false (.sl (.st 15))
abbrev q41:iM:=.box [(.box 50001 0),(.own 50002),(.own 50003),(.own 50004),q0]
abbrev q42:iM:=.box [(.p false true (.sl (.st 10))),(.p false true (.sl (.st 14))),(.p false true (.sl .str)),q0,q0,(.own 50001),q0]
abbrev XY:kH:=.one (.own 100000)
abbrev VJ:kC:=.p true false .str
abbrev q16:kH:=.agg [VJ,q1,q1,(.p true false (.sl (.st 3)))]
abbrev q45:iM:=.arr false false true (.int .u8)
abbrev q46:kH:=.one (.own 55000)
abbrev q47:iM:=.arr false false true (.st 15)
abbrev q48:iM:=.arr false true true .str
abbrev q49:kH:=.agg [q1,q1,q1,q1,q1,q1,q20]
abbrev q50:kC:=.p true false (.sl (.st 16))
abbrev q32:kH:=.agg [q1,q1,q1,q1,VJ,q50]
abbrev q51:iM:=.arr false false false (.st 10)
abbrev q52:iM:=.box [q13,SQ,(.own 100002),q0,q0]
abbrev q53:iM:=.box [q13,SQ,(.own 100002),q3,q3]
abbrev q54:kC:=.p true false (.sl (.int .u8))
abbrev q55:iM:=.arr false true true (.st 16)
abbrev q56:iM:=.arr false true false (.st 6)
abbrev q57:kH:=.one (.own 101001)
abbrev q58:iM:=.box [q13,SQ,q22,q0,q0,(.own 60001),q0]
abbrev q59:kH:=.one q20
abbrev q60:kH:=.one (.own 60000)
abbrev q62:iM:=.arr false false true (.st 16)
abbrev q63:kH:=.one (.own 100002)
abbrev q64:iM:=.arr false false false (.st 4)
abbrev q65:iM:=.arr false true false (.st 3)
abbrev q66:kH:=.agg [q1,q1,q1,q1]
abbrev q67:iM:=.arr false false false .str
abbrev q68:kH:=.one (.p true false .bool)
abbrev q70:kC:=.p true false (.sl .str)
abbrev q71:iM:=.box [(.box 50000 0),(.own 101003),(.own 100701),(.own 100702),q0]
abbrev q72:iM:=.box [(.box 50000 0),(.own 103003),(.own 100701),(.own 100702),q0]
abbrev q73:iM:=.box [(.box 50000 0),(.own 103003),(.own 105004),(.own 100702),q0]
abbrev q74:iM:=.box [(.box 50000 0),(.own 103003),(.own 105004),(.own 109005),q0]
abbrev q75:kH:=.one (.own 102001)
abbrev q76:iM:=.box [(.box 50001 0),(.own 50002),(.own 50003),(.own 100005),q3]
abbrev q77:kH:=.one (.p true false (.sl (.st 6)))
abbrev q78:kH:=.agg [q1,q1,VJ,q50,q40,q40]
abbrev q79:iM:=.box [(.p true false (.sl (.st 4))),q1,q1,q1,q1,q1,q1,q1]
abbrev q81:iM:=.arr false false false (.st 14)
abbrev q82:iM:=.arr false true false (.st 14)
abbrev q83:iM:=.arr false false false (.st 3)
abbrev q84:iM:=.arr false true true (.st 15)
abbrev q85:iM:=.arr false true false (.st 5)
abbrev j0:fV:=.seq .nil .nil
abbrev j1:fV:=.seq .nil j0
abbrev j3:fV:=.seq j1 .nil
abbrev j4:JT:=⟨[],[(50000,.ob q29),(1033,.ob q9)]⟩
abbrev j6:JT:=⟨[(1,.keep),(3,.sl q7),(4,.sl q7)],[(1,.keep)]⟩
abbrev j7:fV:=.seq j0 .nil
abbrev j8:fV:=.seq (.meet false ⟨[(2,.sl q2)],[]⟩ .nil) .nil
abbrev j9:JT:=⟨kS [0,4] [],lO [(50000,.ob XW),(50001,.ob q4)] (kO [50002,50003,4,50004] [])⟩
abbrev j10:JT:=⟨kS [0,3,4] [],lO [(50000,.ob q12)] (kO [50001,3,4] [])⟩
abbrev j11:JT:=⟨kS [0,1,5,6,7] [],lO [(50000,.ob q52)] (kO [100001,7,100002,101003] [])⟩
abbrev j12:fV:=.seq .nil j1
abbrev j13:JT:=⟨kS [0,3,4] [],lO [(50000,.ob q17)] (kO [50001,3,4] [])⟩
abbrev j14:fV:=.seq j0 (.seq j3 .nil)
abbrev j5:fV:=.seq (.seq .nil (.meet true ⟨[],[]⟩ (.loop ⟨kS [0,1] [(5,.sl q7)],[]⟩ j14))) .nil
abbrev j15:fV:=.seq .nil (.seq .nil j7)
abbrev j20:JT:=⟨kS [1,3,4] [],[(1,.keep)]⟩
abbrev j22:fV:=.seq .nil (.seq (.seq .nil (.meet true ⟨[],[]⟩ (.loop ⟨kS [1,2] [(5,.sl q7)],[(2,.keep)]⟩ j14))) .nil)
abbrev j23:JT:=⟨kS [1,4] [(5,.sl q2)],[(1,.keep)]⟩
abbrev j24:fV:=.seq .nil (.seq .nil (.seq (.seq .nil (.meet false ⟨[(3,.sl q7)],[]⟩ (.loop j6 (.seq j0 j0)))) .nil))
abbrev j25:JT:=⟨kS [4,5,7,8,9,12] (lS [(13,.sl q2)] (kS [52,53,54] [])),lO [(28,.ob q34)] (kO [1028,34,102003] [])⟩
abbrev j26:fV:=.seq .nil (.meet false ⟨kS [1,2,3,4,7,8,9] [],kO [1,2,11,14,7] [(9,.ob q79),(103005,.keep)]⟩ .nil)
abbrev j27:JT:=⟨kS [4,5,7,8,9] [(12,.sl (.one (.own 102003)))],lO [(28,.ob q34)] (kO [1028,34] [(102003,.ob q6)])⟩
abbrev j29:fV:=.seq .nil j12
abbrev j30:JT:=⟨kS [0,2,3,4,7,8] [],lO [(50000,.ob q4)] (kO [2,3] [(100004,.ob q30),(19,.keep)])⟩
abbrev j31:JT:=⟨[],[(50000,.ob q36),(100002,.ob q9)]⟩
abbrev j32:fV:=.seq .nil j3
abbrev j33:JT:=⟨[(1,.keep),(18,.sl q2)],[(1,.keep)]⟩
abbrev j34:JT:=⟨kS [1,3,6] [(7,.sl q2)],[(1,.keep)]⟩
abbrev j2:fV:=.seq .nil (.seq (.seq (.seq .nil (.meet false j34 (.seq .nil (.seq .nil (.meet false j34 (.seq .nil (.seq .nil (.meet false j34 .nil)))))))) (.meet true j6 (.seq .nil (.seq .nil (.meet true j6 (.seq .nil (.seq .nil (.meet true j6 (.seq .nil (.seq .nil (.meet true j6 (.seq .nil (.seq (.seq .nil (.meet false j33 (.seq .nil (.seq .nil (.meet false j33 .nil))))) (.seq (.seq .nil (.seq .nil (.meet false j6 .nil))) .nil)))))))))))))) .nil)
abbrev j35:JT:=⟨[(1,.keep),(3,.sl q2)],[(1,.keep)]⟩
abbrev j36:JT:=⟨[(1,.keep),(6,.sl q2)],[(1,.keep)]⟩
abbrev j38:fV:=.seq (.seq j12 .nil) .nil
abbrev j39:JT:=⟨kS [2,3] [],[(2,.keep),(3,.ob (.box [q0,q0,q1,q0,q0,q1,VI,.dD]))]⟩
abbrev j41:fV:=.seq .nil (.seq (.meet false ⟨[(6,.sl q2)],[]⟩ .nil) .nil)
abbrev j43:fV:=.meet false ⟨kS [1,2] [(14,.sl q2)],[(2,.keep)]⟩ .nil
abbrev j44:JT:=⟨kS [0,4] [],kO [50000,50001,50002,50003,4,50004] []⟩
abbrev j48:JT:=⟨[],[(50000,.ob q17),(50001,.keep)]⟩
abbrev j49:fV:=.seq .nil j32
abbrev j50:JT:=⟨[(0,.sl XY)],[(100000,.ob q45)]⟩
def sg7:dA:={ bD:=2,pin:=⟨[(0,(.one q54)),(1,uX)],[]⟩,aP:=⟨[(0,(.one (.box 14 0)))],[(14,(.box [q54,q0]))]⟩,dw:=1,aY:=[],aU:=[14] }
def an7:fV:=(.seq .nil (.seq (.seq .nil (.meet false ⟨[(0,.sl (.one q54))],[]⟩ .nil)) .nil))
def alZ:dA:={ bD:=2,pin:=⟨[(0,xu),(1,uX)],[(50000,J3)]⟩,aP:=⟨[(0,q7)],[(50000,q4)]⟩,dw:=1,aY:=[50000],aU:=[] }
def apU:fV:=(.seq .nil (.seq (.seq (.meet false ⟨kS [0,1] [(19,.sl q2)],[(50000,.keep)]⟩ .nil) j0) j49))
def apV:dA:={ bD:=1,pin:=⟨[(0,q16)],[]⟩,aP:=⟨[(0,q37)],[(100001,q6)]⟩,dw:=1,aY:=[],aU:=[100001] }
def apW:fV:=(.seq .nil (.seq .nil (.seq (.seq .nil (.meet false ⟨[(3,.sl q37)],[(100001,.ob q6)]⟩ (.loop ⟨[(1,.keep),(3,.sl q37),(4,.sl q7)],[(1,.keep),(100001,.ob q6)]⟩ (.seq j0 j0)))) .nil)))
def apX:dA:={ bD:=1,pin:=⟨[(0,q16)],[]⟩,aP:=⟨[(0,XY)],[(100000,q6)]⟩,dw:=1,aY:=[],aU:=[100000] }
def apY:fV:=(.seq .nil (.seq .nil (.seq (.seq .nil (.meet false ⟨[(3,.sl XY)],[(100000,.ob q6)]⟩ (.loop ⟨[(3,.sl XY),(7,.keep),(8,.sl q7)],[(100000,.ob q6)]⟩ j15))) .nil)))
def apZ:dA:={ bD:=1,pin:=⟨[(0,q59)],[]⟩,aP:=⟨[(0,q60)],[(60000,q10)]⟩,dw:=1,aY:=[],aU:=[60000] }
def ap0:fV:=j32
def ap1:dA:={ bD:=2,pin:=⟨[(0,q59),(1,q59)],[]⟩,aP:=⟨[(0,q2)],[]⟩,dw:=1,aY:=[],aU:=[] }
def ap2:fV:=(.seq .nil (.seq j1 (.seq (.seq .nil (.meet true ⟨[],[]⟩ (.loop ⟨kS [0,1,12] [(13,.sl q7)],[]⟩ (.seq .nil (.seq .nil j38))))) .nil)))
def ap3:dA:={ bD:=1,pin:=⟨[(0,q49)],[]⟩,aP:=⟨[(0,(.agg [q0,q0,q0,q0,q0,q0,VI,(.own 113002)]))],[(113002,q10)]⟩,dw:=1,aY:=[],aU:=[113002] }
def ap4:fV:=(.seq .nil (.seq .nil (.seq (.seq .nil (.seq (.seq .nil (.meet false ⟨kS [2,3] [],[(2,.keep),(3,.ob (.box [q0,q1,q1,q1,q1,q1,VI,(.own 113002)])),(113002,.ob q10)]⟩ (.seq .nil (.seq .nil (.meet false ⟨kS [2,3] [],[(2,.keep),(3,.ob (.box [q0,q1,q1,q1,q1,q1,VI,(.own 112002)])),(112002,.ob q10)]⟩ (.seq .nil (.seq .nil (.meet false ⟨kS [2,3] [],[(2,.keep),(3,.ob (.box [q0,q1,q1,q1,q1,q1,VI,(.own 111002)])),(111002,.ob q10)]⟩ (.seq .nil (.seq .nil (.meet false ⟨kS [2,3] [],[(2,.keep),(3,.ob (.box [q0,q1,q1,q1,q1,q1,VI,(.own 110002)])),(110002,.ob q10)]⟩ (.seq .nil (.seq .nil (.meet false ⟨kS [2,3] [],[(2,.keep),(3,.ob (.box [q0,q0,q1,q1,q1,q1,VI,(.own 109002)])),(109002,.ob q10)]⟩ (.seq .nil (.seq .nil (.meet false ⟨kS [2,3] [],[(2,.keep),(3,.ob (.box [q0,q0,q1,q1,q1,q1,VI,(.own 108002)])),(108002,.ob q10)]⟩ (.seq .nil (.seq .nil (.meet false ⟨kS [2,3] [],[(2,.keep),(3,.ob (.box [q0,q0,q1,q1,q1,q1,VI,(.own 107002)])),(107002,.ob q10)]⟩ (.seq .nil (.seq .nil (.meet false ⟨kS [2,3] [],[(2,.keep),(3,.ob (.box [q0,q0,q1,q1,q1,q1,VI,(.own 106002)])),(106002,.ob q10)]⟩ (.seq .nil (.seq .nil (.meet false ⟨kS [2,3] [],[(2,.keep),(3,.ob (.box [q0,q0,q1,q1,q0,q1,VI,(.own 105002)])),(105002,.ob q10)]⟩ (.seq .nil (.seq .nil (.meet false ⟨kS [2,3] [],[(2,.keep),(3,.ob (.box [q0,q0,q1,q1,q0,q1,VI,(.own 104002)])),(104002,.ob q10)]⟩ (.seq .nil (.seq .nil (.meet false ⟨kS [2,3] [],[(2,.keep),(3,.ob (.box [q0,q0,q1,q1,q0,q1,VI,(.own 103002)])),(103002,.ob q10)]⟩ (.seq .nil (.seq .nil (.meet false ⟨kS [2,3] [],[(2,.keep),(3,.ob (.box [q0,q0,q1,q1,q0,q1,VI,(.own 102002)])),(102002,.ob q10)]⟩ (.seq .nil (.seq .nil (.meet false j39 (.seq .nil (.seq .nil (.meet false j39 .nil))))))))))))))))))))))))))))))))))))))))) .nil)) .nil)))
def ap5:dA:={ bD:=2,pin:=⟨[(0,q66),(1,uX)],[]⟩,aP:=⟨[(0,q60)],[(60000,q34)]⟩,dw:=1,aY:=[],aU:=[60000] }
def ap6:fV:=(.seq .nil (.seq .nil (.seq (.seq (.seq .nil (.seq .nil (.seq (.meet false ⟨kS [1,2,5] [(19,.sl q2)],kO [2,5] []⟩ .nil) (.seq j3 j29)))) .nil) j0)))
def ap7:dA:={ bD:=1,pin:=⟨[(0,uX)],[]⟩,aP:=⟨[(0,(.one KA))],[]⟩,dw:=1,aY:=[],aU:=[] }
def ap8:fV:=(.seq .nil (.seq .nil (.seq (.seq (.meet false ⟨kS [0,3] [(12,.sl q2)],[(4,.keep)]⟩ .nil) j0) .nil)))
def ap9:dA:={ bD:=3,pin:=⟨[(0,q46),(1,uX),(2,uX)],[(55000,q45)]⟩,aP:=⟨[(0,XY)],[(100000,q45)]⟩,dw:=1,aY:=[],aU:=[100000] }
def ap_:fV:=(.seq .nil (.seq (.seq .nil (.meet false j50 (.loop ⟨lS [(0,.sl XY)] (kS [1,2] [(7,.sl q7)]),[(100000,.ob q45)]⟩ (.seq j0 j0)))) .nil))
def aqa:dA:={ bD:=2,pin:=⟨[(0,q8),(1,(.one (.p true false (.int .u8))))],[]⟩,aP:=⟨[(0,q7)],[]⟩,dw:=1,aY:=[],aU:=[] }
def aqb:fV:=(.seq .nil (.seq (.seq .nil (.seq (.seq .nil (.seq .nil (.seq .nil (.seq .nil (.seq .nil (.seq .nil (.seq .nil (.meet true ⟨[],[]⟩ j3)))))))) .nil)) .nil))
def al0:dA:={ bD:=1,pin:=⟨[(0,uX)],[]⟩,aP:=⟨[(0,(.one KA))],[]⟩,dw:=1,aY:=[],aU:=[] }
def aqc:fV:=j49
def aqd:dA:={ bD:=3,pin:=⟨[(0,xu),(1,q35),(2,q16)],[(50000,J3)]⟩,aP:=⟨[(0,(.agg [q0,q0,q0,q0,q0,q0,(.own 60001)]))],[(50000,q4),(60001,q6)]⟩,dw:=1,aY:=[50000],aU:=[60001] }
def aqe:fV:=(.seq .nil (.seq .nil (.seq (.seq .nil (.seq (.seq .nil (.meet false ⟨kS [0,4,6,7] [],lO [(50000,.ob q4)] (kO [4,6] [(7,.ob (.box [q0,q0,q0,q0,q0,q0,(.own 110004)])),(110004,.ob q6)])⟩ (.seq .nil (.seq .nil (.meet false ⟨kS [0,4,6,7] [],lO [(50000,.ob q4)] (kO [4,6] [(7,.ob (.box [q0,q0,q0,q0,q0,q0,(.own 109004)])),(109004,.ob q6)])⟩ (.seq .nil (.seq .nil (.meet false ⟨kS [0,4,6,7] [],lO [(50000,.ob q4)] (kO [4,6] [(7,.ob (.box [q0,q0,q0,q0,q0,q0,(.own 108004)])),(108004,.ob q6)])⟩ (.seq .nil (.seq (.seq .nil (.meet false ⟨kS [0,4,5,6,7,27] [(46,.sl q2)],kO [50000,4,5,6,7] []⟩ .nil)) (.meet false ⟨kS [0,4,6,7] [],lO [(50000,.ob q4)] (kO [4,6] [(7,.ob (.box [q0,q0,q0,q0,q0,q0,(.own 107004)])),(107004,.ob q6)])⟩ (.seq .nil (.seq .nil (.meet false ⟨kS [0,4,6,7] [],lO [(50000,.ob q4)] (kO [4,6] [(7,.ob (.box [q0,q0,q0,q0,q0,q0,(.own 106004)])),(106004,.ob q6)])⟩ (.seq (.seq .nil (.seq .nil (.meet false ⟨kS [0,4,6,7] [],lO [(50000,.ob q4)] (kO [4,6] [(7,.ob (.box [q0,q0,q0,q0,q0,q0,(.own 101005)])),(101005,.ob q6)])⟩ (.loop ⟨kS [0,4,5,6,7] [(8,.sl q7)],lO [(50000,.ob q4)] (kO [4,5,6] [(7,.ob (.box [q0,q0,q0,q0,q0,q0,(.own 101005)])),(101005,.ob q6)])⟩ (.seq j0 j0))))) (.seq .nil (.meet false ⟨kS [0,4,6,7] [],lO [(50000,.ob q4)] (kO [4,6] [(7,.ob (.box [q0,q0,q0,q0,q0,q0,(.own 105004)])),(105004,.ob q6)])⟩ (.seq (.seq .nil (.meet false ⟨kS [0,4,6,7] [],lO [(50000,.ob q4)] (kO [4,6] [(7,.ob (.box [q0,q0,q0,q0,q0,q0,(.own 103005)])),(103005,.ob q6)])⟩ (.loop ⟨kS [0,4,5,6,7] [(9,.sl q7)],lO [(50000,.ob q4)] (kO [4,5,6] [(7,.ob (.box [q0,q0,q0,q0,q0,q0,(.own 103005)])),(103005,.ob q6)])⟩ (.seq j0 j0)))) .nil)))))))))))))))))) .nil)) (.seq (.seq (.meet false ⟨kS [0,4,6,7] [(107,.sl q2)],lO [(50000,.ob q4)] (kO [4,6,7,110004] [])⟩ .nil) j0) .nil))))
def aqf:dA:={ bD:=3,pin:=⟨[(0,q46),(1,uX),(2,uX)],[(55000,q45)]⟩,aP:=⟨[(0,XY)],[(100000,q45)]⟩,dw:=1,aY:=[],aU:=[100000] }
def aqg:fV:=(.seq .nil (.seq (.seq .nil (.meet false j50 (.loop ⟨lS [(0,.sl XY)] (kS [1,8] [(9,.sl q7)]),[(100000,.ob q45)]⟩ j15))) .nil))
def aqh:dA:={ bD:=1,pin:=⟨[(0,q68)],[]⟩,aP:=⟨[(0,q7)],[]⟩,dw:=1,aY:=[],aU:=[] }
def aqi:fV:=j32
def aqj:dA:={ bD:=1,pin:=⟨[(0,q8)],[]⟩,aP:=⟨[(0,q2)],[]⟩,dw:=1,aY:=[],aU:=[] }
def aqk:fV:=(.seq .nil (.seq (.seq .nil (.seq (.seq .nil (.seq j8 (.seq .nil (.seq j8 .nil)))) .nil)) .nil))
def aql:dA:={ bD:=1,pin:=⟨[(0,uX)],[]⟩,aP:=⟨[(0,q2)],[]⟩,dw:=1,aY:=[],aU:=[] }
def aqm:fV:=(.seq .nil j8)
def aqn:dA:={ bD:=1,pin:=⟨[(0,q8)],[]⟩,aP:=⟨[(0,q2)],[]⟩,dw:=1,aY:=[],aU:=[] }
def aqo:fV:=(.seq .nil (.seq .nil (.seq j2 j8)))
def aqp:dA:={ bD:=1,pin:=⟨[(0,q66)],[]⟩,aP:=⟨[(0,q60)],[(60000,q10)]⟩,dw:=1,aY:=[],aU:=[60000] }
def aqr:fV:=(.seq .nil (.seq (.seq (.seq (.meet false j35 .nil) (.seq .nil (.seq (.meet false ⟨[(1,.keep),(19,.sl q2)],[(1,.keep)]⟩ .nil) j0))) .nil) .nil))
def aqs:dA:={ bD:=2,pin:=⟨[(0,xu),(1,uX)],[(50000,q11),(50001,q28)]⟩,aP:=⟨[(0,q7)],[(50000,(.box [(.p false true (.sl (.st 10))),(.p false true (.sl (.st 14))),(.p false true (.sl .str)),q0,q0,(.own 30),q0])),(30,q9)]⟩,dw:=1,aY:=[50000],aU:=[30] }
def aqt:fV:=j12
def al1:TypeId->Option Ty:=fun t=>(([(1000057,(.prod (.st 0) .bool)),(3000009,.bool)]:List (Nat×Ty))++AX).lookup t
def aqu:dA:={ bD:=2,pin:=⟨[(0,xu),(1,q49)],[(50000,q11),(50001,q28)]⟩,aP:=⟨[],[(50000,q42),(50001,q9)]⟩,dw:=0,aY:=[50000,50001],aU:=[] }
def aqv:fV:=.nil
def al2:TypeId->Option Ty:=fun t=>(([(1000057,(.prod (.st 0) .bool))]:List (Nat×Ty))++AX).lookup t
def aqw:dA:={ bD:=3,pin:=⟨[(0,xu),(1,uX),(2,q66)],[(50000,q11),(50001,q28)]⟩,aP:=⟨[],[(50000,q42),(50001,q9)]⟩,dw:=0,aY:=[50000,50001],aU:=[] }
def aqx:fV:=.nil
def al3:TypeId->Option Ty:=fun t=>(([(1000057,(.prod (.st 0) .bool))]:List (Nat×Ty))++AX).lookup t
def aqy:dA:={ bD:=1,pin:=⟨[(0,q8)],[]⟩,aP:=⟨[(0,q37)],[(100001,q10)]⟩,dw:=1,aY:=[],aU:=[100001] }
def aqz:fV:=(.seq .nil (.seq .nil (.seq (.seq .nil (.meet false ⟨[(3,.sl q37)],[(100001,.ob q10)]⟩ (.loop ⟨[(1,.keep),(3,.sl q37),(10,.keep)],[(1,.keep),(100001,.ob q10),(10,.ob .it)]⟩ (.seq .nil (.seq .nil (.seq (.seq .nil (.seq .nil (.seq (.seq .nil (.meet false ⟨[(1,.keep),(3,.sl (.one (.own 104001))),(10,.keep)],[(1,.keep),(104001,.ob q10),(10,.keep)]⟩ (.seq .nil (.seq .nil (.meet false ⟨[(1,.keep),(3,.sl (.one (.own 103001))),(10,.keep)],[(1,.keep),(103001,.ob q10),(10,.keep)]⟩ (.seq .nil (.seq .nil (.meet false ⟨[(1,.keep),(3,.sl q75),(10,.keep)],[(1,.keep),(102001,.ob q10),(10,.keep)]⟩ (.seq .nil (.seq .nil (.meet false ⟨[(1,.keep),(3,.sl q57),(10,.keep)],[(1,.keep),(101001,.ob q10),(10,.keep)]⟩ .nil))))))))))) .nil))) .nil)))))) .nil)))
def aqA:dA:={ bD:=3,pin:=⟨[(0,uX),(1,uX),(2,uX)],[]⟩,aP:=⟨[(0,q2)],[]⟩,dw:=1,aY:=[],aU:=[] }
def aqB:fV:=j41
def aqC:dA:={ bD:=1,pin:=⟨[(0,q8)],[]⟩,aP:=⟨[(0,q2)],[]⟩,dw:=1,aY:=[],aU:=[] }
def aqD:fV:=(.seq .nil (.seq .nil (.seq j2 .nil)))
def aqE:dA:={ bD:=1,pin:=⟨[(0,uX)],[]⟩,aP:=⟨[(0,q2)],[]⟩,dw:=1,aY:=[],aU:=[] }
def aqF:fV:=(.seq .nil j8)
def al4:dA:={ bD:=2,pin:=⟨[(0,q46),(1,(.one q40))],[(55000,wS)]⟩,aP:=⟨[(0,XY)],[(100000,q48)]⟩,dw:=1,aY:=[],aU:=[100000] }
def aqG:fV:=(.seq .nil (.seq (.seq .nil (.meet false ⟨[(0,.sl XY)],[(100000,.ob q48)]⟩ (.loop ⟨[(0,.sl XY),(1,.keep),(5,.sl q7)],[(100000,.ob q48)]⟩ (.seq j0 (.seq (.seq (.seq (.seq .nil (.meet false ⟨lS [(0,.sl (.one (.own 101000)))] (kS [1,5] []),[(101000,.ob q48)]⟩ .nil)) .nil) .nil) .nil))))) .nil))
def aqH:dA:={ bD:=2,pin:=⟨[(0,q38),(1,(.one VJ))],[]⟩,aP:=⟨[(0,q7)],[]⟩,dw:=1,aY:=[],aU:=[] }
def aqI:fV:=j22
def aqJ:dA:={ bD:=2,pin:=⟨[(0,q38),(1,(.one VJ))],[]⟩,aP:=⟨[(0,q7)],[]⟩,dw:=1,aY:=[],aU:=[] }
def aqK:fV:=j22
def al5:dA:={ bD:=1,pin:=⟨[(0,(.one q40))],[]⟩,aP:=⟨[(0,q7)],[]⟩,dw:=1,aY:=[],aU:=[] }
def aqL:fV:=(.seq .nil (.seq .nil (.seq (.seq .nil (.meet false ⟨[(3,.sl q7)],[]⟩ (.loop ⟨[(0,.keep),(3,.sl q7),(4,.sl q7)],[]⟩ (.seq j0 j0)))) .nil)))
def al6:dA:={ bD:=2,pin:=⟨[(0,(.one q70)),(1,(.one VJ))],[]⟩,aP:=⟨[(0,q2)],[]⟩,dw:=1,aY:=[],aU:=[] }
def al7:fV:=(.seq .nil j5)
def al8:dA:={ bD:=2,pin:=⟨[(0,q38),(1,(.one VJ))],[]⟩,aP:=⟨[(0,q7)],[]⟩,dw:=1,aY:=[],aU:=[] }
def al9:fV:=(.seq .nil (.seq (.seq .nil (.seq .nil (.seq j3 .nil))) j3))
def al_:dA:={ bD:=1,pin:=⟨[(0,uX)],[]⟩,aP:=⟨[(0,q2)],[]⟩,dw:=1,aY:=[],aU:=[] }
def ama:fV:=j0
def amb:dA:={ bD:=2,pin:=⟨[(0,xu),(1,(.one VJ))],[(50000,q11),(50001,q28)]⟩,aP:=⟨[(0,q7)],[(50000,q42),(50001,q28)]⟩,dw:=1,aY:=[50000,50001],aU:=[],kept:=[50001] }
def amc:fV:=(.seq .nil (.seq (.seq .nil (.meet true ⟨[],kO [50000,50001] []⟩ (.loop ⟨kS [0,1] [(5,.sl q7)],kO [50000,50001] []⟩ j14))) .nil))
def ajV:TypeId->Option Ty:=fun t=>(([(1000057,(.prod (.st 0) .bool)),(3000010,.bool)]:List (Nat×Ty))++AX).lookup t
def amd:dA:={ bD:=1,pin:=⟨[(0,q16)],[]⟩,aP:=⟨[(0,q7)],[]⟩,dw:=1,aY:=[],aU:=[] }
def ame:fV:=j24
def amf:dA:={ bD:=2,pin:=⟨[(0,q16),(1,q66)],[]⟩,aP:=⟨[(0,q7)],[]⟩,dw:=1,aY:=[],aU:=[] }
def amg:fV:=(.seq .nil (.seq (.seq (.meet false ⟨kS [2,3] [(14,.sl q2)],kO [2,3] []⟩ .nil) j0) (.seq (.seq (.meet false ⟨kS [2,3] [(29,.sl q2)],kO [2,3] []⟩ .nil) j0) (.seq .nil (.seq (.seq .nil (.meet true ⟨[],[]⟩ (.loop ⟨kS [2,5] [(6,.sl q7)],kO [2,31] []⟩ (.seq j0 (.seq (.seq (.seq (.meet false ⟨kS [2,5,6] [(52,.sl q2)],kO [2,31] []⟩ .nil) j0) .nil) .nil))))) .nil)))))
def ah2:dA:={ bD:=1,pin:=⟨[(0,q32)],[]⟩,aP:=⟨[(0,q7)],[]⟩,dw:=1,aY:=[],aU:=[] }
def amh:fV:=j24
def ami:dA:={ bD:=3,pin:=⟨[(0,xu),(1,uX),(2,uX)],[(50000,q12),(50001,wS)]⟩,aP:=⟨[],[(50000,q17),(50001,wS)]⟩,dw:=0,aY:=[50000,50001],aU:=[],kept:=[50001] }
def amj:fV:=(.seq .nil (.meet false ⟨[],[(50000,.ob (.box [(.p false true (.sl (.st 10))),(.p false true (.sl (.st 14))),(.own 50001),(.p true true (.int .i64)),(.p true true (.int .i64))])),(50001,.keep)]⟩ .nil))
def amk:dA:={ bD:=2,pin:=⟨[(0,xu),(1,(.one VJ))],[(50000,q12),(50001,wS)]⟩,aP:=⟨[(0,q7)],[(50000,q17),(50001,wS)]⟩,dw:=1,aY:=[50000,50001],aU:=[],kept:=[50001] }
def aml:fV:=j32
def ah3:dA:={ bD:=3,pin:=⟨[(0,xu),(1,q32),(2,uX)],[(50000,q11),(50001,q28)]⟩,aP:=⟨[],[(50000,q58),(60001,q9)]⟩,dw:=0,aY:=[50000],aU:=[60001] }
def amm:fV:=(.seq .nil (.seq .nil (.seq (.seq (.meet false ⟨kS [0,2,4] [(24,.sl q2)],kO [50000,4,50001] []⟩ .nil) j0) (.seq .nil (.seq .nil (.seq (.seq .nil (.meet false j4 (.seq .nil (.seq .nil (.meet false j4 (.seq .nil (.seq .nil (.meet false j4 (.seq .nil (.seq .nil (.meet false j4 (.seq .nil (.seq .nil (.meet false j4 (.seq .nil (.seq .nil (.meet false j4 (.seq .nil (.seq .nil (.meet false j4 (.seq .nil (.seq .nil (.meet false j4 (.seq .nil (.seq .nil (.meet false j4 (.seq .nil (.seq .nil (.meet false j4 .nil))))))))))))))))))))))))))))) .nil))))))
def ajW:TypeId->Option Ty:=fun t=>(([(1000057,(.prod (.st 0) .bool))]:List (Nat×Ty))++AX).lookup t
def ah4:dA:={ bD:=3,pin:=⟨[(0,xu),(1,q32),(2,uX)],[(50000,q11),(50001,q28)]⟩,aP:=⟨[],[(50000,(.box [q13,SQ,q22,q0,q0,(.own 61),q0])),(61,q9)]⟩,dw:=0,aY:=[50000],aU:=[61] }
def amn:fV:=(.seq .nil (.seq .nil (.seq .nil (.seq .nil (.seq .nil (.seq .nil (.seq .nil (.seq .nil (.seq .nil (.seq .nil (.seq .nil (.seq .nil (.seq .nil (.seq (.seq .nil (.meet false ⟨kS [0,10,11,12] [],[(50000,.ob (.box [q13,SQ,q22,q0,q0,(.own 61),q0])),(61,.ob q9)]⟩ .nil)) .nil))))))))))))))
def ajX:TypeId->Option Ty:=fun t=>(([(1000057,(.prod (.st 0) .bool))]:List (Nat×Ty))++AX).lookup t
def ah5:dA:={ bD:=3,pin:=⟨[(0,xu),(1,(.one q50)),(2,uX)],[(50000,q11),(50001,q28)]⟩,aP:=⟨[(0,q37)],[(50000,(.box [q13,SQ,q22,q0,q0,(.own 100002),q0])),(100001,q6),(100002,q9)]⟩,dw:=1,aY:=[50000],aU:=[100001,100002] }
def amo:fV:=(.seq .nil (.seq .nil (.seq (.seq .nil (.meet false ⟨[(7,.sl q37)],[(50000,.ob q36),(100001,.ob q6),(100002,.ob q9)]⟩ (.loop ⟨kS [0,1,2] [(7,.sl q37),(8,.sl q7)],[(50000,.ob q36),(100001,.ob q6),(100002,.ob q9)]⟩ (.seq j0 j7)))) .nil)))
def ajY:TypeId->Option Ty:=fun t=>(([(1000057,(.prod (.st 0) .bool))]:List (Nat×Ty))++AX).lookup t
def amq:dA:={ bD:=1,pin:=⟨[(0,q49)],[]⟩,aP:=⟨[(0,q60)],[(60000,q10)]⟩,dw:=1,aY:=[],aU:=[60000] }
def amr:fV:=(.seq .nil (.seq (.seq .nil (.seq (.seq (.seq .nil (.meet false j23 (.seq .nil (.seq .nil (.meet false j23 (.seq .nil (.seq .nil (.meet false j23 (.seq .nil (.seq .nil (.meet false j23 .nil))))))))))) (.seq .nil (.seq (.seq .nil (.meet false ⟨kS [1,4] [(14,.sl q2)],[(1,.keep)]⟩ .nil)) (.seq .nil j29)))) .nil)) .nil))
def ams:dA:={ bD:=1,pin:=⟨[(0,q49)],[]⟩,aP:=⟨[(0,q7),(1,q2)],[]⟩,dw:=2,aY:=[],aU:=[] }
def amu:fV:=(.seq .nil (.seq (.seq .nil (.seq (.seq (.seq .nil (.meet false j36 (.seq .nil (.seq .nil (.meet false j36 (.seq .nil (.seq .nil (.meet false j36 .nil)))))))) j0) .nil)) (.seq (.seq (.meet false j33 .nil) j0) .nil)))
def amv:dA:={ bD:=3,pin:=⟨[(0,q35),(1,uX),(2,q68)],[]⟩,aP:=⟨[(0,q2)],[]⟩,dw:=1,aY:=[],aU:=[] }
def amw:fV:=j41
def amx:dA:={ bD:=4,pin:=⟨[(0,xu),(1,q32),(2,uX),(3,uX)],[(50000,q12),(50001,wS)]⟩,aP:=⟨[],[(50000,q17),(50001,wS)]⟩,dw:=0,aY:=[50000,50001],aU:=[],kept:=[50001] }
def amy:fV:=(.seq .nil (.seq .nil (.seq (.seq .nil (.meet false j48 (.seq .nil (.seq (.meet false ⟨kS [0,5] [(20,.sl q2)],kO [50000,50001,5] []⟩ .nil) (.meet false j48 .nil))))) .nil)))
def amA:dA:={ bD:=3,pin:=⟨[(0,xu),(1,(.one VJ)),(2,uX)],[(50000,q12),(50001,wS)]⟩,aP:=⟨[(0,(.agg [q0,q0,q0,q0,KA,.dD]))],[(50000,q17),(50001,wS)]⟩,dw:=1,aY:=[50000,50001],aU:=[],kept:=[50001] }
def amB:fV:=(.seq .nil (.seq .nil (.seq (.seq .nil (.meet false ⟨kS [1,2,6] [(7,.sl q7)],kO [50000,50001,6] []⟩ .nil)) .nil)))
def ah6:dA:={ bD:=2,pin:=⟨[(0,xu),(1,q32)],[(50000,q12),(50001,wS)]⟩,aP:=⟨[(0,(.agg [q0,q0,q0,q0,KA,(.own 60002)]))],[(50000,q17),(50001,wS),(60002,q55)]⟩,dw:=1,aY:=[50000,50001],aU:=[60002],kept:=[50001] }
def amC:fV:=(.seq .nil (.seq (.seq .nil (.seq (.seq .nil (.seq j0 (.seq .nil (.meet true j10 (.seq .nil (.seq .nil (.meet true j10 (.seq .nil (.seq .nil (.meet true j10 (.seq (.seq .nil (.seq (.seq .nil (.meet true j13 (.seq .nil (.seq .nil (.meet true j13 (.seq .nil (.seq .nil (.seq (.seq .nil (.meet false j13 .nil)) (.seq (.seq .nil (.meet false j13 .nil)) .nil))))))))) .nil)) (.seq .nil (.meet false j10 (.seq (.seq .nil (.meet false j10 .nil)) .nil)))))))))))))) .nil)) j0))
def ah7:dA:={ bD:=2,pin:=⟨[(0,xu),(1,(.one q50))],[(50000,q12),(50001,wS)]⟩,aP:=⟨[(0,q63)],[(50000,q17),(50001,wS),(100002,q55)]⟩,dw:=1,aY:=[50000,50001],aU:=[100002],kept:=[50001] }
def amD:fV:=(.seq .nil (.seq .nil (.seq (.seq .nil (.meet false ⟨[(5,.sl q63)],[(50000,.ob q12),(50001,.keep),(100002,.ob q55)]⟩ (.loop ⟨kS [0,1] [(5,.sl q63),(6,.sl q7)],[(50000,.ob q12),(50001,.keep),(100002,.ob q55)]⟩ (.seq j0 j0)))) .nil)))
def amE:dA:={ bD:=3,pin:=⟨[(0,uX),(1,(.one VJ)),(2,q32)],[]⟩,aP:=⟨[(0,(.agg [q0,q0,KA,(.own 10),.dD,.dD]))],[(10,(.arr false true false (.st 16)))]⟩,dw:=1,aY:=[],aU:=[10] }
def amF:fV:=j0
def amG:dA:={ bD:=2,pin:=⟨[(0,xu),(1,q68)],[(50000,XW),(50001,J3),(50002,q24),(50003,MV),(50004,wS)]⟩,aP:=⟨[(0,(.one KA)),(1,q2)],[(50000,q41),(50001,q4),(50002,q24),(50003,MV),(50004,wS)]⟩,dw:=2,aY:=[50000,50001,50002,50003,50004],aU:=[],kept:=[50002,50003,50004] }
def amH:fV:=(.seq .nil (.seq .nil (.seq (.seq .nil (.meet false ⟨[(0,.keep),(6,.sl (.one (.own 100005)))],kO [50000,50001,50002,50003,50004] [(100005,.ob wS)]⟩ (.loop ⟨kS [0,1] [(6,.sl (.one (.own 100005))),(7,.sl q7)],kO [50000,50001,50002,50003,50004] [(100005,.ob wS)]⟩ (.seq j0 (.seq (.seq (.seq .nil (.meet false ⟨kS [0,1] [(6,.sl (.one (.own 101005))),(7,.keep)],kO [50000,50001,50002,50003,50004] [(101005,.ob wS)]⟩ .nil)) .nil) .nil))))) j3)))
def amI:dA:={ bD:=0,pin:=⟨[],[]⟩,aP:=⟨[(0,(.one (.own 1)))],[(1,q67)]⟩,dw:=1,aY:=[],aU:=[1] }
def amJ:fV:=j0
def amK:dA:={ bD:=1,pin:=⟨[(0,xu)],[(50000,XW),(50001,J3),(50002,q24),(50003,MV),(50004,wS)]⟩,aP:=⟨[(0,(.agg [q0,q0,q0,q0,KA,.dD]))],[(50000,q41),(50001,q4),(50002,q24),(50003,MV),(50004,wS)]⟩,dw:=1,aY:=[50000,50001,50002,50003,50004],aU:=[],kept:=[50002,50003,50004] }
def amL:fV:=(.seq .nil (.seq .nil (.seq (.seq .nil (.seq (.seq .nil (.seq .nil (.seq .nil (.meet true ⟨kS [2,3] [],lO [(50000,.ob XW),(50001,.ob q4)] (kO [50002,50003,50004,2] [])⟩ (.seq j12 (.seq (.seq .nil (.meet false ⟨kS [0,2,3] [(26,.sl q2)],kO [50000,50001,50002,50003,50004,2] []⟩ .nil)) (.meet true ⟨kS [2,3] [],kO [50000,50001,50002,50003,50004,2] []⟩ j3))))))) .nil)) (.seq .nil (.seq (.seq .nil (.meet false ⟨[(2,.keep),(6,.sl q7)],lO [(50000,.keep),(50001,.ob q4)] (kO [50002,50003,50004,2] [])⟩ .nil)) .nil)))))
def amM:dA:={ bD:=3,pin:=⟨[(0,uX),(1,uX),(2,(.one q50))],[]⟩,aP:=⟨[(0,(.agg [q0,q0,q0,q0,KA,q50]))],[]⟩,dw:=1,aY:=[],aU:=[] }
def amN:fV:=j0
def aqM:dA:={ bD:=2,pin:=⟨[(0,xu),(1,q16)],[(50000,J3)]⟩,aP:=⟨[(0,(.one (.own 9)))],[(50000,q4),(9,q6)]⟩,dw:=1,aY:=[50000],aU:=[9] }
def aqN:fV:=(.seq .nil (.seq .nil (.seq (.seq .nil (.meet false ⟨[(5,.keep)],[(50000,.ob J3),(9,.ob q6)]⟩ (.loop ⟨kS [0,5] [(6,.sl q7)],[(50000,.ob J3),(9,.ob q6)]⟩ (.seq j0 j7)))) .nil)))
def aqO:dA:={ bD:=2,pin:=⟨[(0,q16),(1,q59)],[]⟩,aP:=⟨[(0,q37),(1,q63)],[(100001,q34),(100002,q6)]⟩,dw:=2,aY:=[],aU:=[100001,100002] }
def aqP:fV:=(.seq .nil (.seq .nil (.seq .nil (.seq (.seq .nil (.meet false ⟨[(6,.sl q37),(7,.sl q63)],[(100001,.ob q34),(100002,.ob q6)]⟩ (.loop ⟨kS [1,2] (lS [(6,.sl q37),(7,.sl q63)] (kS [13,14] [(15,.sl q7)])),[(2,.keep),(100001,.ob q34),(100002,.ob q6)]⟩ (.seq .nil (.seq .nil (.seq (.seq (.seq .nil (.seq .nil (.seq (.seq .nil (.meet false ⟨kS [1,2] (lS [(6,.sl q57)] (kS [7,8,9,13,14,15] [])),[(2,.keep),(101001,.ob q34),(24,.keep)]⟩ (.loop ⟨kS [1,2] (lS [(6,.sl q57)] (kS [7,8,9,13,14,15,30,31] [(32,.sl q7)])),[(2,.keep),(101001,.ob q34),(24,.keep)]⟩ j15))) (.seq .nil (.seq (.seq .nil (.meet false ⟨kS [1,2,6,7,9] (lS [(12,.sl uX)] (kS [13,14,15] [])),kO [2,101001,24] []⟩ .nil)) .nil))))) .nil) .nil)))))) .nil))))
def aqQ:dA:={ bD:=1,pin:=⟨[(0,q16)],[]⟩,aP:=⟨[(0,(.one (.own 11)))],[(11,q39)]⟩,dw:=1,aY:=[],aU:=[11] }
def aqR:fV:=(.seq .nil (.seq .nil (.seq j1 (.seq .nil (.seq .nil (.seq (.meet false ⟨[(3,.keep)],[(11,.ob q39)]⟩ (.loop ⟨kS [1,3] [(4,.sl q63)],[(1,.keep),(11,.ob q39),(100002,.ob q10)]⟩ (.seq j0 (.seq (.seq .nil (.seq .nil (.seq .nil (.seq .nil (.meet false ⟨kS [1,3] [(4,.sl (.one (.own 101002)))],[(1,.keep),(11,.ob q39),(101002,.ob q10)]⟩ (.loop ⟨kS [1,3] [(4,.sl (.one (.own 101002))),(6,.keep),(7,.sl q7)],[(1,.keep),(11,.ob q39),(101002,.ob q10),(39,.keep)]⟩ (.seq j0 (.seq (.seq (.seq .nil (.meet false ⟨kS [1,3] (lS [(4,.sl (.one (.own 102002)))] (kS [6,7] [])),[(1,.keep),(11,.ob q39),(102002,.ob q10),(39,.keep)]⟩ j0)) .nil) .nil)))))))) .nil)))) .nil))))))
def amO:TypeId->Option Ty:=fun t=>(([(2000000,.bool)]:List (Nat×Ty))++AX).lookup t
def aqS:dA:={ bD:=1,pin:=⟨[(0,q8)],[]⟩,aP:=⟨[(0,q2)],[]⟩,dw:=1,aY:=[],aU:=[] }
def aqT:fV:=(.seq .nil (.seq .nil (.seq (.seq .nil (.meet true ⟨[],[]⟩ (.loop ⟨kS [1,3] [(4,.sl q7)],[(1,.keep)]⟩ (.seq j0 (.seq (.seq (.seq .nil (.seq (.seq .nil (.meet true j20 (.seq j1 (.seq .nil (.meet true j20 (.seq j1 (.seq .nil (.meet true j20 (.seq j1 (.seq .nil (.meet true j20 (.seq (.seq (.seq .nil (.meet true j20 (.loop ⟨kS [1,3,4] [(5,.sl q7)],[(1,.keep)]⟩ j14))) j1) .nil)))))))))))) .nil)) .nil) .nil))))) .nil)))
def aqU:dA:={ bD:=1,pin:=⟨[(0,(.agg [VJ,q1,q70,q40]))],[]⟩,aP:=⟨[(0,(.one (.own 8)))],[(8,(.arr false true false .str))]⟩,dw:=1,aY:=[],aU:=[8] }
def aqV:fV:=j0
def amP:dA:={ bD:=2,pin:=⟨[(0,xu),(1,(.one q40))],[(50000,q11),(50001,q28)]⟩,aP:=⟨[(0,q2)],[(50000,q58),(60001,q9)]⟩,dw:=1,aY:=[50000],aU:=[60001] }
def aqW:fV:=(.seq .nil (.seq (.seq .nil (.meet true ⟨[],[(50000,.ob (.box [q13,SQ,q22,q3,q3,(.own 100001),q3])),(100001,.ob q9)]⟩ (.loop ⟨kS [0,1] [(5,.sl q7)],[(50000,.ob (.box [q13,SQ,q22,q3,q3,(.own 100001),q3])),(100001,.ob q9)]⟩ j14))) .nil))
def amQ:TypeId->Option Ty:=fun t=>(([(1000057,(.prod (.st 0) .bool))]:List (Nat×Ty))++AX).lookup t
def amR:dA:={ bD:=2,pin:=⟨[(0,xu),(1,q78)],[(50000,q11),(50001,q28)]⟩,aP:=⟨[(0,q2)],[(50000,q58),(60001,q9)]⟩,dw:=1,aY:=[50000],aU:=[60001] }
def aqX:fV:=(.seq .nil (.seq .nil (.seq (.seq .nil j7) (.seq (.seq .nil (.meet false ⟨kS [0,3,5] [],[(50000,.ob q36),(3,.keep),(100002,.ob q9)]⟩ (.loop ⟨kS [0,3,5] [(6,.sl q7)],[(50000,.ob q36),(3,.keep),(100002,.ob q9)]⟩ (.seq j0 j0)))) (.seq (.seq .nil (.seq (.seq (.seq .nil (.meet false ⟨kS [0,3,5,38] [(39,.sl q2)],kO [50000,3,100002] []⟩ .nil)) (.meet true j31 (.seq (.seq .nil (.seq .nil (.meet false ⟨[],[(50000,.ob (.box [q13,SQ,q22,q0,q0,(.own 100002),q0])),(100002,.ob q9)]⟩ .nil))) (.seq .nil (.meet true j31 (.seq .nil (.seq .nil (.seq j0 (.seq .nil (.meet true j31 j12)))))))))) .nil)) .nil)))))
def amS:TypeId->Option Ty:=fun t=>(([(1000057,(.prod (.st 0) .bool)),(3000022,.bool),(3000011,.bool)]:List (Nat×Ty))++AX).lookup t
def ah8:dA:={ bD:=3,pin:=⟨[(0,xu),(1,q78),(2,uX)],[(50000,q11),(50001,q28)]⟩,aP:=⟨[],[(50000,(.box [q13,SQ,q22,q0,q0,(.own 57),q0])),(57,q9)]⟩,dw:=0,aY:=[50000],aU:=[57] }
def amT:fV:=(.seq .nil (.seq .nil (.seq .nil (.seq .nil (.seq .nil (.seq .nil (.seq .nil (.seq (.seq .nil (.meet false ⟨kS [0,2,4,8,9] [],[(50000,.ob (.box [q13,SQ,q22,q0,q0,(.own 41),q0])),(4,.keep),(41,.ob q9)]⟩ .nil)) .nil))))))))
def ajZ:TypeId->Option Ty:=fun t=>(([(1000057,(.prod (.st 0) .bool))]:List (Nat×Ty))++AX).lookup t
def ah9:dA:={ bD:=3,pin:=⟨[(0,xu),(1,q78),(2,uX)],[(50000,q11),(50001,q28)]⟩,aP:=⟨[(0,q2)],[(50000,q58),(60001,q9)]⟩,dw:=1,aY:=[50000],aU:=[60001] }
def amU:fV:=(.seq .nil (.seq .nil (.seq .nil (.seq .nil (.seq .nil (.seq (.seq .nil (.seq (.seq .nil (.seq .nil (.seq (.seq .nil (.meet false ⟨[],[(50000,.ob (.box [q13,SQ,q22,q0,q0,(.own 39),q0])),(39,.ob q9)]⟩ .nil)) .nil))) .nil)) (.seq .nil (.seq .nil (.seq .nil (.seq .nil (.seq (.seq (.meet false ⟨kS [0,4,9,10,13,14] [(77,.sl q2)],kO [50000,4,67] []⟩ .nil) j0) (.seq .nil (.seq (.seq .nil (.meet false ⟨kS [0,13,14,15] [],[(50000,.ob (.box [q13,SQ,q22,q0,q0,(.own 81),q0])),(81,.ob q9)]⟩ .nil)) (.seq (.seq .nil (.meet false ⟨[],[(50000,.ob (.box [q13,SQ,q22,q0,q0,(.own 81),q0])),(81,.ob q9)]⟩ .nil)) .nil))))))))))))))
def aj0:TypeId->Option Ty:=fun t=>(([(1000057,(.prod (.st 0) .bool)),(3000033,.bool)]:List (Nat×Ty))++AX).lookup t
def aqY:dA:={ bD:=1,pin:=⟨[(0,q8)],[]⟩,aP:=⟨[(0,q2)],[]⟩,dw:=1,aY:=[],aU:=[] }
def aqZ:fV:=(.seq .nil (.seq (.seq (.seq (.seq .nil (.meet false j35 (.seq .nil (.meet false j35 .nil)))) (.seq .nil j29)) .nil) .nil))
def aq0:dA:={ bD:=1,pin:=⟨[(0,uX)],[]⟩,aP:=⟨[(0,q2)],[]⟩,dw:=1,aY:=[],aU:=[] }
def aq1:fV:=j0
def ah_:dA:={ bD:=2,pin:=⟨[(0,xu),(1,(.one q40))],[(50000,q12),(50001,wS)]⟩,aP:=⟨[(0,q37)],[(50000,q52),(100001,q84),(100002,q48)]⟩,dw:=1,aY:=[50000],aU:=[100001,100002] }
def amV:fV:=(.seq .nil (.seq .nil (.seq (.seq .nil (.meet false ⟨[(5,.sl q37)],[(50000,.ob q53),(100001,.ob q84),(100002,.ob q48)]⟩ (.loop ⟨kS [0,1] [(5,.sl q37),(6,.sl q7)],[(50000,.ob q53),(100001,.ob q84),(100002,.ob q48)]⟩ (.seq j0 (.seq (.seq (.seq .nil (.seq .nil (.seq (.seq .nil (.meet false ⟨kS [0,1,5,6,7] [(8,.sl (.one (.own 101003)))],lO [(50000,.ob q53)] (kO [100001,7] [(101003,.ob q55),(100002,.keep)])⟩ (.loop ⟨kS [0,1,5,6,7] [(8,.sl (.one (.own 101003))),(9,.sl q7)],lO [(50000,.ob q53)] (kO [100001,7] [(101003,.ob q55),(100002,.keep)])⟩ (.seq j0 (.seq (.seq (.seq (.seq .nil (.meet false ⟨kS [0,1,5,6,7,8,9] [],lO [(50000,.ob q53)] (kO [100001,7,101003,100002] [])⟩ .nil)) .nil) .nil) .nil))))) (.seq .nil (.seq .nil (.seq (.seq .nil (.seq (.seq .nil (.meet false ⟨kS [0,1,5,6,7] [],lO [(50000,.ob (.box [q13,SQ,(.own 110003),q0,q0]))] (kO [100001,7] [(110003,.ob q48),(101003,.keep)])⟩ (.seq (.seq (.seq .nil (.meet false j11 .nil)) .nil) (.seq (.seq .nil (.meet false ⟨kS [0,1,5,6,7,10] [(80,.sl q2)],kO [50000,100001,7,100002,101003] []⟩ .nil)) (.meet false j11 (.seq (.seq .nil (.meet false j11 (.seq .nil (.seq (.meet false ⟨kS [0,1,5,6,7] [(108,.sl q2)],kO [50000,100001,7,100002,101003] []⟩ .nil) (.meet false j11 .nil))))) .nil)))))) .nil)) j0)))))) .nil) .nil))))) .nil)))
def amW:dA:={ bD:=2,pin:=⟨[(0,q59),(1,(.one (.fn 84 [])))],[]⟩,aP:=⟨[(0,q7)],[]⟩,dw:=1,aY:=[],aU:=[] }
def amX:fV:=(.seq .nil (.seq (.seq .nil (.meet true ⟨[],[]⟩ (.loop ⟨kS [0,1,7] [(8,.sl q7)],[]⟩ (.seq .nil (.seq .nil j38))))) .nil))
def amY:dA:={ bD:=3,pin:=⟨[(0,q35),(1,q16),(2,q49)],[]⟩,aP:=⟨[(0,q7)],[]⟩,dw:=1,aY:=[],aU:=[] }
def amZ:fV:=(.seq .nil (.seq (.seq (.meet false ⟨kS [3,4,5] [(48,.sl q2)],kO [3,4,5] []⟩ .nil) j0) (.seq .nil (.seq (.seq .nil (.seq .nil (.meet false ⟨kS [3,4,5] [(7,.sl (.one (.own 101003)))],kO [3,4,5] [(101003,.ob q10)]⟩ .nil))) (.seq (.seq .nil (.meet true ⟨kS [3,5] [],kO [3,5] []⟩ (.loop ⟨kS [3,4,5,7] [(10,.sl q7)],kO [3,4,5,101003] []⟩ (.seq j0 (.seq (.seq (.seq (.meet false ⟨kS [3,4,5,7,10] [(80,.sl q2)],kO [3,4,5,101003] []⟩ .nil) j0) .nil) .nil))))) (.seq (.seq .nil (.seq (.seq (.seq .nil (.meet false ⟨kS [3,5,82] [(83,.sl q2)],kO [3,5] []⟩ .nil)) (.meet true ⟨[],[]⟩ (.seq j1 (.seq (.seq .nil (.meet false ⟨kS [3,5,82] [(91,.sl q2)],kO [3,5] []⟩ .nil)) (.meet true ⟨[],[]⟩ (.seq j1 (.seq .nil (.meet true ⟨[],[]⟩ (.seq (.seq (.seq (.meet false ⟨kS [3,5] [(111,.sl q2)],kO [3,5] []⟩ .nil) j0) j1) (.seq .nil (.meet true ⟨[],[]⟩ (.seq j1 (.seq .nil (.meet true ⟨[],[]⟩ (.seq (.seq (.meet false ⟨[(140,.sl q2)],[]⟩ .nil) j0) (.seq .nil (.meet true ⟨[],[]⟩ (.seq (.seq (.meet false ⟨[(152,.sl q2)],[]⟩ .nil) j0) .nil)))))))))))))))))) .nil)) .nil))))))
def am0:dA:={ bD:=1,pin:=⟨[(0,xu)],[(50000,XW),(50001,J3),(50002,q24),(50003,MV),(50004,wS)]⟩,aP:=⟨[(0,(.one KA)),(1,q2)],[(50000,q41),(50001,q4),(50002,q24),(50003,MV),(50004,wS)]⟩,dw:=2,aY:=[50000,50001,50002,50003,50004],aU:=[],kept:=[50002,50003,50004] }
def am1:fV:=(.seq .nil (.seq .nil (.seq (.seq .nil (.meet true ⟨[],kO [50000,50001,50002,50003,50004] []⟩ (.loop ⟨kS [0,4] [(5,.sl q7)],kO [50000,50001,50002,50003,50004,8] []⟩ (.seq j0 (.seq (.seq (.seq .nil (.seq (.seq .nil (.meet false ⟨kS [0,4,5] [(6,.sl q2)],kO [50000,50001,50002,50003,50004,8] []⟩ (.loop ⟨kS [0,4,5] [(6,.sl q2),(7,.sl q7)],kO [50000,50001,50002,50003,50004,8] []⟩ (.seq j0 (.seq (.seq (.meet false ⟨kS [0,4,5] [(6,.sl q2),(7,.keep)],kO [50000,50001,50002,50003,50004,8] []⟩ .nil) .nil) .nil))))) j1)) .nil) .nil))))) .nil)))
def aia:dA:={ bD:=2,pin:=⟨[(0,xu),(1,uX)],[(50000,XW),(50001,J3),(50002,q24),(50003,MV),(50004,wS)]⟩,aP:=⟨[(0,(.agg [q0,q0,q0,q0,KA,(.p false true (.sl (.st 16)))]))],[(50000,q41),(50001,q4),(50002,q24),(50003,MV),(50004,wS)]⟩,dw:=1,aY:=[50000,50001,50002,50003,50004],aU:=[],kept:=[50002,50003,50004] }
def am2:fV:=(.seq .nil (.seq .nil (.seq (.seq (.meet false ⟨kS [0,1,4,5] [(18,.sl q2)],lO [(50000,.keep),(50001,.ob J3)] (kO [50002,50003,50004,4] [])⟩ .nil) j0) (.seq (.seq .nil (.seq (.seq .nil (.seq .nil (.seq .nil (.seq .nil (.seq .nil (.seq .nil (.seq (.seq .nil (.meet false ⟨kS [0,1,4,5,22] [(58,.sl q2)],kO [50000,50001,50002,50003,50004,4] []⟩ .nil)) (.seq .nil (.seq .nil (.meet true ⟨kS [0,1,4,5] [],lO [(50000,.ob XW),(50001,.ob q4)] (kO [50002,50003,50004,4] [])⟩ (.seq j12 .nil))))))))))) .nil)) .nil))))
def aib:dA:={ bD:=2,pin:=⟨[(0,xu),(1,uX)],[(50000,XW),(50001,J3),(50002,q24),(50003,MV),(50004,wS)]⟩,aP:=⟨[(0,(.agg [q0,q0,q0,q0,KA,(.own 60005)]))],[(50000,q41),(50001,q4),(50002,q24),(50003,MV),(50004,wS),(60005,q62)]⟩,dw:=1,aY:=[50000,50001,50002,50003,50004],aU:=[60005],kept:=[50002,50003,50004] }
def am3:fV:=(.seq .nil (.seq .nil (.seq .nil (.seq .nil (.seq (.seq (.meet false ⟨kS [0,1,4,5,6,7] [(46,.sl q2)],lO [(50000,.keep),(50001,.ob q4)] (kO [50002,50003,50004,4,5] [])⟩ .nil) (.meet false ⟨kS [0,1,4,5] [(6,.sl q7),(7,.keep)],lO [(50000,.keep),(50001,.ob q4)] (kO [50002,50003,50004,4,5] [])⟩ .nil)) (.seq .nil (.seq (.seq .nil (.meet false ⟨kS [0,1,4,5,7] [(8,.sl (.one (.own 102007)))],lO [(50000,.ob XW),(50001,.ob q4)] (kO [50002,50003,50004,4,5] [(102007,.ob q62)])⟩ (.loop ⟨kS [0,1,4,5,6,7] [(8,.sl (.one (.own 102007))),(9,.sl q7)],lO [(50000,.ob XW),(50001,.ob q4)] (kO [50002,50003,50004,4,5] [(102007,.ob q62)])⟩ (.seq j0 j0)))) (.seq j1 (.seq .nil (.seq (.seq .nil (.meet false ⟨kS [4,8,10] [],lO [(50000,.ob XW),(50001,.ob q4)] (kO [50002,50003,50004,4,102007] [(10,.ob (.box [q0,q0,q0,q0,(.p false true .str),(.p false true (.sl (.st 16)))]))])⟩ .nil)) j3))))))))))
def aic:dA:={ bD:=3,pin:=⟨[(0,xu),(1,uX),(2,uX)],[(50000,XW),(50001,J3),(50002,q24),(50003,MV),(50004,wS)]⟩,aP:=⟨[(0,(.one (.own 100004)))],[(50000,(.box [(.box 50001 0),(.own 50002),(.own 50003),(.own 100005),q0])),(50001,q4),(50002,q24),(50003,MV),(100004,q47),(100005,wS)]⟩,dw:=1,aY:=[50000,50001,50002,50003],aU:=[100004,100005],kept:=[50002,50003] }
def am4:fV:=(.seq .nil (.seq .nil (.seq (.seq .nil (.meet false ⟨[(7,.sl (.one (.own 100004)))],lO [(50000,.ob q76),(50001,.ob J3)] (kO [50002,50003] [(100004,.ob q47),(100005,.ob wS)])⟩ (.loop ⟨kS [0,1,2] [(7,.sl (.one (.own 100004))),(8,.sl q7)],lO [(50000,.ob q76),(50001,.ob J3)] (kO [50002,50003] [(100004,.ob q47),(100005,.ob wS)])⟩ (.seq (.seq (.meet false ⟨kS [0,1,2,7,8] [(18,.sl q2)],kO [50000,50001,50002,50003,100004,100005] []⟩ .nil) .nil) j7)))) .nil)))
def aie:dA:={ bD:=2,pin:=⟨[(0,xu),(1,uX)],[(50000,XW),(50001,J3),(50002,q24),(50003,MV),(50004,wS)]⟩,aP:=⟨[(0,(.agg [q0,q0,KA,(.own 60004),(.own 60005),(.own 60006)]))],[(50000,(.box [(.box 50001 0),(.own 50002),(.own 50003),(.own 60007),q0])),(50001,q4),(50002,q24),(50003,MV),(60004,q62),(60005,q47),(60006,q47),(60007,wS)]⟩,dw:=1,aY:=[50000,50001,50002,50003],aU:=[60004,60005,60006,60007],kept:=[50002,50003] }
def am5:fV:=(.seq .nil (.seq .nil (.seq (.seq .nil (.seq (.seq (.seq .nil (.meet false ⟨kS [0,1,4,5,19] [(20,.sl q2)],kO [50000,50001,50002,50003,4,50004] []⟩ .nil)) (.meet true j9 (.seq j49 (.seq .nil (.meet true j9 (.seq j1 (.seq .nil (.meet true j9 (.seq j12 (.seq .nil (.meet true j9 (.seq j12 (.seq (.seq .nil (.meet false ⟨kS [0,1,4,5,19] [(95,.sl q2)],kO [50000,50001,50002,50003,4,50004] []⟩ .nil)) (.meet true j44 (.seq (.seq .nil (.seq (.seq .nil (.seq .nil (.seq (.seq .nil (.meet false ⟨kS [4,13] [],lO [(50000,.ob (.box [(.box 50001 0),(.own 50002),(.own 50003),(.own 102006),q0])),(50001,.ob q4)] (kO [50002,50003,4] (lO [(13,.ob (.box [q0,q0,KA,(.own 102),(.own 109),(.own 102009)])),(102006,.ob wS)] (kO [102,109] [(102009,.ob q47)])))⟩ .nil)) .nil))) .nil)) (.seq .nil (.meet true j44 (.seq j1 (.seq .nil (.seq j3 .nil)))))))))))))))))))) .nil)) .nil)))
def aif:dA:={ bD:=2,pin:=⟨[(0,xu),(1,uX)],[(50000,XW),(50001,J3),(50002,q24),(50003,MV),(50004,wS)]⟩,aP:=⟨[(0,(.agg [q0,q0,KA,(.own 60004),(.own 60005),.dD]))],[(50000,(.box [(.box 50001 0),(.own 50002),(.own 50003),(.own 60006),q0])),(50001,q4),(50002,q24),(50003,MV),(60004,q62),(60005,q47),(60006,wS)]⟩,dw:=1,aY:=[50000,50001,50002,50003],aU:=[60004,60005,60006],kept:=[50002,50003] }
def am6:fV:=(.seq .nil (.seq .nil (.seq (.seq (.meet false ⟨kS [0,1,4,5,6] [(28,.sl q2)],lO [(50000,.keep),(50001,.ob q4)] (kO [50002,50003,4,50004] [])⟩ .nil) (.meet false ⟨kS [0,1,4] [(5,.sl (.one (.p false true .str))),(6,.sl q2)],lO [(50000,.keep),(50001,.ob q4)] (kO [50002,50003,4,50004] [])⟩ .nil)) (.seq (.seq (.meet false ⟨kS [0,1,4,5] [(54,.sl q2)],lO [(50000,.keep),(50001,.ob q4)] (kO [50002,50003,4,50004] [])⟩ .nil) j3) j29))))
def aq2:dA:={ bD:=1,pin:=⟨[(0,q16)],[]⟩,aP:=⟨[(0,(.agg [KA,q0,q0,(.own 103005)]))],[(103005,q65)]⟩,dw:=1,aY:=[],aU:=[103005] }
def aq3:fV:=(.seq .nil (.seq .nil (.seq .nil (.seq .nil (.seq (.seq .nil (.meet false ⟨kS [1,2,3,4] [],kO [1,2,11] [(14,.ob q6)]⟩ (.loop ⟨kS [1,2,3,4] [(5,.sl q7),(6,.sl q7)],kO [1,2,11] [(14,.ob q6)]⟩ (.seq j0 (.seq (.seq (.seq .nil (.seq .nil (.meet false ⟨kS [1,2,3,4] [(5,.sl q7),(6,.keep)],kO [1,2,11,14] []⟩ .nil))) .nil) .nil))))) (.seq .nil (.seq .nil (.seq (.seq .nil (.meet false ⟨kS [2,7] [],[(2,.keep),(7,.ob (.box [VJ,q1,q1,(.own 103005)])),(103005,.ob q65)]⟩ (.loop ⟨kS [1,2,3,4,7] [(8,.sl q7)],kO [1,2,11,14] [(7,.ob (.box [VJ,q1,q1,(.own 103005)])),(103005,.ob q65)]⟩ (.seq j0 (.seq (.meet false ⟨kS [1,2,3,4,7,8] [],kO [1,2,11,14] [(7,.ob (.box [VJ,q1,q1,(.own 106005)])),(106005,.ob q65)]⟩ (.seq j0 (.seq .nil (.seq j26 (.seq j26 .nil))))) .nil))))) .nil))))))))
def aq4:dA:={ bD:=1,pin:=⟨[(0,xu)],[(50000,J3)]⟩,aP:=⟨[(0,(.agg [(.own 19),(.own 100004),q0,q0]))],[(50000,q4),(19,q51),(100004,q30)]⟩,dw:=1,aY:=[50000],aU:=[19,100004] }
def aq5:fV:=(.seq .nil (.seq .nil (.seq .nil (.seq (.seq .nil (.meet false ⟨kS [0,2,3,4] [],[(50000,.ob q4),(2,.keep),(3,.ob (.box [(.own 19),(.own 100004),q0,q0])),(19,.keep),(100004,.ob q30)]⟩ (.loop ⟨kS [0,2,3,4] [(5,.sl q7)],[(50000,.ob q4),(2,.keep),(3,.ob (.box [(.own 19),(.own 100004),q0,q0])),(19,.keep),(100004,.ob q30)]⟩ (.seq j0 (.seq (.seq (.seq .nil (.seq (.seq .nil (.meet false ⟨kS [0,2,3,4,5,6] [],lO [(50000,.ob q4)] (kO [2,3] (lO [(6,.ob (.box [KA,q0,q0,.dD]))] (kO [19,100004] [])))⟩ .nil)) .nil)) .nil) .nil))))) (.seq .nil (.seq (.seq .nil (.meet false ⟨kS [2,3] [],lO [(50000,.ob q4)] (kO [2,3,19] [(100004,.ob q30)])⟩ (.loop ⟨kS [0,2,3,4] [(7,.sl q7)],lO [(50000,.ob q4)] (kO [2,3,19] [(100004,.ob q30)])⟩ (.seq j0 (.seq (.seq (.seq .nil (.seq (.seq .nil (.meet false j30 (.loop ⟨kS [0,2,3,4,7,8] [(9,.sl q7)],lO [(50000,.ob q4)] (kO [2,3] [(100004,.ob q30),(19,.keep)])⟩ (.seq j0 (.seq (.seq (.seq .nil (.seq (.seq .nil (.meet false ⟨kS [0,2,3,4,7,8,9,10] [],lO [(50000,.ob q4)] (kO [2,3] [(100004,.ob q30),(10,.ob (.box [(.own 105006),q0,q0,q0,q0,q0,q0,q0])),(19,.keep),(105006,.ob q64)])⟩ (.loop ⟨kS [0,2,3,4,7,8,9,10] [(11,.sl q7)],lO [(50000,.ob q4)] (kO [2,3] [(100004,.ob q30),(10,.ob (.box [(.own 105006),q0,q0,q0,q0,q0,q0,q0])),(19,.keep),(105006,.ob q64)])⟩ (.seq j0 j0)))) .nil)) .nil) .nil))))) (.seq (.seq .nil (.meet false j30 (.loop ⟨kS [0,2,3,4,7,8] [(12,.sl q7)],lO [(50000,.ob q4)] (kO [2,3] [(100004,.ob q30),(19,.keep)])⟩ (.seq j0 j7)))) .nil))) .nil) .nil))))) .nil))))))
def am7:TypeId->Option Ty:=fun t=>(([(1000028,(.prod (.st 3) .bool)),(3000140,.bool),(3000133,.bool),(3000113,.bool),(3000078,.bool)]:List (Nat×Ty))++AX).lookup t
def aq6:dA:={ bD:=1,pin:=⟨[(0,q8)],[]⟩,aP:=⟨[(0,q7)],[]⟩,dw:=1,aY:=[],aU:=[] }
def aq7:fV:=(.seq .nil (.seq (.seq (.meet false ⟨[(1,.keep),(21,.sl q2)],[(1,.keep)]⟩ .nil) j0) (.seq j1 j3)))
def aq8:dA:={ bD:=1,pin:=⟨[(0,q38)],[]⟩,aP:=⟨[(0,(.agg [(.own 60000),(.own 60001)])),(1,q7),(2,q7)],[(60000,(.arr false true false (.st 10))),(60001,q82)]⟩,dw:=3,aY:=[],aU:=[60000,60001] }
def aq9:fV:=(.seq .nil (.seq (.seq (.meet false ⟨kS [1,2] [(20,.sl q2)],kO [1,2] []⟩ .nil) j0) (.seq (.seq (.meet false ⟨kS [1,2] [(42,.sl q2)],kO [1,2] []⟩ .nil) j0) (.seq (.seq .nil (.meet true ⟨kS [1,2] [],kO [1,2] []⟩ (.loop ⟨kS [1,2] [(5,.sl q7)],kO [1,2] []⟩ j14))) (.seq (.seq .nil (.meet true ⟨kS [1,2] [],kO [1,2] []⟩ (.loop ⟨kS [1,2] [(6,.sl q7)],kO [1,2] []⟩ (.seq j0 (.seq (.seq (.seq (.meet false ⟨kS [1,2,6] [(89,.sl q2)],kO [1,2] []⟩ .nil) j0) .nil) .nil))))) (.seq .nil (.seq (.seq .nil (.meet true ⟨[(2,.keep)],[(2,.ob (.box [(.own 99),(.own 107003)])),(99,.keep),(107003,.ob q82)]⟩ (.loop ⟨kS [1,2] [(7,.sl q7)],[(1,.keep),(2,.ob (.box [(.own 99),(.own 107003)])),(99,.keep),(107003,.ob q82)]⟩ (.seq j0 (.seq (.seq (.seq .nil (.seq (.seq (.meet false ⟨kS [1,2,7,8] [(128,.sl q2)],kO [1,2,8,99,107003] []⟩ .nil) j0) (.seq (.seq .nil (.meet true ⟨kS [1,2,7,8] [],kO [1,2,8,99,107003] []⟩ (.loop ⟨kS [1,2,7,8] [(9,.sl q7)],kO [1,2,8,99,107003] []⟩ (.seq j0 (.seq (.seq (.seq (.meet false ⟨kS [1,2,7,8,9] [(158,.sl q2)],kO [1,2,8,99,107003] []⟩ .nil) j0) .nil) .nil))))) j49))) .nil) .nil))))) .nil)))))))
def aq_:dA:={ bD:=1,pin:=⟨[(0,xu)],[(50000,J3)]⟩,aP:=⟨[(0,(.agg [(.own 103003),(.own 105004)]))],[(50000,q4),(103003,q24),(105004,MV)]⟩,dw:=1,aY:=[50000],aU:=[103003,105004] }
def ara:fV:=(.seq .nil (.seq (.meet false ⟨kS [0,2] [(3,.sl (.one (.box 12 0)))],kO [50000,2] [(12,.ob (.box [(.box 50000 0),(.own 100700),(.own 100701),(.own 100702),q0])),(100700,.ob q51),(100701,.ob q81),(100702,.ob q67)]⟩ .nil) (.seq (.seq .nil (.meet false ⟨kS [0,2,3] [],kO [50000,2] (lO [(12,.ob q71),(101003,.ob q51)] (kO [100701,100702] []))⟩ (.loop ⟨kS [0,2,3] [(4,.sl q7)],kO [50000,2] (lO [(12,.ob q71),(101003,.ob q51)] (kO [100701,100702] []))⟩ (.seq j0 j0)))) (.seq (.seq .nil (.meet false ⟨kS [0,2,3] [],lO [(50000,.ob q4),(2,.keep),(12,.ob q72),(103003,.ob q51)] (kO [100701,100702] [])⟩ (.loop ⟨kS [0,2,3] [(5,.sl q7)],lO [(50000,.ob q4),(2,.keep),(12,.ob q72),(103003,.ob q51)] (kO [100701,100702] [])⟩ (.seq j0 j0)))) (.seq .nil (.seq (.seq .nil (.meet false ⟨kS [0,2,3] [],[(50000,.ob q4),(2,.keep),(12,.ob q73),(103003,.keep),(105004,.ob q81),(100702,.keep)]⟩ (.loop ⟨kS [0,2,3] [(6,.sl q7)],[(50000,.ob q4),(2,.keep),(12,.ob q73),(103003,.keep),(105004,.ob q81),(100702,.keep)]⟩ (.seq j0 (.seq (.seq (.seq .nil (.seq (.seq .nil (.meet false ⟨kS [0,2,3,6,7] [],kO [50000,2,12] (lO [(7,.ob (.box [KA,q0,(.own 106007),.dD]))] (kO [103003,105004,100702] [(106007,.ob q67)]))⟩ (.loop ⟨kS [0,2,3,6,7] [(8,.sl q7)],kO [50000,2,12] (lO [(7,.ob (.box [KA,q0,(.own 106007),.dD]))] (kO [103003,105004,100702] [(106007,.ob q67)]))⟩ (.seq j0 j0)))) .nil)) .nil) .nil))))) (.seq (.seq .nil (.meet false ⟨kS [2,3] [],[(50000,.ob q4),(2,.keep),(12,.ob q74),(103003,.ob q24),(105004,.ob MV),(109005,.ob wS)]⟩ (.loop ⟨kS [0,2,3] [(9,.sl q7)],[(50000,.ob q4),(2,.keep),(12,.ob q74),(103003,.ob q24),(105004,.ob MV),(109005,.ob wS)]⟩ (.seq j0 (.seq j7 .nil))))) .nil)))))))
def arb:dA:={ bD:=2,pin:=⟨[(0,q59),(1,(.one (.fn 84 [])))],[]⟩,aP:=⟨[(0,q2)],[]⟩,dw:=1,aY:=[],aU:=[] }
def ard:fV:=j0
def arf:dA:={ bD:=2,pin:=⟨[(0,q35),(1,q16)],[]⟩,aP:=⟨[(0,q7)],[]⟩,dw:=1,aY:=[],aU:=[] }
def arh:fV:=(.seq .nil (.seq (.seq (.meet false ⟨kS [2,3] [(25,.sl q2)],kO [2,3] []⟩ .nil) j0) (.seq (.seq (.meet false ⟨kS [2,3] [(45,.sl q2)],kO [2,3] []⟩ .nil) j0) (.seq (.seq .nil (.meet true ⟨[(3,.keep)],[(3,.keep)]⟩ (.loop ⟨kS [2,3] [(5,.sl q7)],kO [2,3] []⟩ (.seq j0 (.seq (.seq (.seq (.seq .nil (.meet true ⟨kS [2,3,5] [],kO [2,3] []⟩ (.loop ⟨kS [2,3,5] [(6,.sl q7)],kO [2,3] []⟩ (.seq j0 j38)))) j12) .nil) .nil))))) (.seq .nil (.seq (.seq .nil (.meet true ⟨[],[]⟩ (.loop ⟨[(9,.keep),(10,.sl q7)],[(91,.keep)]⟩ j14))) .nil))))))
def ari:dA:={ bD:=1,pin:=⟨[(0,xu)],[(50000,J3)]⟩,aP:=⟨[(0,(.agg [KA,q0,q0,(.own 53)]))],[(50000,q4),(53,q83)]⟩,dw:=1,aY:=[50000],aU:=[53] }
def arj:fV:=(.seq .nil (.seq .nil (.seq .nil (.seq (.seq .nil (.meet false ⟨kS [2,3] [],[(50000,.ob q4),(2,.keep),(3,.ob (.box [KA,q0,q0,(.own 100003)])),(100003,.ob q83)]⟩ (.loop ⟨kS [0,2,3,4] [(5,.sl q7)],[(50000,.ob q4),(2,.keep),(3,.ob (.box [KA,q0,q0,(.own 100003)])),(100003,.ob q83)]⟩ (.seq j0 (.seq (.seq (.seq .nil (.seq (.seq .nil (.meet false ⟨kS [0,2,3,4,5,6] [],lO [(50000,.ob q4)] (kO [2,3] [(6,.ob (.box [(.own 101005),q0,q0,q0,q0,q0,q0,q0])),(100003,.keep),(101005,.ob q64)])⟩ (.loop ⟨kS [0,2,3,4,5,6] [(7,.sl q7)],lO [(50000,.ob q4)] (kO [2,3] [(6,.ob (.box [(.own 101005),q0,q0,q0,q0,q0,q0,q0])),(100003,.keep),(101005,.ob q64)])⟩ (.seq j0 j0)))) .nil)) .nil) .nil))))) .nil))))
def ark:dA:={ bD:=1,pin:=⟨[(0,q8)],[]⟩,aP:=⟨[(0,q60),(1,q7)],[(60000,q23)]⟩,dw:=2,aY:=[],aU:=[60000] }
def arl:fV:=(.seq .nil (.seq j12 (.seq .nil (.seq (.seq .nil (.meet false ⟨[(1,.keep),(5,.sl uX)],[(1,.keep)]⟩ .nil)) (.seq .nil (.seq .nil (.seq (.seq .nil (.meet false ⟨[(6,.sl q57)],[(101001,.ob q23)]⟩ (.loop ⟨[(1,.keep),(6,.sl q57),(7,.keep),(8,.sl q7)],[(1,.keep),(101001,.ob q23)]⟩ (.seq j0 (.seq (.seq (.seq .nil (.seq (.seq .nil (.meet false ⟨lS [(1,.keep),(6,.sl (.one (.own 108001)))] (kS [7,8] []),[(1,.keep),(108001,.ob q23)]⟩ (.seq .nil (.seq .nil (.meet false ⟨lS [(1,.keep),(6,.sl (.one (.own 107001)))] (kS [7,8] []),[(1,.keep),(107001,.ob q23)]⟩ (.seq .nil (.seq .nil (.meet false ⟨lS [(1,.keep),(6,.sl (.one (.own 106001)))] (kS [7,8] []),[(1,.keep),(106001,.ob q23)]⟩ (.seq .nil (.seq .nil (.meet false ⟨lS [(1,.keep),(6,.sl (.one (.own 105001)))] (kS [7,8] []),[(1,.keep),(105001,.ob q23)]⟩ (.seq .nil (.seq .nil (.meet false ⟨lS [(1,.keep),(6,.sl (.one (.own 104001)))] (kS [7,8] []),[(1,.keep),(104001,.ob q23)]⟩ (.seq (.seq .nil (.seq .nil (.meet false ⟨lS [(1,.keep),(6,.sl q75)] (kS [7,8] []),[(1,.keep),(102001,.ob q23)]⟩ (.loop ⟨lS [(1,.keep),(6,.sl q75)] (kS [7,8] [(9,.sl q7)]),[(1,.keep),(102001,.ob q23)]⟩ (.seq j0 j0))))) .nil))))))))))))))) .nil)) .nil) .nil))))) .nil)))))))
def arn:dA:={ bD:=1,pin:=⟨[(0,xu)],[(50000,J3)]⟩,aP:=⟨[(0,(.agg [(.own 9),(.own 1009)]))],[(50000,q4),(9,q24),(1009,MV)]⟩,dw:=1,aY:=[50000],aU:=[9,1009] }
def aro:fV:=j1
def arp:dA:={ bD:=1,pin:=⟨[(0,q8)],[]⟩,aP:=⟨[(0,q7)],[]⟩,dw:=1,aY:=[],aU:=[] }
def arq:fV:=(.seq .nil (.seq j1 (.seq .nil (.seq (.seq (.meet false ⟨[(1,.keep),(30,.sl q2)],[(1,.keep)]⟩ .nil) j0) j3))))
def ars:dA:={ bD:=1,pin:=⟨[(0,q35)],[]⟩,aP:=⟨[(0,q7)],[]⟩,dw:=1,aY:=[],aU:=[] }
def aru:fV:=(.seq .nil (.seq (.seq (.meet false ⟨[(1,.keep),(31,.sl q2)],[(1,.keep)]⟩ .nil) j0) (.seq (.seq .nil (.meet true ⟨[(1,.keep)],[(1,.keep)]⟩ (.loop ⟨[(1,.keep),(3,.sl q7)],[(1,.keep)]⟩ (.seq j0 (.seq (.seq (.seq (.meet false ⟨kS [1,3] [(54,.sl q2)],[(1,.keep)]⟩ .nil) j0) .nil) .nil))))) (.seq (.seq (.meet false ⟨[(1,.keep),(65,.sl q2)],[(1,.keep)]⟩ .nil) j0) (.seq j1 (.seq (.seq .nil (.meet true ⟨[],[]⟩ (.loop ⟨[(1,.keep),(4,.sl q7)],[(1,.keep)]⟩ (.seq j0 j38)))) .nil))))))
def arv:dA:={ bD:=1,pin:=⟨[(0,q8)],[]⟩,aP:=⟨[(0,q7)],[]⟩,dw:=1,aY:=[],aU:=[] }
def arw:fV:=j1
def arx:dA:={ bD:=1,pin:=⟨[(0,q8)],[]⟩,aP:=⟨[(0,q60),(1,q7)],[(60000,q23)]⟩,dw:=2,aY:=[],aU:=[60000] }
def arz:fV:=(.seq .nil (.seq j12 (.seq .nil (.seq (.seq .nil (.meet false ⟨kS [1,5] [],[(1,.keep),(18,.ob q23)]⟩ .nil)) (.seq (.seq .nil (.meet false ⟨[(5,.sl q57)],[(101001,.ob q23)]⟩ (.loop ⟨[(1,.keep),(5,.sl q57),(30,.keep)],[(1,.keep),(101001,.ob q23),(30,.ob .it)]⟩ (.seq .nil (.seq .nil (.seq (.seq .nil (.seq .nil (.seq (.seq .nil (.meet false ⟨[(1,.keep),(5,.sl (.one (.own 109001))),(30,.keep)],[(1,.keep),(109001,.ob q23),(30,.keep)]⟩ (.seq .nil (.seq .nil (.meet false ⟨[(1,.keep),(5,.sl (.one (.own 108001))),(30,.keep)],[(1,.keep),(108001,.ob q23),(30,.keep)]⟩ (.seq .nil (.seq .nil (.meet false ⟨[(1,.keep),(5,.sl (.one (.own 107001))),(30,.keep)],[(1,.keep),(107001,.ob q23),(30,.keep)]⟩ (.seq .nil (.seq .nil (.meet false ⟨[(1,.keep),(5,.sl (.one (.own 106001))),(30,.keep)],[(1,.keep),(106001,.ob q23),(30,.keep)]⟩ (.seq .nil (.seq .nil (.meet false ⟨[(1,.keep),(5,.sl (.one (.own 105001))),(30,.keep)],[(1,.keep),(105001,.ob q23),(30,.keep)]⟩ (.seq .nil (.seq .nil (.meet false ⟨[(1,.keep),(5,.sl (.one (.own 104001))),(30,.keep)],[(1,.keep),(104001,.ob q23),(30,.keep)]⟩ (.seq (.seq .nil (.seq .nil (.meet false ⟨[(1,.keep),(5,.sl q75),(30,.keep)],[(1,.keep),(102001,.ob q23),(30,.keep)]⟩ (.loop ⟨lS [(1,.keep),(5,.sl q75)] (kS [30,83,84] [(85,.sl q7)]),[(1,.keep),(102001,.ob q23),(30,.keep)]⟩ j15)))) .nil)))))))))))))))))) .nil))) .nil)))))) .nil)))))
def arA:dA:={ bD:=1,pin:=⟨[(0,q38)],[]⟩,aP:=⟨[(0,(.agg [(.own 60000),(.own 60001),q0,q0])),(1,q7)],[(60000,(.arr false true false (.st 10))),(60001,q85)]⟩,dw:=2,aY:=[],aU:=[60000,60001] }
def arB:fV:=(.seq .nil (.seq .nil (.seq (.seq .nil (.meet false ⟨kS [2,4] [],[(2,.keep),(4,.ob (.box [(.own 11),(.own 100004),q0,q0])),(11,.keep),(100004,.ob q85)]⟩ (.loop ⟨kS [1,2,4] [(5,.sl q7)],kO [1,2] [(4,.ob (.box [(.own 11),(.own 100004),q0,q0])),(11,.keep),(100004,.ob q85)]⟩ (.seq j0 (.seq (.seq (.seq .nil (.seq (.meet false ⟨kS [1,2,4,5,6] [(7,.sl (.one (.box 33 0)))],kO [1,2,4,6] (lO [(33,.ob (.box [(.p true false (.sl (.st 10))),(.p true false (.sl (.st 14))),q70,q0,q0,(.own 101700),q0]))] (kO [11,100004] [(101700,.ob (.aN false false (.st 3) [(0,(.st 4))]))]))⟩ .nil) (.seq .nil (.seq .nil (.seq (.seq .nil (.meet false ⟨kS [1,2,4,5,6,7] [],kO [1,2,4,6] (lO [(33,.ob (.box [(.p true false (.sl (.st 10))),(.p true false (.sl (.st 14))),q70,q0,q0,(.own 49),q0]))] (kO [11,100004] [(49,.ob (.aN true false (.st 3) [(0,(.st 4))]))]))⟩ j3)) .nil))))) .nil) .nil))))) j3)))
def am8:TypeId->Option Ty:=fun t=>(([(1000057,(.prod (.st 0) .bool)),(3000082,.bool),(3000053,.bool),(3000038,.bool),(3000018,.bool),(3000013,.bool)]:List (Nat×Ty))++AX).lookup t
def arC:dA:={ bD:=1,pin:=⟨[(0,q77)],[]⟩,aP:=⟨[(0,q7),(1,q7)],[]⟩,dw:=2,aY:=[],aU:=[] }
def arD:fV:=(.seq .nil (.seq .nil (.seq (.seq .nil (.meet false ⟨[(4,.sl q7),(5,.sl q7)],[]⟩ (.loop ⟨[(0,.keep),(4,.sl q7),(5,.sl q7),(6,.sl q7)],[]⟩ (.seq j0 (.seq (.seq (.seq (.meet false ⟨kS [0,4,5,6] [(34,.sl q2)],[]⟩ .nil) (.meet false ⟨[(0,.keep),(4,.sl q7),(5,.sl q7),(6,.keep)],[]⟩ j0)) .nil) .nil))))) .nil)))
def arE:dA:={ bD:=1,pin:=⟨[(0,q8)],[]⟩,aP:=⟨[(0,q7)],[]⟩,dw:=1,aY:=[],aU:=[] }
def arF:fV:=j1
def arG:dA:={ bD:=1,pin:=⟨[(0,xu)],[(50000,J3)]⟩,aP:=⟨[(0,(.agg [(.own 8),(.own 1008),q0,q0]))],[(50000,q4),(8,q24),(1008,(.arr false false true (.st 5)))]⟩,dw:=1,aY:=[50000],aU:=[8,1008] }
def arH:fV:=j1
def arI:dA:={ bD:=1,pin:=⟨[(0,xu)],[(50000,J3)]⟩,aP:=⟨[(0,(.agg [(.own 60001),(.p false true (.sl (.st 5))),q0,q0]))],[(50000,q4),(60001,q24)]⟩,dw:=1,aY:=[50000],aU:=[60001] }
def arJ:fV:=j32
def arK:dA:={ bD:=1,pin:=⟨[(0,(.one (.p true false (.sl (.st 12)))))],[]⟩,aP:=⟨[(0,XY)],[(100000,q6)]⟩,dw:=1,aY:=[],aU:=[100000] }
def arL:fV:=(.seq .nil (.seq .nil (.seq (.seq .nil (.meet false ⟨[(3,.sl XY)],[(100000,.ob q6)]⟩ (.loop ⟨lS [(3,.sl XY)] (kS [7,8] [(9,.sl q7)]),[(100000,.ob q6)]⟩ j15))) .nil)))
--HAND 34 Srt
def sg8:dA:={ bD:=1,pin:=⟨[(0,xu)],[(50000,J3)]⟩,aP:=⟨[(0,(.agg [KA,q0,q0,(.p false true (.sl (.st 3)))])),(1,(.one (.own 25)))],[(50000,q4),(25,q6)]⟩,dw:=2,aY:=[50000],aU:=[25] }
def an8:fV:=(.seq .nil (.seq .nil (.seq (.seq .nil (.meet false ⟨kS [0,2,4] [],[(50000,.ob q4),(2,.keep),(4,.ob (.box [(.p false true .str),q3,q3,(.p false true (.sl (.st 3)))]))]⟩ j0)) .nil)))
def arM:dA:={ bD:=2,pin:=⟨[(0,q16),(1,q59)],[]⟩,aP:=⟨[(0,q2)],[]⟩,dw:=1,aY:=[],aU:=[] }
def arN:fV:=(.seq .nil (.seq (.seq j43 j0) j1))
def sg9:dA:={ bD:=2,pin:=⟨[(0,q16),(1,q59)],[]⟩,aP:=⟨[(0,q60),(1,(.one (.own 60001))),(2,q7)],[(60000,q56),(60001,q6)]⟩,dw:=3,aY:=[],aU:=[60000,60001] }
def an9:fV:=(.seq .nil (.seq j1 (.seq .nil (.seq .nil (.seq (.seq .nil (.meet false ⟨kS [4,5,7,8,9] [],kO [28,1028] [(34,.ob q6)]⟩ (.loop ⟨kS [4,5,7,8,9,35,36] [(37,.sl q7)],kO [28,1028] [(34,.ob q6)]⟩ j15))) (.seq .nil (.seq .nil (.seq (.meet false j27 (.loop j27 (.seq (.seq .nil (.seq (.seq .nil (.meet false ⟨kS [4,5,7,8,9,12] [(13,.sl q2)],lO [(28,.ob q34)] (kO [1028,34,102003] [])⟩ (.loop ⟨kS [4,5,7,8,9,12] (lS [(13,.sl q2)] (kS [52,53] [(54,.sl q7)])),lO [(28,.ob q34)] (kO [1028,34,102003] [])⟩ (.seq .nil (.seq .nil (.seq (.meet false j25 (.seq .nil (.seq (.seq (.meet false ⟨kS [4,5,7,8,9,12,13,14,15,52,53,54] [(66,.sl q68)],kO [28,1028,34,102003,15] []⟩ .nil) .nil) (.seq .nil (.seq (.meet false ⟨kS [4,5,7,8,9,12,13,14,52,53,54] [(86,.sl q2)],kO [28,1028,34,102003] []⟩ .nil) (.meet false j25 j0)))))) .nil)))))) j7)) .nil))) (.seq (.seq .nil (.meet false ⟨lS [(4,.sl (.one (.own 110000)))] (kS [5,8,12] []),lO [(110000,.ob q56)] (kO [1028,102003] [])⟩ (.loop ⟨lS [(4,.sl (.one (.own 110000)))] (kS [5,8,9,12,97,98] [(99,.sl q7)]),lO [(110000,.ob q56)] (kO [1028,34,102003,28] [])⟩ (.seq .nil (.seq .nil (.seq (.seq (.seq .nil (.seq (.seq .nil (.meet false ⟨kS [4,5,8,9,12,18,97,98,99] [],kO [110000,1028,34,102003] [(18,.ob (.box [q1,q1,q1,q1,q1,q1,(.p true false .bool),q20,q1])),(28,.keep)]⟩ .nil)) .nil)) .nil) .nil)))))) (.seq (.seq .nil (.meet false ⟨[(4,.keep),(5,.sl (.one (.own 113001)))],[(110000,.keep),(113001,.ob q6)]⟩ (.loop ⟨lS [(4,.keep),(5,.sl (.one (.own 113001)))] (kS [12,129,130] [(131,.sl q7)]),lO [(110000,.keep),(113001,.ob q6)] (kO [102003,1028] [])⟩ j15))) .nil))))))))))
def sg6:dA:={ bD:=0,pin:=⟨[],[]⟩,aP:=⟨[(0,q2)],[]⟩,dw:=1,aY:=[],aU:=[] }
def an6:fV:=(.seq .nil (.seq .nil (.seq .nil (.seq (.meet false ⟨[(0,.sl q2)],[]⟩ .nil) .nil))))
def sg3:dA:={ bD:=1,pin:=⟨[(0,(.one q54))],[]⟩,aP:=⟨[(0,q2)],[]⟩,dw:=1,aY:=[],aU:=[] }
def an3:fV:=(.seq .nil (.seq j1 (.seq .nil (.seq .nil (.seq .nil (.seq .nil (.seq .nil (.seq .nil (.seq (.seq .nil (.meet true ⟨kS [8,11,12,13,14,15] [],[]⟩ (.loop ⟨kS [7,8,11,12,13,14,15] [(16,.sl q7)],[(1029,.keep)]⟩ j14))) j8)))))))))
end Go.Fg.YtapemkmlinejmaaGreatDoor

