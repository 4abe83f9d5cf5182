/-
  Shapes of the functions of the seat, printed by a program (wip/gen/Infer.lean).
-/
import Derived.Test.YtoipcimfapppmaaGreatDoorFwT
import Derived.Test.YtoipcimfapppmaaGreatDoorZd
open Option renaming some->zw,none->zz
open Bool renaming true->zj,false->zv
namespace Go.Fg.YtoipcimfapppmaaGreatDoor
open Go.Fw Go.Proofs Go.Fw.YtoipcimfapppmaaGreatDoor
set_option linter.unusedVariables false
def M_:List (List UInt8):=[([]:List UInt8),([100,56]:List UInt8),([100,97]:List UInt8),([111,100,97]:List UInt8),([111,100,97,98]:List UInt8),([100,49]:List UInt8),([97,49]:List UInt8),([100,97,49]:List UInt8),([97,98,49]:List UInt8),([100]:List UInt8),([97]:List UInt8),([100,52,110]:List UInt8),([100,97,110]:List UInt8),([106]:List UInt8),([97,106]:List UInt8),([97,106]:List UInt8),([97]:List UInt8),([50]:List UInt8),([100,49]:List UInt8)]
structure aU where
  kind:Int
  op:Int
  value:Int
  line:Int
  name:(List UInt8)
  args:(List aU)
def aiR:aU:=aU.mk (0:Int) (0:Int) (0:Int) (0:Int) [] []
mutual
def ug:aU->List P
  |⟨b,c,d,g,h,j⟩=>[P.int .i64 b,P.int .i64 c,P.int .i64 d,P.int .i64 g,P.str ⟨List.toArray h⟩,P.gQ 6 (EC j)]
def EC:List aU->List (List P)
  | []=>[]
  |x::l=>ug x::EC l
end
theorem Iz:∀l,EC l=List.map ug l
  | []=>rfl
  |x::l=>by rw[EC,Iz l];rfl
theorem X9(x:aU):ug x=[P.int .i64 (aU.kind x),P.int .i64 (aU.op x),P.int .i64 (aU.value x),P.int .i64 (aU.line x),P.str ⟨List.toArray (aU.name x)⟩,P.gQ 6 (List.map ug (aU.args x))]:=by
  cases x
  rw[ug]
  simp only[Iz]
structure dw where
  kind:Int
  line:Int
  name:(List UInt8)
  exprs:(List aU)
  then':(List dw)
  else':(List dw)
def aiS:dw:=dw.mk (0:Int) (0:Int) [] [] [] []
mutual
def uh:dw->List P
  |⟨b,c,d,g,h,j⟩=>[P.int .i64 b,P.int .i64 c,P.str ⟨List.toArray d⟩,P.gQ 6 (List.map ug g),P.gQ 6 (zM h),P.gQ 6 (zM j)]
def zM:List dw->List (List P)
  | []=>[]
  |x::l=>uh x::zM l
end
theorem IB:∀l,zM l=List.map uh l
  | []=>rfl
  |x::l=>by rw[zM,IB l];rfl
theorem X_(x:dw):uh x=[P.int .i64 (dw.kind x),P.int .i64 (dw.line x),P.str ⟨List.toArray (dw.name x)⟩,P.gQ 6 (List.map ug (dw.exprs x)),P.gQ 6 (List.map uh (dw.then' x)),P.gQ 6 (List.map uh (dw.else' x))]:=by
  cases x
  rw[uh]
  simp only[IB]
structure fZ where
  gX:Int
  eX:Int
  iD:Int
  lH:Int
  lI:Int
  eY:Int
  dF:Bool
  fJ:(List Int)
  to:Int
def aiT:fZ:=fZ.mk (0:Int) (0:Int) (0:Int) (0:Int) (0:Int) (0:Int) zv [] (0:Int)
def aiU(x:fZ):List P:=[P.int .i64 (fZ.gX x),P.int .i64 (fZ.eX x),P.int .i64 (fZ.iD x),P.int .i64 (fZ.lH x),P.int .i64 (fZ.lI x),P.int .i64 (fZ.eY x),P.bool (fZ.dF x),P.gQ 1 (List.map (λ(x:Int)=>[P.int .i64 x]) (fZ.fJ x)),P.int .i64 (fZ.to x)]
structure cu where
  gX:Int
  eX:Int
  iD:Int
  lH:Int
  lI:Int
  eY:Int
  dF:Bool
  fJ:(List Int)
  to:Int
def aiV:cu:=cu.mk (0:Int) (0:Int) (0:Int) (0:Int) (0:Int) (0:Int) zv [] (0:Int)
def aiW(x:cu):List P:=[P.int .i64 (cu.gX x),P.int .i64 (cu.eX x),P.int .i64 (cu.iD x),P.int .i64 (cu.lH x),P.int .i64 (cu.lI x),P.int .i64 (cu.eY x),P.bool (cu.dF x),P.gQ 1 (List.map (λ(x:Int)=>[P.int .i64 x]) (cu.fJ x)),P.int .i64 (cu.to x)]
structure aH where
  name:(List UInt8)
  line:Int
  params:(List (List UInt8))
  body:(List dw)
def aiX:aH:=aH.mk [] (0:Int) [] []
def aiY(x:aH):List P:=[P.str ⟨List.toArray (aH.name x)⟩,P.int .i64 (aH.line x),P.gQ 1 (List.map (λ(x:List UInt8)=>[P.str ⟨x.toArray⟩]) (aH.params x)),P.gQ 6 (List.map uh (aH.body x))]
structure dM where
  op:Int
  arith:Int
  dst:Int
  a:Int
  b:Int
  value:Int
  wide:Bool
  args:(List Int)
def aiZ:dM:=dM.mk (0:Int) (0:Int) (0:Int) (0:Int) (0:Int) (0:Int) zv []
def ai0(x:dM):List P:=[P.int .i64 (dM.op x),P.int .i64 (dM.arith x),P.int .i64 (dM.dst x),P.int .i64 (dM.a x),P.int .i64 (dM.b x),P.int .i64 (dM.value x),P.bool (dM.wide x),P.gQ 1 (List.map (λ(x:Int)=>[P.int .i64 x]) (dM.args x))]
structure dK where
  kind:Int
  op:Int
  dst:Int
  a:Int
  b:Int
  value:Int
  args:(List Int)
def aft:dK:=dK.mk (0:Int) (0:Int) (0:Int) (0:Int) (0:Int) (0:Int) []
def Vy(x:dK):List P:=[P.int .i64 (dK.kind x),P.int .i64 (dK.op x),P.int .i64 (dK.dst x),P.int .i64 (dK.a x),P.int .i64 (dK.b x),P.int .i64 (dK.value x),P.gQ 1 (List.map (λ(x:Int)=>[P.int .i64 x]) (dK.args x))]
structure aO where
  instrs:(List dK)
  bV:Int
  lJ:Int
  f_:Int
  dI:Int
  line:Int
  iG:Int
  gZ:Int
def afu:aO:=aO.mk [] (0:Int) (0:Int) (0:Int) (0:Int) (0:Int) (0:Int) (0:Int)
def Vz(x:aO):List P:=[P.gQ 7 (List.map Vy (aO.instrs x)),P.int .i64 (aO.bV x),P.int .i64 (aO.lJ x),P.int .i64 (aO.f_ x),P.int .i64 (aO.dI x),P.int .i64 (aO.line x),P.int .i64 (aO.iG x),P.int .i64 (aO.gZ x)]
structure ji where
  func:Int
  block:Int
  address:Int
  size:Int
def afv:ji:=ji.mk (0:Int) (0:Int) (0:Int) (0:Int)
def afw(x:ji):List P:=[P.int .i64 (ji.func x),P.int .i64 (ji.block x),P.int .i64 (ji.address x),P.int .i64 (ji.size x)]
structure aQ where
  name:(List UInt8)
  params:Int
  regs:Int
  blocks:(List aO)
def VA:aQ:=aQ.mk [] (0:Int) (0:Int) []
def VB(x:aQ):List P:=[P.str ⟨List.toArray (aQ.name x)⟩,P.int .i64 (aQ.params x),P.int .i64 (aQ.regs x),P.gQ 8 (List.map Vz (aQ.blocks x))]
structure aF where
  name:(List UInt8)
  size:Int
def acG:aF:=aF.mk [] (0:Int)
def acH(x:aF):List P:=[P.str ⟨List.toArray (aF.name x)⟩,P.int .i64 (aF.size x)]
def reC:Nat->Type
  |0=>Unit
  |1=>Unit
  |2=>Unit
  |3=>aF
  |4=>aQ
  |5=>aO
  |6=>dK
  |7=>Unit
  |8=>Unit
  |9=>ji
  |10=>Unit
  |11=>dM
  |12=>Unit
  |13=>Unit
  |14=>Unit
  |15=>aH
  |16=>dw
  |17=>aU
  |18=>Unit
  |19=>cu
  |20=>fZ
  |21=>Unit
  |22=>Unit
  |23=>Unit
  |24=>Unit
  |25=>Unit
  |26=>Unit
  |27=>Unit
  |_=>Unit
def reF:Nat->List Ty
  |0=>[]
  |1=>[]
  |2=>[]
  |3=>[.str,(.int .i64)]
  |4=>[.str,(.int .i64),(.int .i64),(.sl (.st 5))]
  |5=>[(.sl (.st 6)),(.int .i64),(.int .i64),(.int .i64),(.int .i64),(.int .i64),(.int .i64),(.int .i64)]
  |6=>[(.int .i64),(.int .i64),(.int .i64),(.int .i64),(.int .i64),(.int .i64),(.sl (.int .i64))]
  |7=>[]
  |8=>[]
  |9=>[(.int .i64),(.int .i64),(.int .i64),(.int .i64)]
  |10=>[]
  |11=>[(.int .i64),(.int .i64),(.int .i64),(.int .i64),(.int .i64),(.int .i64),.bool,(.sl (.int .i64))]
  |12=>[]
  |13=>[]
  |14=>[]
  |15=>[.str,(.int .i64),(.sl .str),(.sl (.st 16))]
  |16=>[(.int .i64),(.int .i64),.str,(.sl (.st 17)),(.sl (.st 16)),(.sl (.st 16))]
  |17=>[(.int .i64),(.int .i64),(.int .i64),(.int .i64),.str,(.sl (.st 17))]
  |18=>[]
  |19=>[(.int .i64),(.int .i64),(.int .i64),(.int .i64),(.int .i64),(.int .i64),.bool,(.sl (.int .i64)),(.int .i64)]
  |20=>[(.int .i64),(.int .i64),(.int .i64),(.int .i64),(.int .i64),(.int .i64),.bool,(.sl (.int .i64)),(.int .i64)]
  |21=>[]
  |22=>[]
  |23=>[]
  |24=>[]
  |25=>[]
  |26=>[]
  |27=>[]
  |_=>[]
def atH:(n:Nat)->reC n
  |0=>()
  |1=>()
  |2=>()
  |3=>acG
  |4=>VA
  |5=>afu
  |6=>aft
  |7=>()
  |8=>()
  |9=>afv
  |10=>()
  |11=>aiZ
  |12=>()
  |13=>()
  |14=>()
  |15=>aiX
  |16=>aiS
  |17=>aiR
  |18=>()
  |19=>aiV
  |20=>aiT
  |21=>()
  |22=>()
  |23=>()
  |24=>()
  |25=>()
  |26=>()
  |27=>()
  |_+28=>()
def ai1:(n:Nat)->reC n->List (TP reC)
  |0,x=>[]
  |1,x=>[]
  |2,x=>[]
  |3,x=>[⟨.str,aF.name x⟩,⟨(.int .i64),aF.size x⟩]
  |4,x=>[⟨.str,aQ.name x⟩,⟨(.int .i64),aQ.params x⟩,⟨(.int .i64),aQ.regs x⟩,⟨(.sl (.st 5)),aQ.blocks x⟩]
  |5,x=>[⟨(.sl (.st 6)),aO.instrs x⟩,⟨(.int .i64),aO.bV x⟩,⟨(.int .i64),aO.lJ x⟩,⟨(.int .i64),aO.f_ x⟩,⟨(.int .i64),aO.dI x⟩,⟨(.int .i64),aO.line x⟩,⟨(.int .i64),aO.iG x⟩,⟨(.int .i64),aO.gZ x⟩]
  |6,x=>[⟨(.int .i64),dK.kind x⟩,⟨(.int .i64),dK.op x⟩,⟨(.int .i64),dK.dst x⟩,⟨(.int .i64),dK.a x⟩,⟨(.int .i64),dK.b x⟩,⟨(.int .i64),dK.value x⟩,⟨(.sl (.int .i64)),dK.args x⟩]
  |7,x=>[]
  |8,x=>[]
  |9,x=>[⟨(.int .i64),ji.func x⟩,⟨(.int .i64),ji.block x⟩,⟨(.int .i64),ji.address x⟩,⟨(.int .i64),ji.size x⟩]
  |10,x=>[]
  |11,x=>[⟨(.int .i64),dM.op x⟩,⟨(.int .i64),dM.arith x⟩,⟨(.int .i64),dM.dst x⟩,⟨(.int .i64),dM.a x⟩,⟨(.int .i64),dM.b x⟩,⟨(.int .i64),dM.value x⟩,⟨.bool,dM.wide x⟩,⟨(.sl (.int .i64)),dM.args x⟩]
  |12,x=>[]
  |13,x=>[]
  |14,x=>[]
  |15,x=>[⟨.str,aH.name x⟩,⟨(.int .i64),aH.line x⟩,⟨(.sl .str),aH.params x⟩,⟨(.sl (.st 16)),aH.body x⟩]
  |16,x=>[⟨(.int .i64),dw.kind x⟩,⟨(.int .i64),dw.line x⟩,⟨.str,dw.name x⟩,⟨(.sl (.st 17)),dw.exprs x⟩,⟨(.sl (.st 16)),dw.then' x⟩,⟨(.sl (.st 16)),dw.else' x⟩]
  |17,x=>[⟨(.int .i64),aU.kind x⟩,⟨(.int .i64),aU.op x⟩,⟨(.int .i64),aU.value x⟩,⟨(.int .i64),aU.line x⟩,⟨.str,aU.name x⟩,⟨(.sl (.st 17)),aU.args x⟩]
  |18,x=>[]
  |19,x=>[⟨(.int .i64),cu.gX x⟩,⟨(.int .i64),cu.eX x⟩,⟨(.int .i64),cu.iD x⟩,⟨(.int .i64),cu.lH x⟩,⟨(.int .i64),cu.lI x⟩,⟨(.int .i64),cu.eY x⟩,⟨.bool,cu.dF x⟩,⟨(.sl (.int .i64)),cu.fJ x⟩,⟨(.int .i64),cu.to x⟩]
  |20,x=>[⟨(.int .i64),fZ.gX x⟩,⟨(.int .i64),fZ.eX x⟩,⟨(.int .i64),fZ.iD x⟩,⟨(.int .i64),fZ.lH x⟩,⟨(.int .i64),fZ.lI x⟩,⟨(.int .i64),fZ.eY x⟩,⟨.bool,fZ.dF x⟩,⟨(.sl (.int .i64)),fZ.fJ x⟩,⟨(.int .i64),fZ.to x⟩]
  |21,x=>[]
  |22,x=>[]
  |23,x=>[]
  |24,x=>[]
  |25,x=>[]
  |26,x=>[]
  |27,x=>[]
  |_+28,_=>[]
def apC:(n:Nat)->List (TP reC)->reC n
  |0,b=>()
  |1,b=>()
  |2,b=>()
  |3,b=>aF.mk (TP.get .str [] b 0) (TP.get (.int .i64) (0:Int) b 1)
  |4,b=>aQ.mk (TP.get .str [] b 0) (TP.get (.int .i64) (0:Int) b 1) (TP.get (.int .i64) (0:Int) b 2) (TP.get (.sl (.st 5)) [] b 3)
  |5,b=>aO.mk (TP.get (.sl (.st 6)) [] b 0) (TP.get (.int .i64) (0:Int) b 1) (TP.get (.int .i64) (0:Int) b 2) (TP.get (.int .i64) (0:Int) b 3) (TP.get (.int .i64) (0:Int) b 4) (TP.get (.int .i64) (0:Int) b 5) (TP.get (.int .i64) (0:Int) b 6) (TP.get (.int .i64) (0:Int) b 7)
  |6,b=>dK.mk (TP.get (.int .i64) (0:Int) b 0) (TP.get (.int .i64) (0:Int) b 1) (TP.get (.int .i64) (0:Int) b 2) (TP.get (.int .i64) (0:Int) b 3) (TP.get (.int .i64) (0:Int) b 4) (TP.get (.int .i64) (0:Int) b 5) (TP.get (.sl (.int .i64)) [] b 6)
  |7,b=>()
  |8,b=>()
  |9,b=>ji.mk (TP.get (.int .i64) (0:Int) b 0) (TP.get (.int .i64) (0:Int) b 1) (TP.get (.int .i64) (0:Int) b 2) (TP.get (.int .i64) (0:Int) b 3)
  |10,b=>()
  |11,b=>dM.mk (TP.get (.int .i64) (0:Int) b 0) (TP.get (.int .i64) (0:Int) b 1) (TP.get (.int .i64) (0:Int) b 2) (TP.get (.int .i64) (0:Int) b 3) (TP.get (.int .i64) (0:Int) b 4) (TP.get (.int .i64) (0:Int) b 5) (TP.get .bool zv b 6) (TP.get (.sl (.int .i64)) [] b 7)
  |12,b=>()
  |13,b=>()
  |14,b=>()
  |15,b=>aH.mk (TP.get .str [] b 0) (TP.get (.int .i64) (0:Int) b 1) (TP.get (.sl .str) [] b 2) (TP.get (.sl (.st 16)) [] b 3)
  |16,b=>dw.mk (TP.get (.int .i64) (0:Int) b 0) (TP.get (.int .i64) (0:Int) b 1) (TP.get .str [] b 2) (TP.get (.sl (.st 17)) [] b 3) (TP.get (.sl (.st 16)) [] b 4) (TP.get (.sl (.st 16)) [] b 5)
  |17,b=>aU.mk (TP.get (.int .i64) (0:Int) b 0) (TP.get (.int .i64) (0:Int) b 1) (TP.get (.int .i64) (0:Int) b 2) (TP.get (.int .i64) (0:Int) b 3) (TP.get .str [] b 4) (TP.get (.sl (.st 17)) [] b 5)
  |18,b=>()
  |19,b=>cu.mk (TP.get (.int .i64) (0:Int) b 0) (TP.get (.int .i64) (0:Int) b 1) (TP.get (.int .i64) (0:Int) b 2) (TP.get (.int .i64) (0:Int) b 3) (TP.get (.int .i64) (0:Int) b 4) (TP.get (.int .i64) (0:Int) b 5) (TP.get .bool zv b 6) (TP.get (.sl (.int .i64)) [] b 7) (TP.get (.int .i64) (0:Int) b 8)
  |20,b=>fZ.mk (TP.get (.int .i64) (0:Int) b 0) (TP.get (.int .i64) (0:Int) b 1) (TP.get (.int .i64) (0:Int) b 2) (TP.get (.int .i64) (0:Int) b 3) (TP.get (.int .i64) (0:Int) b 4) (TP.get (.int .i64) (0:Int) b 5) (TP.get .bool zv b 6) (TP.get (.sl (.int .i64)) [] b 7) (TP.get (.int .i64) (0:Int) b 8)
  |21,b=>()
  |22,b=>()
  |23,b=>()
  |24,b=>()
  |25,b=>()
  |26,b=>()
  |27,b=>()
  |_+28,_=>()
def amW:(n:Nat)->reC n->List P
  |0,x=>[]
  |1,x=>[]
  |2,x=>[]
  |3,x=>acH x
  |4,x=>VB x
  |5,x=>Vz x
  |6,x=>Vy x
  |7,x=>[]
  |8,x=>[]
  |9,x=>afw x
  |10,x=>[]
  |11,x=>ai0 x
  |12,x=>[]
  |13,x=>[]
  |14,x=>[]
  |15,x=>aiY x
  |16,x=>uh x
  |17,x=>ug x
  |18,x=>[]
  |19,x=>aiW x
  |20,x=>aiU x
  |21,x=>[]
  |22,x=>[]
  |23,x=>[]
  |24,x=>[]
  |25,x=>[]
  |26,x=>[]
  |27,x=>[]
  |_+28,_=>[]
theorem apD:∀n,(reF n).all Ty.word=zj
  |0=>rfl
  |1=>rfl
  |2=>rfl
  |3=>rfl
  |4=>rfl
  |5=>rfl
  |6=>rfl
  |7=>rfl
  |8=>rfl
  |9=>rfl
  |10=>rfl
  |11=>rfl
  |12=>rfl
  |13=>rfl
  |14=>rfl
  |15=>rfl
  |16=>rfl
  |17=>rfl
  |18=>rfl
  |19=>rfl
  |20=>rfl
  |21=>rfl
  |22=>rfl
  |23=>rfl
  |24=>rfl
  |25=>rfl
  |26=>rfl
  |27=>rfl
  |_+28=>rfl
theorem amX:∀(n:Nat) (x:reC n),(ai1 n x).map (·.t)=reF n
  |0,x=>rfl
  |1,x=>rfl
  |2,x=>rfl
  |3,x=>rfl
  |4,x=>rfl
  |5,x=>rfl
  |6,x=>rfl
  |7,x=>rfl
  |8,x=>rfl
  |9,x=>rfl
  |10,x=>rfl
  |11,x=>rfl
  |12,x=>rfl
  |13,x=>rfl
  |14,x=>rfl
  |15,x=>rfl
  |16,x=>rfl
  |17,x=>rfl
  |18,x=>rfl
  |19,x=>rfl
  |20,x=>rfl
  |21,x=>rfl
  |22,x=>rfl
  |23,x=>rfl
  |24,x=>rfl
  |25,x=>rfl
  |26,x=>rfl
  |27,x=>rfl
  |_+28,_=>rfl
theorem amY:∀(n:Nat) (b:List (TP reC)),b.map (·.t)=reF n->ai1 n (apC n b)=b
  |0,b,h=>by
    have e:=dW h
    subst e
    rfl
  |1,b,h=>by
    have e:=dW h
    subst e
    rfl
  |2,b,h=>by
    have e:=dW h
    subst e
    rfl
  |3,b,h=>by
    obtain⟨U,X,c,d⟩:=aS h
    subst c
    obtain⟨Y,g,j,m⟩:=aS d
    subst j
    have e:=dW m
    subst e
    rfl
  |4,b,h=>by
    obtain⟨U,X,c,d⟩:=aS h
    subst c
    obtain⟨Y,g,j,m⟩:=aS d
    subst j
    obtain⟨Z,q,w,y⟩:=aS m
    subst w
    obtain⟨x3,z,B,H⟩:=aS y
    subst B
    have e:=dW H
    subst e
    rfl
  |5,b,h=>by
    obtain⟨U,X,c,d⟩:=aS h
    subst c
    obtain⟨Y,g,j,m⟩:=aS d
    subst j
    obtain⟨Z,q,w,y⟩:=aS m
    subst w
    obtain⟨x3,z,B,H⟩:=aS y
    subst B
    obtain⟨x4,J,K,L⟩:=aS H
    subst K
    obtain⟨x5,M,N,T⟩:=aS L
    subst N
    obtain⟨x6,ws6,e6,h6⟩:=aS T
    subst e6
    obtain⟨x7,ws7,e7,h7⟩:=aS h6
    subst e7
    have e:=dW h7
    subst e
    rfl
  |6,b,h=>by
    obtain⟨U,X,c,d⟩:=aS h
    subst c
    obtain⟨Y,g,j,m⟩:=aS d
    subst j
    obtain⟨Z,q,w,y⟩:=aS m
    subst w
    obtain⟨x3,z,B,H⟩:=aS y
    subst B
    obtain⟨x4,J,K,L⟩:=aS H
    subst K
    obtain⟨x5,M,N,T⟩:=aS L
    subst N
    obtain⟨x6,ws6,e6,h6⟩:=aS T
    subst e6
    have e:=dW h6
    subst e
    rfl
  |7,b,h=>by
    have e:=dW h
    subst e
    rfl
  |8,b,h=>by
    have e:=dW h
    subst e
    rfl
  |9,b,h=>by
    obtain⟨U,X,c,d⟩:=aS h
    subst c
    obtain⟨Y,g,j,m⟩:=aS d
    subst j
    obtain⟨Z,q,w,y⟩:=aS m
    subst w
    obtain⟨x3,z,B,H⟩:=aS y
    subst B
    have e:=dW H
    subst e
    rfl
  |10,b,h=>by
    have e:=dW h
    subst e
    rfl
  |11,b,h=>by
    obtain⟨U,X,c,d⟩:=aS h
    subst c
    obtain⟨Y,g,j,m⟩:=aS d
    subst j
    obtain⟨Z,q,w,y⟩:=aS m
    subst w
    obtain⟨x3,z,B,H⟩:=aS y
    subst B
    obtain⟨x4,J,K,L⟩:=aS H
    subst K
    obtain⟨x5,M,N,T⟩:=aS L
    subst N
    obtain⟨x6,ws6,e6,h6⟩:=aS T
    subst e6
    obtain⟨x7,ws7,e7,h7⟩:=aS h6
    subst e7
    have e:=dW h7
    subst e
    rfl
  |12,b,h=>by
    have e:=dW h
    subst e
    rfl
  |13,b,h=>by
    have e:=dW h
    subst e
    rfl
  |14,b,h=>by
    have e:=dW h
    subst e
    rfl
  |15,b,h=>by
    obtain⟨U,X,c,d⟩:=aS h
    subst c
    obtain⟨Y,g,j,m⟩:=aS d
    subst j
    obtain⟨Z,q,w,y⟩:=aS m
    subst w
    obtain⟨x3,z,B,H⟩:=aS y
    subst B
    have e:=dW H
    subst e
    rfl
  |16,b,h=>by
    obtain⟨U,X,c,d⟩:=aS h
    subst c
    obtain⟨Y,g,j,m⟩:=aS d
    subst j
    obtain⟨Z,q,w,y⟩:=aS m
    subst w
    obtain⟨x3,z,B,H⟩:=aS y
    subst B
    obtain⟨x4,J,K,L⟩:=aS H
    subst K
    obtain⟨x5,M,N,T⟩:=aS L
    subst N
    have e:=dW T
    subst e
    rfl
  |17,b,h=>by
    obtain⟨U,X,c,d⟩:=aS h
    subst c
    obtain⟨Y,g,j,m⟩:=aS d
    subst j
    obtain⟨Z,q,w,y⟩:=aS m
    subst w
    obtain⟨x3,z,B,H⟩:=aS y
    subst B
    obtain⟨x4,J,K,L⟩:=aS H
    subst K
    obtain⟨x5,M,N,T⟩:=aS L
    subst N
    have e:=dW T
    subst e
    rfl
  |18,b,h=>by
    have e:=dW h
    subst e
    rfl
  |19,b,h=>by
    obtain⟨U,X,c,d⟩:=aS h
    subst c
    obtain⟨Y,g,j,m⟩:=aS d
    subst j
    obtain⟨Z,q,w,y⟩:=aS m
    subst w
    obtain⟨x3,z,B,H⟩:=aS y
    subst B
    obtain⟨x4,J,K,L⟩:=aS H
    subst K
    obtain⟨x5,M,N,T⟩:=aS L
    subst N
    obtain⟨x6,ws6,e6,h6⟩:=aS T
    subst e6
    obtain⟨x7,ws7,e7,h7⟩:=aS h6
    subst e7
    obtain⟨x8,ws8,e8,h8⟩:=aS h7
    subst e8
    have e:=dW h8
    subst e
    rfl
  |20,b,h=>by
    obtain⟨U,X,c,d⟩:=aS h
    subst c
    obtain⟨Y,g,j,m⟩:=aS d
    subst j
    obtain⟨Z,q,w,y⟩:=aS m
    subst w
    obtain⟨x3,z,B,H⟩:=aS y
    subst B
    obtain⟨x4,J,K,L⟩:=aS H
    subst K
    obtain⟨x5,M,N,T⟩:=aS L
    subst N
    obtain⟨x6,ws6,e6,h6⟩:=aS T
    subst e6
    obtain⟨x7,ws7,e7,h7⟩:=aS h6
    subst e7
    obtain⟨x8,ws8,e8,h8⟩:=aS h7
    subst e8
    have e:=dW h8
    subst e
    rfl
  |21,b,h=>by
    have e:=dW h
    subst e
    rfl
  |22,b,h=>by
    have e:=dW h
    subst e
    rfl
  |23,b,h=>by
    have e:=dW h
    subst e
    rfl
  |24,b,h=>by
    have e:=dW h
    subst e
    rfl
  |25,b,h=>by
    have e:=dW h
    subst e
    rfl
  |26,b,h=>by
    have e:=dW h
    subst e
    rfl
  |27,b,h=>by
    have e:=dW h
    subst e
    rfl
  |_+28,b,h=>by have e:=dW h;subst e;rfl
theorem amZ:∀(n:Nat) (x:reC n),amW n x=(ai1 n x).map λw=>La (jQ reF) (qy reF amW (jQ reF)) w.t w.x
  |0,x=>by kernel_rfl
  |1,x=>by kernel_rfl
  |2,x=>by kernel_rfl
  |3,x=>by kernel_rfl
  |4,x=>by kernel_rfl
  |5,x=>by kernel_rfl
  |6,x=>by kernel_rfl
  |7,x=>by kernel_rfl
  |8,x=>by kernel_rfl
  |9,x=>by kernel_rfl
  |10,x=>by kernel_rfl
  |11,x=>by kernel_rfl
  |12,x=>by kernel_rfl
  |13,x=>by kernel_rfl
  |14,x=>by kernel_rfl
  |15,x=>by kernel_rfl
  |16,x=>(X_ x).trans (by kernel_rfl)
  |17,x=>(X9 x).trans (by kernel_rfl)
  |18,x=>by kernel_rfl
  |19,x=>by kernel_rfl
  |20,x=>by kernel_rfl
  |21,x=>by kernel_rfl
  |22,x=>by kernel_rfl
  |23,x=>by kernel_rfl
  |24,x=>by kernel_rfl
  |25,x=>by kernel_rfl
  |26,x=>by kernel_rfl
  |27,x=>by kernel_rfl
  |_+28,_=>rfl
def reG:Nat->Option ((e:Ty)×List (D reC e))
  |0=>zw ⟨.str,M_⟩
  |_=>zz
instance re:RE where
  C:=reC
  F:=reF
  dflt:=atH
  un:=ai1
  ro:=apC
  er:=amW
  Fwd:=apD
  akK:=amX
  akL:=amY
  akM:=amZ
  G:=reG
theorem mixed:Fit Tryz.prog:=⟨Fw.YtoipcimfapppmaaGreatDoor.amU,λ_ _ _ _ h=>h.elim⟩
def CV:List (Nat×Ty):=[(3,(.int .i64)),(4,.bool),(5,(.int .u8)),(9,.str),(31,(.sl (.int .i64))),(43,(.st 9)),(46,(.st 4)),(53,(.st 11)),(69,(.st 5)),(77,(.st 3)),(99,(.st 6)),(110,(.st 19)),(117,(.st 20)),(129,(.st 15)),(150,(.st 16)),(179,(.st 17))]
def ety:TypeId->Option Ty:=λt=>CV.lookup t
def kS(l:List Nat)(r:List (Nat×Md)):List (Nat×Md):=l.map (λn=>(n,.keep))++r
def kO(l:List Nat)(r:List (Nat×Mo)):List (Nat×Mo):=l.map (λn=>(n,.keep))++r
def aJ(x:fU):fU:=.seq .nil x
def dU(j:JT)(x:fU):fU:=.meet zv j x
def lS(l r:List (Nat×Md)):=l++r
def lO(l r:List (Nat×Mo)):=l++r
abbrev q0:kG:=.p zv zv (.int .i64)
abbrev q1:kG:=.p zj zv (.int .i64)
abbrev q2:kG:=.p zv zv .bool
abbrev q3:kG:=.p zv zj (.int .i64)
abbrev q4:iY:=.arr zv zv zv (.int .i64)
abbrev q5:kG:=.p zv zj (.sl (.int .u8))
abbrev q6:kG:=.p zj zv (.sl (.int .i64))
abbrev q7:iY:=.arr zv zj zv (.int .i64)
abbrev q9:lq:=.one q0
abbrev q10:kG:=.p zv zj (.sl (.st 3))
abbrev q11:iY:=.aP zj zj (.st 5) [(0,(.st 6))]
abbrev q12:kG:=.p zv zj (.sl (.st 15))
abbrev q13:kG:=.p zj zj (.sl (.st 15))
abbrev ZP:iY:=.box [(.box 50001 0),(.own 50002),(.own 50003),(.own 50004),q3]
abbrev VD:kG:=.p zj zj (.sl (.st 3))
abbrev Gw:iY:=.arr zv zv zv (.int .u8)
abbrev jy:lq:=.one q2
abbrev yE:iY:=.arr zv zv zj .str
abbrev q21:lq:=.agg [(.p zj zv (.sl (.st 3))),(.p zj zv (.sl (.st 4))),q1,q1]
abbrev q22:lq:=.one (.box 50000 0)
abbrev q23:iY:=.box [q5,q0]
abbrev ZQ:kG:=.p zj zj (.sl .str)
abbrev q26:iY:=.box [q10,q12,(.p zv zj (.sl .str)),q3,q3,(.own 50001),q3]
abbrev sQ:lq:=.one q1
abbrev Nz:iY:=.arr zv zv zj (.st 3)
abbrev q30:iY:=.arr zv zv zj (.st 15)
abbrev q31:kG:=.p zj zv (.sl (.int .u8))
abbrev q20:lq:=.agg [q31,q6,q6,q6,q1,q1,(.p zj zv (.sl (.st 3))),(.p zj zv (.sl (.st 9)))]
abbrev q32:iY:=.box [q10,q12,(.own 50001),q3,q3]
abbrev q33:iY:=.aP zv zj (.st 5) [(0,(.st 6))]
abbrev q34:iY:=.box [q10,q12,(.own 50001),q0,q0]
abbrev q35:iY:=.box [VD,q13,ZQ,q0,q0,(.own 1033),q0]
abbrev q36:iY:=.aP zv zv (.st 4) [(3,(.st 5))]
abbrev q37:lq:=.one (.own 100001)
abbrev q39:iY:=.arr zv zj zv (.st 20)
abbrev q40:iY:=.arr zv zj zv (.st 19)
abbrev IC:iY:=.box [q5,q3]
abbrev q42:iY:=.arr zv zv zv (.sl (.int .i64))
abbrev Tc:kG:=.p zv zv .str
abbrev q44:iY:=.arr zv zv zv .bool
abbrev q45:iY:=.box [VD,q13,ZQ,q3,q3,(.own 100002),q3]
abbrev q46:kG:=.p zj zv (.sl (.st 16))
abbrev q47:lq:=.agg [(.p zj zv (.sl (.st 3))),(.p zj zv (.sl (.st 15)))]
abbrev q48:iY:=.box [(.box 50001 0),(.own 50002),(.own 50003),(.own 50004),q0]
abbrev q49:iY:=.arr zv zj zv (.st 9)
abbrev ZR:lq:=.one (.own 100000)
abbrev Ya:kG:=.p zj zv .str
abbrev q16:lq:=.agg [Ya,q1,q1,(.p zj zv (.sl (.st 5)))]
abbrev q52:iY:=.arr zv zv zj (.int .u8)
abbrev q54:lq:=.one (.own 55000)
abbrev q55:kG:=.p zv zv (.int .u64)
abbrev q56:iY:=.arr zv zv zj (.st 16)
abbrev q57:iY:=.arr zv zj zj .str
abbrev q58:kG:=.p zj zv (.sl (.st 17))
abbrev q38:lq:=.agg [q1,q1,q1,q1,Ya,q58]
abbrev q59:lq:=.agg [q1,q1,q1,q1,q1,q1,q6]
abbrev q60:iY:=.box [q31,q0,q2]
abbrev q61:iY:=.box [VD,q13,(.own 100002),q0,q0]
abbrev q62:iY:=.box [VD,q13,(.own 100002),q3,q3]
abbrev q63:lq:=.agg [q6,(.p zj zv (.sl (.sl (.int .i64))))]
abbrev q64:iY:=.arr zv zv zv (.st 3)
abbrev q65:iY:=.arr zv zj zv (.st 11)
abbrev q66:lq:=.one (.own 60000)
abbrev q67:iY:=.box [q0,q0,q0,q0,q0,q0,q2,(.own 101002)]
abbrev q68:iY:=.arr zv zj zj (.st 17)
abbrev q69:iY:=.box [q10,q12,(.p zv zj (.sl .str)),q0,q0,(.own 50001),q0]
abbrev q70:lq:=.one (.own 101001)
abbrev q71:iY:=.box [VD,q13,ZQ,q0,q0,(.own 60001),q0]
abbrev q72:kG:=.p zj zv .bool
abbrev q24:lq:=.agg [q1,q1,q1,q1,q1,q1,q72,q6]
abbrev q74:iY:=.arr zv zv zj (.st 17)
abbrev q75:iY:=.arr zv zj zv (.st 3)
abbrev q76:lq:=.one q6
abbrev q77:lq:=.one (.own 100002)
abbrev q78:lq:=.agg [(.own 60000),(.own 60001),(.own 60002),(.own 60003),q0,q0,(.own 60004),(.own 60005)]
abbrev q80:iY:=.box [(.own 104004),(.own 42),(.own 100005),(.own 100006),q1,q1,(.own 38),(.own 104009)]
abbrev q81:iY:=.box [(.own 105006),(.own 42),(.own 100005),(.own 100006),q1,q1,(.own 38),(.own 104009)]
abbrev q82:iY:=.box [(.own 105006),(.own 42),(.own 100005),(.own 100006),q1,q1,(.own 38),(.own 108010)]
abbrev q83:iY:=.arr zv zj zv (.st 5)
abbrev q84:lq:=.agg [q1,q1,q1,q1]
abbrev q85:iY:=.arr zv zv zv .str
abbrev q89:iY:=.box [.dJ,(.own 42),(.own 100005),(.own 100006),q1,q1,(.own 38),.dJ]
abbrev q90:kG:=.p zj zv (.sl .str)
abbrev q91:iY:=.box [(.box 50000 0),(.own 101003),(.own 100701),(.own 100702),q0]
abbrev q92:iY:=.box [(.box 50000 0),(.own 103003),(.own 100701),(.own 100702),q0]
abbrev q93:iY:=.box [(.box 50000 0),(.own 103003),(.own 105004),(.own 100702),q0]
abbrev q94:iY:=.box [(.box 50000 0),(.own 103003),(.own 105004),(.own 109005),q0]
abbrev q95:lq:=.one (.own 102001)
abbrev q97:iY:=.box [(.box 50001 0),(.own 50002),(.own 50003),(.own 100005),q3]
abbrev q98:lq:=.agg [q1,q1,Ya,q58,q46,q46]
abbrev q99:iY:=.box [(.p zj zv (.sl (.st 6))),q1,q1,q1,q1,q1,q1,q1]
abbrev am4:iY:=.arr zv zv zv (.st 15)
abbrev am5:iY:=.arr zv zj zv (.st 15)
abbrev am6:iY:=.arr zv zj zj (.st 16)
abbrev am7:iY:=.arr zv zj zv (.st 4)
abbrev j0:fU:=.seq .nil .nil
abbrev j1:fU:=.seq .nil j0
abbrev j3:fU:=.seq j1 .nil
abbrev j4:fU:=.seq j0 .nil
abbrev j5:JT:=⟨[],[(50000,.ob q35),(1033,.ob q11)]⟩
abbrev j6:fU:=.seq .nil j1
abbrev j7:JT:=⟨[(1,.keep),(3,.sl q9),(4,.sl q9)],[(1,.keep)]⟩
abbrev j8:fU:=.seq (dU ⟨[(2,.sl jy)],[]⟩ .nil) .nil
abbrev j9:JT:=⟨kS [0,4] [],lO [(50000,.ob ZP),(50001,.ob q23)] (kO [50002,50003,4,50004] [])⟩
abbrev j11:JT:=⟨kS [0,3,4] [],lO [(50000,.ob q32)] (kO [50001,3,4] [])⟩
abbrev j12:JT:=⟨kS [0,1,5,6,7] [],lO [(50000,.ob q61)] (kO [100001,7,100002,101003] [])⟩
abbrev j13:fU:=.seq j0 (.seq j3 .nil)
abbrev j14:JT:=⟨kS [0,3,4] [],lO [(50000,.ob q34)] (kO [50001,3,4] [])⟩
abbrev j18:JT:=⟨[(1,.keep),(3,.sl q37),(4,.sl q9)],[(1,.keep),(100001,.ob q4)]⟩
abbrev j19:fU:=.seq .nil j3
abbrev j21:fU:=.seq (.seq j6 .nil) .nil
abbrev j22:JT:=⟨kS [1,3,4] [],[(1,.keep)]⟩
abbrev j23:JT:=⟨kS [1,4] [(5,.sl jy)],[(1,.keep)]⟩
abbrev j25:fU:=.seq .nil (.seq (aJ (.meet zj ⟨[],[]⟩ (.loop ⟨kS [1,2] [(5,.sl q9)],[(2,.keep)]⟩ j13))) .nil)
abbrev j26:fU:=.seq .nil (aJ (.seq (aJ (dU ⟨[(3,.sl q9)],[]⟩ (.loop j7 (.seq j0 j0)))) .nil))
abbrev j27:JT:=⟨kS [4,5,7,8,9,12] (lS [(13,.sl jy)] (kS [52,53,54] [])),lO [(28,.ob q40)] (kO [1028,34,102003] [])⟩
abbrev j28:fU:=.seq .nil (dU ⟨kS [1,2,3,4,7,8,9] [],kO [1,2,11,14,7] [(9,.ob q99),(103005,.keep)]⟩ .nil)
abbrev j29:JT:=⟨kS [4,5,7,8,9] [(12,.sl (.one (.own 102003)))],lO [(28,.ob q40)] (kO [1028,34] [(102003,.ob q4)])⟩
abbrev j31:fU:=.seq (aJ (.meet zj ⟨[],[]⟩ (.loop ⟨kS [0,1] [(5,.sl q9)],[]⟩ j13))) .nil
abbrev j32:fU:=.seq .nil j6
abbrev j33:JT:=⟨kS [0,2,3,4,7,8] [],lO [(50000,.ob q23)] (kO [2,3] [(100004,.ob q36),(19,.keep)])⟩
abbrev j34:JT:=⟨[],[(50000,.ob q45),(100002,.ob q11)]⟩
abbrev j35:JT:=⟨[(1,.keep),(18,.sl jy)],[(1,.keep)]⟩
abbrev j36:JT:=⟨kS [1,3,6] [(7,.sl jy)],[(1,.keep)]⟩
abbrev j2:fU:=.seq .nil (.seq (.seq (aJ (.meet zv j36 (aJ (aJ (.meet zv j36 (aJ (aJ (.meet zv j36 .nil)))))))) (.meet zj j7 (aJ (aJ (.meet zj j7 (aJ (aJ (.meet zj j7 (aJ (aJ (.meet zj j7 (aJ (.seq (aJ (.meet zv j35 (aJ (aJ (.meet zv j35 .nil))))) (.seq (aJ (aJ (.meet zv j7 .nil))) .nil)))))))))))))) .nil)
abbrev j37:JT:=⟨[(1,.keep),(3,.sl jy)],[(1,.keep)]⟩
abbrev j38:JT:=⟨[(1,.keep),(6,.sl jy)],[(1,.keep)]⟩
abbrev j39:JT:=⟨kS [2,3] [],[(2,.keep),(3,.ob (.box [q1,q0,q1,q0,q0,q1,q2,.dJ]))]⟩
abbrev j40:JT:=⟨kS [2,3] [],[(2,.keep),(3,.ob (.box [q0,q0,q1,q0,q0,q1,q2,.dJ]))]⟩
abbrev j41:JT:=⟨[(3,.sl q37)],[(100001,.ob q4)]⟩
abbrev j42:JT:=⟨kS [0,1,4,7,8,9,10] [],[(4,.keep),(7,.ob q67),(101002,.keep)]⟩
abbrev j43:fU:=.seq .nil (.seq (dU ⟨[(6,.sl jy)],[]⟩ .nil) .nil)
abbrev j45:fU:=.meet zv ⟨kS [1,2] [(14,.sl jy)],[(2,.keep)]⟩ .nil
abbrev j46:fU:=.seq j4 .nil
abbrev j47:JT:=⟨kS [0,4] [],kO [50000,50001,50002,50003,4,50004] []⟩
abbrev j50:fU:=.seq .nil j19
abbrev j51:fU:=.seq .nil (aJ j21)
abbrev j52:fU:=.seq .nil j4
abbrev j10:fU:=.seq .nil j52
abbrev j54:JT:=⟨[],[(50000,.ob q34),(50001,.keep)]⟩
abbrev j55:JT:=⟨[(0,.sl ZR)],[(100000,.ob q52)]⟩
def sg7:dn:={ bC:=2,pin:=⟨[(0,(.one q31)),(1,sQ)],[]⟩,aW:=⟨[(0,(.one (.box 14 0)))],[(14,(.box [q31,q0]))]⟩,cO:=1,bH:=[],aY:=[14] }
def an7:fU:=(aJ (.seq (aJ (dU ⟨[(0,.sl (.one q31))],[]⟩ .nil)) .nil))
def apM:dn:={ bC:=2,pin:=⟨[(0,q22),(1,sQ)],[(50000,IC)]⟩,aW:=⟨[(0,q9)],[(50000,q23)]⟩,cO:=1,bH:=[50000],aY:=[] }
def atO:fU:=(aJ (.seq (.seq (dU ⟨kS [0,1] [(19,.sl jy)],[(50000,.keep)]⟩ .nil) j0) j50))
def atP:dn:={ bC:=1,pin:=⟨[(0,(.one (.p zj zv (.sl (.st 3)))))],[]⟩,aW:=⟨[(0,q66)],[(60000,q75)]⟩,cO:=1,bH:=[],aY:=[60000] }
def atQ:fU:=j19
def atS:dn:={ bC:=1,pin:=⟨[(0,sQ)],[]⟩,aW:=⟨[(0,(.one Tc))],[]⟩,cO:=1,bH:=[],aY:=[] }
def atT:fU:=(aJ (aJ (.seq (.seq (dU ⟨kS [0,3] [(12,.sl jy)],[(4,.keep)]⟩ .nil) j0) .nil)))
def atV:dn:={ bC:=1,pin:=⟨[(0,sQ)],[]⟩,aW:=⟨[(0,jy)],[]⟩,cO:=1,bH:=[],aY:=[] }
def atW:fU:=(aJ j8)
def atX:dn:={ bC:=2,pin:=⟨[(0,q24),(1,(.one (.p zj zv (.int .u8))))],[]⟩,aW:=⟨[(0,q9)],[]⟩,cO:=1,bH:=[],aY:=[] }
def atY:fU:=(aJ (.seq (aJ (.seq (aJ (aJ (aJ (aJ (aJ (aJ (aJ (.meet zj ⟨[],[]⟩ j3)))))))) .nil)) .nil))
def atZ:dn:={ bC:=1,pin:=⟨[(0,q16)],[]⟩,aW:=⟨[(0,ZR)],[(100000,q4)]⟩,cO:=1,bH:=[],aY:=[100000] }
def at1:fU:=(aJ (aJ (.seq (aJ (dU ⟨[(3,.sl ZR)],[(100000,.ob q4)]⟩ (.loop ⟨[(3,.sl ZR),(7,.keep),(8,.sl q9)],[(100000,.ob q4)]⟩ j10))) .nil)))
def apN:dn:={ bC:=1,pin:=⟨[(0,sQ)],[]⟩,aW:=⟨[(0,(.one Tc))],[]⟩,cO:=1,bH:=[],aY:=[] }
def at6:fU:=j50
def at7:dn:={ bC:=3,pin:=⟨[(0,q22),(1,q21),(2,q16)],[(50000,IC)]⟩,aW:=⟨[(0,(.agg [q0,q0,q0,q0,q0,q0,(.own 60001)]))],[(50000,q23),(60001,q4)]⟩,cO:=1,bH:=[50000],aY:=[60001] }
def aua:fU:=(aJ (aJ (.seq (aJ (.seq (aJ (dU ⟨kS [0,4,6,7] [],lO [(50000,.ob q23)] (kO [4,6] [(7,.ob (.box [q0,q0,q0,q0,q0,q0,(.own 110004)])),(110004,.ob q4)])⟩ (aJ (aJ (dU ⟨kS [0,4,6,7] [],lO [(50000,.ob q23)] (kO [4,6] [(7,.ob (.box [q0,q0,q0,q0,q0,q0,(.own 109004)])),(109004,.ob q4)])⟩ (aJ (aJ (dU ⟨kS [0,4,6,7] [],lO [(50000,.ob q23)] (kO [4,6] [(7,.ob (.box [q0,q0,q0,q0,q0,q0,(.own 108004)])),(108004,.ob q4)])⟩ (aJ (.seq (aJ (dU ⟨kS [0,4,5,6,7,27] [(46,.sl jy)],kO [50000,4,5,6,7] []⟩ .nil)) (dU ⟨kS [0,4,6,7] [],lO [(50000,.ob q23)] (kO [4,6] [(7,.ob (.box [q0,q0,q0,q0,q0,q0,(.own 107004)])),(107004,.ob q4)])⟩ (aJ (aJ (dU ⟨kS [0,4,6,7] [],lO [(50000,.ob q23)] (kO [4,6] [(7,.ob (.box [q0,q0,q0,q0,q0,q0,(.own 106004)])),(106004,.ob q4)])⟩ (.seq (aJ (aJ (dU ⟨kS [0,4,6,7] [],lO [(50000,.ob q23)] (kO [4,6] [(7,.ob (.box [q0,q0,q0,q0,q0,q0,(.own 101005)])),(101005,.ob q4)])⟩ (.loop ⟨kS [0,4,5,6,7] [(8,.sl q9)],lO [(50000,.ob q23)] (kO [4,5,6] [(7,.ob (.box [q0,q0,q0,q0,q0,q0,(.own 101005)])),(101005,.ob q4)])⟩ (.seq j0 j0))))) (aJ (dU ⟨kS [0,4,6,7] [],lO [(50000,.ob q23)] (kO [4,6] [(7,.ob (.box [q0,q0,q0,q0,q0,q0,(.own 105004)])),(105004,.ob q4)])⟩ (.seq (aJ (dU ⟨kS [0,4,6,7] [],lO [(50000,.ob q23)] (kO [4,6] [(7,.ob (.box [q0,q0,q0,q0,q0,q0,(.own 103005)])),(103005,.ob q4)])⟩ (.loop ⟨kS [0,4,5,6,7] [(9,.sl q9)],lO [(50000,.ob q23)] (kO [4,5,6] [(7,.ob (.box [q0,q0,q0,q0,q0,q0,(.own 103005)])),(103005,.ob q4)])⟩ (.seq j0 j0)))) .nil)))))))))))))))))) .nil)) (.seq (.seq (dU ⟨kS [0,4,6,7] [(107,.sl jy)],lO [(50000,.ob q23)] (kO [4,6,7,110004] [])⟩ .nil) j0) .nil))))
def aub:dn:={ bC:=1,pin:=⟨[(0,q16)],[]⟩,aW:=⟨[(0,q37)],[(100001,q4)]⟩,cO:=1,bH:=[],aY:=[100001] }
def auc:fU:=(aJ (aJ (.seq (aJ (.meet zv j41 (.loop j18 (.seq j0 j0)))) .nil)))
def aud:dn:={ bC:=1,pin:=⟨[(0,q76)],[]⟩,aW:=⟨[(0,q66)],[(60000,q7)]⟩,cO:=1,bH:=[],aY:=[60000] }
def aue:fU:=j19
def auf:dn:={ bC:=2,pin:=⟨[(0,q76),(1,q76)],[]⟩,aW:=⟨[(0,jy)],[]⟩,cO:=1,bH:=[],aY:=[] }
def aug:fU:=(aJ (.seq j1 (.seq (aJ (.meet zj ⟨[],[]⟩ (.loop ⟨kS [0,1,12] [(13,.sl q9)],[]⟩ j51))) .nil)))
def auh:dn:={ bC:=3,pin:=⟨[(0,q54),(1,sQ),(2,sQ)],[(55000,q52)]⟩,aW:=⟨[(0,ZR)],[(100000,q52)]⟩,cO:=1,bH:=[],aY:=[100000] }
def aui:fU:=(aJ (.seq (aJ (.meet zv j55 (.loop ⟨lS [(0,.sl ZR)] (kS [1,8] [(9,.sl q9)]),[(100000,.ob q52)]⟩ j10))) .nil))
def auj:dn:={ bC:=1,pin:=⟨[(0,(.one q72))],[]⟩,aW:=⟨[(0,q9)],[]⟩,cO:=1,bH:=[],aY:=[] }
def auk:fU:=j19
def aul:dn:={ bC:=2,pin:=⟨[(0,q16),(1,q76)],[]⟩,aW:=⟨[(0,jy)],[]⟩,cO:=1,bH:=[],aY:=[] }
def aum:fU:=(aJ (.seq (.seq (dU ⟨[(1,.keep),(23,.sl jy)],[]⟩ .nil) j0) (aJ (.seq (aJ (.meet zj ⟨[],[]⟩ (.loop ⟨kS [1,5] [(6,.sl q9)],[(26,.ob q44)]⟩ (.seq j0 (.seq (.seq (.seq (.seq (dU ⟨kS [1,5,6] [(55,.sl jy)],[(26,.keep)]⟩ .nil) j0) .nil) .nil) .nil))))) .nil))))
def aun:dn:={ bC:=1,pin:=⟨[(0,q59)],[]⟩,aW:=⟨[(0,(.agg [q0,q0,q0,q0,q0,q0,q2,(.own 113002)]))],[(113002,q7)]⟩,cO:=1,bH:=[],aY:=[113002] }
def auo:fU:=(aJ (aJ (.seq (aJ (.seq (.seq (aJ (dU ⟨kS [1,2,3,8] [(9,.sl jy)],kO [1,2,3] []⟩ .nil)) (dU ⟨kS [2,3] [],[(2,.keep),(3,.ob (.box [q1,q1,q1,q1,q1,q1,q2,(.own 113002)])),(113002,.ob q7)]⟩ (aJ (aJ (dU ⟨kS [2,3] [],[(2,.keep),(3,.ob (.box [q1,q1,q1,q1,q1,q1,q2,(.own 112002)])),(112002,.ob q7)]⟩ (aJ (aJ (dU ⟨kS [2,3] [],[(2,.keep),(3,.ob (.box [q1,q1,q1,q1,q1,q1,q2,(.own 111002)])),(111002,.ob q7)]⟩ (aJ (aJ (dU ⟨kS [2,3] [],[(2,.keep),(3,.ob (.box [q1,q1,q1,q1,q1,q1,q2,(.own 110002)])),(110002,.ob q7)]⟩ (aJ (aJ (dU ⟨kS [2,3] [],[(2,.keep),(3,.ob (.box [q1,q0,q1,q1,q1,q1,q2,(.own 109002)])),(109002,.ob q7)]⟩ (aJ (aJ (dU ⟨kS [2,3] [],[(2,.keep),(3,.ob (.box [q1,q0,q1,q1,q1,q1,q2,(.own 108002)])),(108002,.ob q7)]⟩ (aJ (aJ (dU ⟨kS [2,3] [],[(2,.keep),(3,.ob (.box [q1,q0,q1,q1,q1,q1,q2,(.own 107002)])),(107002,.ob q7)]⟩ (aJ (aJ (dU ⟨kS [2,3] [],[(2,.keep),(3,.ob (.box [q1,q0,q1,q1,q0,q1,q2,(.own 106002)])),(106002,.ob q7)]⟩ (aJ (aJ (dU ⟨kS [2,3] [],[(2,.keep),(3,.ob (.box [q1,q0,q1,q1,q0,q1,q2,(.own 105002)])),(105002,.ob q7)]⟩ (aJ (aJ (dU ⟨kS [2,3] [],[(2,.keep),(3,.ob (.box [q1,q0,q1,q1,q0,q1,q2,(.own 104002)])),(104002,.ob q7)]⟩ (aJ (aJ (dU ⟨kS [2,3] [],[(2,.keep),(3,.ob (.box [q1,q0,q1,q1,q0,q1,q2,(.own 103002)])),(103002,.ob q7)]⟩ (aJ (aJ (.meet zv j39 (aJ (aJ (.meet zv j39 .nil)))))))))))))))))))))))))))))))))))))) .nil)) .nil)))
def aup:dn:={ bC:=2,pin:=⟨[(0,q84),(1,sQ)],[]⟩,aW:=⟨[(0,q66)],[(60000,q39)]⟩,cO:=1,bH:=[],aY:=[60000] }
def auq:fU:=(aJ (.seq (.seq (aJ (aJ (.seq j45 (.seq j3 j32)))) .nil) .nil))
def aur:dn:={ bC:=3,pin:=⟨[(0,sQ),(1,sQ),(2,sQ)],[]⟩,aW:=⟨[(0,jy)],[]⟩,cO:=1,bH:=[],aY:=[] }
def aus:fU:=j43
def aut:dn:={ bC:=1,pin:=⟨[(0,sQ)],[]⟩,aW:=⟨[(0,jy)],[]⟩,cO:=1,bH:=[],aY:=[] }
def auu:fU:=j0
def auv:dn:={ bC:=2,pin:=⟨[(0,q22),(1,sQ)],[(50000,(.box [q5,q3,(.p zv zj .bool)]))]⟩,aW:=⟨[(0,q9)],[(50000,(.box [q5,q0,q2]))]⟩,cO:=1,bH:=[50000],aY:=[] }
def auw:fU:=(aJ (.seq (.seq (dU ⟨kS [0,1] [],[(50000,.ob (.box [q5,q3,q2]))]⟩ .nil) j1) (aJ (.seq (aJ (dU ⟨kS [0,1] [(5,.sl (.one q55))],[(50000,.keep)]⟩ (.loop ⟨kS [0,1] [(5,.sl (.one q55)),(32,.keep),(33,.sl q9)],[(50000,.keep)]⟩ j10))) j0))))
def auy:dn:={ bC:=2,pin:=⟨[(0,q22),(1,(.one q72))],[(50000,(.box [q5,q3,(.p zv zj .bool)]))]⟩,aW:=⟨[(0,q9)],[(50000,(.box [q5,q0,q2]))]⟩,cO:=1,bH:=[50000],aY:=[] }
def auz:fU:=j50
def auA:dn:={ bC:=1,pin:=⟨[(0,q24)],[]⟩,aW:=⟨[(0,jy)],[]⟩,cO:=1,bH:=[],aY:=[] }
def auB:fU:=(aJ (.seq (aJ (.seq (aJ (.seq j8 (aJ (.seq j8 .nil)))) .nil)) .nil))
def auC:dn:={ bC:=1,pin:=⟨[(0,q24)],[]⟩,aW:=⟨[(0,jy)],[]⟩,cO:=1,bH:=[],aY:=[] }
def auD:fU:=(aJ (aJ (.seq j2 j8)))
def auE:dn:={ bC:=2,pin:=⟨[(0,q22),(1,sQ)],[(50000,q26),(50001,q33)]⟩,aW:=⟨[(0,q9)],[(50000,(.box [q10,q12,(.p zv zj (.sl .str)),q0,q0,(.own 30),q0])),(30,q11)]⟩,cO:=1,bH:=[50000],aY:=[30] }
def auF:fU:=j6
def apO:TypeId->Option Ty:=λt=>(([(1000069,(.prod (.st 0) .bool)),(3000009,.bool)]:List (Nat×Ty))++CV).lookup t
def auG:dn:={ bC:=2,pin:=⟨[(0,q22),(1,q59)],[(50000,q26),(50001,q33)]⟩,aW:=⟨[],[(50000,q69),(50001,q11)]⟩,cO:=0,bH:=[50000,50001],aY:=[] }
def auH:fU:=.nil
def apP:TypeId->Option Ty:=λt=>(([(1000069,(.prod (.st 0) .bool))]:List (Nat×Ty))++CV).lookup t
def auI:dn:={ bC:=3,pin:=⟨[(0,q22),(1,sQ),(2,q84)],[(50000,q26),(50001,q33)]⟩,aW:=⟨[],[(50000,q69),(50001,q11)]⟩,cO:=0,bH:=[50000,50001],aY:=[] }
def auJ:fU:=.nil
def apQ:TypeId->Option Ty:=λt=>(([(1000069,(.prod (.st 0) .bool))]:List (Nat×Ty))++CV).lookup t
def auK:dn:={ bC:=1,pin:=⟨[(0,q59)],[]⟩,aW:=⟨[(0,(.agg [q0,q0,q0,q0,q0,q0,q2,(.own 113002)]))],[(113002,q7)]⟩,cO:=1,bH:=[],aY:=[113002] }
def auL:fU:=(aJ (aJ (.seq (aJ (.seq (aJ (dU ⟨kS [2,3] [],[(2,.keep),(3,.ob (.box [q0,q1,q1,q1,q1,q1,q2,(.own 113002)])),(113002,.ob q7)]⟩ (aJ (aJ (dU ⟨kS [2,3] [],[(2,.keep),(3,.ob (.box [q0,q1,q1,q1,q1,q1,q2,(.own 112002)])),(112002,.ob q7)]⟩ (aJ (aJ (dU ⟨kS [2,3] [],[(2,.keep),(3,.ob (.box [q0,q1,q1,q1,q1,q1,q2,(.own 111002)])),(111002,.ob q7)]⟩ (aJ (aJ (dU ⟨kS [2,3] [],[(2,.keep),(3,.ob (.box [q0,q1,q1,q1,q1,q1,q2,(.own 110002)])),(110002,.ob q7)]⟩ (aJ (aJ (dU ⟨kS [2,3] [],[(2,.keep),(3,.ob (.box [q0,q0,q1,q1,q1,q1,q2,(.own 109002)])),(109002,.ob q7)]⟩ (aJ (aJ (dU ⟨kS [2,3] [],[(2,.keep),(3,.ob (.box [q0,q0,q1,q1,q1,q1,q2,(.own 108002)])),(108002,.ob q7)]⟩ (aJ (aJ (dU ⟨kS [2,3] [],[(2,.keep),(3,.ob (.box [q0,q0,q1,q1,q1,q1,q2,(.own 107002)])),(107002,.ob q7)]⟩ (aJ (aJ (dU ⟨kS [2,3] [],[(2,.keep),(3,.ob (.box [q0,q0,q1,q1,q1,q1,q2,(.own 106002)])),(106002,.ob q7)]⟩ (aJ (aJ (dU ⟨kS [2,3] [],[(2,.keep),(3,.ob (.box [q0,q0,q1,q1,q0,q1,q2,(.own 105002)])),(105002,.ob q7)]⟩ (aJ (aJ (dU ⟨kS [2,3] [],[(2,.keep),(3,.ob (.box [q0,q0,q1,q1,q0,q1,q2,(.own 104002)])),(104002,.ob q7)]⟩ (aJ (aJ (dU ⟨kS [2,3] [],[(2,.keep),(3,.ob (.box [q0,q0,q1,q1,q0,q1,q2,(.own 103002)])),(103002,.ob q7)]⟩ (aJ (aJ (dU ⟨kS [2,3] [],[(2,.keep),(3,.ob (.box [q0,q0,q1,q1,q0,q1,q2,(.own 102002)])),(102002,.ob q7)]⟩ (aJ (aJ (.meet zv j40 (aJ (aJ (.meet zv j40 .nil))))))))))))))))))))))))))))))))))))))))) .nil)) .nil)))
def auM:dn:={ bC:=2,pin:=⟨[(0,q84),(1,sQ)],[]⟩,aW:=⟨[(0,q66)],[(60000,q40)]⟩,cO:=1,bH:=[],aY:=[60000] }
def auN:fU:=(aJ (aJ (.seq (.seq (aJ (aJ (.seq (dU ⟨kS [1,2,5] [(19,.sl jy)],kO [2,5] []⟩ .nil) (.seq j3 j32)))) .nil) j0)))
def auO:dn:={ bC:=1,pin:=⟨[(0,q24)],[]⟩,aW:=⟨[(0,jy)],[]⟩,cO:=1,bH:=[],aY:=[] }
def auP:fU:=(aJ (.seq (.seq (.seq (aJ (.meet zv j37 (aJ (.meet zv j37 .nil)))) (aJ j32)) .nil) .nil))
def auQ:dn:={ bC:=1,pin:=⟨[(0,q24)],[]⟩,aW:=⟨[(0,q37)],[(100001,q7)]⟩,cO:=1,bH:=[],aY:=[100001] }
def auR:fU:=(aJ (aJ (.seq (aJ (dU ⟨[(3,.sl q37)],[(100001,.ob q7)]⟩ (.loop ⟨[(1,.keep),(3,.sl q37),(10,.keep)],[(1,.keep),(100001,.ob q7),(10,.ob .it)]⟩ (aJ (aJ (.seq (aJ (aJ (.seq (aJ (dU ⟨[(1,.keep),(3,.sl (.one (.own 104001))),(10,.keep)],[(1,.keep),(104001,.ob q7),(10,.keep)]⟩ (aJ (aJ (dU ⟨[(1,.keep),(3,.sl (.one (.own 103001))),(10,.keep)],[(1,.keep),(103001,.ob q7),(10,.keep)]⟩ (aJ (aJ (dU ⟨[(1,.keep),(3,.sl q95),(10,.keep)],[(1,.keep),(102001,.ob q7),(10,.keep)]⟩ (aJ (aJ (dU ⟨[(1,.keep),(3,.sl q70),(10,.keep)],[(1,.keep),(101001,.ob q7),(10,.keep)]⟩ .nil))))))))))) .nil))) .nil)))))) .nil)))
def auS:dn:={ bC:=1,pin:=⟨[(0,sQ)],[]⟩,aW:=⟨[(0,jy)],[]⟩,cO:=1,bH:=[],aY:=[] }
def auT:fU:=j0
def auU:dn:={ bC:=1,pin:=⟨[(0,q24)],[]⟩,aW:=⟨[(0,jy)],[]⟩,cO:=1,bH:=[],aY:=[] }
def auV:fU:=(aJ (aJ (.seq j2 .nil)))
def auW:dn:={ bC:=1,pin:=⟨[(0,sQ)],[]⟩,aW:=⟨[(0,jy)],[]⟩,cO:=1,bH:=[],aY:=[] }
def auX:fU:=(aJ j8)
def auY:dn:={ bC:=3,pin:=⟨[(0,q54),(1,sQ),(2,sQ)],[(55000,q52)]⟩,aW:=⟨[(0,ZR)],[(100000,q52)]⟩,cO:=1,bH:=[],aY:=[100000] }
def auZ:fU:=(aJ (.seq (aJ (.meet zv j55 (.loop ⟨lS [(0,.sl ZR)] (kS [1,2] [(7,.sl q9)]),[(100000,.ob q52)]⟩ (.seq j0 j0)))) .nil))
def apR:dn:={ bC:=2,pin:=⟨[(0,q54),(1,(.one q46))],[(55000,yE)]⟩,aW:=⟨[(0,ZR)],[(100000,q57)]⟩,cO:=1,bH:=[],aY:=[100000] }
def au0:fU:=(aJ (.seq (aJ (dU ⟨[(0,.sl ZR)],[(100000,.ob q57)]⟩ (.loop ⟨[(0,.sl ZR),(1,.keep),(5,.sl q9)],[(100000,.ob q57)]⟩ (.seq j0 (.seq (.seq (.seq (aJ (dU ⟨lS [(0,.sl (.one (.own 101000)))] (kS [1,5] []),[(101000,.ob q57)]⟩ .nil)) .nil) .nil) .nil))))) .nil))
def au1:dn:={ bC:=2,pin:=⟨[(0,q47),(1,(.one Ya))],[]⟩,aW:=⟨[(0,q9)],[]⟩,cO:=1,bH:=[],aY:=[] }
def au2:fU:=j25
def au3:dn:={ bC:=2,pin:=⟨[(0,q47),(1,(.one Ya))],[]⟩,aW:=⟨[(0,q9)],[]⟩,cO:=1,bH:=[],aY:=[] }
def au4:fU:=j25
def apS:dn:={ bC:=1,pin:=⟨[(0,(.one q46))],[]⟩,aW:=⟨[(0,q9)],[]⟩,cO:=1,bH:=[],aY:=[] }
def au5:fU:=(aJ (aJ (.seq (aJ (dU ⟨[(3,.sl q9)],[]⟩ (.loop ⟨[(0,.keep),(3,.sl q9),(4,.sl q9)],[]⟩ (.seq j0 j0)))) .nil)))
def apT:dn:={ bC:=2,pin:=⟨[(0,(.one q90)),(1,(.one Ya))],[]⟩,aW:=⟨[(0,jy)],[]⟩,cO:=1,bH:=[],aY:=[] }
def apU:fU:=(aJ j31)
def apV:dn:={ bC:=2,pin:=⟨[(0,q47),(1,(.one Ya))],[]⟩,aW:=⟨[(0,q9)],[]⟩,cO:=1,bH:=[],aY:=[] }
def apW:fU:=(aJ (.seq (aJ (aJ (.seq j3 .nil))) j3))
def apX:dn:={ bC:=1,pin:=⟨[(0,q84)],[]⟩,aW:=⟨[(0,q66)],[(60000,q7)]⟩,cO:=1,bH:=[],aY:=[60000] }
def apY:fU:=(aJ (.seq (.seq (.seq (.meet zv j37 .nil) (aJ (.seq (dU ⟨[(1,.keep),(19,.sl jy)],[(1,.keep)]⟩ .nil) j0))) .nil) .nil))
def apZ:dn:={ bC:=2,pin:=⟨[(0,q76),(1,(.one (.fn 90 [])))],[]⟩,aW:=⟨[(0,q9)],[]⟩,cO:=1,bH:=[],aY:=[] }
def ap0:fU:=(aJ (.seq (aJ (.meet zj ⟨[],[]⟩ (.loop ⟨kS [0,1,7] [(8,.sl q9)],[]⟩ j51))) .nil))
def ap1:dn:={ bC:=2,pin:=⟨[(0,q22),(1,(.one Ya))],[(50000,q26),(50001,q33)]⟩,aW:=⟨[(0,q9)],[(50000,q69),(50001,q33)]⟩,cO:=1,bH:=[50000,50001],aY:=[],kept:=[50001] }
def ap2:fU:=(aJ (.seq (aJ (.meet zj ⟨[],kO [50000,50001] []⟩ (.loop ⟨kS [0,1] [(5,.sl q9)],kO [50000,50001] []⟩ j13))) .nil))
def am8:TypeId->Option Ty:=λt=>(([(1000069,(.prod (.st 0) .bool)),(3000010,.bool)]:List (Nat×Ty))++CV).lookup t
def ap3:dn:={ bC:=1,pin:=⟨[(0,q16)],[]⟩,aW:=⟨[(0,q9)],[]⟩,cO:=1,bH:=[],aY:=[] }
def ap4:fU:=j26
def ap5:dn:={ bC:=2,pin:=⟨[(0,q16),(1,q84)],[]⟩,aW:=⟨[(0,q9)],[]⟩,cO:=1,bH:=[],aY:=[] }
def ap6:fU:=(aJ (.seq (.seq (dU ⟨kS [2,3] [(14,.sl jy)],kO [2,3] []⟩ .nil) j0) (.seq (.seq (dU ⟨kS [2,3] [(29,.sl jy)],kO [2,3] []⟩ .nil) j0) (aJ (.seq (aJ (.meet zj ⟨[],[]⟩ (.loop ⟨kS [2,5] [(6,.sl q9)],kO [2,31] []⟩ (.seq j0 (.seq (.seq (.seq (dU ⟨kS [2,5,6] [(52,.sl jy)],kO [2,31] []⟩ .nil) j0) .nil) .nil))))) .nil)))))
def akX:dn:={ bC:=1,pin:=⟨[(0,q38)],[]⟩,aW:=⟨[(0,q9)],[]⟩,cO:=1,bH:=[],aY:=[] }
def ap7:fU:=j26
def ap8:dn:={ bC:=3,pin:=⟨[(0,q22),(1,sQ),(2,sQ)],[(50000,q32),(50001,yE)]⟩,aW:=⟨[],[(50000,q34),(50001,yE)]⟩,cO:=0,bH:=[50000,50001],aY:=[],kept:=[50001] }
def ap9:fU:=(aJ (dU ⟨[],[(50000,.ob (.box [q10,q12,(.own 50001),(.p zj zj (.int .i64)),(.p zj zj (.int .i64))])),(50001,.keep)]⟩ .nil))
def ap_:dn:={ bC:=2,pin:=⟨[(0,q22),(1,(.one Ya))],[(50000,q32),(50001,yE)]⟩,aW:=⟨[(0,q9)],[(50000,q34),(50001,yE)]⟩,cO:=1,bH:=[50000,50001],aY:=[],kept:=[50001] }
def aqa:fU:=j19
def akY:dn:={ bC:=3,pin:=⟨[(0,q22),(1,q38),(2,sQ)],[(50000,q26),(50001,q33)]⟩,aW:=⟨[],[(50000,q71),(60001,q11)]⟩,cO:=0,bH:=[50000],aY:=[60001] }
def aqb:fU:=(aJ (aJ (.seq (.seq (dU ⟨kS [0,2,4] [(24,.sl jy)],kO [50000,4,50001] []⟩ .nil) j0) (aJ (aJ (.seq (aJ (.meet zv j5 (aJ (aJ (.meet zv j5 (aJ (aJ (.meet zv j5 (aJ (aJ (.meet zv j5 (aJ (aJ (.meet zv j5 (aJ (aJ (.meet zv j5 (aJ (aJ (.meet zv j5 (aJ (aJ (.meet zv j5 (aJ (aJ (.meet zv j5 (aJ (aJ (.meet zv j5 .nil))))))))))))))))))))))))))))) .nil))))))
def am9:TypeId->Option Ty:=λt=>(([(1000069,(.prod (.st 0) .bool))]:List (Nat×Ty))++CV).lookup t
def akZ:dn:={ bC:=3,pin:=⟨[(0,q22),(1,q38),(2,sQ)],[(50000,q26),(50001,q33)]⟩,aW:=⟨[],[(50000,(.box [VD,q13,ZQ,q0,q0,(.own 61),q0])),(61,q11)]⟩,cO:=0,bH:=[50000],aY:=[61] }
def aqc:fU:=(aJ (aJ (aJ (aJ (aJ (aJ (aJ (aJ (aJ (aJ (aJ (aJ (aJ (.seq (aJ (dU ⟨kS [0,10,11,12] [],[(50000,.ob (.box [VD,q13,ZQ,q0,q0,(.own 61),q0])),(61,.ob q11)]⟩ .nil)) .nil))))))))))))))
def am_:TypeId->Option Ty:=λt=>(([(1000069,(.prod (.st 0) .bool))]:List (Nat×Ty))++CV).lookup t
def ak0:dn:={ bC:=3,pin:=⟨[(0,q22),(1,(.one q58)),(2,sQ)],[(50000,q26),(50001,q33)]⟩,aW:=⟨[(0,q37)],[(50000,(.box [VD,q13,ZQ,q0,q0,(.own 100002),q0])),(100001,q4),(100002,q11)]⟩,cO:=1,bH:=[50000],aY:=[100001,100002] }
def aqd:fU:=(aJ (aJ (.seq (aJ (dU ⟨[(7,.sl q37)],[(50000,.ob q45),(100001,.ob q4),(100002,.ob q11)]⟩ (.loop ⟨kS [0,1,2] [(7,.sl q37),(8,.sl q9)],[(50000,.ob q45),(100001,.ob q4),(100002,.ob q11)]⟩ (.seq j0 j4)))) .nil)))
def ana:TypeId->Option Ty:=λt=>(([(1000069,(.prod (.st 0) .bool))]:List (Nat×Ty))++CV).lookup t
def aqe:dn:={ bC:=1,pin:=⟨[(0,q59)],[]⟩,aW:=⟨[(0,q66)],[(60000,q7)]⟩,cO:=1,bH:=[],aY:=[60000] }
def aqf:fU:=(aJ (.seq (aJ (.seq (.seq (aJ (.meet zv j23 (aJ (aJ (.meet zv j23 (aJ (aJ (.meet zv j23 (aJ (aJ (.meet zv j23 .nil))))))))))) (aJ (.seq (aJ (dU ⟨kS [1,4] [(14,.sl jy)],[(1,.keep)]⟩ .nil)) (aJ j32)))) .nil)) .nil))
def aqg:dn:={ bC:=1,pin:=⟨[(0,q59)],[]⟩,aW:=⟨[(0,q9),(1,jy)],[]⟩,cO:=2,bH:=[],aY:=[] }
def aqh:fU:=(aJ (.seq (aJ (.seq (.seq (aJ (.meet zv j38 (aJ (aJ (.meet zv j38 (aJ (aJ (.meet zv j38 .nil)))))))) j0) .nil)) (.seq (.seq (.meet zv j35 .nil) j0) .nil)))
def aqi:dn:={ bC:=3,pin:=⟨[(0,q21),(1,sQ),(2,(.one q72))],[]⟩,aW:=⟨[(0,jy)],[]⟩,cO:=1,bH:=[],aY:=[] }
def aqj:fU:=j43
def aqk:dn:={ bC:=4,pin:=⟨[(0,q22),(1,q38),(2,sQ),(3,sQ)],[(50000,q32),(50001,yE)]⟩,aW:=⟨[],[(50000,q34),(50001,yE)]⟩,cO:=0,bH:=[50000,50001],aY:=[],kept:=[50001] }
def aql:fU:=(aJ (aJ (.seq (aJ (.meet zv j54 (aJ (.seq (dU ⟨kS [0,5] [(20,.sl jy)],kO [50000,50001,5] []⟩ .nil) (.meet zv j54 .nil))))) .nil)))
def aqm:dn:={ bC:=3,pin:=⟨[(0,q22),(1,(.one Ya)),(2,sQ)],[(50000,q32),(50001,yE)]⟩,aW:=⟨[(0,(.agg [q0,q0,q0,q0,Tc,.dJ]))],[(50000,q34),(50001,yE)]⟩,cO:=1,bH:=[50000,50001],aY:=[],kept:=[50001] }
def aqn:fU:=(aJ (aJ (.seq (aJ (dU ⟨kS [1,2,6] [(7,.sl q9)],kO [50000,50001,6] []⟩ .nil)) .nil)))
def ak1:dn:={ bC:=2,pin:=⟨[(0,q22),(1,q38)],[(50000,q32),(50001,yE)]⟩,aW:=⟨[(0,(.agg [q0,q0,q0,q0,Tc,(.own 60002)]))],[(50000,q34),(50001,yE),(60002,q68)]⟩,cO:=1,bH:=[50000,50001],aY:=[60002],kept:=[50001] }
def aqo:fU:=(aJ (.seq (aJ (.seq (aJ (.seq j0 (aJ (.meet zj j11 (aJ (aJ (.meet zj j11 (aJ (aJ (.meet zj j11 (.seq (aJ (.seq (aJ (.meet zj j14 (aJ (aJ (.meet zj j14 (aJ (aJ (.seq (aJ (.meet zv j14 .nil)) (.seq (aJ (.meet zv j14 .nil)) .nil))))))))) .nil)) (aJ (.meet zv j11 (.seq (aJ (.meet zv j11 .nil)) .nil)))))))))))))) .nil)) j0))
def ak2:dn:={ bC:=2,pin:=⟨[(0,q22),(1,(.one q58))],[(50000,q32),(50001,yE)]⟩,aW:=⟨[(0,q77)],[(50000,q34),(50001,yE),(100002,q68)]⟩,cO:=1,bH:=[50000,50001],aY:=[100002],kept:=[50001] }
def aqp:fU:=(aJ (aJ (.seq (aJ (dU ⟨[(5,.sl q77)],[(50000,.ob q32),(50001,.keep),(100002,.ob q68)]⟩ (.loop ⟨kS [0,1] [(5,.sl q77),(6,.sl q9)],[(50000,.ob q32),(50001,.keep),(100002,.ob q68)]⟩ (.seq j0 j0)))) .nil)))
def aqr:dn:={ bC:=3,pin:=⟨[(0,sQ),(1,(.one Ya)),(2,q38)],[]⟩,aW:=⟨[(0,(.agg [q0,q0,Tc,(.own 10),.dJ,.dJ]))],[(10,(.arr zv zj zv (.st 17)))]⟩,cO:=1,bH:=[],aY:=[10] }
def aqs:fU:=j0
def aqt:dn:={ bC:=2,pin:=⟨[(0,q22),(1,(.one q72))],[(50000,ZP),(50001,IC),(50002,Nz),(50003,q30),(50004,yE)]⟩,aW:=⟨[(0,(.one Tc)),(1,jy)],[(50000,q48),(50001,q23),(50002,Nz),(50003,q30),(50004,yE)]⟩,cO:=2,bH:=[50000,50001,50002,50003,50004],aY:=[],kept:=[50002,50003,50004] }
def aqu:fU:=(aJ (aJ (.seq (aJ (dU ⟨[(0,.keep),(6,.sl (.one (.own 100005)))],kO [50000,50001,50002,50003,50004] [(100005,.ob yE)]⟩ (.loop ⟨kS [0,1] [(6,.sl (.one (.own 100005))),(7,.sl q9)],kO [50000,50001,50002,50003,50004] [(100005,.ob yE)]⟩ (.seq j0 (.seq (.seq (aJ (dU ⟨kS [0,1] [(6,.sl (.one (.own 101005))),(7,.keep)],kO [50000,50001,50002,50003,50004] [(101005,.ob yE)]⟩ .nil)) .nil) .nil))))) j3)))
def aqv:dn:={ bC:=0,pin:=⟨[],[]⟩,aW:=⟨[(0,(.one (.own 1)))],[(1,q85)]⟩,cO:=1,bH:=[],aY:=[1] }
def aqw:fU:=j0
def aqx:dn:={ bC:=1,pin:=⟨[(0,q22)],[(50000,ZP),(50001,IC),(50002,Nz),(50003,q30),(50004,yE)]⟩,aW:=⟨[(0,(.agg [q0,q0,q0,q0,Tc,.dJ]))],[(50000,q48),(50001,q23),(50002,Nz),(50003,q30),(50004,yE)]⟩,cO:=1,bH:=[50000,50001,50002,50003,50004],aY:=[],kept:=[50002,50003,50004] }
def aqy:fU:=(aJ (aJ (.seq (aJ (.seq (aJ (aJ (aJ (.meet zj ⟨kS [2,3] [],lO [(50000,.ob ZP),(50001,.ob q23)] (kO [50002,50003,50004,2] [])⟩ (.seq j6 (.seq (aJ (dU ⟨kS [0,2,3] [(26,.sl jy)],kO [50000,50001,50002,50003,50004,2] []⟩ .nil)) (.meet zj ⟨kS [2,3] [],kO [50000,50001,50002,50003,50004,2] []⟩ j3))))))) .nil)) (aJ (.seq (aJ (dU ⟨[(2,.keep),(6,.sl q9)],lO [(50000,.keep),(50001,.ob q23)] (kO [50002,50003,50004,2] [])⟩ .nil)) .nil)))))
def aqz:dn:={ bC:=3,pin:=⟨[(0,sQ),(1,sQ),(2,(.one q58))],[]⟩,aW:=⟨[(0,(.agg [q0,q0,q0,q0,Tc,q58]))],[]⟩,cO:=1,bH:=[],aY:=[] }
def aqA:fU:=j0
def au6:dn:={ bC:=1,pin:=⟨[(0,q21)],[]⟩,aW:=⟨[(0,(.agg [(.own 100002),(.own 100003)]))],[(100002,q4),(100003,q42)]⟩,cO:=1,bH:=[],aY:=[100002,100003] }
def au7:fU:=(aJ (aJ (.seq (aJ (dU ⟨kS [2,3] [],[(2,.keep),(3,.ob (.box [(.own 100002),(.own 100003)])),(100002,.ob q4),(100003,.ob q42)]⟩ (.loop ⟨kS [2,3,7,8] [(9,.sl q9)],[(2,.keep),(3,.ob (.box [(.own 100002),(.own 100003)])),(100002,.ob q4),(100003,.ob q42)]⟩ (aJ (aJ j46))))) .nil)))
def au8:dn:={ bC:=1,pin:=⟨[(0,q21)],[]⟩,aW:=⟨[(0,(.agg [(.own 100003),(.own 100004)]))],[(100003,q4),(100004,q42)]⟩,cO:=1,bH:=[],aY:=[100003,100004] }
def au9:fU:=(aJ (aJ (.seq (aJ (dU ⟨kS [2,3] [],[(2,.keep),(3,.ob (.box [(.own 100003),(.own 100004)])),(100003,.ob q4),(100004,.ob q42)]⟩ (.loop ⟨kS [1,2,3] [(4,.sl q9)],kO [1,2] [(3,.ob (.box [(.own 100003),(.own 100004)])),(100003,.ob q4),(100004,.ob q42)]⟩ (.seq j0 j4)))) .nil)))
def au_:dn:={ bC:=2,pin:=⟨[(0,q22),(1,q16)],[(50000,IC)]⟩,aW:=⟨[(0,(.one (.own 9)))],[(50000,q23),(9,q4)]⟩,cO:=1,bH:=[50000],aY:=[9] }
def ava:fU:=(aJ (aJ (.seq (aJ (dU ⟨[(5,.keep)],[(50000,.ob IC),(9,.ob q4)]⟩ (.loop ⟨kS [0,5] [(6,.sl q9)],[(50000,.ob IC),(9,.ob q4)]⟩ (.seq j0 j4)))) .nil)))
def avb:dn:={ bC:=2,pin:=⟨[(0,q16),(1,q76)],[]⟩,aW:=⟨[(0,q37),(1,q77)],[(100001,q40),(100002,q4)]⟩,cO:=2,bH:=[],aY:=[100001,100002] }
def avc:fU:=(aJ (aJ (aJ (.seq (aJ (dU ⟨[(6,.sl q37),(7,.sl q77)],[(100001,.ob q40),(100002,.ob q4)]⟩ (.loop ⟨kS [1,2] (lS [(6,.sl q37),(7,.sl q77)] (kS [13,14] [(15,.sl q9)])),[(2,.keep),(100001,.ob q40),(100002,.ob q4)]⟩ (aJ (aJ (.seq (.seq (aJ (aJ (.seq (aJ (dU ⟨kS [1,2] (lS [(6,.sl q70)] (kS [7,8,9,13,14,15] [])),[(2,.keep),(101001,.ob q40),(24,.keep)]⟩ (.loop ⟨kS [1,2] (lS [(6,.sl q70)] (kS [7,8,9,13,14,15,30,31] [(32,.sl q9)])),[(2,.keep),(101001,.ob q40),(24,.keep)]⟩ j10))) (aJ (.seq (aJ (dU ⟨kS [1,2,6,7,9] (lS [(12,.sl sQ)] (kS [13,14,15] [])),kO [2,101001,24] []⟩ .nil)) .nil))))) .nil) .nil)))))) .nil))))
def avd:dn:={ bC:=1,pin:=⟨[(0,q24)],[]⟩,aW:=⟨[(0,jy)],[]⟩,cO:=1,bH:=[],aY:=[] }
def ave:fU:=(aJ (aJ (.seq (aJ (.meet zj ⟨[],[]⟩ (.loop ⟨kS [1,3] [(4,.sl q9)],[(1,.keep)]⟩ (.seq j0 (.seq (.seq (aJ (.seq (aJ (.meet zj j22 (.seq j1 (aJ (.meet zj j22 (.seq j1 (aJ (.meet zj j22 (.seq j1 (aJ (.meet zj j22 (.seq (.seq (aJ (.meet zj j22 (.loop ⟨kS [1,3,4] [(5,.sl q9)],[(1,.keep)]⟩ j13))) j1) .nil)))))))))))) .nil)) .nil) .nil))))) .nil)))
def avf:dn:={ bC:=1,pin:=⟨[(0,(.agg [Ya,q1,q90,q46]))],[]⟩,aW:=⟨[(0,(.one (.own 8)))],[(8,(.arr zv zj zv .str))]⟩,cO:=1,bH:=[],aY:=[8] }
def avg:fU:=j0
def aqB:dn:={ bC:=2,pin:=⟨[(0,q22),(1,(.one q46))],[(50000,q26),(50001,q33)]⟩,aW:=⟨[(0,jy)],[(50000,q71),(60001,q11)]⟩,cO:=1,bH:=[50000],aY:=[60001] }
def avh:fU:=(aJ (.seq (aJ (.meet zj ⟨[],[(50000,.ob (.box [VD,q13,ZQ,q3,q3,(.own 100001),q3])),(100001,.ob q11)]⟩ (.loop ⟨kS [0,1] [(5,.sl q9)],[(50000,.ob (.box [VD,q13,ZQ,q3,q3,(.own 100001),q3])),(100001,.ob q11)]⟩ j13))) .nil))
def aqC:TypeId->Option Ty:=λt=>(([(1000069,(.prod (.st 0) .bool))]:List (Nat×Ty))++CV).lookup t
def aqD:dn:={ bC:=2,pin:=⟨[(0,q22),(1,q98)],[(50000,q26),(50001,q33)]⟩,aW:=⟨[(0,jy)],[(50000,q71),(60001,q11)]⟩,cO:=1,bH:=[50000],aY:=[60001] }
def avi:fU:=(aJ (aJ (.seq j52 (.seq (aJ (dU ⟨kS [0,3,5] [],[(50000,.ob q45),(3,.keep),(100002,.ob q11)]⟩ (.loop ⟨kS [0,3,5] [(6,.sl q9)],[(50000,.ob q45),(3,.keep),(100002,.ob q11)]⟩ (.seq j0 j0)))) (.seq (aJ (.seq (.seq (aJ (dU ⟨kS [0,3,5,38] [(39,.sl jy)],kO [50000,3,100002] []⟩ .nil)) (.meet zj j34 (.seq (aJ (aJ (dU ⟨[],[(50000,.ob (.box [VD,q13,ZQ,q0,q0,(.own 100002),q0])),(100002,.ob q11)]⟩ .nil))) (aJ (.meet zj j34 (aJ (aJ (.seq j0 (aJ (.meet zj j34 j6)))))))))) .nil)) .nil)))))
def aqE:TypeId->Option Ty:=λt=>(([(1000069,(.prod (.st 0) .bool)),(3000022,.bool),(3000011,.bool)]:List (Nat×Ty))++CV).lookup t
def ak3:dn:={ bC:=3,pin:=⟨[(0,q22),(1,q98),(2,sQ)],[(50000,q26),(50001,q33)]⟩,aW:=⟨[],[(50000,(.box [VD,q13,ZQ,q0,q0,(.own 57),q0])),(57,q11)]⟩,cO:=0,bH:=[50000],aY:=[57] }
def aqF:fU:=(aJ (aJ (aJ (aJ (aJ (aJ (aJ (.seq (aJ (dU ⟨kS [0,2,4,8,9] [],[(50000,.ob (.box [VD,q13,ZQ,q0,q0,(.own 41),q0])),(4,.keep),(41,.ob q11)]⟩ .nil)) .nil))))))))
def anb:TypeId->Option Ty:=λt=>(([(1000069,(.prod (.st 0) .bool))]:List (Nat×Ty))++CV).lookup t
def ak4:dn:={ bC:=3,pin:=⟨[(0,q22),(1,q98),(2,sQ)],[(50000,q26),(50001,q33)]⟩,aW:=⟨[(0,jy)],[(50000,q71),(60001,q11)]⟩,cO:=1,bH:=[50000],aY:=[60001] }
def aqG:fU:=(aJ (aJ (aJ (aJ (aJ (.seq (aJ (.seq (aJ (aJ (.seq (aJ (dU ⟨[],[(50000,.ob (.box [VD,q13,ZQ,q0,q0,(.own 39),q0])),(39,.ob q11)]⟩ .nil)) .nil))) .nil)) (aJ (aJ (aJ (aJ (.seq (.seq (dU ⟨kS [0,4,9,10,13,14] [(77,.sl jy)],kO [50000,4,67] []⟩ .nil) j0) (aJ (.seq (aJ (dU ⟨kS [0,13,14,15] [],[(50000,.ob (.box [VD,q13,ZQ,q0,q0,(.own 81),q0])),(81,.ob q11)]⟩ .nil)) (.seq (aJ (dU ⟨[],[(50000,.ob (.box [VD,q13,ZQ,q0,q0,(.own 81),q0])),(81,.ob q11)]⟩ .nil)) .nil))))))))))))))
def anc:TypeId->Option Ty:=λt=>(([(1000069,(.prod (.st 0) .bool)),(3000033,.bool)]:List (Nat×Ty))++CV).lookup t
def avj:dn:={ bC:=1,pin:=⟨[(0,q16)],[]⟩,aW:=⟨[(0,(.one (.own 11)))],[(11,q44)]⟩,cO:=1,bH:=[],aY:=[11] }
def avk:fU:=(aJ (aJ (.seq j1 (aJ (aJ (.seq (dU ⟨[(3,.keep)],[(11,.ob q44)]⟩ (.loop ⟨kS [1,3] [(4,.sl q77)],[(1,.keep),(11,.ob q44),(100002,.ob q7)]⟩ (.seq j0 (.seq (aJ (aJ (aJ (aJ (dU ⟨kS [1,3] [(4,.sl (.one (.own 101002)))],[(1,.keep),(11,.ob q44),(101002,.ob q7)]⟩ (.loop ⟨kS [1,3] [(4,.sl (.one (.own 101002))),(6,.keep),(7,.sl q9)],[(1,.keep),(11,.ob q44),(101002,.ob q7),(39,.keep)]⟩ (.seq j0 (.seq (.seq (aJ (dU ⟨kS [1,3] (lS [(4,.sl (.one (.own 102002)))] (kS [6,7] [])),[(1,.keep),(11,.ob q44),(102002,.ob q7),(39,.keep)]⟩ j0)) .nil) .nil)))))))) .nil)))) .nil))))))
def aqH:TypeId->Option Ty:=λt=>(([(2000000,.bool)]:List (Nat×Ty))++CV).lookup t
def avl:dn:={ bC:=2,pin:=⟨[(0,q76),(1,(.one (.fn 90 [])))],[]⟩,aW:=⟨[(0,jy)],[]⟩,cO:=1,bH:=[],aY:=[] }
def avm:fU:=j0
def ak5:dn:={ bC:=2,pin:=⟨[(0,q22),(1,(.one q46))],[(50000,q32),(50001,yE)]⟩,aW:=⟨[(0,q37)],[(50000,q61),(100001,am6),(100002,q57)]⟩,cO:=1,bH:=[50000],aY:=[100001,100002] }
def aqI:fU:=(aJ (aJ (.seq (aJ (dU ⟨[(5,.sl q37)],[(50000,.ob q62),(100001,.ob am6),(100002,.ob q57)]⟩ (.loop ⟨kS [0,1] [(5,.sl q37),(6,.sl q9)],[(50000,.ob q62),(100001,.ob am6),(100002,.ob q57)]⟩ (.seq j0 (.seq (.seq (aJ (aJ (.seq (aJ (dU ⟨kS [0,1,5,6,7] [(8,.sl (.one (.own 101003)))],lO [(50000,.ob q62)] (kO [100001,7] [(101003,.ob q68),(100002,.keep)])⟩ (.loop ⟨kS [0,1,5,6,7] [(8,.sl (.one (.own 101003))),(9,.sl q9)],lO [(50000,.ob q62)] (kO [100001,7] [(101003,.ob q68),(100002,.keep)])⟩ (.seq j0 (.seq (.seq (.seq (aJ (dU ⟨kS [0,1,5,6,7,8,9] [],lO [(50000,.ob q62)] (kO [100001,7,101003,100002] [])⟩ .nil)) .nil) .nil) .nil))))) (aJ (aJ (.seq (aJ (.seq (aJ (dU ⟨kS [0,1,5,6,7] [],lO [(50000,.ob (.box [VD,q13,(.own 110003),q0,q0]))] (kO [100001,7] [(110003,.ob q57),(101003,.keep)])⟩ (.seq (.seq (aJ (.meet zv j12 .nil)) .nil) (.seq (aJ (dU ⟨kS [0,1,5,6,7,10] [(80,.sl jy)],kO [50000,100001,7,100002,101003] []⟩ .nil)) (.meet zv j12 (.seq (aJ (.meet zv j12 (aJ (.seq (dU ⟨kS [0,1,5,6,7] [(108,.sl jy)],kO [50000,100001,7,100002,101003] []⟩ .nil) (.meet zv j12 .nil))))) .nil)))))) .nil)) j0)))))) .nil) .nil))))) .nil)))
def aqJ:dn:={ bC:=3,pin:=⟨[(0,q21),(1,q16),(2,q59)],[]⟩,aW:=⟨[(0,q9)],[]⟩,cO:=1,bH:=[],aY:=[] }
def aqK:fU:=(aJ (.seq (.seq (dU ⟨kS [3,4,5] [(48,.sl jy)],kO [3,4,5] []⟩ .nil) j0) (aJ (.seq (aJ (aJ (dU ⟨kS [3,4,5] [(7,.sl (.one (.own 101003)))],kO [3,4,5] [(101003,.ob q7)]⟩ .nil))) (.seq (aJ (.meet zj ⟨kS [3,5] [],kO [3,5] []⟩ (.loop ⟨kS [3,4,5,7] [(10,.sl q9)],kO [3,4,5,101003] []⟩ (.seq j0 (.seq (.seq (.seq (dU ⟨kS [3,4,5,7,10] [(80,.sl jy)],kO [3,4,5,101003] []⟩ .nil) j0) .nil) .nil))))) (.seq (aJ (.seq (.seq (aJ (dU ⟨kS [3,5,82] [(83,.sl jy)],kO [3,5] []⟩ .nil)) (.meet zj ⟨[],[]⟩ (.seq j1 (.seq (aJ (dU ⟨kS [3,5,82] [(91,.sl jy)],kO [3,5] []⟩ .nil)) (.meet zj ⟨[],[]⟩ (.seq j1 (aJ (.meet zj ⟨[],[]⟩ (.seq (.seq (.seq (dU ⟨kS [3,5] [(111,.sl jy)],kO [3,5] []⟩ .nil) j0) j1) (aJ (.meet zj ⟨[],[]⟩ (.seq j1 (aJ (.meet zj ⟨[],[]⟩ (.seq (.seq (dU ⟨[(140,.sl jy)],[]⟩ .nil) j0) (aJ (.meet zj ⟨[],[]⟩ (.seq (.seq (dU ⟨[(152,.sl jy)],[]⟩ .nil) j0) .nil)))))))))))))))))) .nil)) .nil))))))
def aqL:dn:={ bC:=1,pin:=⟨[(0,q22)],[(50000,ZP),(50001,IC),(50002,Nz),(50003,q30),(50004,yE)]⟩,aW:=⟨[(0,(.one Tc)),(1,jy)],[(50000,q48),(50001,q23),(50002,Nz),(50003,q30),(50004,yE)]⟩,cO:=2,bH:=[50000,50001,50002,50003,50004],aY:=[],kept:=[50002,50003,50004] }
def aqM:fU:=(aJ (aJ (.seq (aJ (.meet zj ⟨[],kO [50000,50001,50002,50003,50004] []⟩ (.loop ⟨kS [0,4] [(5,.sl q9)],kO [50000,50001,50002,50003,50004,8] []⟩ (.seq j0 (.seq (.seq (aJ (.seq (aJ (dU ⟨kS [0,4,5] [(6,.sl jy)],kO [50000,50001,50002,50003,50004,8] []⟩ (.loop ⟨kS [0,4,5] [(6,.sl jy),(7,.sl q9)],kO [50000,50001,50002,50003,50004,8] []⟩ (.seq j0 (.seq (.seq (dU ⟨kS [0,4,5] [(6,.sl jy),(7,.keep)],kO [50000,50001,50002,50003,50004,8] []⟩ .nil) .nil) .nil))))) j1)) .nil) .nil))))) .nil)))
def ak6:dn:={ bC:=2,pin:=⟨[(0,q22),(1,sQ)],[(50000,ZP),(50001,IC),(50002,Nz),(50003,q30),(50004,yE)]⟩,aW:=⟨[(0,(.agg [q0,q0,q0,q0,Tc,(.p zv zj (.sl (.st 17)))]))],[(50000,q48),(50001,q23),(50002,Nz),(50003,q30),(50004,yE)]⟩,cO:=1,bH:=[50000,50001,50002,50003,50004],aY:=[],kept:=[50002,50003,50004] }
def aqN:fU:=(aJ (aJ (.seq (.seq (dU ⟨kS [0,1,4,5] [(18,.sl jy)],lO [(50000,.keep),(50001,.ob IC)] (kO [50002,50003,50004,4] [])⟩ .nil) j0) (.seq (aJ (.seq (aJ (aJ (aJ (aJ (aJ (aJ (.seq (aJ (dU ⟨kS [0,1,4,5,22] [(58,.sl jy)],kO [50000,50001,50002,50003,50004,4] []⟩ .nil)) (aJ (aJ (.meet zj ⟨kS [0,1,4,5] [],lO [(50000,.ob ZP),(50001,.ob q23)] (kO [50002,50003,50004,4] [])⟩ (.seq j6 .nil))))))))))) .nil)) .nil))))
def ak7:dn:={ bC:=2,pin:=⟨[(0,q22),(1,sQ)],[(50000,ZP),(50001,IC),(50002,Nz),(50003,q30),(50004,yE)]⟩,aW:=⟨[(0,(.agg [q0,q0,q0,q0,Tc,(.own 60005)]))],[(50000,q48),(50001,q23),(50002,Nz),(50003,q30),(50004,yE),(60005,q74)]⟩,cO:=1,bH:=[50000,50001,50002,50003,50004],aY:=[60005],kept:=[50002,50003,50004] }
def aqO:fU:=(aJ (aJ (aJ (aJ (.seq (.seq (dU ⟨kS [0,1,4,5,6,7] [(46,.sl jy)],lO [(50000,.keep),(50001,.ob q23)] (kO [50002,50003,50004,4,5] [])⟩ .nil) (dU ⟨kS [0,1,4,5] [(6,.sl q9),(7,.keep)],lO [(50000,.keep),(50001,.ob q23)] (kO [50002,50003,50004,4,5] [])⟩ .nil)) (aJ (.seq (aJ (dU ⟨kS [0,1,4,5,7] [(8,.sl (.one (.own 102007)))],lO [(50000,.ob ZP),(50001,.ob q23)] (kO [50002,50003,50004,4,5] [(102007,.ob q74)])⟩ (.loop ⟨kS [0,1,4,5,6,7] [(8,.sl (.one (.own 102007))),(9,.sl q9)],lO [(50000,.ob ZP),(50001,.ob q23)] (kO [50002,50003,50004,4,5] [(102007,.ob q74)])⟩ (.seq j0 j0)))) (.seq j1 (aJ (.seq (aJ (dU ⟨kS [4,8,10] [],lO [(50000,.ob ZP),(50001,.ob q23)] (kO [50002,50003,50004,4,102007] [(10,.ob (.box [q0,q0,q0,q0,(.p zv zj .str),(.p zv zj (.sl (.st 17)))]))])⟩ .nil)) j3))))))))))
def ak8:dn:={ bC:=3,pin:=⟨[(0,q22),(1,sQ),(2,sQ)],[(50000,ZP),(50001,IC),(50002,Nz),(50003,q30),(50004,yE)]⟩,aW:=⟨[(0,(.one (.own 100004)))],[(50000,(.box [(.box 50001 0),(.own 50002),(.own 50003),(.own 100005),q0])),(50001,q23),(50002,Nz),(50003,q30),(100004,q56),(100005,yE)]⟩,cO:=1,bH:=[50000,50001,50002,50003],aY:=[100004,100005],kept:=[50002,50003] }
def aqP:fU:=(aJ (aJ (.seq (aJ (dU ⟨[(7,.sl (.one (.own 100004)))],lO [(50000,.ob q97),(50001,.ob IC)] (kO [50002,50003] [(100004,.ob q56),(100005,.ob yE)])⟩ (.loop ⟨kS [0,1,2] [(7,.sl (.one (.own 100004))),(8,.sl q9)],lO [(50000,.ob q97),(50001,.ob IC)] (kO [50002,50003] [(100004,.ob q56),(100005,.ob yE)])⟩ (.seq (.seq (dU ⟨kS [0,1,2,7,8] [(18,.sl jy)],kO [50000,50001,50002,50003,100004,100005] []⟩ .nil) .nil) j4)))) .nil)))
def ak9:dn:={ bC:=2,pin:=⟨[(0,q22),(1,sQ)],[(50000,ZP),(50001,IC),(50002,Nz),(50003,q30),(50004,yE)]⟩,aW:=⟨[(0,(.agg [q0,q0,Tc,(.own 60004),(.own 60005),(.own 60006)]))],[(50000,(.box [(.box 50001 0),(.own 50002),(.own 50003),(.own 60007),q0])),(50001,q23),(50002,Nz),(50003,q30),(60004,q74),(60005,q56),(60006,q56),(60007,yE)]⟩,cO:=1,bH:=[50000,50001,50002,50003],aY:=[60004,60005,60006,60007],kept:=[50002,50003] }
def aqQ:fU:=(aJ (aJ (.seq (aJ (.seq (.seq (aJ (dU ⟨kS [0,1,4,5,19] [(20,.sl jy)],kO [50000,50001,50002,50003,4,50004] []⟩ .nil)) (.meet zj j9 (.seq j50 (aJ (.meet zj j9 (.seq j1 (aJ (.meet zj j9 (.seq j6 (aJ (.meet zj j9 (.seq j6 (.seq (aJ (dU ⟨kS [0,1,4,5,19] [(95,.sl jy)],kO [50000,50001,50002,50003,4,50004] []⟩ .nil)) (.meet zj j47 (.seq (aJ (.seq (aJ (aJ (.seq (aJ (dU ⟨kS [4,13] [],lO [(50000,.ob (.box [(.box 50001 0),(.own 50002),(.own 50003),(.own 102006),q0])),(50001,.ob q23)] (kO [50002,50003,4] (lO [(13,.ob (.box [q0,q0,Tc,(.own 102),(.own 109),(.own 102009)])),(102006,.ob yE)] (kO [102,109] [(102009,.ob q56)])))⟩ .nil)) .nil))) .nil)) (aJ (.meet zj j47 (.seq j1 (aJ (.seq j3 .nil)))))))))))))))))))) .nil)) .nil)))
def ak_:dn:={ bC:=2,pin:=⟨[(0,q22),(1,sQ)],[(50000,ZP),(50001,IC),(50002,Nz),(50003,q30),(50004,yE)]⟩,aW:=⟨[(0,(.agg [q0,q0,Tc,(.own 60004),(.own 60005),.dJ]))],[(50000,(.box [(.box 50001 0),(.own 50002),(.own 50003),(.own 60006),q0])),(50001,q23),(50002,Nz),(50003,q30),(60004,q74),(60005,q56),(60006,yE)]⟩,cO:=1,bH:=[50000,50001,50002,50003],aY:=[60004,60005,60006],kept:=[50002,50003] }
def aqR:fU:=(aJ (aJ (.seq (.seq (dU ⟨kS [0,1,4,5,6] [(28,.sl jy)],lO [(50000,.keep),(50001,.ob q23)] (kO [50002,50003,4,50004] [])⟩ .nil) (dU ⟨kS [0,1,4] [(5,.sl (.one (.p zv zj .str))),(6,.sl jy)],lO [(50000,.keep),(50001,.ob q23)] (kO [50002,50003,4,50004] [])⟩ .nil)) (.seq (.seq (dU ⟨kS [0,1,4,5] [(54,.sl jy)],lO [(50000,.keep),(50001,.ob q23)] (kO [50002,50003,4,50004] [])⟩ .nil) j3) j32))))
def sg9:dn:={ bC:=2,pin:=⟨[(0,q22),(1,q21)],[(50000,IC)]⟩,aW:=⟨[(0,(.agg [(.own 10),(.own 1010)]))],[(50000,q23),(10,q4),(1010,q42)]⟩,cO:=1,bH:=[50000],aY:=[10,1010] }
def an9:fU:=(aJ (aJ (.seq (aJ (dU ⟨kS [0,3,4,5] [],lO [(50000,.ob IC)] (kO [3,4,5] [(10,.ob q4),(1010,.keep)])⟩ (.loop ⟨kS [0,3,4,5] [(6,.sl q9)],lO [(50000,.ob IC)] (kO [3,4,5] [(10,.ob q4),(1010,.keep)])⟩ (.seq j0 j4)))) (.seq (aJ (dU ⟨kS [4,5] [],lO [(50000,.ob IC)] (kO [4,5,10] [(1010,.ob q42)])⟩ (.loop ⟨kS [0,3,4,5] [(8,.sl q9)],lO [(50000,.ob IC)] (kO [3,4,5,10] [(1010,.ob q42)])⟩ (.seq j0 j0)))) .nil))))
def avn:dn:={ bC:=1,pin:=⟨[(0,q24)],[]⟩,aW:=⟨[(0,q9)],[]⟩,cO:=1,bH:=[],aY:=[] }
def avo:fU:=(aJ (.seq (.seq (dU ⟨[(1,.keep),(21,.sl jy)],[(1,.keep)]⟩ .nil) j0) (.seq j1 j3)))
def avp:dn:={ bC:=1,pin:=⟨[(0,q16)],[]⟩,aW:=⟨[(0,(.agg [Tc,q0,q0,(.own 103005)]))],[(103005,q83)]⟩,cO:=1,bH:=[],aY:=[103005] }
def avq:fU:=(aJ (aJ (aJ (aJ (.seq (aJ (dU ⟨kS [1,2,3,4] [],kO [1,2,11] [(14,.ob q4)]⟩ (.loop ⟨kS [1,2,3,4] [(5,.sl q9),(6,.sl q9)],kO [1,2,11] [(14,.ob q4)]⟩ (.seq j0 (.seq (.seq (aJ (aJ (dU ⟨kS [1,2,3,4] [(5,.sl q9),(6,.keep)],kO [1,2,11,14] []⟩ .nil))) .nil) .nil))))) (aJ (aJ (.seq (aJ (dU ⟨kS [2,7] [],[(2,.keep),(7,.ob (.box [Ya,q1,q1,(.own 103005)])),(103005,.ob q83)]⟩ (.loop ⟨kS [1,2,3,4,7] [(8,.sl q9)],kO [1,2,11,14] [(7,.ob (.box [Ya,q1,q1,(.own 103005)])),(103005,.ob q83)]⟩ (.seq j0 (.seq (dU ⟨kS [1,2,3,4,7,8] [],kO [1,2,11,14] [(7,.ob (.box [Ya,q1,q1,(.own 106005)])),(106005,.ob q83)]⟩ (.seq j0 (aJ (.seq j28 (.seq j28 .nil))))) .nil))))) .nil))))))))
def avr:dn:={ bC:=1,pin:=⟨[(0,q24)],[]⟩,aW:=⟨[(0,q9)],[]⟩,cO:=1,bH:=[],aY:=[] }
def avs:fU:=(aJ (.seq j1 (aJ (.seq (.seq (dU ⟨[(1,.keep),(30,.sl jy)],[(1,.keep)]⟩ .nil) j0) j3))))
def avt:dn:={ bC:=1,pin:=⟨[(0,q24)],[]⟩,aW:=⟨[(0,q66),(1,q9)],[(60000,Gw)]⟩,cO:=2,bH:=[],aY:=[60000] }
def avu:fU:=(aJ (.seq j6 (aJ (.seq (aJ (dU ⟨[(1,.keep),(5,.sl sQ)],[(1,.keep)]⟩ .nil)) (aJ (aJ (.seq (aJ (dU ⟨[(6,.sl q70)],[(101001,.ob Gw)]⟩ (.loop ⟨[(1,.keep),(6,.sl q70),(7,.keep),(8,.sl q9)],[(1,.keep),(101001,.ob Gw)]⟩ (.seq j0 (.seq (.seq (aJ (.seq (aJ (dU ⟨lS [(1,.keep),(6,.sl (.one (.own 108001)))] (kS [7,8] []),[(1,.keep),(108001,.ob Gw)]⟩ (aJ (aJ (dU ⟨lS [(1,.keep),(6,.sl (.one (.own 107001)))] (kS [7,8] []),[(1,.keep),(107001,.ob Gw)]⟩ (aJ (aJ (dU ⟨lS [(1,.keep),(6,.sl (.one (.own 106001)))] (kS [7,8] []),[(1,.keep),(106001,.ob Gw)]⟩ (aJ (aJ (dU ⟨lS [(1,.keep),(6,.sl (.one (.own 105001)))] (kS [7,8] []),[(1,.keep),(105001,.ob Gw)]⟩ (aJ (aJ (dU ⟨lS [(1,.keep),(6,.sl (.one (.own 104001)))] (kS [7,8] []),[(1,.keep),(104001,.ob Gw)]⟩ (.seq (aJ (aJ (dU ⟨lS [(1,.keep),(6,.sl q95)] (kS [7,8] []),[(1,.keep),(102001,.ob Gw)]⟩ (.loop ⟨lS [(1,.keep),(6,.sl q95)] (kS [7,8] [(9,.sl q9)]),[(1,.keep),(102001,.ob Gw)]⟩ (.seq j0 j0))))) .nil))))))))))))))) .nil)) .nil) .nil))))) .nil)))))))
def avv:dn:={ bC:=1,pin:=⟨[(0,q47)],[]⟩,aW:=⟨[(0,(.agg [(.own 60000),(.own 60001)])),(1,q9),(2,q9)],[(60000,q75),(60001,am5)]⟩,cO:=3,bH:=[],aY:=[60000,60001] }
def avw:fU:=(aJ (.seq (.seq (dU ⟨kS [1,2] [(20,.sl jy)],kO [1,2] []⟩ .nil) j0) (.seq (.seq (dU ⟨kS [1,2] [(42,.sl jy)],kO [1,2] []⟩ .nil) j0) (.seq (aJ (.meet zj ⟨kS [1,2] [],kO [1,2] []⟩ (.loop ⟨kS [1,2] [(5,.sl q9)],kO [1,2] []⟩ j13))) (.seq (aJ (.meet zj ⟨kS [1,2] [],kO [1,2] []⟩ (.loop ⟨kS [1,2] [(6,.sl q9)],kO [1,2] []⟩ (.seq j0 (.seq (.seq (.seq (dU ⟨kS [1,2,6] [(89,.sl jy)],kO [1,2] []⟩ .nil) j0) .nil) .nil))))) (aJ (.seq (aJ (.meet zj ⟨[(2,.keep)],[(2,.ob (.box [(.own 99),(.own 107003)])),(99,.keep),(107003,.ob am5)]⟩ (.loop ⟨kS [1,2] [(7,.sl q9)],[(1,.keep),(2,.ob (.box [(.own 99),(.own 107003)])),(99,.keep),(107003,.ob am5)]⟩ (.seq j0 (.seq (.seq (aJ (.seq (.seq (dU ⟨kS [1,2,7,8] [(128,.sl jy)],kO [1,2,8,99,107003] []⟩ .nil) j0) (.seq (aJ (.meet zj ⟨kS [1,2,7,8] [],kO [1,2,8,99,107003] []⟩ (.loop ⟨kS [1,2,7,8] [(9,.sl q9)],kO [1,2,8,99,107003] []⟩ (.seq j0 (.seq (.seq (.seq (dU ⟨kS [1,2,7,8,9] [(158,.sl jy)],kO [1,2,8,99,107003] []⟩ .nil) j0) .nil) .nil))))) j50))) .nil) .nil))))) .nil)))))))
def avx:dn:={ bC:=1,pin:=⟨[(0,q22)],[(50000,IC)]⟩,aW:=⟨[(0,(.agg [(.own 103003),(.own 105004)]))],[(50000,q23),(103003,Nz),(105004,q30)]⟩,cO:=1,bH:=[50000],aY:=[103003,105004] }
def avy:fU:=(aJ (.seq (dU ⟨kS [0,2] [(3,.sl (.one (.box 12 0)))],kO [50000,2] [(12,.ob (.box [(.box 50000 0),(.own 100700),(.own 100701),(.own 100702),q0])),(100700,.ob q64),(100701,.ob am4),(100702,.ob q85)]⟩ .nil) (.seq (aJ (dU ⟨kS [0,2,3] [],kO [50000,2] (lO [(12,.ob q91),(101003,.ob q64)] (kO [100701,100702] []))⟩ (.loop ⟨kS [0,2,3] [(4,.sl q9)],kO [50000,2] (lO [(12,.ob q91),(101003,.ob q64)] (kO [100701,100702] []))⟩ (.seq j0 j0)))) (.seq (aJ (dU ⟨kS [0,2,3] [],lO [(50000,.ob q23),(2,.keep),(12,.ob q92),(103003,.ob q64)] (kO [100701,100702] [])⟩ (.loop ⟨kS [0,2,3] [(5,.sl q9)],lO [(50000,.ob q23),(2,.keep),(12,.ob q92),(103003,.ob q64)] (kO [100701,100702] [])⟩ (.seq j0 j0)))) (aJ (.seq (aJ (dU ⟨kS [0,2,3] [],[(50000,.ob q23),(2,.keep),(12,.ob q93),(103003,.keep),(105004,.ob am4),(100702,.keep)]⟩ (.loop ⟨kS [0,2,3] [(6,.sl q9)],[(50000,.ob q23),(2,.keep),(12,.ob q93),(103003,.keep),(105004,.ob am4),(100702,.keep)]⟩ (.seq j0 (.seq (.seq (aJ (.seq (aJ (dU ⟨kS [0,2,3,6,7] [],kO [50000,2,12] (lO [(7,.ob (.box [Tc,q0,(.own 106007),.dJ]))] (kO [103003,105004,100702] [(106007,.ob q85)]))⟩ (.loop ⟨kS [0,2,3,6,7] [(8,.sl q9)],kO [50000,2,12] (lO [(7,.ob (.box [Tc,q0,(.own 106007),.dJ]))] (kO [103003,105004,100702] [(106007,.ob q85)]))⟩ (.seq j0 j0)))) .nil)) .nil) .nil))))) (.seq (aJ (dU ⟨kS [2,3] [],[(50000,.ob q23),(2,.keep),(12,.ob q94),(103003,.ob Nz),(105004,.ob q30),(109005,.ob yE)]⟩ (.loop ⟨kS [0,2,3] [(9,.sl q9)],[(50000,.ob q23),(2,.keep),(12,.ob q94),(103003,.ob Nz),(105004,.ob q30),(109005,.ob yE)]⟩ (.seq j0 j46)))) .nil)))))))
def avz:dn:={ bC:=2,pin:=⟨[(0,q21),(1,q16)],[]⟩,aW:=⟨[(0,q9)],[]⟩,cO:=1,bH:=[],aY:=[] }
def avA:fU:=(aJ (.seq (.seq (dU ⟨kS [2,3] [(25,.sl jy)],kO [2,3] []⟩ .nil) j0) (.seq (.seq (dU ⟨kS [2,3] [(45,.sl jy)],kO [2,3] []⟩ .nil) j0) (.seq (aJ (.meet zj ⟨[(3,.keep)],[(3,.keep)]⟩ (.loop ⟨kS [2,3] [(5,.sl q9)],kO [2,3] []⟩ (.seq j0 (.seq (.seq (.seq (aJ (.meet zj ⟨kS [2,3,5] [],kO [2,3] []⟩ (.loop ⟨kS [2,3,5] [(6,.sl q9)],kO [2,3] []⟩ (.seq j0 j21)))) j6) .nil) .nil))))) (aJ (.seq (aJ (.meet zj ⟨[],[]⟩ (.loop ⟨[(9,.keep),(10,.sl q9)],[(91,.keep)]⟩ j13))) .nil))))))
def avC:dn:={ bC:=2,pin:=⟨[(0,(.one q31)),(1,sQ)],[]⟩,aW:=⟨[(0,(.agg [q0,q0,q0,q0,q0,q0,q2,(.own 60000)])),(1,q9),(2,q9)],[(60000,q4)]⟩,cO:=3,bH:=[],aY:=[60000] }
def avD:fU:=(aJ (.seq j1 (.seq j1 (aJ (aJ (.seq (.seq (dU ⟨kS [0,1,4,7,8] [(50,.sl jy)],kO [4,7] []⟩ .nil) j0) (aJ (.seq (aJ (.meet zj ⟨kS [1,4,7] [(9,.sl q9)],[(4,.keep),(7,.ob q67),(101002,.ob q4)]⟩ (.loop ⟨kS [0,1,4,7,8] [(9,.sl q9),(10,.sl q9)],[(4,.keep),(7,.ob q67),(101002,.ob q4)]⟩ (.seq j0 (.seq (.seq (aJ (.seq j1 (aJ (.seq (aJ (dU ⟨kS [0,1,4,7,8,9,10,11] [(12,.sl (.one q55))],kO [4,7,101002] []⟩ (.loop ⟨kS [0,1,4,7,8,9,10,11] [(12,.sl (.one q55)),(13,.sl q9)],kO [4,7,101002] []⟩ (.seq j0 j0)))) (aJ (aJ (.seq (aJ (.meet zj ⟨kS [0,1,4,7,8] [(9,.sl q9),(10,.keep)],[(4,.keep),(7,.ob (.box [q0,q0,q0,q0,q0,q0,q2,(.own 112002)])),(112002,.ob q4)]⟩ (aJ (aJ (.meet zj ⟨kS [0,1,4,7,8] [(9,.sl q9),(10,.keep)],[(4,.keep),(7,.ob (.box [q0,q0,q0,q0,q0,q0,q2,(.own 111002)])),(111002,.ob q4)]⟩ (aJ (aJ (.meet zj ⟨kS [0,1,4,7,8] [(9,.sl q9),(10,.keep)],[(4,.keep),(7,.ob (.box [q0,q0,q0,q0,q0,q0,q2,(.own 110002)])),(110002,.ob q4)]⟩ (aJ (aJ (.meet zj ⟨kS [0,1,4,7,8] [(9,.sl q9),(10,.keep)],[(4,.keep),(7,.ob (.box [q0,q0,q0,q0,q0,q0,q2,(.own 109002)])),(109002,.ob q4)]⟩ (aJ (aJ (.meet zj ⟨kS [0,1,4,7,8] [(9,.sl q9),(10,.keep)],[(4,.keep),(7,.ob (.box [q0,q0,q0,q0,q0,q0,q2,(.own 108002)])),(108002,.ob q4)]⟩ (.seq (.seq j1 (.seq (aJ (dU ⟨kS [0,1,4,7,8,9,10,12] [],[(4,.keep),(7,.ob (.box [q0,q0,q0,q0,q0,q0,q2,(.own 104002)])),(104002,.ob q4)]⟩ (.loop ⟨kS [0,1,4,7,8,9,10,12] [(14,.sl q9)],[(4,.keep),(7,.ob (.box [q0,q0,q0,q0,q0,q0,q2,(.own 104002)])),(104002,.ob q4)]⟩ (.seq j0 j0)))) .nil)) (aJ (.meet zv j42 (.seq (aJ (aJ (.meet zv j42 .nil))) .nil)))))))))))))))))) .nil))))))) .nil) .nil))))) (.seq j6 .nil)))))))))
def avE:dn:={ bC:=1,pin:=⟨[(0,q22)],[(50000,IC)]⟩,aW:=⟨[(0,(.agg [(.own 19),(.own 100004),q0,q0]))],[(50000,q23),(19,q64),(100004,q36)]⟩,cO:=1,bH:=[50000],aY:=[19,100004] }
def avF:fU:=(aJ (aJ (aJ (.seq (aJ (dU ⟨kS [0,2,3,4] [],[(50000,.ob q23),(2,.keep),(3,.ob (.box [(.own 19),(.own 100004),q0,q0])),(19,.keep),(100004,.ob q36)]⟩ (.loop ⟨kS [0,2,3,4] [(5,.sl q9)],[(50000,.ob q23),(2,.keep),(3,.ob (.box [(.own 19),(.own 100004),q0,q0])),(19,.keep),(100004,.ob q36)]⟩ (.seq j0 (.seq (.seq (aJ (.seq (aJ (dU ⟨kS [0,2,3,4,5,6] [],lO [(50000,.ob q23)] (kO [2,3] (lO [(6,.ob (.box [Tc,q0,q0,.dJ]))] (kO [19,100004] [])))⟩ .nil)) .nil)) .nil) .nil))))) (aJ (.seq (aJ (dU ⟨kS [2,3] [],lO [(50000,.ob q23)] (kO [2,3,19] [(100004,.ob q36)])⟩ (.loop ⟨kS [0,2,3,4] [(7,.sl q9)],lO [(50000,.ob q23)] (kO [2,3,19] [(100004,.ob q36)])⟩ (.seq j0 (.seq (.seq (aJ (.seq (aJ (.meet zv j33 (.loop ⟨kS [0,2,3,4,7,8] [(9,.sl q9)],lO [(50000,.ob q23)] (kO [2,3] [(100004,.ob q36),(19,.keep)])⟩ (.seq j0 (.seq (.seq (aJ (.seq (aJ (dU ⟨kS [0,2,3,4,7,8,9,10] [],lO [(50000,.ob q23)] (kO [2,3] [(100004,.ob q36),(10,.ob (.box [(.own 105006),q0,q0,q0,q0,q0,q0,q0])),(19,.keep),(105006,.ob (.arr zv zv zv (.st 6)))])⟩ (.loop ⟨kS [0,2,3,4,7,8,9,10] [(11,.sl q9)],lO [(50000,.ob q23)] (kO [2,3] [(100004,.ob q36),(10,.ob (.box [(.own 105006),q0,q0,q0,q0,q0,q0,q0])),(19,.keep),(105006,.ob (.arr zv zv zv (.st 6)))])⟩ (.seq j0 j0)))) .nil)) .nil) .nil))))) (.seq (aJ (.meet zv j33 (.loop ⟨kS [0,2,3,4,7,8] [(12,.sl q9)],lO [(50000,.ob q23)] (kO [2,3] [(100004,.ob q36),(19,.keep)])⟩ (.seq j0 j4)))) .nil))) .nil) .nil))))) .nil))))))
def aqS:TypeId->Option Ty:=λt=>(([(1000046,(.prod (.st 3) .bool)),(3000140,.bool),(3000133,.bool),(3000113,.bool),(3000078,.bool)]:List (Nat×Ty))++CV).lookup t
def avG:dn:={ bC:=1,pin:=⟨[(0,q24)],[]⟩,aW:=⟨[(0,q66),(1,q9)],[(60000,Gw)]⟩,cO:=2,bH:=[],aY:=[60000] }
def avH:fU:=(aJ (.seq j6 (aJ (.seq (aJ (dU ⟨kS [1,5] [],[(1,.keep),(18,.ob Gw)]⟩ .nil)) (.seq (aJ (dU ⟨[(5,.sl q70)],[(101001,.ob Gw)]⟩ (.loop ⟨[(1,.keep),(5,.sl q70),(30,.keep)],[(1,.keep),(101001,.ob Gw),(30,.ob .it)]⟩ (aJ (aJ (.seq (aJ (aJ (.seq (aJ (dU ⟨[(1,.keep),(5,.sl (.one (.own 109001))),(30,.keep)],[(1,.keep),(109001,.ob Gw),(30,.keep)]⟩ (aJ (aJ (dU ⟨[(1,.keep),(5,.sl (.one (.own 108001))),(30,.keep)],[(1,.keep),(108001,.ob Gw),(30,.keep)]⟩ (aJ (aJ (dU ⟨[(1,.keep),(5,.sl (.one (.own 107001))),(30,.keep)],[(1,.keep),(107001,.ob Gw),(30,.keep)]⟩ (aJ (aJ (dU ⟨[(1,.keep),(5,.sl (.one (.own 106001))),(30,.keep)],[(1,.keep),(106001,.ob Gw),(30,.keep)]⟩ (aJ (aJ (dU ⟨[(1,.keep),(5,.sl (.one (.own 105001))),(30,.keep)],[(1,.keep),(105001,.ob Gw),(30,.keep)]⟩ (aJ (aJ (dU ⟨[(1,.keep),(5,.sl (.one (.own 104001))),(30,.keep)],[(1,.keep),(104001,.ob Gw),(30,.keep)]⟩ (.seq (aJ (aJ (dU ⟨[(1,.keep),(5,.sl q95),(30,.keep)],[(1,.keep),(102001,.ob Gw),(30,.keep)]⟩ (.loop ⟨lS [(1,.keep),(5,.sl q95)] (kS [30,83,84] [(85,.sl q9)]),[(1,.keep),(102001,.ob Gw),(30,.keep)]⟩ j10)))) .nil)))))))))))))))))) .nil))) .nil)))))) .nil)))))
def avI:dn:={ bC:=2,pin:=⟨[(0,(.one q31)),(1,sQ)],[]⟩,aW:=⟨[(0,(.agg [q0,q0,q0,q0,q0,q0,q2,(.own 60000)])),(1,q9),(2,q9)],[(60000,q4)]⟩,cO:=3,bH:=[],aY:=[60000] }
def avJ:fU:=(aJ (.seq (.seq j32 .nil) (aJ (.seq (.seq (dU ⟨kS [0,1,4,7] [(47,.sl jy)],kO [4,7] []⟩ .nil) j0) (aJ (.seq (aJ (dU ⟨kS [1,4,7,8] [],[(4,.keep),(7,.ob (.box [q0,q0,q0,q0,q0,q0,q2,(.own 101004)])),(53,.ob q60),(101004,.ob q4)]⟩ (.loop ⟨kS [1,4,7,8,58] [],[(4,.keep),(7,.ob (.box [q0,q0,q0,q0,q0,q0,q2,(.own 101004)])),(53,.ob q60),(58,.ob .it),(101004,.ob q4)]⟩ (aJ (aJ (.seq (aJ (aJ (.seq (aJ (dU ⟨kS [1,4,7,8,58] [],[(4,.keep),(7,.ob (.box [q0,q0,q0,q0,q0,q0,q2,(.own 109004)])),(53,.ob q60),(58,.keep),(109004,.ob q4)]⟩ (aJ (aJ (dU ⟨kS [1,4,7,8,58] [],[(4,.keep),(7,.ob (.box [q0,q0,q0,q0,q0,q0,q2,(.own 108004)])),(53,.ob q60),(58,.keep),(108004,.ob q4)]⟩ (aJ (aJ (dU ⟨kS [1,4,7,8,58] [],[(4,.keep),(7,.ob (.box [q0,q0,q0,q0,q0,q0,q2,(.own 107004)])),(53,.ob q60),(58,.keep),(107004,.ob q4)]⟩ (aJ (aJ (dU ⟨kS [1,4,7,8,58] [],[(4,.keep),(7,.ob (.box [q0,q0,q0,q0,q0,q0,q2,(.own 106004)])),(53,.ob q60),(58,.keep),(106004,.ob q4)]⟩ (aJ (aJ (dU ⟨kS [1,4,7,8,58] [],[(4,.keep),(7,.ob (.box [q0,q0,q0,q0,q0,q0,q2,(.own 105004)])),(53,.ob q60),(58,.keep),(105004,.ob q4)]⟩ (aJ (aJ (dU ⟨kS [1,4,7,8,58] [],[(4,.keep),(7,.ob (.box [q0,q0,q0,q0,q0,q0,q2,(.own 104004)])),(53,.ob q60),(58,.keep),(104004,.ob q4)]⟩ (.seq (aJ (dU ⟨kS [1,4,7,8,58] [],[(4,.keep),(7,.ob (.box [q0,q0,q0,q0,q0,q0,q2,(.own 102004)])),(53,.ob q60),(58,.keep),(102004,.ob q4)]⟩ (.loop ⟨kS [1,4,7,8,58,99] [(100,.sl q9)],[(4,.keep),(7,.ob (.box [q0,q0,q0,q0,q0,q0,q2,(.own 102004)])),(53,.ob q60),(58,.keep),(102004,.ob q4)]⟩ j6))) .nil)))))))))))))))))) .nil))) .nil)))))) (.seq j1 (.seq j6 .nil))))))))
def avK:dn:={ bC:=1,pin:=⟨[(0,q22)],[(50000,IC)]⟩,aW:=⟨[(0,(.agg [(.own 9),(.own 1009)]))],[(50000,q23),(9,Nz),(1009,q30)]⟩,cO:=1,bH:=[50000],aY:=[9,1009] }
def avL:fU:=j1
def avM:dn:={ bC:=1,pin:=⟨[(0,q24)],[]⟩,aW:=⟨[(0,q9)],[]⟩,cO:=1,bH:=[],aY:=[] }
def avN:fU:=j1
def avO:dn:={ bC:=1,pin:=⟨[(0,(.one (.p zj zv (.sl (.st 19)))))],[]⟩,aW:=⟨[(0,ZR)],[(100000,q4)]⟩,cO:=1,bH:=[],aY:=[100000] }
def avP:fU:=(aJ (aJ (.seq (aJ (dU ⟨[(3,.sl ZR)],[(100000,.ob q4)]⟩ (.loop ⟨lS [(3,.sl ZR)] (kS [7,8] [(9,.sl q9)]),[(100000,.ob q4)]⟩ j10))) .nil)))
def avQ:dn:={ bC:=1,pin:=⟨[(0,q24)],[]⟩,aW:=⟨[(0,q9)],[]⟩,cO:=1,bH:=[],aY:=[] }
def avR:fU:=j1
def avS:dn:={ bC:=1,pin:=⟨[(0,q21)],[]⟩,aW:=⟨[(0,q9)],[]⟩,cO:=1,bH:=[],aY:=[] }
def avT:fU:=(aJ (.seq (.seq (dU ⟨[(1,.keep),(31,.sl jy)],[(1,.keep)]⟩ .nil) j0) (.seq (aJ (.meet zj ⟨[(1,.keep)],[(1,.keep)]⟩ (.loop ⟨[(1,.keep),(3,.sl q9)],[(1,.keep)]⟩ (.seq j0 (.seq (.seq (.seq (dU ⟨kS [1,3] [(54,.sl jy)],[(1,.keep)]⟩ .nil) j0) .nil) .nil))))) (.seq (.seq (dU ⟨[(1,.keep),(65,.sl jy)],[(1,.keep)]⟩ .nil) j0) (.seq j1 (.seq (aJ (.meet zj ⟨[],[]⟩ (.loop ⟨[(1,.keep),(4,.sl q9)],[(1,.keep)]⟩ (.seq j0 j21)))) .nil))))))
def avU:dn:={ bC:=1,pin:=⟨[(0,q20)],[]⟩,aW:=⟨[(0,q37)],[(100001,q4)]⟩,cO:=1,bH:=[],aY:=[100001] }
def avV:fU:=(aJ (aJ (.seq (aJ (.meet zv j41 (.loop j18 (.seq j0 (.seq j52 .nil))))) .nil)))
def avW:dn:={ bC:=1,pin:=⟨[(0,q24)],[]⟩,aW:=⟨[(0,q9)],[]⟩,cO:=1,bH:=[],aY:=[] }
def avX:fU:=j1
def avY:dn:={ bC:=1,pin:=⟨[(0,q47)],[]⟩,aW:=⟨[(0,(.agg [(.own 60000),(.own 60001),q0,q0])),(1,q9)],[(60000,q75),(60001,am7)]⟩,cO:=2,bH:=[],aY:=[60000,60001] }
def avZ:fU:=(aJ (aJ (.seq (aJ (dU ⟨kS [2,4] [],[(2,.keep),(4,.ob (.box [(.own 11),(.own 100004),q0,q0])),(11,.keep),(100004,.ob am7)]⟩ (.loop ⟨kS [1,2,4] [(5,.sl q9)],kO [1,2] [(4,.ob (.box [(.own 11),(.own 100004),q0,q0])),(11,.keep),(100004,.ob am7)]⟩ (.seq j0 (.seq (.seq (aJ (.seq (dU ⟨kS [1,2,4,5,6] [(7,.sl (.one (.box 33 0)))],kO [1,2,4,6] (lO [(33,.ob (.box [(.p zj zv (.sl (.st 3))),(.p zj zv (.sl (.st 15))),q90,q0,q0,(.own 101700),q0]))] (kO [11,100004] [(101700,.ob (.aP zv zv (.st 5) [(0,(.st 6))]))]))⟩ .nil) (aJ (aJ (.seq (aJ (dU ⟨kS [1,2,4,5,6,7] [],kO [1,2,4,6] (lO [(33,.ob (.box [(.p zj zv (.sl (.st 3))),(.p zj zv (.sl (.st 15))),q90,q0,q0,(.own 49),q0]))] (kO [11,100004] [(49,.ob (.aP zj zv (.st 5) [(0,(.st 6))]))]))⟩ j3)) .nil))))) .nil) .nil))))) j3)))
def aqT:TypeId->Option Ty:=λt=>(([(1000069,(.prod (.st 0) .bool)),(3000082,.bool),(3000053,.bool),(3000038,.bool),(3000018,.bool),(3000013,.bool)]:List (Nat×Ty))++CV).lookup t
def av1:dn:={ bC:=1,pin:=⟨[(0,q22)],[(50000,IC)]⟩,aW:=⟨[(0,(.agg [(.own 8),(.own 1008),q0,q0]))],[(50000,q23),(8,Nz),(1008,(.arr zv zv zj (.st 4)))]⟩,cO:=1,bH:=[50000],aY:=[8,1008] }
def av2:fU:=j1
def av3:dn:={ bC:=2,pin:=⟨[(0,q16),(1,q76)],[]⟩,aW:=⟨[(0,q66),(1,(.one (.own 60001))),(2,q9)],[(60000,q65),(60001,q4)]⟩,cO:=3,bH:=[],aY:=[60000,60001] }
def av4:fU:=(aJ (.seq j1 (aJ (aJ (.seq (aJ (dU ⟨kS [1,4,5] [(7,.sl q37),(8,.keep)],[(100001,.ob q39),(28,.ob q4)]⟩ (.loop ⟨kS [1,2,4,5] [(7,.sl q37),(8,.keep),(9,.sl q9)],[(2,.keep),(100001,.ob q39),(28,.ob q4)]⟩ (.seq j0 (.seq (.seq (aJ (aJ (.seq (aJ (dU ⟨kS [1,2,4,5] (lS [(7,.sl q70)] (kS [8,9,10] [])),lO [(2,.keep),(101001,.ob q39)] (kO [28,10] [])⟩ (.loop ⟨kS [1,2,4,5] (lS [(7,.sl q70)] (kS [8,9,10] [(11,.sl q9)])),lO [(2,.keep),(101001,.ob q39)] (kO [28,10] [])⟩ (.seq j0 j0)))) (aJ (.seq (aJ (dU ⟨kS [1,2,4,5,7,8,9,10] [(12,.sl sQ)],kO [2,101001,28,10] []⟩ .nil)) .nil))))) .nil) .nil))))) (aJ (.seq (aJ (dU ⟨kS [1,4,5,7,8,13] [],[(100001,.ob q39),(28,.keep),(87,.ob q4)]⟩ (.loop ⟨kS [1,4,5,7,8,13] [(14,.sl jy)],[(100001,.ob q39),(28,.keep),(87,.ob q4)]⟩ (.seq j0 (.seq (aJ (.seq (aJ (dU ⟨kS [1,4,5,7,8,13,14] [],kO [100001,28] [(87,.ob q4)]⟩ (.loop ⟨kS [1,4,5,7,8,13,14] [(15,.sl q9)],kO [100001,28] [(87,.ob q4)]⟩ (.seq j0 j0)))) (aJ (.seq (aJ (dU ⟨kS [1,4,5,7,8,13] [(14,.sl jy),(16,.keep)],lO [(100001,.ob q39)] (kO [28,87] [(112,.ob q44)])⟩ (.loop ⟨kS [1,4,5,7,8,13] [(14,.sl jy),(16,.keep),(17,.sl q9)],lO [(100001,.ob q39)] (kO [28,87] [(112,.ob q44)])⟩ (.seq j0 (.seq (dU ⟨kS [1,4,5,7,8,13] (lS [(14,.sl jy)] (kS [16,17] [])),lO [(100001,.ob q39)] (kO [28,87] [(112,.ob q44)])⟩ (.seq j0 (aJ (aJ (.seq (dU ⟨kS [1,4,5,7,8,13,14,16,17] [],kO [100001,28,87] [(112,.ob q44)]⟩ .nil) (dU ⟨kS [1,4,5,7,8,13] (lS [(14,.sl jy)] (kS [16,17] [])),kO [100001,28,87,112] []⟩ .nil)))))) .nil))))) (aJ (dU ⟨kS [1,4,5,7,8,13,14] [],lO [(100001,.ob q39)] (kO [28,87] [])⟩ (.loop ⟨kS [1,4,5,7,8,13,14,16] [(19,.sl q9)],lO [(100001,.ob q39)] (kO [28,87,112] [])⟩ (.seq j0 (.seq (.seq (dU ⟨kS [1,4,5,7,8,13,14,16,19] [],lO [(100001,.ob q39)] (kO [28,87,112] [])⟩ .nil) .nil) .nil))))))))) .nil))))) (.seq (aJ (dU ⟨lS [(1,.keep),(4,.sl (.one (.own 117000)))] (kS [5,8,13] []),lO [(117000,.ob q65)] (kO [28,87] [])⟩ (.loop ⟨lS [(1,.keep),(4,.sl (.one (.own 117000)))] (kS [5,7,8,13] [(20,.sl q9)]),lO [(117000,.ob q65)] (kO [100001,28,87] [])⟩ (.seq j0 j0)))) (.seq (aJ (dU ⟨[(4,.keep),(5,.sl (.one (.own 119001)))],[(117000,.keep),(119001,.ob q4)]⟩ (.loop ⟨kS [1,4] (lS [(5,.sl (.one (.own 119001)))] (kS [8,13] [(21,.sl q9)])),lO [(117000,.keep),(119001,.ob q4)] (kO [28,87] [])⟩ (.seq j0 j0)))) .nil)))))))))
def sg8:dn:={ bC:=1,pin:=⟨[(0,q22)],[(50000,IC)]⟩,aW:=⟨[(0,(.agg [(.own 60001),(.p zv zj (.sl (.st 4))),q0,q0]))],[(50000,q23),(60001,Nz)]⟩,cO:=1,bH:=[50000],aY:=[60001] }
def an8:fU:=j19
def av5:dn:={ bC:=2,pin:=⟨[(0,q16),(1,q76)],[]⟩,aW:=⟨[(0,q9)],[]⟩,cO:=1,bH:=[],aY:=[] }
def av6:fU:=(aJ (aJ (aJ (.seq (aJ (dU ⟨[(8,.sl q9)],[]⟩ (.loop ⟨[(5,.keep),(8,.sl q9),(9,.sl q9)],[(13,.keep)]⟩ (.seq j0 j0)))) .nil))))
--b 52 c
def av7:dn:={ bC:=2,pin:=⟨[(0,q16),(1,q76)],[]⟩,aW:=⟨[(0,jy)],[]⟩,cO:=1,bH:=[],aY:=[] }
def av8:fU:=(aJ (.seq (.seq j45 j0) j1))
def av9:dn:={ bC:=2,pin:=⟨[(0,q21),(1,q63)],[]⟩,aW:=⟨[(0,q9)],[]⟩,cO:=1,bH:=[],aY:=[] }
def av_:fU:=(aJ (aJ (aJ (.seq (.seq (dU ⟨kS [2,3] [(27,.sl jy)],kO [2,3] []⟩ .nil) j0) (.seq (aJ (.meet zj ⟨[],[]⟩ (.loop ⟨kS [3,29,30] [(31,.sl q9)],[(3,.keep)]⟩ j51))) .nil)))))
def awc:dn:={ bC:=2,pin:=⟨[(0,q16),(1,q76)],[]⟩,aW:=⟨[(0,q66),(1,(.one (.own 60001))),(2,q9)],[(60000,q65),(60001,q4)]⟩,cO:=3,bH:=[],aY:=[60000,60001] }
def awd:fU:=(aJ (.seq j1 (aJ (aJ (.seq (aJ (dU ⟨kS [4,5,7,8,9] [],kO [28,1028] [(34,.ob q4)]⟩ (.loop ⟨kS [4,5,7,8,9,35,36] [(37,.sl q9)],kO [28,1028] [(34,.ob q4)]⟩ j10))) (aJ (aJ (.seq (.meet zv j29 (.loop j29 (.seq (aJ (.seq (aJ (dU ⟨kS [4,5,7,8,9,12] [(13,.sl jy)],lO [(28,.ob q40)] (kO [1028,34,102003] [])⟩ (.loop ⟨kS [4,5,7,8,9,12] (lS [(13,.sl jy)] (kS [52,53] [(54,.sl q9)])),lO [(28,.ob q40)] (kO [1028,34,102003] [])⟩ (aJ (aJ (.seq (.meet zv j27 (aJ (.seq (.seq (dU ⟨kS [4,5,7,8,9,12,13,14,15,52,53,54] [(66,.sl (.one q72))],kO [28,1028,34,102003,15] []⟩ .nil) .nil) (aJ (.seq (dU ⟨kS [4,5,7,8,9,12,13,14,52,53,54] [(86,.sl jy)],kO [28,1028,34,102003] []⟩ .nil) (.meet zv j27 j0)))))) .nil)))))) j4)) .nil))) (.seq (aJ (dU ⟨lS [(4,.sl (.one (.own 110000)))] (kS [5,8,12] []),lO [(110000,.ob q65)] (kO [1028,102003] [])⟩ (.loop ⟨lS [(4,.sl (.one (.own 110000)))] (kS [5,8,9,12,97,98] [(99,.sl q9)]),lO [(110000,.ob q65)] (kO [1028,34,102003,28] [])⟩ (aJ (aJ (.seq (.seq (aJ (.seq (aJ (dU ⟨kS [4,5,8,9,12,18,97,98,99] [],kO [110000,1028,34,102003] [(18,.ob (.box [q1,q1,q1,q1,q1,q1,q72,q6,q1])),(28,.keep)]⟩ .nil)) .nil)) .nil) .nil)))))) (.seq (aJ (dU ⟨[(4,.keep),(5,.sl (.one (.own 113001)))],[(110000,.keep),(113001,.ob q4)]⟩ (.loop ⟨lS [(4,.keep),(5,.sl (.one (.own 113001)))] (kS [12,129,130] [(131,.sl q9)]),lO [(110000,.keep),(113001,.ob q4)] (kO [102003,1028] [])⟩ j10))) .nil))))))))))
def awe:dn:={ bC:=2,pin:=⟨[(0,q16),(1,q76)],[]⟩,aW:=⟨[(0,q9)],[]⟩,cO:=1,bH:=[],aY:=[] }
def awf:fU:=(aJ (aJ (aJ (.seq (aJ (dU ⟨[(8,.sl q9)],[]⟩ (.loop ⟨lS [(8,.sl q9)] (kS [18,19] [(20,.sl q9)]),[(14,.keep)]⟩ j10))) .nil))))
def awg:dn:={ bC:=2,pin:=⟨[(0,q21),(1,q63)],[]⟩,aW:=⟨[(0,q78),(1,q9)],[(60000,Gw),(60001,q4),(60002,q7),(60003,q7),(60004,q75),(60005,q49)]⟩,cO:=2,bH:=[],aY:=[60000,60001,60002,60003,60004,60005] }
def awh:fU:=(aJ (.seq j6 (aJ (.seq (aJ (dU ⟨kS [2,3,4,7] [],kO [2,3,4] [(7,.ob q89),(42,.keep),(100005,.ob q7),(100006,.ob q7),(38,.keep)]⟩ (.loop ⟨kS [2,3,4,7,45,46] [(47,.sl q9)],kO [2,3,4] [(7,.ob q89),(42,.keep),(100005,.ob q7),(100006,.ob q7),(38,.keep)]⟩ j10))) (aJ (.seq (aJ (dU ⟨kS [2,3,4,7] [(10,.sl q9)],kO [2,3,4,7] (lO [(42,.ob q4)] (kO [100005,100006,38] []))⟩ (.loop ⟨kS [2,3,4,7] (lS [(10,.sl q9)] (kS [67,68] [(69,.sl q9)])),kO [2,3,4,7] (lO [(42,.ob q4)] (kO [100005,100006,38] []))⟩ (aJ (aJ j46))))) (.seq j1 (.seq (aJ (dU ⟨kS [4,7] [],lO [(4,.keep),(7,.ob q80),(104004,.ob Gw)] (kO [42,100005,100006,38] [(104009,.ob q49)])⟩ (.loop ⟨kS [2,3,4,7,96,97] [(98,.sl q9)],kO [2,3,4] (lO [(7,.ob q80),(104004,.ob Gw)] (kO [42,100005,100006,38] [(104009,.ob q49)]))⟩ (aJ (aJ (.seq (.seq (aJ (aJ (aJ (.seq (aJ (dU ⟨kS [2,3,4,7,14,16,18,96,97,98] [],kO [2,3,4] (lO [(7,.ob q81),(1113,.keep),(105006,.ob Gw)] (kO [42,100005,100006,38,104009] []))⟩ (.loop ⟨kS [2,3,4,7,14,16,18,96,97,98,120,121] [(122,.sl q9)],kO [2,3,4] (lO [(7,.ob q81)] (kO [1113,113] (lO [(105006,.ob Gw)] (kO [42,100005,100006,38,104009] []))))⟩ (aJ (aJ (.seq (.seq (aJ (.seq (aJ (dU ⟨kS [2,3,4,7,14,16,18,20,96,97,98,120,121,122] [],kO [2,3,4,7,1113] (lO [(20,.ob (.box [q1,q1,q1,q1,q1,q1,q72,q6]))] (kO [113,105006,42,100005,100006,38,104009] []))⟩ .nil)) .nil)) .nil) .nil)))))) (aJ (aJ (dU ⟨kS [2,3,4,7,96,97,98] [],kO [2,3,4] (lO [(7,.ob q82)] (kO [105006,42,100005,100006,38] [(108010,.ob q49)]))⟩ (.loop ⟨kS [2,3,4,7,14,16,18,96,97,98,159,160] [(161,.sl q9)],kO [2,3,4] (lO [(7,.ob q82)] (kO [154,105006,42,100005,100006,38] [(108010,.ob q49)]))⟩ j10)))))))) .nil) .nil)))))) .nil))))))))
def sg6:dn:={ bC:=0,pin:=⟨[],[]⟩,aW:=⟨[(0,jy)],[]⟩,cO:=1,bH:=[],aY:=[] }
def an6:fU:=(aJ (aJ (aJ (.seq (dU ⟨[(0,.sl jy)],[]⟩ .nil) .nil))))
def sg4:dn:={ bC:=1,pin:=⟨[(0,(.one q31))],[]⟩,aW:=⟨[(0,jy)],[]⟩,cO:=1,bH:=[],aY:=[] }
def an4:fU:=(aJ (.seq j1 (aJ (aJ (aJ (aJ (.seq j1 (aJ (.seq (aJ (.meet zj ⟨[(6,.keep),(8,.sl q9)],kO [6,30,1030,2030,3030,4030,5030] []⟩ (.loop ⟨kS [4,5,6] [(8,.sl q9),(9,.sl q9)],kO [4,5,6,23,26,1026,30,1030,2030,3030,4030,5030] []⟩ (.seq j0 (.seq (.seq j19 .nil) .nil))))) (aJ (.seq (aJ (.meet zj ⟨kS [6,8] [],kO [6,30,1030,2030,3030,4030,5030] []⟩ (.loop ⟨kS [6,8,11] [(12,.sl q9)],kO [6,68,30,1030,2030,3030,4030,5030] []⟩ (.seq j0 (.seq (.seq (aJ (.seq j1 (aJ (.seq (aJ (dU ⟨kS [6,8,11,12] [(16,.sl jy)],kO [6,68,30,1030,2030,3030,4030,5030] []⟩ (.loop ⟨kS [6,8,11,12,13] [(16,.sl jy),(17,.sl q9)],kO [6,68,13,30,1030,2030,3030,4030,5030,82] []⟩ (.seq j0 (.seq (.seq (dU ⟨kS [6,8,11,12,13] [(16,.sl jy),(17,.keep)],kO [6,68,13,30,1030,2030,3030,4030,5030,82] []⟩ .nil) .nil) .nil))))) j1)))) .nil) .nil))))) .nil)))))))))))
end Go.Fg.YtoipcimfapppmaaGreatDoor

