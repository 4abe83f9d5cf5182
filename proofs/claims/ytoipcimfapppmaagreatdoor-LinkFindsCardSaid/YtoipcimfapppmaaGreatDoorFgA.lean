/-
  Shapes of the functions of the seat, printed by a program (wip/gen/Infer.lean).
-/
import Derived.Test.YtoipcimfapppmaaGreatDoorFwT
import Derived.Test.YtoipcimfapppmaaGreatDoorZd
open Option renaming some->zw,none->zz
open Bool renaming true->zj,false->zv
namespace Go.Fg.YtoipcimfapppmaaGreatDoor
open Go.Fw Go.Proofs Go.Fw.YtoipcimfapppmaaGreatDoor
set_option linter.unusedVariables false
def Np:List (List UInt8):=[([]:List UInt8),([100,56]:List UInt8),([100,97]:List UInt8),([111,100,97]:List UInt8),([111,100,97,98]:List UInt8),([100,49]:List UInt8),([97,49]:List UInt8),([100,97,49]:List UInt8),([97,98,49]:List UInt8),([100]:List UInt8),([97]:List UInt8),([100,52,110]:List UInt8),([100,97,110]:List UInt8),([106]:List UInt8),([97,106]:List UInt8),([97,106]:List UInt8),([97]:List UInt8),([50]:List UInt8),([100,49]:List UInt8)]
structure aW where
  kind:Int
  op:Int
  value:Int
  line:Int
  name:(List UInt8)
  args:(List aW)
def aji:aW:=aW.mk (0:Int) (0:Int) (0:Int) (0:Int) [] []
mutual
def uj:aW->List P
  |⟨b,c,d,g,h,j⟩=>[P.int .i64 b,P.int .i64 c,P.int .i64 d,P.int .i64 g,P.str ⟨List.toArray h⟩,P.gV 6 (EP j)]
def EP:List aW->List (List P)
  | []=>[]
  |x::l=>uj x::EP l
end
theorem IU:∀l,EP l=List.map uj l
  | []=>rfl
  |x::l=>by rw[EP,IU l];rfl
theorem Yn(x:aW):uj x=[P.int .i64 (aW.kind x),P.int .i64 (aW.op x),P.int .i64 (aW.value x),P.int .i64 (aW.line x),P.str ⟨List.toArray (aW.name x)⟩,P.gV 6 (List.map uj (aW.args x))]:=by
  cases x
  rw[uj]
  simp only[IU]
structure dB where
  kind:Int
  line:Int
  name:(List UInt8)
  exprs:(List aW)
  then':(List dB)
  else':(List dB)
def ajj:dB:=dB.mk (0:Int) (0:Int) [] [] [] []
mutual
def um:dB->List P
  |⟨b,c,d,g,h,j⟩=>[P.int .i64 b,P.int .i64 c,P.str ⟨List.toArray d⟩,P.gV 6 (List.map uj g),P.gV 6 (zW h),P.gV 6 (zW j)]
def zW:List dB->List (List P)
  | []=>[]
  |x::l=>um x::zW l
end
theorem IW:∀l,zW l=List.map um l
  | []=>rfl
  |x::l=>by rw[zW,IW l];rfl
theorem Yo(x:dB):um x=[P.int .i64 (dB.kind x),P.int .i64 (dB.line x),P.str ⟨List.toArray (dB.name x)⟩,P.gV 6 (List.map uj (dB.exprs x)),P.gV 6 (List.map um (dB.then' x)),P.gV 6 (List.map um (dB.else' x))]:=by
  cases x
  rw[um]
  simp only[IW]
structure gq where
  gZ:Int
  fC:Int
  iF:Int
  lK:Int
  lM:Int
  fD:Int
  dJ:Bool
  fP:(List Int)
  to:Int
def ajk:gq:=gq.mk (0:Int) (0:Int) (0:Int) (0:Int) (0:Int) (0:Int) zv [] (0:Int)
def ajl(x:gq):List P:=[P.int .i64 (gq.gZ x),P.int .i64 (gq.fC x),P.int .i64 (gq.iF x),P.int .i64 (gq.lK x),P.int .i64 (gq.lM x),P.int .i64 (gq.fD x),P.bool (gq.dJ x),P.gV 1 (List.map (λ(x:Int)=>[P.int .i64 x]) (gq.fP x)),P.int .i64 (gq.to x)]
structure dh where
  gZ:Int
  fC:Int
  iF:Int
  lK:Int
  lM:Int
  fD:Int
  dJ:Bool
  fP:(List Int)
  to:Int
def ajm:dh:=dh.mk (0:Int) (0:Int) (0:Int) (0:Int) (0:Int) (0:Int) zv [] (0:Int)
def ajn(x:dh):List P:=[P.int .i64 (dh.gZ x),P.int .i64 (dh.fC x),P.int .i64 (dh.iF x),P.int .i64 (dh.lK x),P.int .i64 (dh.lM x),P.int .i64 (dh.fD x),P.bool (dh.dJ x),P.gV 1 (List.map (λ(x:Int)=>[P.int .i64 x]) (dh.fP x)),P.int .i64 (dh.to x)]
structure aH where
  name:(List UInt8)
  line:Int
  params:(List (List UInt8))
  body:(List dB)
def ajo:aH:=aH.mk [] (0:Int) [] []
def ajp(x:aH):List P:=[P.str ⟨List.toArray (aH.name x)⟩,P.int .i64 (aH.line x),P.gV 1 (List.map (λ(x:List UInt8)=>[P.str ⟨x.toArray⟩]) (aH.params x)),P.gV 6 (List.map um (aH.body x))]
structure dQ where
  op:Int
  arith:Int
  dst:Int
  a:Int
  b:Int
  value:Int
  wide:Bool
  args:(List Int)
def ajq:dQ:=dQ.mk (0:Int) (0:Int) (0:Int) (0:Int) (0:Int) (0:Int) zv []
def ajr(x:dQ):List P:=[P.int .i64 (dQ.op x),P.int .i64 (dQ.arith x),P.int .i64 (dQ.dst x),P.int .i64 (dQ.a x),P.int .i64 (dQ.b x),P.int .i64 (dQ.value x),P.bool (dQ.wide x),P.gV 1 (List.map (λ(x:Int)=>[P.int .i64 x]) (dQ.args x))]
structure dP where
  kind:Int
  op:Int
  dst:Int
  a:Int
  b:Int
  value:Int
  args:(List Int)
def afT:dP:=dP.mk (0:Int) (0:Int) (0:Int) (0:Int) (0:Int) (0:Int) []
def VQ(x:dP):List P:=[P.int .i64 (dP.kind x),P.int .i64 (dP.op x),P.int .i64 (dP.dst x),P.int .i64 (dP.a x),P.int .i64 (dP.b x),P.int .i64 (dP.value x),P.gV 1 (List.map (λ(x:Int)=>[P.int .i64 x]) (dP.args x))]
structure aN where
  instrs:(List dP)
  cu:Int
  lN:Int
  gu:Int
  dM:Int
  line:Int
  iJ:Int
  h_:Int
def afU:aN:=aN.mk [] (0:Int) (0:Int) (0:Int) (0:Int) (0:Int) (0:Int) (0:Int)
def VR(x:aN):List P:=[P.gV 7 (List.map VQ (aN.instrs x)),P.int .i64 (aN.cu x),P.int .i64 (aN.lN x),P.int .i64 (aN.gu x),P.int .i64 (aN.dM x),P.int .i64 (aN.line x),P.int .i64 (aN.iJ x),P.int .i64 (aN.h_ x)]
structure eY where
  func:Int
  block:Int
  address:Int
  size:Int
def afV:eY:=eY.mk (0:Int) (0:Int) (0:Int) (0:Int)
def afW(x:eY):List P:=[P.int .i64 (eY.func x),P.int .i64 (eY.block x),P.int .i64 (eY.address x),P.int .i64 (eY.size x)]
structure aS where
  name:(List UInt8)
  params:Int
  regs:Int
  blocks:(List aN)
def VU:aS:=aS.mk [] (0:Int) (0:Int) []
def VW(x:aS):List P:=[P.str ⟨List.toArray (aS.name x)⟩,P.int .i64 (aS.params x),P.int .i64 (aS.regs x),P.gV 8 (List.map VR (aS.blocks x))]
structure aC where
  name:(List UInt8)
  size:Int
def acZ:aC:=aC.mk [] (0:Int)
def ac0(x:aC):List P:=[P.str ⟨List.toArray (aC.name x)⟩,P.int .i64 (aC.size x)]
def reC:Nat->Type
  |0=>Unit
  |1=>Unit
  |2=>Unit
  |3=>aC
  |4=>aS
  |5=>aN
  |6=>dP
  |7=>Unit
  |8=>Unit
  |9=>eY
  |10=>Unit
  |11=>dQ
  |12=>Unit
  |13=>Unit
  |14=>Unit
  |15=>aH
  |16=>dB
  |17=>aW
  |18=>Unit
  |19=>dh
  |20=>gq
  |21=>Unit
  |22=>Unit
  |23=>Unit
  |24=>Unit
  |25=>Unit
  |26=>Unit
  |27=>Unit
  |_=>Unit
def reF:Nat->List Ty
  |0=>[]
  |1=>[]
  |2=>[]
  |3=>[.str,(.int .i64)]
  |4=>[.str,(.int .i64),(.int .i64),(.sl (.st 5))]
  |5=>[(.sl (.st 6)),(.int .i64),(.int .i64),(.int .i64),(.int .i64),(.int .i64),(.int .i64),(.int .i64)]
  |6=>[(.int .i64),(.int .i64),(.int .i64),(.int .i64),(.int .i64),(.int .i64),(.sl (.int .i64))]
  |7=>[]
  |8=>[]
  |9=>[(.int .i64),(.int .i64),(.int .i64),(.int .i64)]
  |10=>[]
  |11=>[(.int .i64),(.int .i64),(.int .i64),(.int .i64),(.int .i64),(.int .i64),.bool,(.sl (.int .i64))]
  |12=>[]
  |13=>[]
  |14=>[]
  |15=>[.str,(.int .i64),(.sl .str),(.sl (.st 16))]
  |16=>[(.int .i64),(.int .i64),.str,(.sl (.st 17)),(.sl (.st 16)),(.sl (.st 16))]
  |17=>[(.int .i64),(.int .i64),(.int .i64),(.int .i64),.str,(.sl (.st 17))]
  |18=>[]
  |19=>[(.int .i64),(.int .i64),(.int .i64),(.int .i64),(.int .i64),(.int .i64),.bool,(.sl (.int .i64)),(.int .i64)]
  |20=>[(.int .i64),(.int .i64),(.int .i64),(.int .i64),(.int .i64),(.int .i64),.bool,(.sl (.int .i64)),(.int .i64)]
  |21=>[]
  |22=>[]
  |23=>[]
  |24=>[]
  |25=>[]
  |26=>[]
  |27=>[]
  |_=>[]
def auL:(n:Nat)->reC n
  |0=>()
  |1=>()
  |2=>()
  |3=>acZ
  |4=>VU
  |5=>afU
  |6=>afT
  |7=>()
  |8=>()
  |9=>afV
  |10=>()
  |11=>ajq
  |12=>()
  |13=>()
  |14=>()
  |15=>ajo
  |16=>ajj
  |17=>aji
  |18=>()
  |19=>ajm
  |20=>ajk
  |21=>()
  |22=>()
  |23=>()
  |24=>()
  |25=>()
  |26=>()
  |27=>()
  |_+28=>()
def ajs:(n:Nat)->reC n->List (TP reC)
  |0,x=>[]
  |1,x=>[]
  |2,x=>[]
  |3,x=>[⟨.str,aC.name x⟩,⟨(.int .i64),aC.size x⟩]
  |4,x=>[⟨.str,aS.name x⟩,⟨(.int .i64),aS.params x⟩,⟨(.int .i64),aS.regs x⟩,⟨(.sl (.st 5)),aS.blocks x⟩]
  |5,x=>[⟨(.sl (.st 6)),aN.instrs x⟩,⟨(.int .i64),aN.cu x⟩,⟨(.int .i64),aN.lN x⟩,⟨(.int .i64),aN.gu x⟩,⟨(.int .i64),aN.dM x⟩,⟨(.int .i64),aN.line x⟩,⟨(.int .i64),aN.iJ x⟩,⟨(.int .i64),aN.h_ x⟩]
  |6,x=>[⟨(.int .i64),dP.kind x⟩,⟨(.int .i64),dP.op x⟩,⟨(.int .i64),dP.dst x⟩,⟨(.int .i64),dP.a x⟩,⟨(.int .i64),dP.b x⟩,⟨(.int .i64),dP.value x⟩,⟨(.sl (.int .i64)),dP.args x⟩]
  |7,x=>[]
  |8,x=>[]
  |9,x=>[⟨(.int .i64),eY.func x⟩,⟨(.int .i64),eY.block x⟩,⟨(.int .i64),eY.address x⟩,⟨(.int .i64),eY.size x⟩]
  |10,x=>[]
  |11,x=>[⟨(.int .i64),dQ.op x⟩,⟨(.int .i64),dQ.arith x⟩,⟨(.int .i64),dQ.dst x⟩,⟨(.int .i64),dQ.a x⟩,⟨(.int .i64),dQ.b x⟩,⟨(.int .i64),dQ.value x⟩,⟨.bool,dQ.wide x⟩,⟨(.sl (.int .i64)),dQ.args x⟩]
  |12,x=>[]
  |13,x=>[]
  |14,x=>[]
  |15,x=>[⟨.str,aH.name x⟩,⟨(.int .i64),aH.line x⟩,⟨(.sl .str),aH.params x⟩,⟨(.sl (.st 16)),aH.body x⟩]
  |16,x=>[⟨(.int .i64),dB.kind x⟩,⟨(.int .i64),dB.line x⟩,⟨.str,dB.name x⟩,⟨(.sl (.st 17)),dB.exprs x⟩,⟨(.sl (.st 16)),dB.then' x⟩,⟨(.sl (.st 16)),dB.else' x⟩]
  |17,x=>[⟨(.int .i64),aW.kind x⟩,⟨(.int .i64),aW.op x⟩,⟨(.int .i64),aW.value x⟩,⟨(.int .i64),aW.line x⟩,⟨.str,aW.name x⟩,⟨(.sl (.st 17)),aW.args x⟩]
  |18,x=>[]
  |19,x=>[⟨(.int .i64),dh.gZ x⟩,⟨(.int .i64),dh.fC x⟩,⟨(.int .i64),dh.iF x⟩,⟨(.int .i64),dh.lK x⟩,⟨(.int .i64),dh.lM x⟩,⟨(.int .i64),dh.fD x⟩,⟨.bool,dh.dJ x⟩,⟨(.sl (.int .i64)),dh.fP x⟩,⟨(.int .i64),dh.to x⟩]
  |20,x=>[⟨(.int .i64),gq.gZ x⟩,⟨(.int .i64),gq.fC x⟩,⟨(.int .i64),gq.iF x⟩,⟨(.int .i64),gq.lK x⟩,⟨(.int .i64),gq.lM x⟩,⟨(.int .i64),gq.fD x⟩,⟨.bool,gq.dJ x⟩,⟨(.sl (.int .i64)),gq.fP x⟩,⟨(.int .i64),gq.to x⟩]
  |21,x=>[]
  |22,x=>[]
  |23,x=>[]
  |24,x=>[]
  |25,x=>[]
  |26,x=>[]
  |27,x=>[]
  |_+28,_=>[]
def aqg:(n:Nat)->List (TP reC)->reC n
  |0,b=>()
  |1,b=>()
  |2,b=>()
  |3,b=>aC.mk (TP.get .str [] b 0) (TP.get (.int .i64) (0:Int) b 1)
  |4,b=>aS.mk (TP.get .str [] b 0) (TP.get (.int .i64) (0:Int) b 1) (TP.get (.int .i64) (0:Int) b 2) (TP.get (.sl (.st 5)) [] b 3)
  |5,b=>aN.mk (TP.get (.sl (.st 6)) [] b 0) (TP.get (.int .i64) (0:Int) b 1) (TP.get (.int .i64) (0:Int) b 2) (TP.get (.int .i64) (0:Int) b 3) (TP.get (.int .i64) (0:Int) b 4) (TP.get (.int .i64) (0:Int) b 5) (TP.get (.int .i64) (0:Int) b 6) (TP.get (.int .i64) (0:Int) b 7)
  |6,b=>dP.mk (TP.get (.int .i64) (0:Int) b 0) (TP.get (.int .i64) (0:Int) b 1) (TP.get (.int .i64) (0:Int) b 2) (TP.get (.int .i64) (0:Int) b 3) (TP.get (.int .i64) (0:Int) b 4) (TP.get (.int .i64) (0:Int) b 5) (TP.get (.sl (.int .i64)) [] b 6)
  |7,b=>()
  |8,b=>()
  |9,b=>eY.mk (TP.get (.int .i64) (0:Int) b 0) (TP.get (.int .i64) (0:Int) b 1) (TP.get (.int .i64) (0:Int) b 2) (TP.get (.int .i64) (0:Int) b 3)
  |10,b=>()
  |11,b=>dQ.mk (TP.get (.int .i64) (0:Int) b 0) (TP.get (.int .i64) (0:Int) b 1) (TP.get (.int .i64) (0:Int) b 2) (TP.get (.int .i64) (0:Int) b 3) (TP.get (.int .i64) (0:Int) b 4) (TP.get (.int .i64) (0:Int) b 5) (TP.get .bool zv b 6) (TP.get (.sl (.int .i64)) [] b 7)
  |12,b=>()
  |13,b=>()
  |14,b=>()
  |15,b=>aH.mk (TP.get .str [] b 0) (TP.get (.int .i64) (0:Int) b 1) (TP.get (.sl .str) [] b 2) (TP.get (.sl (.st 16)) [] b 3)
  |16,b=>dB.mk (TP.get (.int .i64) (0:Int) b 0) (TP.get (.int .i64) (0:Int) b 1) (TP.get .str [] b 2) (TP.get (.sl (.st 17)) [] b 3) (TP.get (.sl (.st 16)) [] b 4) (TP.get (.sl (.st 16)) [] b 5)
  |17,b=>aW.mk (TP.get (.int .i64) (0:Int) b 0) (TP.get (.int .i64) (0:Int) b 1) (TP.get (.int .i64) (0:Int) b 2) (TP.get (.int .i64) (0:Int) b 3) (TP.get .str [] b 4) (TP.get (.sl (.st 17)) [] b 5)
  |18,b=>()
  |19,b=>dh.mk (TP.get (.int .i64) (0:Int) b 0) (TP.get (.int .i64) (0:Int) b 1) (TP.get (.int .i64) (0:Int) b 2) (TP.get (.int .i64) (0:Int) b 3) (TP.get (.int .i64) (0:Int) b 4) (TP.get (.int .i64) (0:Int) b 5) (TP.get .bool zv b 6) (TP.get (.sl (.int .i64)) [] b 7) (TP.get (.int .i64) (0:Int) b 8)
  |20,b=>gq.mk (TP.get (.int .i64) (0:Int) b 0) (TP.get (.int .i64) (0:Int) b 1) (TP.get (.int .i64) (0:Int) b 2) (TP.get (.int .i64) (0:Int) b 3) (TP.get (.int .i64) (0:Int) b 4) (TP.get (.int .i64) (0:Int) b 5) (TP.get .bool zv b 6) (TP.get (.sl (.int .i64)) [] b 7) (TP.get (.int .i64) (0:Int) b 8)
  |21,b=>()
  |22,b=>()
  |23,b=>()
  |24,b=>()
  |25,b=>()
  |26,b=>()
  |27,b=>()
  |_+28,_=>()
def anx:(n:Nat)->reC n->List P
  |0,x=>[]
  |1,x=>[]
  |2,x=>[]
  |3,x=>ac0 x
  |4,x=>VW x
  |5,x=>VR x
  |6,x=>VQ x
  |7,x=>[]
  |8,x=>[]
  |9,x=>afW x
  |10,x=>[]
  |11,x=>ajr x
  |12,x=>[]
  |13,x=>[]
  |14,x=>[]
  |15,x=>ajp x
  |16,x=>um x
  |17,x=>uj x
  |18,x=>[]
  |19,x=>ajn x
  |20,x=>ajl x
  |21,x=>[]
  |22,x=>[]
  |23,x=>[]
  |24,x=>[]
  |25,x=>[]
  |26,x=>[]
  |27,x=>[]
  |_+28,_=>[]
theorem aqh:∀n,(reF n).all Ty.word=zj
  |0=>rfl
  |1=>rfl
  |2=>rfl
  |3=>rfl
  |4=>rfl
  |5=>rfl
  |6=>rfl
  |7=>rfl
  |8=>rfl
  |9=>rfl
  |10=>rfl
  |11=>rfl
  |12=>rfl
  |13=>rfl
  |14=>rfl
  |15=>rfl
  |16=>rfl
  |17=>rfl
  |18=>rfl
  |19=>rfl
  |20=>rfl
  |21=>rfl
  |22=>rfl
  |23=>rfl
  |24=>rfl
  |25=>rfl
  |26=>rfl
  |27=>rfl
  |_+28=>rfl
theorem anz:∀(n:Nat) (x:reC n),(ajs n x).map (·.t)=reF n
  |0,x=>rfl
  |1,x=>rfl
  |2,x=>rfl
  |3,x=>rfl
  |4,x=>rfl
  |5,x=>rfl
  |6,x=>rfl
  |7,x=>rfl
  |8,x=>rfl
  |9,x=>rfl
  |10,x=>rfl
  |11,x=>rfl
  |12,x=>rfl
  |13,x=>rfl
  |14,x=>rfl
  |15,x=>rfl
  |16,x=>rfl
  |17,x=>rfl
  |18,x=>rfl
  |19,x=>rfl
  |20,x=>rfl
  |21,x=>rfl
  |22,x=>rfl
  |23,x=>rfl
  |24,x=>rfl
  |25,x=>rfl
  |26,x=>rfl
  |27,x=>rfl
  |_+28,_=>rfl
theorem anA:∀(n:Nat) (b:List (TP reC)),b.map (·.t)=reF n->ajs n (aqg n b)=b
  |0,b,h=>by
    have e:=dX h
    subst e
    rfl
  |1,b,h=>by
    have e:=dX h
    subst e
    rfl
  |2,b,h=>by
    have e:=dX h
    subst e
    rfl
  |3,b,h=>by
    obtain⟨U,X,c,d⟩:=aP h
    subst c
    obtain⟨Y,g,j,m⟩:=aP d
    subst j
    have e:=dX m
    subst e
    rfl
  |4,b,h=>by
    obtain⟨U,X,c,d⟩:=aP h
    subst c
    obtain⟨Y,g,j,m⟩:=aP d
    subst j
    obtain⟨Z,q,w,y⟩:=aP m
    subst w
    obtain⟨x3,z,B,H⟩:=aP y
    subst B
    have e:=dX H
    subst e
    rfl
  |5,b,h=>by
    obtain⟨U,X,c,d⟩:=aP h
    subst c
    obtain⟨Y,g,j,m⟩:=aP d
    subst j
    obtain⟨Z,q,w,y⟩:=aP m
    subst w
    obtain⟨x3,z,B,H⟩:=aP y
    subst B
    obtain⟨x4,J,K,L⟩:=aP H
    subst K
    obtain⟨x5,M,N,T⟩:=aP L
    subst N
    obtain⟨x6,ws6,e6,h6⟩:=aP T
    subst e6
    obtain⟨x7,ws7,e7,h7⟩:=aP h6
    subst e7
    have e:=dX h7
    subst e
    rfl
  |6,b,h=>by
    obtain⟨U,X,c,d⟩:=aP h
    subst c
    obtain⟨Y,g,j,m⟩:=aP d
    subst j
    obtain⟨Z,q,w,y⟩:=aP m
    subst w
    obtain⟨x3,z,B,H⟩:=aP y
    subst B
    obtain⟨x4,J,K,L⟩:=aP H
    subst K
    obtain⟨x5,M,N,T⟩:=aP L
    subst N
    obtain⟨x6,ws6,e6,h6⟩:=aP T
    subst e6
    have e:=dX h6
    subst e
    rfl
  |7,b,h=>by
    have e:=dX h
    subst e
    rfl
  |8,b,h=>by
    have e:=dX h
    subst e
    rfl
  |9,b,h=>by
    obtain⟨U,X,c,d⟩:=aP h
    subst c
    obtain⟨Y,g,j,m⟩:=aP d
    subst j
    obtain⟨Z,q,w,y⟩:=aP m
    subst w
    obtain⟨x3,z,B,H⟩:=aP y
    subst B
    have e:=dX H
    subst e
    rfl
  |10,b,h=>by
    have e:=dX h
    subst e
    rfl
  |11,b,h=>by
    obtain⟨U,X,c,d⟩:=aP h
    subst c
    obtain⟨Y,g,j,m⟩:=aP d
    subst j
    obtain⟨Z,q,w,y⟩:=aP m
    subst w
    obtain⟨x3,z,B,H⟩:=aP y
    subst B
    obtain⟨x4,J,K,L⟩:=aP H
    subst K
    obtain⟨x5,M,N,T⟩:=aP L
    subst N
    obtain⟨x6,ws6,e6,h6⟩:=aP T
    subst e6
    obtain⟨x7,ws7,e7,h7⟩:=aP h6
    subst e7
    have e:=dX h7
    subst e
    rfl
  |12,b,h=>by
    have e:=dX h
    subst e
    rfl
  |13,b,h=>by
    have e:=dX h
    subst e
    rfl
  |14,b,h=>by
    have e:=dX h
    subst e
    rfl
  |15,b,h=>by
    obtain⟨U,X,c,d⟩:=aP h
    subst c
    obtain⟨Y,g,j,m⟩:=aP d
    subst j
    obtain⟨Z,q,w,y⟩:=aP m
    subst w
    obtain⟨x3,z,B,H⟩:=aP y
    subst B
    have e:=dX H
    subst e
    rfl
  |16,b,h=>by
    obtain⟨U,X,c,d⟩:=aP h
    subst c
    obtain⟨Y,g,j,m⟩:=aP d
    subst j
    obtain⟨Z,q,w,y⟩:=aP m
    subst w
    obtain⟨x3,z,B,H⟩:=aP y
    subst B
    obtain⟨x4,J,K,L⟩:=aP H
    subst K
    obtain⟨x5,M,N,T⟩:=aP L
    subst N
    have e:=dX T
    subst e
    rfl
  |17,b,h=>by
    obtain⟨U,X,c,d⟩:=aP h
    subst c
    obtain⟨Y,g,j,m⟩:=aP d
    subst j
    obtain⟨Z,q,w,y⟩:=aP m
    subst w
    obtain⟨x3,z,B,H⟩:=aP y
    subst B
    obtain⟨x4,J,K,L⟩:=aP H
    subst K
    obtain⟨x5,M,N,T⟩:=aP L
    subst N
    have e:=dX T
    subst e
    rfl
  |18,b,h=>by
    have e:=dX h
    subst e
    rfl
  |19,b,h=>by
    obtain⟨U,X,c,d⟩:=aP h
    subst c
    obtain⟨Y,g,j,m⟩:=aP d
    subst j
    obtain⟨Z,q,w,y⟩:=aP m
    subst w
    obtain⟨x3,z,B,H⟩:=aP y
    subst B
    obtain⟨x4,J,K,L⟩:=aP H
    subst K
    obtain⟨x5,M,N,T⟩:=aP L
    subst N
    obtain⟨x6,ws6,e6,h6⟩:=aP T
    subst e6
    obtain⟨x7,ws7,e7,h7⟩:=aP h6
    subst e7
    obtain⟨x8,ws8,e8,h8⟩:=aP h7
    subst e8
    have e:=dX h8
    subst e
    rfl
  |20,b,h=>by
    obtain⟨U,X,c,d⟩:=aP h
    subst c
    obtain⟨Y,g,j,m⟩:=aP d
    subst j
    obtain⟨Z,q,w,y⟩:=aP m
    subst w
    obtain⟨x3,z,B,H⟩:=aP y
    subst B
    obtain⟨x4,J,K,L⟩:=aP H
    subst K
    obtain⟨x5,M,N,T⟩:=aP L
    subst N
    obtain⟨x6,ws6,e6,h6⟩:=aP T
    subst e6
    obtain⟨x7,ws7,e7,h7⟩:=aP h6
    subst e7
    obtain⟨x8,ws8,e8,h8⟩:=aP h7
    subst e8
    have e:=dX h8
    subst e
    rfl
  |21,b,h=>by
    have e:=dX h
    subst e
    rfl
  |22,b,h=>by
    have e:=dX h
    subst e
    rfl
  |23,b,h=>by
    have e:=dX h
    subst e
    rfl
  |24,b,h=>by
    have e:=dX h
    subst e
    rfl
  |25,b,h=>by
    have e:=dX h
    subst e
    rfl
  |26,b,h=>by
    have e:=dX h
    subst e
    rfl
  |27,b,h=>by
    have e:=dX h
    subst e
    rfl
  |_+28,b,h=>by have e:=dX h;subst e;rfl
theorem anB:∀(n:Nat) (x:reC n),anx n x=(ajs n x).map λw=>Lp (jT reF) (qG reF anx (jT reF)) w.t w.x
  |0,x=>by kernel_rfl
  |1,x=>by kernel_rfl
  |2,x=>by kernel_rfl
  |3,x=>by kernel_rfl
  |4,x=>by kernel_rfl
  |5,x=>by kernel_rfl
  |6,x=>by kernel_rfl
  |7,x=>by kernel_rfl
  |8,x=>by kernel_rfl
  |9,x=>by kernel_rfl
  |10,x=>by kernel_rfl
  |11,x=>by kernel_rfl
  |12,x=>by kernel_rfl
  |13,x=>by kernel_rfl
  |14,x=>by kernel_rfl
  |15,x=>by kernel_rfl
  |16,x=>(Yo x).trans (by kernel_rfl)
  |17,x=>(Yn x).trans (by kernel_rfl)
  |18,x=>by kernel_rfl
  |19,x=>by kernel_rfl
  |20,x=>by kernel_rfl
  |21,x=>by kernel_rfl
  |22,x=>by kernel_rfl
  |23,x=>by kernel_rfl
  |24,x=>by kernel_rfl
  |25,x=>by kernel_rfl
  |26,x=>by kernel_rfl
  |27,x=>by kernel_rfl
  |_+28,_=>rfl
def reG:Nat->Option ((e:Ty)×List (D reC e))
  |0=>zw ⟨.str,Np⟩
  |_=>zz
instance re:RE where
  C:=reC
  F:=reF
  dflt:=auL
  un:=ajs
  ro:=aqg
  er:=anx
  Fwd:=aqh
  alo:=anz
  alp:=anA
  alq:=anB
  G:=reG
theorem mixed:Fit Tryz.prog:=⟨Fw.YtoipcimfapppmaaGreatDoor.anv,λ_ _ _ _ h=>h.elim⟩
def Dh:List (Nat×Ty):=[(3,(.int .i64)),(4,.bool),(5,(.int .u8)),(9,.str),(31,(.sl (.int .i64))),(43,(.st 9)),(46,(.st 4)),(53,(.st 11)),(69,(.st 5)),(77,(.st 3)),(99,(.st 6)),(110,(.st 19)),(117,(.st 20)),(129,(.st 15)),(150,(.st 16)),(179,(.st 17))]
def ety:TypeId->Option Ty:=λt=>Dh.lookup t
def kS(l:List Nat)(r:List (Nat×Md)):List (Nat×Md):=l.map (λn=>(n,.keep))++r
def kO(l:List Nat)(r:List (Nat×Mo)):List (Nat×Mo):=l.map (λn=>(n,.keep))++r
def aI(x:fG):fG:=.seq .nil x
def dS(j:JT)(x:fG):fG:=.meet zv j x
def lS(l r:List (Nat×Md)):=l++r
def lO(l r:List (Nat×Mo)):=l++r
abbrev q0:kH:=.p zv zv (.int .i64)
abbrev q1:kH:=.p zj zv (.int .i64)
abbrev q2:kH:=.p zv zv .bool
abbrev q3:kH:=.p zv zj (.int .i64)
abbrev q4:iP:=.arr zv zv zv (.int .i64)
abbrev q5:kH:=.p zv zj (.sl (.int .u8))
abbrev q6:kH:=.p zj zv (.sl (.int .i64))
abbrev q7:iP:=.arr zv zj zv (.int .i64)
abbrev q9:lu:=.one q0
abbrev q10:kH:=.p zv zj (.sl (.st 3))
abbrev q11:iP:=.aO zj zj (.st 5) [(0,(.st 6))]
abbrev q12:kH:=.p zv zj (.sl (.st 15))
abbrev q13:kH:=.p zj zj (.sl (.st 15))
abbrev q14:iP:=.box [(.box 50001 0),(.own 50002),(.own 50003),(.own 50004),q3]
abbrev VX:kH:=.p zj zj (.sl (.st 3))
abbrev BK:iP:=.arr zv zv zv (.int .u8)
abbrev iQ:lu:=.one q2
abbrev yG:iP:=.arr zv zv zj .str
abbrev q21:lu:=.agg [(.p zj zv (.sl (.st 3))),(.p zj zv (.sl (.st 4))),q1,q1]
abbrev q22:lu:=.one (.box 50000 0)
abbrev q23:iP:=.box [q5,q0]
abbrev q25:kH:=.p zj zj (.sl .str)
abbrev q26:iP:=.box [q10,q12,(.p zv zj (.sl .str)),q3,q3,(.own 50001),q3]
abbrev oJ:lu:=.one q1
abbrev NS:iP:=.arr zv zv zj (.st 3)
abbrev q29:kH:=.p zv zj (.sl (.int .i64))
abbrev q30:iP:=.arr zv zv zj (.st 15)
abbrev q31:kH:=.p zj zv (.sl (.int .u8))
abbrev q20:lu:=.agg [q31,q6,q6,q6,q1,q1,(.p zj zv (.sl (.st 3))),(.p zj zv (.sl (.st 9)))]
abbrev q32:iP:=.box [q10,q12,(.own 50001),q3,q3]
abbrev q33:iP:=.aO zv zj (.st 5) [(0,(.st 6))]
abbrev q34:iP:=.box [q10,q12,(.own 50001),q0,q0]
abbrev q35:iP:=.box [VX,q13,q25,q0,q0,(.own 1033),q0]
abbrev q36:iP:=.aO zv zv (.st 4) [(3,(.st 5))]
abbrev q37:lu:=.one (.own 100001)
abbrev q39:iP:=.arr zv zj zv (.st 20)
abbrev q40:iP:=.arr zv zj zv (.st 19)
abbrev GY:iP:=.box [q5,q3]
abbrev q42:iP:=.arr zv zv zv (.sl (.int .i64))
abbrev TN:kH:=.p zv zv .str
abbrev q44:iP:=.arr zv zv zv .bool
abbrev q45:iP:=.box [VX,q13,q25,q3,q3,(.own 100002),q3]
abbrev q46:kH:=.p zj zv (.sl (.st 16))
abbrev q47:lu:=.agg [(.p zj zv (.sl (.st 3))),(.p zj zv (.sl (.st 15)))]
abbrev q48:iP:=.box [(.box 50001 0),(.own 50002),(.own 50003),(.own 50004),q0]
abbrev q49:iP:=.arr zv zj zv (.st 9)
abbrev q50:lu:=.one (.own 100000)
abbrev Yp:kH:=.p zj zv .str
abbrev q16:lu:=.agg [Yp,q1,q1,(.p zj zv (.sl (.st 5)))]
abbrev q52:iP:=.arr zv zv zj (.int .u8)
abbrev q53:iP:=.box [q5,q29,q29,q29,q3,q3,q10,(.p zv zj (.sl (.st 9)))]
abbrev q54:lu:=.one (.own 55000)
abbrev q55:kH:=.p zv zv (.int .u64)
abbrev q56:iP:=.arr zv zv zj (.st 16)
abbrev q57:iP:=.arr zv zj zj .str
abbrev q58:kH:=.p zj zv (.sl (.st 17))
abbrev q38:lu:=.agg [q1,q1,q1,q1,Yp,q58]
abbrev q59:lu:=.agg [q1,q1,q1,q1,q1,q1,q6]
abbrev q60:iP:=.box [q31,q0,q2]
abbrev q61:iP:=.box [VX,q13,(.own 100002),q0,q0]
abbrev q62:iP:=.box [VX,q13,(.own 100002),q3,q3]
abbrev q63:lu:=.agg [q6,(.p zj zv (.sl (.sl (.int .i64))))]
abbrev q64:iP:=.arr zv zv zv (.st 3)
abbrev q65:iP:=.arr zv zj zv (.st 11)
abbrev q66:lu:=.one (.own 60000)
abbrev q67:iP:=.box [q0,q0,q0,q0,q0,q0,q2,(.own 101002)]
abbrev q68:iP:=.arr zv zj zj (.st 17)
abbrev q69:iP:=.box [q10,q12,(.p zv zj (.sl .str)),q0,q0,(.own 50001),q0]
abbrev q70:lu:=.one (.own 101001)
abbrev q71:iP:=.box [VX,q13,q25,q0,q0,(.own 60001),q0]
abbrev q72:kH:=.p zj zv .bool
abbrev q24:lu:=.agg [q1,q1,q1,q1,q1,q1,q72,q6]
abbrev q74:iP:=.arr zv zv zj (.st 17)
abbrev q75:iP:=.arr zv zj zv (.st 3)
abbrev q76:lu:=.one q6
abbrev q77:lu:=.one (.own 100002)
abbrev q78:lu:=.agg [(.own 60000),(.own 60001),(.own 60002),(.own 60003),q0,q0,(.own 60004),(.own 60005)]
abbrev q79:iP:=.box [(.own 102004),(.own 36),(.own 110005),(.own 110006),q1,q1,(.own 43),(.own 102007)]
abbrev q80:iP:=.box [(.own 104004),(.own 42),(.own 100005),(.own 100006),q1,q1,(.own 38),(.own 104009)]
abbrev q81:iP:=.box [(.own 105006),(.own 42),(.own 100005),(.own 100006),q1,q1,(.own 38),(.own 104009)]
abbrev q82:iP:=.box [(.own 105006),(.own 42),(.own 100005),(.own 100006),q1,q1,(.own 38),(.own 108010)]
abbrev q83:iP:=.arr zv zj zv (.st 5)
abbrev q84:lu:=.agg [q1,q1,q1,q1]
abbrev q85:iP:=.arr zv zv zv .str
abbrev q86:iP:=.box [(.own 102004),(.own 36),.dD,.dD,q1,q1,(.own 43),(.own 102007)]
abbrev q87:iP:=.box [(.own 103006),(.own 36),.dD,.dD,q1,q1,(.own 43),(.own 102007)]
abbrev q88:iP:=.box [(.own 103006),(.own 36),.dD,.dD,q1,q1,(.own 43),(.own 106008)]
abbrev q89:iP:=.box [.dD,(.own 42),(.own 100005),(.own 100006),q1,q1,(.own 38),.dD]
abbrev q90:kH:=.p zj zv (.sl .str)
abbrev q91:iP:=.box [(.box 50000 0),(.own 101003),(.own 100701),(.own 100702),q0]
abbrev q92:iP:=.box [(.box 50000 0),(.own 103003),(.own 100701),(.own 100702),q0]
abbrev q93:iP:=.box [(.box 50000 0),(.own 103003),(.own 105004),(.own 100702),q0]
abbrev q94:iP:=.box [(.box 50000 0),(.own 103003),(.own 105004),(.own 109005),q0]
abbrev q95:lu:=.one (.own 102001)
abbrev q96:iP:=.box [q5,q29,q29,q29,q0,q0,q10,(.p zv zj (.sl (.st 9)))]
abbrev q97:iP:=.box [(.box 50001 0),(.own 50002),(.own 50003),(.own 100005),q3]
abbrev q98:lu:=.agg [q1,q1,Yp,q58,q46,q46]
abbrev q99:iP:=.box [(.p zj zv (.sl (.st 6))),q1,q1,q1,q1,q1,q1,q1]
abbrev ajw:lu:=.agg [q0,q0,q0,q0]
abbrev anG:iP:=.arr zv zv zv (.st 15)
abbrev anH:iP:=.arr zv zj zv (.st 15)
abbrev anI:iP:=.arr zv zj zj (.st 16)
abbrev anJ:iP:=.arr zv zj zv (.st 4)
abbrev j0:fG:=.seq .nil .nil
abbrev j1:fG:=.seq .nil j0
abbrev j3:fG:=.seq j1 .nil
abbrev j4:fG:=.seq j0 .nil
abbrev j5:JT:=⟨[],[(50000,.ob q35),(1033,.ob q11)]⟩
abbrev j6:fG:=.seq .nil j1
abbrev j7:JT:=⟨[(1,.keep),(3,.sl q9),(4,.sl q9)],[(1,.keep)]⟩
abbrev j8:fG:=.seq (dS ⟨[(2,.sl iQ)],[]⟩ .nil) .nil
abbrev j9:JT:=⟨kS [0,4] [],lO [(50000,.ob q14),(50001,.ob q23)] (kO [50002,50003,4,50004] [])⟩
abbrev j11:JT:=⟨kS [0,3,4] [],lO [(50000,.ob q32)] (kO [50001,3,4] [])⟩
abbrev j12:JT:=⟨kS [0,1,5,6,7] [],lO [(50000,.ob q61)] (kO [100001,7,100002,101003] [])⟩
abbrev j13:fG:=.seq j0 (.seq j3 .nil)
abbrev j14:JT:=⟨kS [0,3,4] [],lO [(50000,.ob q34)] (kO [50001,3,4] [])⟩
abbrev j18:JT:=⟨[(1,.keep),(3,.sl q37),(4,.sl q9)],[(1,.keep),(100001,.ob q4)]⟩
abbrev j19:fG:=.seq .nil j3
abbrev j21:fG:=.seq (.seq j6 .nil) .nil
abbrev j22:JT:=⟨kS [1,3,4] [],[(1,.keep)]⟩
abbrev j23:JT:=⟨kS [1,4] [(5,.sl iQ)],[(1,.keep)]⟩
abbrev j25:fG:=.seq .nil (.seq (aI (.meet zj ⟨[],[]⟩ (.loop ⟨kS [1,2] [(5,.sl q9)],[(2,.keep)]⟩ j13))) .nil)
abbrev j26:fG:=.seq .nil (aI (.seq (aI (dS ⟨[(3,.sl q9)],[]⟩ (.loop j7 (.seq j0 j0)))) .nil))
abbrev j27:JT:=⟨kS [4,5,7,8,9,12] (lS [(13,.sl iQ)] (kS [52,53,54] [])),lO [(28,.ob q40)] (kO [1028,34,102003] [])⟩
abbrev j28:fG:=.seq .nil (dS ⟨kS [1,2,3,4,7,8,9] [],kO [1,2,11,14,7] [(9,.ob q99),(103005,.keep)]⟩ .nil)
abbrev j29:JT:=⟨kS [4,5,7,8,9] [(12,.sl (.one (.own 102003)))],lO [(28,.ob q40)] (kO [1028,34] [(102003,.ob q4)])⟩
abbrev j31:fG:=.seq (aI (.meet zj ⟨[],[]⟩ (.loop ⟨kS [0,1] [(5,.sl q9)],[]⟩ j13))) .nil
abbrev j32:fG:=.seq .nil j6
abbrev j33:JT:=⟨kS [0,2,3,4,7,8] [],lO [(50000,.ob q23)] (kO [2,3] [(100004,.ob q36),(19,.keep)])⟩
abbrev j34:JT:=⟨[],[(50000,.ob q45),(100002,.ob q11)]⟩
abbrev j35:JT:=⟨[(1,.keep),(18,.sl iQ)],[(1,.keep)]⟩
abbrev j36:JT:=⟨kS [1,3,6] [(7,.sl iQ)],[(1,.keep)]⟩
abbrev j2:fG:=.seq .nil (.seq (.seq (aI (.meet zv j36 (aI (aI (.meet zv j36 (aI (aI (.meet zv j36 .nil)))))))) (.meet zj j7 (aI (aI (.meet zj j7 (aI (aI (.meet zj j7 (aI (aI (.meet zj j7 (aI (.seq (aI (.meet zv j35 (aI (aI (.meet zv j35 .nil))))) (.seq (aI (aI (.meet zv j7 .nil))) .nil)))))))))))))) .nil)
abbrev j37:JT:=⟨[(1,.keep),(3,.sl iQ)],[(1,.keep)]⟩
abbrev j38:JT:=⟨[(1,.keep),(6,.sl iQ)],[(1,.keep)]⟩
abbrev j39:JT:=⟨kS [2,3] [],[(2,.keep),(3,.ob (.box [q1,q0,q1,q0,q0,q1,q2,.dD]))]⟩
abbrev j40:JT:=⟨kS [2,3] [],[(2,.keep),(3,.ob (.box [q0,q0,q1,q0,q0,q1,q2,.dD]))]⟩
abbrev j41:JT:=⟨[(3,.sl q37)],[(100001,.ob q4)]⟩
abbrev j42:JT:=⟨kS [0,1,4,7,8,9,10] [],[(4,.keep),(7,.ob q67),(101002,.keep)]⟩
abbrev j43:fG:=.seq .nil (.seq (dS ⟨[(6,.sl iQ)],[]⟩ .nil) .nil)
abbrev j45:fG:=.meet zv ⟨kS [1,2] [(14,.sl iQ)],[(2,.keep)]⟩ .nil
abbrev j46:fG:=.seq j4 .nil
abbrev j47:JT:=⟨kS [0,4] [],kO [50000,50001,50002,50003,4,50004] []⟩
abbrev j50:fG:=.seq .nil j19
abbrev j51:fG:=.seq .nil (aI j21)
abbrev j52:fG:=.seq .nil j4
abbrev j10:fG:=.seq .nil j52
abbrev j54:JT:=⟨[],[(50000,.ob q34),(50001,.keep)]⟩
abbrev j55:JT:=⟨[(0,.sl q50)],[(100000,.ob q52)]⟩
def sg7:b_:={ bg:=2,pin:=⟨[(0,(.one q31)),(1,oJ)],[]⟩,aU:=⟨[(0,(.one (.box 14 0)))],[(14,(.box [q31,q0]))]⟩,bV:=1,bH:=[],aY:=[14] }
def an7:fG:=(aI (.seq (aI (dS ⟨[(0,.sl (.one q31))],[]⟩ .nil)) .nil))
def auR:b_:={ bg:=3,pin:=⟨[(0,q20),(1,oJ),(2,oJ)],[]⟩,aU:=⟨[(0,ajw),(1,iQ)],[]⟩,bV:=2,bH:=[],aY:=[] }
def auS:fG:=(aI (.seq (aI (.meet zj ⟨[(6,.keep)],[(6,.keep)]⟩ (.loop ⟨kS [1,2,6,11,12] [(13,.sl q9)],[(6,.keep)]⟩ (aI (aI (.seq (.seq (aI (.seq (dS ⟨kS [1,2,6,9,11,12,13] [(26,.sl iQ)],kO [6,9] []⟩ .nil) j0)) .nil) .nil)))))) .nil))
def auT:b_:={ bg:=2,pin:=⟨[(0,q20),(1,oJ)],[]⟩,aU:=⟨[(0,ajw),(1,iQ)],[]⟩,bV:=2,bH:=[],aY:=[] }
def auU:fG:=(aI (.seq (aI (.meet zj ⟨[(4,.keep)],[(4,.keep)]⟩ (.loop ⟨kS [1,2,4] [(6,.sl q9)],kO [2,4] []⟩ (.seq j0 (.seq (.seq (aI (.seq (dS ⟨kS [1,2,4,6,7] [(32,.sl iQ)],kO [2,4,7] []⟩ .nil) j0)) .nil) .nil))))) .nil))
def auV:b_:={ bg:=2,pin:=⟨[(0,q20),(1,oJ)],[]⟩,aU:=⟨[(0,q9),(1,iQ)],[]⟩,bV:=2,bH:=[],aY:=[] }
def auW:fG:=j1
def auX:b_:={ bg:=3,pin:=⟨[(0,q20),(1,oJ),(2,oJ)],[]⟩,aU:=⟨[(0,ajw),(1,iQ)],[]⟩,bV:=2,bH:=[],aY:=[] }
def auY:fG:=(aI (.seq (aI (.meet zj ⟨[(6,.keep)],[(6,.keep)]⟩ (.loop ⟨kS [1,2,3,6] [(8,.sl q9)],kO [3,6] []⟩ (.seq j0 (.seq (.seq (.seq (dS ⟨kS [1,2,3,6,8] [(33,.sl iQ)],kO [3,6] []⟩ .nil) j0) .nil) .nil))))) .nil))
def auZ:b_:={ bg:=2,pin:=⟨[(0,q76),(1,q76)],[]⟩,aU:=⟨[(0,iQ)],[]⟩,bV:=1,bH:=[],aY:=[] }
def au0:fG:=(aI (.seq j1 j31))
def aqr:b_:={ bg:=2,pin:=⟨[(0,q22),(1,oJ)],[(50000,GY)]⟩,aU:=⟨[(0,q9)],[(50000,q23)]⟩,bV:=1,bH:=[50000],aY:=[] }
def au1:fG:=(aI (.seq (.seq (dS ⟨kS [0,1] [(19,.sl iQ)],[(50000,.keep)]⟩ .nil) j0) j50))
def anK:b_:={ bg:=1,pin:=⟨[(0,(.one (.p zj zv (.sl (.st 3)))))],[]⟩,aU:=⟨[(0,q66)],[(60000,q75)]⟩,bV:=1,bH:=[],aY:=[60000] }
def au2:fG:=j19
def au3:b_:={ bg:=1,pin:=⟨[(0,oJ)],[]⟩,aU:=⟨[(0,(.one TN))],[]⟩,bV:=1,bH:=[],aY:=[] }
def au4:fG:=(aI (aI (.seq (.seq (dS ⟨kS [0,3] [(12,.sl iQ)],[(4,.keep)]⟩ .nil) j0) .nil)))
def au5:b_:={ bg:=1,pin:=⟨[(0,oJ)],[]⟩,aU:=⟨[(0,iQ)],[]⟩,bV:=1,bH:=[],aY:=[] }
def au6:fG:=(aI j8)
def au7:b_:={ bg:=2,pin:=⟨[(0,q24),(1,(.one (.p zj zv (.int .u8))))],[]⟩,aU:=⟨[(0,q9)],[]⟩,bV:=1,bH:=[],aY:=[] }
def au8:fG:=(aI (.seq (aI (.seq (aI (aI (aI (aI (aI (aI (aI (.meet zj ⟨[],[]⟩ j3)))))))) .nil)) .nil))
def au9:b_:={ bg:=3,pin:=⟨[(0,oJ),(1,q22),(2,(.one (.box 50001 0)))],[(50000,q53),(50001,(.box [q3]))]⟩,aU:=⟨[(0,iQ)],[(50000,q96),(50001,(.box [q0]))]⟩,bV:=1,bH:=[50000,50001],aY:=[] }
def au_:fG:=j0
def ava:b_:={ bg:=1,pin:=⟨[(0,q16)],[]⟩,aU:=⟨[(0,q50)],[(100000,q4)]⟩,bV:=1,bH:=[],aY:=[100000] }
def avb:fG:=(aI (aI (.seq (aI (dS ⟨[(3,.sl q50)],[(100000,.ob q4)]⟩ (.loop ⟨[(3,.sl q50),(7,.keep),(8,.sl q9)],[(100000,.ob q4)]⟩ j10))) .nil)))
def aqs:b_:={ bg:=1,pin:=⟨[(0,oJ)],[]⟩,aU:=⟨[(0,(.one TN))],[]⟩,bV:=1,bH:=[],aY:=[] }
def avc:fG:=j50
def avd:b_:={ bg:=3,pin:=⟨[(0,q22),(1,q21),(2,q16)],[(50000,GY)]⟩,aU:=⟨[(0,(.agg [q0,q0,q0,q0,q0,q0,(.own 60001)]))],[(50000,q23),(60001,q4)]⟩,bV:=1,bH:=[50000],aY:=[60001] }
def ave:fG:=(aI (aI (.seq (aI (.seq (aI (dS ⟨kS [0,4,6,7] [],lO [(50000,.ob q23)] (kO [4,6] [(7,.ob (.box [q0,q0,q0,q0,q0,q0,(.own 110004)])),(110004,.ob q4)])⟩ (aI (aI (dS ⟨kS [0,4,6,7] [],lO [(50000,.ob q23)] (kO [4,6] [(7,.ob (.box [q0,q0,q0,q0,q0,q0,(.own 109004)])),(109004,.ob q4)])⟩ (aI (aI (dS ⟨kS [0,4,6,7] [],lO [(50000,.ob q23)] (kO [4,6] [(7,.ob (.box [q0,q0,q0,q0,q0,q0,(.own 108004)])),(108004,.ob q4)])⟩ (aI (.seq (aI (dS ⟨kS [0,4,5,6,7,27] [(46,.sl iQ)],kO [50000,4,5,6,7] []⟩ .nil)) (dS ⟨kS [0,4,6,7] [],lO [(50000,.ob q23)] (kO [4,6] [(7,.ob (.box [q0,q0,q0,q0,q0,q0,(.own 107004)])),(107004,.ob q4)])⟩ (aI (aI (dS ⟨kS [0,4,6,7] [],lO [(50000,.ob q23)] (kO [4,6] [(7,.ob (.box [q0,q0,q0,q0,q0,q0,(.own 106004)])),(106004,.ob q4)])⟩ (.seq (aI (aI (dS ⟨kS [0,4,6,7] [],lO [(50000,.ob q23)] (kO [4,6] [(7,.ob (.box [q0,q0,q0,q0,q0,q0,(.own 101005)])),(101005,.ob q4)])⟩ (.loop ⟨kS [0,4,5,6,7] [(8,.sl q9)],lO [(50000,.ob q23)] (kO [4,5,6] [(7,.ob (.box [q0,q0,q0,q0,q0,q0,(.own 101005)])),(101005,.ob q4)])⟩ (.seq j0 j0))))) (aI (dS ⟨kS [0,4,6,7] [],lO [(50000,.ob q23)] (kO [4,6] [(7,.ob (.box [q0,q0,q0,q0,q0,q0,(.own 105004)])),(105004,.ob q4)])⟩ (.seq (aI (dS ⟨kS [0,4,6,7] [],lO [(50000,.ob q23)] (kO [4,6] [(7,.ob (.box [q0,q0,q0,q0,q0,q0,(.own 103005)])),(103005,.ob q4)])⟩ (.loop ⟨kS [0,4,5,6,7] [(9,.sl q9)],lO [(50000,.ob q23)] (kO [4,5,6] [(7,.ob (.box [q0,q0,q0,q0,q0,q0,(.own 103005)])),(103005,.ob q4)])⟩ (.seq j0 j0)))) .nil)))))))))))))))))) .nil)) (.seq (.seq (dS ⟨kS [0,4,6,7] [(107,.sl iQ)],lO [(50000,.ob q23)] (kO [4,6,7,110004] [])⟩ .nil) j0) .nil))))
def avf:b_:={ bg:=1,pin:=⟨[(0,q16)],[]⟩,aU:=⟨[(0,q37)],[(100001,q4)]⟩,bV:=1,bH:=[],aY:=[100001] }
def avg:fG:=(aI (aI (.seq (aI (.meet zv j41 (.loop j18 (.seq j0 j0)))) .nil)))
def anL:b_:={ bg:=1,pin:=⟨[(0,q76)],[]⟩,aU:=⟨[(0,q66)],[(60000,q7)]⟩,bV:=1,bH:=[],aY:=[60000] }
def avh:fG:=j19
def avi:b_:={ bg:=2,pin:=⟨[(0,q76),(1,q76)],[]⟩,aU:=⟨[(0,iQ)],[]⟩,bV:=1,bH:=[],aY:=[] }
def avj:fG:=(aI (.seq j1 (.seq (aI (.meet zj ⟨[],[]⟩ (.loop ⟨kS [0,1,12] [(13,.sl q9)],[]⟩ j51))) .nil)))
def avk:b_:={ bg:=3,pin:=⟨[(0,q54),(1,oJ),(2,oJ)],[(55000,q52)]⟩,aU:=⟨[(0,q50)],[(100000,q52)]⟩,bV:=1,bH:=[],aY:=[100000] }
def avl:fG:=(aI (.seq (aI (.meet zv j55 (.loop ⟨lS [(0,.sl q50)] (kS [1,8] [(9,.sl q9)]),[(100000,.ob q52)]⟩ j10))) .nil))
def avm:b_:={ bg:=1,pin:=⟨[(0,(.one q72))],[]⟩,aU:=⟨[(0,q9)],[]⟩,bV:=1,bH:=[],aY:=[] }
def avn:fG:=j19
def avo:b_:={ bg:=2,pin:=⟨[(0,q16),(1,q76)],[]⟩,aU:=⟨[(0,iQ)],[]⟩,bV:=1,bH:=[],aY:=[] }
def avp:fG:=(aI (.seq (.seq (dS ⟨[(1,.keep),(23,.sl iQ)],[]⟩ .nil) j0) (aI (.seq (aI (.meet zj ⟨[],[]⟩ (.loop ⟨kS [1,5] [(6,.sl q9)],[(26,.ob q44)]⟩ (.seq j0 (.seq (.seq (.seq (.seq (dS ⟨kS [1,5,6] [(55,.sl iQ)],[(26,.keep)]⟩ .nil) j0) .nil) .nil) .nil))))) .nil))))
def avq:b_:={ bg:=1,pin:=⟨[(0,q59)],[]⟩,aU:=⟨[(0,(.agg [q0,q0,q0,q0,q0,q0,q2,(.own 113002)]))],[(113002,q7)]⟩,bV:=1,bH:=[],aY:=[113002] }
def avr:fG:=(aI (aI (.seq (aI (.seq (.seq (aI (dS ⟨kS [1,2,3,8] [(9,.sl iQ)],kO [1,2,3] []⟩ .nil)) (dS ⟨kS [2,3] [],[(2,.keep),(3,.ob (.box [q1,q1,q1,q1,q1,q1,q2,(.own 113002)])),(113002,.ob q7)]⟩ (aI (aI (dS ⟨kS [2,3] [],[(2,.keep),(3,.ob (.box [q1,q1,q1,q1,q1,q1,q2,(.own 112002)])),(112002,.ob q7)]⟩ (aI (aI (dS ⟨kS [2,3] [],[(2,.keep),(3,.ob (.box [q1,q1,q1,q1,q1,q1,q2,(.own 111002)])),(111002,.ob q7)]⟩ (aI (aI (dS ⟨kS [2,3] [],[(2,.keep),(3,.ob (.box [q1,q1,q1,q1,q1,q1,q2,(.own 110002)])),(110002,.ob q7)]⟩ (aI (aI (dS ⟨kS [2,3] [],[(2,.keep),(3,.ob (.box [q1,q0,q1,q1,q1,q1,q2,(.own 109002)])),(109002,.ob q7)]⟩ (aI (aI (dS ⟨kS [2,3] [],[(2,.keep),(3,.ob (.box [q1,q0,q1,q1,q1,q1,q2,(.own 108002)])),(108002,.ob q7)]⟩ (aI (aI (dS ⟨kS [2,3] [],[(2,.keep),(3,.ob (.box [q1,q0,q1,q1,q1,q1,q2,(.own 107002)])),(107002,.ob q7)]⟩ (aI (aI (dS ⟨kS [2,3] [],[(2,.keep),(3,.ob (.box [q1,q0,q1,q1,q0,q1,q2,(.own 106002)])),(106002,.ob q7)]⟩ (aI (aI (dS ⟨kS [2,3] [],[(2,.keep),(3,.ob (.box [q1,q0,q1,q1,q0,q1,q2,(.own 105002)])),(105002,.ob q7)]⟩ (aI (aI (dS ⟨kS [2,3] [],[(2,.keep),(3,.ob (.box [q1,q0,q1,q1,q0,q1,q2,(.own 104002)])),(104002,.ob q7)]⟩ (aI (aI (dS ⟨kS [2,3] [],[(2,.keep),(3,.ob (.box [q1,q0,q1,q1,q0,q1,q2,(.own 103002)])),(103002,.ob q7)]⟩ (aI (aI (.meet zv j39 (aI (aI (.meet zv j39 .nil)))))))))))))))))))))))))))))))))))))) .nil)) .nil)))
def avs:b_:={ bg:=2,pin:=⟨[(0,q84),(1,oJ)],[]⟩,aU:=⟨[(0,q66)],[(60000,q39)]⟩,bV:=1,bH:=[],aY:=[60000] }
def avt:fG:=(aI (.seq (.seq (aI (aI (.seq j45 (.seq j3 j32)))) .nil) .nil))
def avu:b_:={ bg:=3,pin:=⟨[(0,oJ),(1,oJ),(2,oJ)],[]⟩,aU:=⟨[(0,iQ)],[]⟩,bV:=1,bH:=[],aY:=[] }
def avv:fG:=j43
def avw:b_:={ bg:=1,pin:=⟨[(0,oJ)],[]⟩,aU:=⟨[(0,iQ)],[]⟩,bV:=1,bH:=[],aY:=[] }
def avx:fG:=j0
def avy:b_:={ bg:=2,pin:=⟨[(0,q22),(1,oJ)],[(50000,(.box [q5,q3,(.p zv zj .bool)]))]⟩,aU:=⟨[(0,q9)],[(50000,(.box [q5,q0,q2]))]⟩,bV:=1,bH:=[50000],aY:=[] }
def avz:fG:=(aI (.seq (.seq (dS ⟨kS [0,1] [],[(50000,.ob (.box [q5,q3,q2]))]⟩ .nil) j1) (aI (.seq (aI (dS ⟨kS [0,1] [(5,.sl (.one q55))],[(50000,.keep)]⟩ (.loop ⟨kS [0,1] [(5,.sl (.one q55)),(32,.keep),(33,.sl q9)],[(50000,.keep)]⟩ j10))) j0))))
def avA:b_:={ bg:=2,pin:=⟨[(0,q22),(1,(.one q72))],[(50000,(.box [q5,q3,(.p zv zj .bool)]))]⟩,aU:=⟨[(0,q9)],[(50000,(.box [q5,q0,q2]))]⟩,bV:=1,bH:=[50000],aY:=[] }
def avC:fG:=j50
def avD:b_:={ bg:=1,pin:=⟨[(0,q24)],[]⟩,aU:=⟨[(0,iQ)],[]⟩,bV:=1,bH:=[],aY:=[] }
def avE:fG:=(aI (.seq (aI (.seq (aI (.seq j8 (aI (.seq j8 .nil)))) .nil)) .nil))
def avF:b_:={ bg:=1,pin:=⟨[(0,q24)],[]⟩,aU:=⟨[(0,iQ)],[]⟩,bV:=1,bH:=[],aY:=[] }
def avG:fG:=(aI (aI (.seq j2 j8)))
def avH:b_:={ bg:=2,pin:=⟨[(0,q21),(1,q63)],[]⟩,aU:=⟨[(0,q9)],[]⟩,bV:=1,bH:=[],aY:=[] }
def avI:fG:=(aI (aI (.seq (.seq (dS ⟨kS [2,3,5] [(24,.sl iQ)],kO [2,3] []⟩ .nil) j0) (aI (.seq (aI (.meet zj ⟨kS [2,3,5] [],kO [2,3] []⟩ (.loop ⟨kS [2,3,5,6] [(7,.sl q9)],kO [2,3] [(26,.ob q44)]⟩ (.seq j0 (.seq (.seq (aI (.seq (.seq (dS ⟨kS [2,3,5,6,7,8] [(49,.sl iQ)],kO [2,3,26] []⟩ .nil) j0) .nil)) .nil) .nil))))) (.seq (aI (.meet zj ⟨[],[]⟩ (.loop ⟨kS [2,3,5] [(9,.sl q9)],kO [2,3] []⟩ j13))) .nil))))))
def avJ:b_:={ bg:=2,pin:=⟨[(0,q22),(1,oJ)],[(50000,q26),(50001,q33)]⟩,aU:=⟨[(0,q9)],[(50000,(.box [q10,q12,(.p zv zj (.sl .str)),q0,q0,(.own 30),q0])),(30,q11)]⟩,bV:=1,bH:=[50000],aY:=[30] }
def avK:fG:=j6
def aqt:TypeId->Option Ty:=λt=>(([(1000069,(.prod (.st 0) .bool)),(3000009,.bool)]:List (Nat×Ty))++Dh).lookup t
def avL:b_:={ bg:=2,pin:=⟨[(0,q22),(1,q59)],[(50000,q26),(50001,q33)]⟩,aU:=⟨[],[(50000,q69),(50001,q11)]⟩,bV:=0,bH:=[50000,50001],aY:=[] }
def avM:fG:=.nil
def aqu:TypeId->Option Ty:=λt=>(([(1000069,(.prod (.st 0) .bool))]:List (Nat×Ty))++Dh).lookup t
def avN:b_:={ bg:=3,pin:=⟨[(0,q22),(1,oJ),(2,q84)],[(50000,q26),(50001,q33)]⟩,aU:=⟨[],[(50000,q69),(50001,q11)]⟩,bV:=0,bH:=[50000,50001],aY:=[] }
def avO:fG:=.nil
def aqv:TypeId->Option Ty:=λt=>(([(1000069,(.prod (.st 0) .bool))]:List (Nat×Ty))++Dh).lookup t
def avP:b_:={ bg:=1,pin:=⟨[(0,q59)],[]⟩,aU:=⟨[(0,(.agg [q0,q0,q0,q0,q0,q0,q2,(.own 113002)]))],[(113002,q7)]⟩,bV:=1,bH:=[],aY:=[113002] }
def avQ:fG:=(aI (aI (.seq (aI (.seq (aI (dS ⟨kS [2,3] [],[(2,.keep),(3,.ob (.box [q0,q1,q1,q1,q1,q1,q2,(.own 113002)])),(113002,.ob q7)]⟩ (aI (aI (dS ⟨kS [2,3] [],[(2,.keep),(3,.ob (.box [q0,q1,q1,q1,q1,q1,q2,(.own 112002)])),(112002,.ob q7)]⟩ (aI (aI (dS ⟨kS [2,3] [],[(2,.keep),(3,.ob (.box [q0,q1,q1,q1,q1,q1,q2,(.own 111002)])),(111002,.ob q7)]⟩ (aI (aI (dS ⟨kS [2,3] [],[(2,.keep),(3,.ob (.box [q0,q1,q1,q1,q1,q1,q2,(.own 110002)])),(110002,.ob q7)]⟩ (aI (aI (dS ⟨kS [2,3] [],[(2,.keep),(3,.ob (.box [q0,q0,q1,q1,q1,q1,q2,(.own 109002)])),(109002,.ob q7)]⟩ (aI (aI (dS ⟨kS [2,3] [],[(2,.keep),(3,.ob (.box [q0,q0,q1,q1,q1,q1,q2,(.own 108002)])),(108002,.ob q7)]⟩ (aI (aI (dS ⟨kS [2,3] [],[(2,.keep),(3,.ob (.box [q0,q0,q1,q1,q1,q1,q2,(.own 107002)])),(107002,.ob q7)]⟩ (aI (aI (dS ⟨kS [2,3] [],[(2,.keep),(3,.ob (.box [q0,q0,q1,q1,q1,q1,q2,(.own 106002)])),(106002,.ob q7)]⟩ (aI (aI (dS ⟨kS [2,3] [],[(2,.keep),(3,.ob (.box [q0,q0,q1,q1,q0,q1,q2,(.own 105002)])),(105002,.ob q7)]⟩ (aI (aI (dS ⟨kS [2,3] [],[(2,.keep),(3,.ob (.box [q0,q0,q1,q1,q0,q1,q2,(.own 104002)])),(104002,.ob q7)]⟩ (aI (aI (dS ⟨kS [2,3] [],[(2,.keep),(3,.ob (.box [q0,q0,q1,q1,q0,q1,q2,(.own 103002)])),(103002,.ob q7)]⟩ (aI (aI (dS ⟨kS [2,3] [],[(2,.keep),(3,.ob (.box [q0,q0,q1,q1,q0,q1,q2,(.own 102002)])),(102002,.ob q7)]⟩ (aI (aI (.meet zv j40 (aI (aI (.meet zv j40 .nil))))))))))))))))))))))))))))))))))))))))) .nil)) .nil)))
def avR:b_:={ bg:=2,pin:=⟨[(0,q84),(1,oJ)],[]⟩,aU:=⟨[(0,q66)],[(60000,q40)]⟩,bV:=1,bH:=[],aY:=[60000] }
def avS:fG:=(aI (aI (.seq (.seq (aI (aI (.seq (dS ⟨kS [1,2,5] [(19,.sl iQ)],kO [2,5] []⟩ .nil) (.seq j3 j32)))) .nil) j0)))
def avT:b_:={ bg:=1,pin:=⟨[(0,q24)],[]⟩,aU:=⟨[(0,iQ)],[]⟩,bV:=1,bH:=[],aY:=[] }
def avU:fG:=(aI (.seq (.seq (.seq (aI (.meet zv j37 (aI (.meet zv j37 .nil)))) (aI j32)) .nil) .nil))
def avV:b_:={ bg:=1,pin:=⟨[(0,q24)],[]⟩,aU:=⟨[(0,q37)],[(100001,q7)]⟩,bV:=1,bH:=[],aY:=[100001] }
def avW:fG:=(aI (aI (.seq (aI (dS ⟨[(3,.sl q37)],[(100001,.ob q7)]⟩ (.loop ⟨[(1,.keep),(3,.sl q37),(10,.keep)],[(1,.keep),(100001,.ob q7),(10,.ob .it)]⟩ (aI (aI (.seq (aI (aI (.seq (aI (dS ⟨[(1,.keep),(3,.sl (.one (.own 104001))),(10,.keep)],[(1,.keep),(104001,.ob q7),(10,.keep)]⟩ (aI (aI (dS ⟨[(1,.keep),(3,.sl (.one (.own 103001))),(10,.keep)],[(1,.keep),(103001,.ob q7),(10,.keep)]⟩ (aI (aI (dS ⟨[(1,.keep),(3,.sl q95),(10,.keep)],[(1,.keep),(102001,.ob q7),(10,.keep)]⟩ (aI (aI (dS ⟨[(1,.keep),(3,.sl q70),(10,.keep)],[(1,.keep),(101001,.ob q7),(10,.keep)]⟩ .nil))))))))))) .nil))) .nil)))))) .nil)))
def avX:b_:={ bg:=1,pin:=⟨[(0,oJ)],[]⟩,aU:=⟨[(0,iQ)],[]⟩,bV:=1,bH:=[],aY:=[] }
def avY:fG:=j0
def avZ:b_:={ bg:=1,pin:=⟨[(0,q24)],[]⟩,aU:=⟨[(0,iQ)],[]⟩,bV:=1,bH:=[],aY:=[] }
def av1:fG:=(aI (aI (.seq j2 .nil)))
def av2:b_:={ bg:=1,pin:=⟨[(0,oJ)],[]⟩,aU:=⟨[(0,iQ)],[]⟩,bV:=1,bH:=[],aY:=[] }
def av3:fG:=(aI j8)
def av4:b_:={ bg:=3,pin:=⟨[(0,q54),(1,oJ),(2,oJ)],[(55000,q52)]⟩,aU:=⟨[(0,q50)],[(100000,q52)]⟩,bV:=1,bH:=[],aY:=[100000] }
def av5:fG:=(aI (.seq (aI (.meet zv j55 (.loop ⟨lS [(0,.sl q50)] (kS [1,2] [(7,.sl q9)]),[(100000,.ob q52)]⟩ (.seq j0 j0)))) .nil))
def aqw:b_:={ bg:=2,pin:=⟨[(0,q54),(1,(.one q46))],[(55000,yG)]⟩,aU:=⟨[(0,q50)],[(100000,q57)]⟩,bV:=1,bH:=[],aY:=[100000] }
def av6:fG:=(aI (.seq (aI (dS ⟨[(0,.sl q50)],[(100000,.ob q57)]⟩ (.loop ⟨[(0,.sl q50),(1,.keep),(5,.sl q9)],[(100000,.ob q57)]⟩ (.seq j0 (.seq (.seq (.seq (aI (dS ⟨lS [(0,.sl (.one (.own 101000)))] (kS [1,5] []),[(101000,.ob q57)]⟩ .nil)) .nil) .nil) .nil))))) .nil))
def av7:b_:={ bg:=2,pin:=⟨[(0,q47),(1,(.one Yp))],[]⟩,aU:=⟨[(0,q9)],[]⟩,bV:=1,bH:=[],aY:=[] }
def av8:fG:=j25
def av9:b_:={ bg:=2,pin:=⟨[(0,q47),(1,(.one Yp))],[]⟩,aU:=⟨[(0,q9)],[]⟩,bV:=1,bH:=[],aY:=[] }
def av_:fG:=j25
def aqx:b_:={ bg:=1,pin:=⟨[(0,(.one q46))],[]⟩,aU:=⟨[(0,q9)],[]⟩,bV:=1,bH:=[],aY:=[] }
def awc:fG:=(aI (aI (.seq (aI (dS ⟨[(3,.sl q9)],[]⟩ (.loop ⟨[(0,.keep),(3,.sl q9),(4,.sl q9)],[]⟩ (.seq j0 j0)))) .nil)))
def aqy:b_:={ bg:=2,pin:=⟨[(0,(.one q90)),(1,(.one Yp))],[]⟩,aU:=⟨[(0,iQ)],[]⟩,bV:=1,bH:=[],aY:=[] }
def aqz:fG:=(aI j31)
def aqA:b_:={ bg:=2,pin:=⟨[(0,q47),(1,(.one Yp))],[]⟩,aU:=⟨[(0,q9)],[]⟩,bV:=1,bH:=[],aY:=[] }
def aqB:fG:=(aI (.seq (aI (aI (.seq j3 .nil))) j3))
def aqC:b_:={ bg:=1,pin:=⟨[(0,q84)],[]⟩,aU:=⟨[(0,q66)],[(60000,q7)]⟩,bV:=1,bH:=[],aY:=[60000] }
def aqD:fG:=(aI (.seq (.seq (.seq (.meet zv j37 .nil) (aI (.seq (dS ⟨[(1,.keep),(19,.sl iQ)],[(1,.keep)]⟩ .nil) j0))) .nil) .nil))
def aqE:b_:={ bg:=2,pin:=⟨[(0,q76),(1,(.one (.fn 90 [])))],[]⟩,aU:=⟨[(0,q9)],[]⟩,bV:=1,bH:=[],aY:=[] }
def aqF:fG:=(aI (.seq (aI (.meet zj ⟨[],[]⟩ (.loop ⟨kS [0,1,7] [(8,.sl q9)],[]⟩ j51))) .nil))
def aqG:b_:={ bg:=2,pin:=⟨[(0,q22),(1,(.one Yp))],[(50000,q26),(50001,q33)]⟩,aU:=⟨[(0,q9)],[(50000,q69),(50001,q33)]⟩,bV:=1,bH:=[50000,50001],aY:=[],kept:=[50001] }
def aqH:fG:=(aI (.seq (aI (.meet zj ⟨[],kO [50000,50001] []⟩ (.loop ⟨kS [0,1] [(5,.sl q9)],kO [50000,50001] []⟩ j13))) .nil))
def anM:TypeId->Option Ty:=λt=>(([(1000069,(.prod (.st 0) .bool)),(3000010,.bool)]:List (Nat×Ty))++Dh).lookup t
def aqI:b_:={ bg:=1,pin:=⟨[(0,q16)],[]⟩,aU:=⟨[(0,q9)],[]⟩,bV:=1,bH:=[],aY:=[] }
def aqJ:fG:=j26
def aqK:b_:={ bg:=2,pin:=⟨[(0,q16),(1,q84)],[]⟩,aU:=⟨[(0,q9)],[]⟩,bV:=1,bH:=[],aY:=[] }
def aqL:fG:=(aI (.seq (.seq (dS ⟨kS [2,3] [(14,.sl iQ)],kO [2,3] []⟩ .nil) j0) (.seq (.seq (dS ⟨kS [2,3] [(29,.sl iQ)],kO [2,3] []⟩ .nil) j0) (aI (.seq (aI (.meet zj ⟨[],[]⟩ (.loop ⟨kS [2,5] [(6,.sl q9)],kO [2,31] []⟩ (.seq j0 (.seq (.seq (.seq (dS ⟨kS [2,5,6] [(52,.sl iQ)],kO [2,31] []⟩ .nil) j0) .nil) .nil))))) .nil)))))
def alF:b_:={ bg:=1,pin:=⟨[(0,q38)],[]⟩,aU:=⟨[(0,q9)],[]⟩,bV:=1,bH:=[],aY:=[] }
def aqM:fG:=j26
def aqN:b_:={ bg:=3,pin:=⟨[(0,q22),(1,oJ),(2,oJ)],[(50000,q32),(50001,yG)]⟩,aU:=⟨[],[(50000,q34),(50001,yG)]⟩,bV:=0,bH:=[50000,50001],aY:=[],kept:=[50001] }
def aqO:fG:=(aI (dS ⟨[],[(50000,.ob (.box [q10,q12,(.own 50001),(.p zj zj (.int .i64)),(.p zj zj (.int .i64))])),(50001,.keep)]⟩ .nil))
def aqP:b_:={ bg:=2,pin:=⟨[(0,q22),(1,(.one Yp))],[(50000,q32),(50001,yG)]⟩,aU:=⟨[(0,q9)],[(50000,q34),(50001,yG)]⟩,bV:=1,bH:=[50000,50001],aY:=[],kept:=[50001] }
def aqQ:fG:=j19
def alG:b_:={ bg:=3,pin:=⟨[(0,q22),(1,q38),(2,oJ)],[(50000,q26),(50001,q33)]⟩,aU:=⟨[],[(50000,q71),(60001,q11)]⟩,bV:=0,bH:=[50000],aY:=[60001] }
def aqR:fG:=(aI (aI (.seq (.seq (dS ⟨kS [0,2,4] [(24,.sl iQ)],kO [50000,4,50001] []⟩ .nil) j0) (aI (aI (.seq (aI (.meet zv j5 (aI (aI (.meet zv j5 (aI (aI (.meet zv j5 (aI (aI (.meet zv j5 (aI (aI (.meet zv j5 (aI (aI (.meet zv j5 (aI (aI (.meet zv j5 (aI (aI (.meet zv j5 (aI (aI (.meet zv j5 (aI (aI (.meet zv j5 .nil))))))))))))))))))))))))))))) .nil))))))
def anN:TypeId->Option Ty:=λt=>(([(1000069,(.prod (.st 0) .bool))]:List (Nat×Ty))++Dh).lookup t
def alH:b_:={ bg:=3,pin:=⟨[(0,q22),(1,q38),(2,oJ)],[(50000,q26),(50001,q33)]⟩,aU:=⟨[],[(50000,(.box [VX,q13,q25,q0,q0,(.own 61),q0])),(61,q11)]⟩,bV:=0,bH:=[50000],aY:=[61] }
def aqS:fG:=(aI (aI (aI (aI (aI (aI (aI (aI (aI (aI (aI (aI (aI (.seq (aI (dS ⟨kS [0,10,11,12] [],[(50000,.ob (.box [VX,q13,q25,q0,q0,(.own 61),q0])),(61,.ob q11)]⟩ .nil)) .nil))))))))))))))
def anO:TypeId->Option Ty:=λt=>(([(1000069,(.prod (.st 0) .bool))]:List (Nat×Ty))++Dh).lookup t
def alI:b_:={ bg:=3,pin:=⟨[(0,q22),(1,(.one q58)),(2,oJ)],[(50000,q26),(50001,q33)]⟩,aU:=⟨[(0,q37)],[(50000,(.box [VX,q13,q25,q0,q0,(.own 100002),q0])),(100001,q4),(100002,q11)]⟩,bV:=1,bH:=[50000],aY:=[100001,100002] }
def aqT:fG:=(aI (aI (.seq (aI (dS ⟨[(7,.sl q37)],[(50000,.ob q45),(100001,.ob q4),(100002,.ob q11)]⟩ (.loop ⟨kS [0,1,2] [(7,.sl q37),(8,.sl q9)],[(50000,.ob q45),(100001,.ob q4),(100002,.ob q11)]⟩ (.seq j0 j4)))) .nil)))
def anP:TypeId->Option Ty:=λt=>(([(1000069,(.prod (.st 0) .bool))]:List (Nat×Ty))++Dh).lookup t
def aqU:b_:={ bg:=1,pin:=⟨[(0,q59)],[]⟩,aU:=⟨[(0,q66)],[(60000,q7)]⟩,bV:=1,bH:=[],aY:=[60000] }
def aqV:fG:=(aI (.seq (aI (.seq (.seq (aI (.meet zv j23 (aI (aI (.meet zv j23 (aI (aI (.meet zv j23 (aI (aI (.meet zv j23 .nil))))))))))) (aI (.seq (aI (dS ⟨kS [1,4] [(14,.sl iQ)],[(1,.keep)]⟩ .nil)) (aI j32)))) .nil)) .nil))
def aqW:b_:={ bg:=1,pin:=⟨[(0,q59)],[]⟩,aU:=⟨[(0,q9),(1,iQ)],[]⟩,bV:=2,bH:=[],aY:=[] }
def aqX:fG:=(aI (.seq (aI (.seq (.seq (aI (.meet zv j38 (aI (aI (.meet zv j38 (aI (aI (.meet zv j38 .nil)))))))) j0) .nil)) (.seq (.seq (.meet zv j35 .nil) j0) .nil)))
def aqY:b_:={ bg:=3,pin:=⟨[(0,q21),(1,oJ),(2,(.one q72))],[]⟩,aU:=⟨[(0,iQ)],[]⟩,bV:=1,bH:=[],aY:=[] }
def aqZ:fG:=j43
def aq0:b_:={ bg:=4,pin:=⟨[(0,q22),(1,q38),(2,oJ),(3,oJ)],[(50000,q32),(50001,yG)]⟩,aU:=⟨[],[(50000,q34),(50001,yG)]⟩,bV:=0,bH:=[50000,50001],aY:=[],kept:=[50001] }
def aq1:fG:=(aI (aI (.seq (aI (.meet zv j54 (aI (.seq (dS ⟨kS [0,5] [(20,.sl iQ)],kO [50000,50001,5] []⟩ .nil) (.meet zv j54 .nil))))) .nil)))
def aq2:b_:={ bg:=3,pin:=⟨[(0,q22),(1,(.one Yp)),(2,oJ)],[(50000,q32),(50001,yG)]⟩,aU:=⟨[(0,(.agg [q0,q0,q0,q0,TN,.dD]))],[(50000,q34),(50001,yG)]⟩,bV:=1,bH:=[50000,50001],aY:=[],kept:=[50001] }
def aq3:fG:=(aI (aI (.seq (aI (dS ⟨kS [1,2,6] [(7,.sl q9)],kO [50000,50001,6] []⟩ .nil)) .nil)))
def alJ:b_:={ bg:=2,pin:=⟨[(0,q22),(1,q38)],[(50000,q32),(50001,yG)]⟩,aU:=⟨[(0,(.agg [q0,q0,q0,q0,TN,(.own 60002)]))],[(50000,q34),(50001,yG),(60002,q68)]⟩,bV:=1,bH:=[50000,50001],aY:=[60002],kept:=[50001] }
def aq4:fG:=(aI (.seq (aI (.seq (aI (.seq j0 (aI (.meet zj j11 (aI (aI (.meet zj j11 (aI (aI (.meet zj j11 (.seq (aI (.seq (aI (.meet zj j14 (aI (aI (.meet zj j14 (aI (aI (.seq (aI (.meet zv j14 .nil)) (.seq (aI (.meet zv j14 .nil)) .nil))))))))) .nil)) (aI (.meet zv j11 (.seq (aI (.meet zv j11 .nil)) .nil)))))))))))))) .nil)) j0))
def alK:b_:={ bg:=2,pin:=⟨[(0,q22),(1,(.one q58))],[(50000,q32),(50001,yG)]⟩,aU:=⟨[(0,q77)],[(50000,q34),(50001,yG),(100002,q68)]⟩,bV:=1,bH:=[50000,50001],aY:=[100002],kept:=[50001] }
def aq5:fG:=(aI (aI (.seq (aI (dS ⟨[(5,.sl q77)],[(50000,.ob q32),(50001,.keep),(100002,.ob q68)]⟩ (.loop ⟨kS [0,1] [(5,.sl q77),(6,.sl q9)],[(50000,.ob q32),(50001,.keep),(100002,.ob q68)]⟩ (.seq j0 j0)))) .nil)))
def aq6:b_:={ bg:=3,pin:=⟨[(0,oJ),(1,(.one Yp)),(2,q38)],[]⟩,aU:=⟨[(0,(.agg [q0,q0,TN,(.own 10),.dD,.dD]))],[(10,(.arr zv zj zv (.st 17)))]⟩,bV:=1,bH:=[],aY:=[10] }
def aq7:fG:=j0
def aq8:b_:={ bg:=2,pin:=⟨[(0,q22),(1,(.one q72))],[(50000,q14),(50001,GY),(50002,NS),(50003,q30),(50004,yG)]⟩,aU:=⟨[(0,(.one TN)),(1,iQ)],[(50000,q48),(50001,q23),(50002,NS),(50003,q30),(50004,yG)]⟩,bV:=2,bH:=[50000,50001,50002,50003,50004],aY:=[],kept:=[50002,50003,50004] }
def aq9:fG:=(aI (aI (.seq (aI (dS ⟨[(0,.keep),(6,.sl (.one (.own 100005)))],kO [50000,50001,50002,50003,50004] [(100005,.ob yG)]⟩ (.loop ⟨kS [0,1] [(6,.sl (.one (.own 100005))),(7,.sl q9)],kO [50000,50001,50002,50003,50004] [(100005,.ob yG)]⟩ (.seq j0 (.seq (.seq (aI (dS ⟨kS [0,1] [(6,.sl (.one (.own 101005))),(7,.keep)],kO [50000,50001,50002,50003,50004] [(101005,.ob yG)]⟩ .nil)) .nil) .nil))))) j3)))
def aq_:b_:={ bg:=0,pin:=⟨[],[]⟩,aU:=⟨[(0,(.one (.own 1)))],[(1,q85)]⟩,bV:=1,bH:=[],aY:=[1] }
def ara:fG:=j0
def arb:b_:={ bg:=1,pin:=⟨[(0,q22)],[(50000,q14),(50001,GY),(50002,NS),(50003,q30),(50004,yG)]⟩,aU:=⟨[(0,(.agg [q0,q0,q0,q0,TN,.dD]))],[(50000,q48),(50001,q23),(50002,NS),(50003,q30),(50004,yG)]⟩,bV:=1,bH:=[50000,50001,50002,50003,50004],aY:=[],kept:=[50002,50003,50004] }
def ard:fG:=(aI (aI (.seq (aI (.seq (aI (aI (aI (.meet zj ⟨kS [2,3] [],lO [(50000,.ob q14),(50001,.ob q23)] (kO [50002,50003,50004,2] [])⟩ (.seq j6 (.seq (aI (dS ⟨kS [0,2,3] [(26,.sl iQ)],kO [50000,50001,50002,50003,50004,2] []⟩ .nil)) (.meet zj ⟨kS [2,3] [],kO [50000,50001,50002,50003,50004,2] []⟩ j3))))))) .nil)) (aI (.seq (aI (dS ⟨[(2,.keep),(6,.sl q9)],lO [(50000,.keep),(50001,.ob q23)] (kO [50002,50003,50004,2] [])⟩ .nil)) .nil)))))
def arf:b_:={ bg:=3,pin:=⟨[(0,oJ),(1,oJ),(2,(.one q58))],[]⟩,aU:=⟨[(0,(.agg [q0,q0,q0,q0,TN,q58]))],[]⟩,bV:=1,bH:=[],aY:=[] }
def arh:fG:=j0
def awd:b_:={ bg:=1,pin:=⟨[(0,q21)],[]⟩,aU:=⟨[(0,(.agg [(.own 100002),(.own 100003)]))],[(100002,q4),(100003,q42)]⟩,bV:=1,bH:=[],aY:=[100002,100003] }
def awe:fG:=(aI (aI (.seq (aI (dS ⟨kS [2,3] [],[(2,.keep),(3,.ob (.box [(.own 100002),(.own 100003)])),(100002,.ob q4),(100003,.ob q42)]⟩ (.loop ⟨kS [2,3,7,8] [(9,.sl q9)],[(2,.keep),(3,.ob (.box [(.own 100002),(.own 100003)])),(100002,.ob q4),(100003,.ob q42)]⟩ (aI (aI j46))))) .nil)))
def awf:b_:={ bg:=1,pin:=⟨[(0,q21)],[]⟩,aU:=⟨[(0,(.agg [(.own 100003),(.own 100004)]))],[(100003,q4),(100004,q42)]⟩,bV:=1,bH:=[],aY:=[100003,100004] }
def awg:fG:=(aI (aI (.seq (aI (dS ⟨kS [2,3] [],[(2,.keep),(3,.ob (.box [(.own 100003),(.own 100004)])),(100003,.ob q4),(100004,.ob q42)]⟩ (.loop ⟨kS [1,2,3] [(4,.sl q9)],kO [1,2] [(3,.ob (.box [(.own 100003),(.own 100004)])),(100003,.ob q4),(100004,.ob q42)]⟩ (.seq j0 j4)))) .nil)))
def awh:b_:={ bg:=2,pin:=⟨[(0,q22),(1,q16)],[(50000,GY)]⟩,aU:=⟨[(0,(.one (.own 9)))],[(50000,q23),(9,q4)]⟩,bV:=1,bH:=[50000],aY:=[9] }
def awi:fG:=(aI (aI (.seq (aI (dS ⟨[(5,.keep)],[(50000,.ob GY),(9,.ob q4)]⟩ (.loop ⟨kS [0,5] [(6,.sl q9)],[(50000,.ob GY),(9,.ob q4)]⟩ (.seq j0 j4)))) .nil)))
def awj:b_:={ bg:=2,pin:=⟨[(0,oJ),(1,(.one (.fn 43 [50000,50001])))],[(50000,q53),(50001,(.box [q3]))]⟩,aU:=⟨[(0,q9)],[(50000,q96),(50001,(.box [q0]))]⟩,bV:=1,bH:=[50000,50001],aY:=[] }
def awk:fG:=(aI (aI (.seq (dS ⟨[(5,.sl q9)],[(50000,.ob q53),(50001,.ob (.box [q3]))]⟩ (.loop ⟨[(1,.keep),(5,.sl q9),(6,.sl oJ)],[(50000,.ob q53),(50001,.ob (.box [q3]))]⟩ (.seq j0 (.seq (aI (aI (dS ⟨[(1,.keep),(5,.sl q9),(6,.sl oJ)],kO [50000,50001] []⟩ .nil))) .nil)))) .nil)))
def awl:b_:={ bg:=2,pin:=⟨[(0,q16),(1,q76)],[]⟩,aU:=⟨[(0,q37),(1,q77)],[(100001,q40),(100002,q4)]⟩,bV:=2,bH:=[],aY:=[100001,100002] }
def awm:fG:=(aI (aI (aI (.seq (aI (dS ⟨[(6,.sl q37),(7,.sl q77)],[(100001,.ob q40),(100002,.ob q4)]⟩ (.loop ⟨kS [1,2] (lS [(6,.sl q37),(7,.sl q77)] (kS [13,14] [(15,.sl q9)])),[(2,.keep),(100001,.ob q40),(100002,.ob q4)]⟩ (aI (aI (.seq (.seq (aI (aI (.seq (aI (dS ⟨kS [1,2] (lS [(6,.sl q70)] (kS [7,8,9,13,14,15] [])),[(2,.keep),(101001,.ob q40),(24,.keep)]⟩ (.loop ⟨kS [1,2] (lS [(6,.sl q70)] (kS [7,8,9,13,14,15,30,31] [(32,.sl q9)])),[(2,.keep),(101001,.ob q40),(24,.keep)]⟩ j10))) (aI (.seq (aI (dS ⟨kS [1,2,6,7,9] (lS [(12,.sl oJ)] (kS [13,14,15] [])),kO [2,101001,24] []⟩ .nil)) .nil))))) .nil) .nil)))))) .nil))))
def awn:b_:={ bg:=1,pin:=⟨[(0,q24)],[]⟩,aU:=⟨[(0,iQ)],[]⟩,bV:=1,bH:=[],aY:=[] }
def awo:fG:=(aI (aI (.seq (aI (.meet zj ⟨[],[]⟩ (.loop ⟨kS [1,3] [(4,.sl q9)],[(1,.keep)]⟩ (.seq j0 (.seq (.seq (aI (.seq (aI (.meet zj j22 (.seq j1 (aI (.meet zj j22 (.seq j1 (aI (.meet zj j22 (.seq j1 (aI (.meet zj j22 (.seq (.seq (aI (.meet zj j22 (.loop ⟨kS [1,3,4] [(5,.sl q9)],[(1,.keep)]⟩ j13))) j1) .nil)))))))))))) .nil)) .nil) .nil))))) .nil)))
def awp:b_:={ bg:=1,pin:=⟨[(0,(.agg [Yp,q1,q90,q46]))],[]⟩,aU:=⟨[(0,(.one (.own 8)))],[(8,(.arr zv zj zv .str))]⟩,bV:=1,bH:=[],aY:=[8] }
def awq:fG:=j0
def ari:b_:={ bg:=2,pin:=⟨[(0,q22),(1,(.one q46))],[(50000,q26),(50001,q33)]⟩,aU:=⟨[(0,iQ)],[(50000,q71),(60001,q11)]⟩,bV:=1,bH:=[50000],aY:=[60001] }
def awr:fG:=(aI (.seq (aI (.meet zj ⟨[],[(50000,.ob (.box [VX,q13,q25,q3,q3,(.own 100001),q3])),(100001,.ob q11)]⟩ (.loop ⟨kS [0,1] [(5,.sl q9)],[(50000,.ob (.box [VX,q13,q25,q3,q3,(.own 100001),q3])),(100001,.ob q11)]⟩ j13))) .nil))
def arj:TypeId->Option Ty:=λt=>(([(1000069,(.prod (.st 0) .bool))]:List (Nat×Ty))++Dh).lookup t
def ark:b_:={ bg:=2,pin:=⟨[(0,q22),(1,q98)],[(50000,q26),(50001,q33)]⟩,aU:=⟨[(0,iQ)],[(50000,q71),(60001,q11)]⟩,bV:=1,bH:=[50000],aY:=[60001] }
def awt:fG:=(aI (aI (.seq j52 (.seq (aI (dS ⟨kS [0,3,5] [],[(50000,.ob q45),(3,.keep),(100002,.ob q11)]⟩ (.loop ⟨kS [0,3,5] [(6,.sl q9)],[(50000,.ob q45),(3,.keep),(100002,.ob q11)]⟩ (.seq j0 j0)))) (.seq (aI (.seq (.seq (aI (dS ⟨kS [0,3,5,38] [(39,.sl iQ)],kO [50000,3,100002] []⟩ .nil)) (.meet zj j34 (.seq (aI (aI (dS ⟨[],[(50000,.ob (.box [VX,q13,q25,q0,q0,(.own 100002),q0])),(100002,.ob q11)]⟩ .nil))) (aI (.meet zj j34 (aI (aI (.seq j0 (aI (.meet zj j34 j6)))))))))) .nil)) .nil)))))
def arl:TypeId->Option Ty:=λt=>(([(1000069,(.prod (.st 0) .bool)),(3000022,.bool),(3000011,.bool)]:List (Nat×Ty))++Dh).lookup t
def alL:b_:={ bg:=3,pin:=⟨[(0,q22),(1,q98),(2,oJ)],[(50000,q26),(50001,q33)]⟩,aU:=⟨[],[(50000,(.box [VX,q13,q25,q0,q0,(.own 57),q0])),(57,q11)]⟩,bV:=0,bH:=[50000],aY:=[57] }
def arn:fG:=(aI (aI (aI (aI (aI (aI (aI (.seq (aI (dS ⟨kS [0,2,4,8,9] [],[(50000,.ob (.box [VX,q13,q25,q0,q0,(.own 41),q0])),(4,.keep),(41,.ob q11)]⟩ .nil)) .nil))))))))
def anQ:TypeId->Option Ty:=λt=>(([(1000069,(.prod (.st 0) .bool))]:List (Nat×Ty))++Dh).lookup t
def alM:b_:={ bg:=3,pin:=⟨[(0,q22),(1,q98),(2,oJ)],[(50000,q26),(50001,q33)]⟩,aU:=⟨[(0,iQ)],[(50000,q71),(60001,q11)]⟩,bV:=1,bH:=[50000],aY:=[60001] }
def aro:fG:=(aI (aI (aI (aI (aI (.seq (aI (.seq (aI (aI (.seq (aI (dS ⟨[],[(50000,.ob (.box [VX,q13,q25,q0,q0,(.own 39),q0])),(39,.ob q11)]⟩ .nil)) .nil))) .nil)) (aI (aI (aI (aI (.seq (.seq (dS ⟨kS [0,4,9,10,13,14] [(77,.sl iQ)],kO [50000,4,67] []⟩ .nil) j0) (aI (.seq (aI (dS ⟨kS [0,13,14,15] [],[(50000,.ob (.box [VX,q13,q25,q0,q0,(.own 81),q0])),(81,.ob q11)]⟩ .nil)) (.seq (aI (dS ⟨[],[(50000,.ob (.box [VX,q13,q25,q0,q0,(.own 81),q0])),(81,.ob q11)]⟩ .nil)) .nil))))))))))))))
def anR:TypeId->Option Ty:=λt=>(([(1000069,(.prod (.st 0) .bool)),(3000033,.bool)]:List (Nat×Ty))++Dh).lookup t
def awu:b_:={ bg:=1,pin:=⟨[(0,q16)],[]⟩,aU:=⟨[(0,(.one (.own 11)))],[(11,q44)]⟩,bV:=1,bH:=[],aY:=[11] }
def awv:fG:=(aI (aI (.seq j1 (aI (aI (.seq (dS ⟨[(3,.keep)],[(11,.ob q44)]⟩ (.loop ⟨kS [1,3] [(4,.sl q77)],[(1,.keep),(11,.ob q44),(100002,.ob q7)]⟩ (.seq j0 (.seq (aI (aI (aI (aI (dS ⟨kS [1,3] [(4,.sl (.one (.own 101002)))],[(1,.keep),(11,.ob q44),(101002,.ob q7)]⟩ (.loop ⟨kS [1,3] [(4,.sl (.one (.own 101002))),(6,.keep),(7,.sl q9)],[(1,.keep),(11,.ob q44),(101002,.ob q7),(39,.keep)]⟩ (.seq j0 (.seq (.seq (aI (dS ⟨kS [1,3] (lS [(4,.sl (.one (.own 102002)))] (kS [6,7] [])),[(1,.keep),(11,.ob q44),(102002,.ob q7),(39,.keep)]⟩ j0)) .nil) .nil)))))))) .nil)))) .nil))))))
def arp:TypeId->Option Ty:=λt=>(([(2000000,.bool)]:List (Nat×Ty))++Dh).lookup t
def aww:b_:={ bg:=2,pin:=⟨[(0,q76),(1,(.one (.fn 90 [])))],[]⟩,aU:=⟨[(0,iQ)],[]⟩,bV:=1,bH:=[],aY:=[] }
def awx:fG:=j0
def alN:b_:={ bg:=2,pin:=⟨[(0,q22),(1,(.one q46))],[(50000,q32),(50001,yG)]⟩,aU:=⟨[(0,q37)],[(50000,q61),(100001,anI),(100002,q57)]⟩,bV:=1,bH:=[50000],aY:=[100001,100002] }
def arq:fG:=(aI (aI (.seq (aI (dS ⟨[(5,.sl q37)],[(50000,.ob q62),(100001,.ob anI),(100002,.ob q57)]⟩ (.loop ⟨kS [0,1] [(5,.sl q37),(6,.sl q9)],[(50000,.ob q62),(100001,.ob anI),(100002,.ob q57)]⟩ (.seq j0 (.seq (.seq (aI (aI (.seq (aI (dS ⟨kS [0,1,5,6,7] [(8,.sl (.one (.own 101003)))],lO [(50000,.ob q62)] (kO [100001,7] [(101003,.ob q68),(100002,.keep)])⟩ (.loop ⟨kS [0,1,5,6,7] [(8,.sl (.one (.own 101003))),(9,.sl q9)],lO [(50000,.ob q62)] (kO [100001,7] [(101003,.ob q68),(100002,.keep)])⟩ (.seq j0 (.seq (.seq (.seq (aI (dS ⟨kS [0,1,5,6,7,8,9] [],lO [(50000,.ob q62)] (kO [100001,7,101003,100002] [])⟩ .nil)) .nil) .nil) .nil))))) (aI (aI (.seq (aI (.seq (aI (dS ⟨kS [0,1,5,6,7] [],lO [(50000,.ob (.box [VX,q13,(.own 110003),q0,q0]))] (kO [100001,7] [(110003,.ob q57),(101003,.keep)])⟩ (.seq (.seq (aI (.meet zv j12 .nil)) .nil) (.seq (aI (dS ⟨kS [0,1,5,6,7,10] [(80,.sl iQ)],kO [50000,100001,7,100002,101003] []⟩ .nil)) (.meet zv j12 (.seq (aI (.meet zv j12 (aI (.seq (dS ⟨kS [0,1,5,6,7] [(108,.sl iQ)],kO [50000,100001,7,100002,101003] []⟩ .nil) (.meet zv j12 .nil))))) .nil)))))) .nil)) j0)))))) .nil) .nil))))) .nil)))
def ars:b_:={ bg:=3,pin:=⟨[(0,q21),(1,q16),(2,q59)],[]⟩,aU:=⟨[(0,q9)],[]⟩,bV:=1,bH:=[],aY:=[] }
def aru:fG:=(aI (.seq (.seq (dS ⟨kS [3,4,5] [(48,.sl iQ)],kO [3,4,5] []⟩ .nil) j0) (aI (.seq (aI (aI (dS ⟨kS [3,4,5] [(7,.sl (.one (.own 101003)))],kO [3,4,5] [(101003,.ob q7)]⟩ .nil))) (.seq (aI (.meet zj ⟨kS [3,5] [],kO [3,5] []⟩ (.loop ⟨kS [3,4,5,7] [(10,.sl q9)],kO [3,4,5,101003] []⟩ (.seq j0 (.seq (.seq (.seq (dS ⟨kS [3,4,5,7,10] [(80,.sl iQ)],kO [3,4,5,101003] []⟩ .nil) j0) .nil) .nil))))) (.seq (aI (.seq (.seq (aI (dS ⟨kS [3,5,82] [(83,.sl iQ)],kO [3,5] []⟩ .nil)) (.meet zj ⟨[],[]⟩ (.seq j1 (.seq (aI (dS ⟨kS [3,5,82] [(91,.sl iQ)],kO [3,5] []⟩ .nil)) (.meet zj ⟨[],[]⟩ (.seq j1 (aI (.meet zj ⟨[],[]⟩ (.seq (.seq (.seq (dS ⟨kS [3,5] [(111,.sl iQ)],kO [3,5] []⟩ .nil) j0) j1) (aI (.meet zj ⟨[],[]⟩ (.seq j1 (aI (.meet zj ⟨[],[]⟩ (.seq (.seq (dS ⟨[(140,.sl iQ)],[]⟩ .nil) j0) (aI (.meet zj ⟨[],[]⟩ (.seq (.seq (dS ⟨[(152,.sl iQ)],[]⟩ .nil) j0) .nil)))))))))))))))))) .nil)) .nil))))))
def arv:b_:={ bg:=1,pin:=⟨[(0,q22)],[(50000,q14),(50001,GY),(50002,NS),(50003,q30),(50004,yG)]⟩,aU:=⟨[(0,(.one TN)),(1,iQ)],[(50000,q48),(50001,q23),(50002,NS),(50003,q30),(50004,yG)]⟩,bV:=2,bH:=[50000,50001,50002,50003,50004],aY:=[],kept:=[50002,50003,50004] }
def arw:fG:=(aI (aI (.seq (aI (.meet zj ⟨[],kO [50000,50001,50002,50003,50004] []⟩ (.loop ⟨kS [0,4] [(5,.sl q9)],kO [50000,50001,50002,50003,50004,8] []⟩ (.seq j0 (.seq (.seq (aI (.seq (aI (dS ⟨kS [0,4,5] [(6,.sl iQ)],kO [50000,50001,50002,50003,50004,8] []⟩ (.loop ⟨kS [0,4,5] [(6,.sl iQ),(7,.sl q9)],kO [50000,50001,50002,50003,50004,8] []⟩ (.seq j0 (.seq (.seq (dS ⟨kS [0,4,5] [(6,.sl iQ),(7,.keep)],kO [50000,50001,50002,50003,50004,8] []⟩ .nil) .nil) .nil))))) j1)) .nil) .nil))))) .nil)))
def alO:b_:={ bg:=2,pin:=⟨[(0,q22),(1,oJ)],[(50000,q14),(50001,GY),(50002,NS),(50003,q30),(50004,yG)]⟩,aU:=⟨[(0,(.agg [q0,q0,q0,q0,TN,(.p zv zj (.sl (.st 17)))]))],[(50000,q48),(50001,q23),(50002,NS),(50003,q30),(50004,yG)]⟩,bV:=1,bH:=[50000,50001,50002,50003,50004],aY:=[],kept:=[50002,50003,50004] }
def arx:fG:=(aI (aI (.seq (.seq (dS ⟨kS [0,1,4,5] [(18,.sl iQ)],lO [(50000,.keep),(50001,.ob GY)] (kO [50002,50003,50004,4] [])⟩ .nil) j0) (.seq (aI (.seq (aI (aI (aI (aI (aI (aI (.seq (aI (dS ⟨kS [0,1,4,5,22] [(58,.sl iQ)],kO [50000,50001,50002,50003,50004,4] []⟩ .nil)) (aI (aI (.meet zj ⟨kS [0,1,4,5] [],lO [(50000,.ob q14),(50001,.ob q23)] (kO [50002,50003,50004,4] [])⟩ (.seq j6 .nil))))))))))) .nil)) .nil))))
def alP:b_:={ bg:=2,pin:=⟨[(0,q22),(1,oJ)],[(50000,q14),(50001,GY),(50002,NS),(50003,q30),(50004,yG)]⟩,aU:=⟨[(0,(.agg [q0,q0,q0,q0,TN,(.own 60005)]))],[(50000,q48),(50001,q23),(50002,NS),(50003,q30),(50004,yG),(60005,q74)]⟩,bV:=1,bH:=[50000,50001,50002,50003,50004],aY:=[60005],kept:=[50002,50003,50004] }
def arz:fG:=(aI (aI (aI (aI (.seq (.seq (dS ⟨kS [0,1,4,5,6,7] [(46,.sl iQ)],lO [(50000,.keep),(50001,.ob q23)] (kO [50002,50003,50004,4,5] [])⟩ .nil) (dS ⟨kS [0,1,4,5] [(6,.sl q9),(7,.keep)],lO [(50000,.keep),(50001,.ob q23)] (kO [50002,50003,50004,4,5] [])⟩ .nil)) (aI (.seq (aI (dS ⟨kS [0,1,4,5,7] [(8,.sl (.one (.own 102007)))],lO [(50000,.ob q14),(50001,.ob q23)] (kO [50002,50003,50004,4,5] [(102007,.ob q74)])⟩ (.loop ⟨kS [0,1,4,5,6,7] [(8,.sl (.one (.own 102007))),(9,.sl q9)],lO [(50000,.ob q14),(50001,.ob q23)] (kO [50002,50003,50004,4,5] [(102007,.ob q74)])⟩ (.seq j0 j0)))) (.seq j1 (aI (.seq (aI (dS ⟨kS [4,8,10] [],lO [(50000,.ob q14),(50001,.ob q23)] (kO [50002,50003,50004,4,102007] [(10,.ob (.box [q0,q0,q0,q0,(.p zv zj .str),(.p zv zj (.sl (.st 17)))]))])⟩ .nil)) j3))))))))))
def alQ:b_:={ bg:=3,pin:=⟨[(0,q22),(1,oJ),(2,oJ)],[(50000,q14),(50001,GY),(50002,NS),(50003,q30),(50004,yG)]⟩,aU:=⟨[(0,(.one (.own 100004)))],[(50000,(.box [(.box 50001 0),(.own 50002),(.own 50003),(.own 100005),q0])),(50001,q23),(50002,NS),(50003,q30),(100004,q56),(100005,yG)]⟩,bV:=1,bH:=[50000,50001,50002,50003],aY:=[100004,100005],kept:=[50002,50003] }
def arA:fG:=(aI (aI (.seq (aI (dS ⟨[(7,.sl (.one (.own 100004)))],lO [(50000,.ob q97),(50001,.ob GY)] (kO [50002,50003] [(100004,.ob q56),(100005,.ob yG)])⟩ (.loop ⟨kS [0,1,2] [(7,.sl (.one (.own 100004))),(8,.sl q9)],lO [(50000,.ob q97),(50001,.ob GY)] (kO [50002,50003] [(100004,.ob q56),(100005,.ob yG)])⟩ (.seq (.seq (dS ⟨kS [0,1,2,7,8] [(18,.sl iQ)],kO [50000,50001,50002,50003,100004,100005] []⟩ .nil) .nil) j4)))) .nil)))
def alR:b_:={ bg:=2,pin:=⟨[(0,q22),(1,oJ)],[(50000,q14),(50001,GY),(50002,NS),(50003,q30),(50004,yG)]⟩,aU:=⟨[(0,(.agg [q0,q0,TN,(.own 60004),(.own 60005),(.own 60006)]))],[(50000,(.box [(.box 50001 0),(.own 50002),(.own 50003),(.own 60007),q0])),(50001,q23),(50002,NS),(50003,q30),(60004,q74),(60005,q56),(60006,q56),(60007,yG)]⟩,bV:=1,bH:=[50000,50001,50002,50003],aY:=[60004,60005,60006,60007],kept:=[50002,50003] }
def arB:fG:=(aI (aI (.seq (aI (.seq (.seq (aI (dS ⟨kS [0,1,4,5,19] [(20,.sl iQ)],kO [50000,50001,50002,50003,4,50004] []⟩ .nil)) (.meet zj j9 (.seq j50 (aI (.meet zj j9 (.seq j1 (aI (.meet zj j9 (.seq j6 (aI (.meet zj j9 (.seq j6 (.seq (aI (dS ⟨kS [0,1,4,5,19] [(95,.sl iQ)],kO [50000,50001,50002,50003,4,50004] []⟩ .nil)) (.meet zj j47 (.seq (aI (.seq (aI (aI (.seq (aI (dS ⟨kS [4,13] [],lO [(50000,.ob (.box [(.box 50001 0),(.own 50002),(.own 50003),(.own 102006),q0])),(50001,.ob q23)] (kO [50002,50003,4] (lO [(13,.ob (.box [q0,q0,TN,(.own 102),(.own 109),(.own 102009)])),(102006,.ob yG)] (kO [102,109] [(102009,.ob q56)])))⟩ .nil)) .nil))) .nil)) (aI (.meet zj j47 (.seq j1 (aI (.seq j3 .nil)))))))))))))))))))) .nil)) .nil)))
def alS:b_:={ bg:=2,pin:=⟨[(0,q22),(1,oJ)],[(50000,q14),(50001,GY),(50002,NS),(50003,q30),(50004,yG)]⟩,aU:=⟨[(0,(.agg [q0,q0,TN,(.own 60004),(.own 60005),.dD]))],[(50000,(.box [(.box 50001 0),(.own 50002),(.own 50003),(.own 60006),q0])),(50001,q23),(50002,NS),(50003,q30),(60004,q74),(60005,q56),(60006,yG)]⟩,bV:=1,bH:=[50000,50001,50002,50003],aY:=[60004,60005,60006],kept:=[50002,50003] }
def arC:fG:=(aI (aI (.seq (.seq (dS ⟨kS [0,1,4,5,6] [(28,.sl iQ)],lO [(50000,.keep),(50001,.ob q23)] (kO [50002,50003,4,50004] [])⟩ .nil) (dS ⟨kS [0,1,4] [(5,.sl (.one (.p zv zj .str))),(6,.sl iQ)],lO [(50000,.keep),(50001,.ob q23)] (kO [50002,50003,4,50004] [])⟩ .nil)) (.seq (.seq (dS ⟨kS [0,1,4,5] [(54,.sl iQ)],lO [(50000,.keep),(50001,.ob q23)] (kO [50002,50003,4,50004] [])⟩ .nil) j3) j32))))
def sg9:b_:={ bg:=2,pin:=⟨[(0,q22),(1,q21)],[(50000,GY)]⟩,aU:=⟨[(0,(.agg [(.own 10),(.own 1010)]))],[(50000,q23),(10,q4),(1010,q42)]⟩,bV:=1,bH:=[50000],aY:=[10,1010] }
def an9:fG:=(aI (aI (.seq (aI (dS ⟨kS [0,3,4,5] [],lO [(50000,.ob GY)] (kO [3,4,5] [(10,.ob q4),(1010,.keep)])⟩ (.loop ⟨kS [0,3,4,5] [(6,.sl q9)],lO [(50000,.ob GY)] (kO [3,4,5] [(10,.ob q4),(1010,.keep)])⟩ (.seq j0 j4)))) (.seq (aI (dS ⟨kS [4,5] [],lO [(50000,.ob GY)] (kO [4,5,10] [(1010,.ob q42)])⟩ (.loop ⟨kS [0,3,4,5] [(8,.sl q9)],lO [(50000,.ob GY)] (kO [3,4,5,10] [(1010,.ob q42)])⟩ (.seq j0 j0)))) .nil))))
def awy:b_:={ bg:=2,pin:=⟨[(0,q20),(1,oJ)],[]⟩,aU:=⟨[(0,ajw),(1,iQ)],[]⟩,bV:=2,bH:=[],aY:=[] }
def awz:fG:=(aI (aI (.seq (.seq (dS ⟨kS [2,4,6] [(26,.sl iQ)],kO [2,4] []⟩ .nil) j0) .nil)))
def awC:b_:={ bg:=2,pin:=⟨[(0,q20),(1,oJ)],[]⟩,aU:=⟨[(0,q9),(1,iQ)],[]⟩,bV:=2,bH:=[],aY:=[] }
def awD:fG:=j1
def awE:b_:={ bg:=1,pin:=⟨[(0,q24)],[]⟩,aU:=⟨[(0,q9)],[]⟩,bV:=1,bH:=[],aY:=[] }
def awF:fG:=(aI (.seq (.seq (dS ⟨[(1,.keep),(21,.sl iQ)],[(1,.keep)]⟩ .nil) j0) (.seq j1 j3)))
def awG:b_:={ bg:=1,pin:=⟨[(0,q16)],[]⟩,aU:=⟨[(0,(.agg [TN,q0,q0,(.own 103005)]))],[(103005,q83)]⟩,bV:=1,bH:=[],aY:=[103005] }
def awH:fG:=(aI (aI (aI (aI (.seq (aI (dS ⟨kS [1,2,3,4] [],kO [1,2,11] [(14,.ob q4)]⟩ (.loop ⟨kS [1,2,3,4] [(5,.sl q9),(6,.sl q9)],kO [1,2,11] [(14,.ob q4)]⟩ (.seq j0 (.seq (.seq (aI (aI (dS ⟨kS [1,2,3,4] [(5,.sl q9),(6,.keep)],kO [1,2,11,14] []⟩ .nil))) .nil) .nil))))) (aI (aI (.seq (aI (dS ⟨kS [2,7] [],[(2,.keep),(7,.ob (.box [Yp,q1,q1,(.own 103005)])),(103005,.ob q83)]⟩ (.loop ⟨kS [1,2,3,4,7] [(8,.sl q9)],kO [1,2,11,14] [(7,.ob (.box [Yp,q1,q1,(.own 103005)])),(103005,.ob q83)]⟩ (.seq j0 (.seq (dS ⟨kS [1,2,3,4,7,8] [],kO [1,2,11,14] [(7,.ob (.box [Yp,q1,q1,(.own 106005)])),(106005,.ob q83)]⟩ (.seq j0 (aI (.seq j28 (.seq j28 .nil))))) .nil))))) .nil))))))))
def awI:b_:={ bg:=1,pin:=⟨[(0,q24)],[]⟩,aU:=⟨[(0,q9)],[]⟩,bV:=1,bH:=[],aY:=[] }
def awJ:fG:=(aI (.seq j1 (aI (.seq (.seq (dS ⟨[(1,.keep),(30,.sl iQ)],[(1,.keep)]⟩ .nil) j0) j3))))
def awK:b_:={ bg:=1,pin:=⟨[(0,q24)],[]⟩,aU:=⟨[(0,q66),(1,q9)],[(60000,BK)]⟩,bV:=2,bH:=[],aY:=[60000] }
def awL:fG:=(aI (.seq j6 (aI (.seq (aI (dS ⟨[(1,.keep),(5,.sl oJ)],[(1,.keep)]⟩ .nil)) (aI (aI (.seq (aI (dS ⟨[(6,.sl q70)],[(101001,.ob BK)]⟩ (.loop ⟨[(1,.keep),(6,.sl q70),(7,.keep),(8,.sl q9)],[(1,.keep),(101001,.ob BK)]⟩ (.seq j0 (.seq (.seq (aI (.seq (aI (dS ⟨lS [(1,.keep),(6,.sl (.one (.own 108001)))] (kS [7,8] []),[(1,.keep),(108001,.ob BK)]⟩ (aI (aI (dS ⟨lS [(1,.keep),(6,.sl (.one (.own 107001)))] (kS [7,8] []),[(1,.keep),(107001,.ob BK)]⟩ (aI (aI (dS ⟨lS [(1,.keep),(6,.sl (.one (.own 106001)))] (kS [7,8] []),[(1,.keep),(106001,.ob BK)]⟩ (aI (aI (dS ⟨lS [(1,.keep),(6,.sl (.one (.own 105001)))] (kS [7,8] []),[(1,.keep),(105001,.ob BK)]⟩ (aI (aI (dS ⟨lS [(1,.keep),(6,.sl (.one (.own 104001)))] (kS [7,8] []),[(1,.keep),(104001,.ob BK)]⟩ (.seq (aI (aI (dS ⟨lS [(1,.keep),(6,.sl q95)] (kS [7,8] []),[(1,.keep),(102001,.ob BK)]⟩ (.loop ⟨lS [(1,.keep),(6,.sl q95)] (kS [7,8] [(9,.sl q9)]),[(1,.keep),(102001,.ob BK)]⟩ (.seq j0 j0))))) .nil))))))))))))))) .nil)) .nil) .nil))))) .nil)))))))
def awM:b_:={ bg:=1,pin:=⟨[(0,q47)],[]⟩,aU:=⟨[(0,(.agg [(.own 60000),(.own 60001)])),(1,q9),(2,q9)],[(60000,q75),(60001,anH)]⟩,bV:=3,bH:=[],aY:=[60000,60001] }
def awN:fG:=(aI (.seq (.seq (dS ⟨kS [1,2] [(20,.sl iQ)],kO [1,2] []⟩ .nil) j0) (.seq (.seq (dS ⟨kS [1,2] [(42,.sl iQ)],kO [1,2] []⟩ .nil) j0) (.seq (aI (.meet zj ⟨kS [1,2] [],kO [1,2] []⟩ (.loop ⟨kS [1,2] [(5,.sl q9)],kO [1,2] []⟩ j13))) (.seq (aI (.meet zj ⟨kS [1,2] [],kO [1,2] []⟩ (.loop ⟨kS [1,2] [(6,.sl q9)],kO [1,2] []⟩ (.seq j0 (.seq (.seq (.seq (dS ⟨kS [1,2,6] [(89,.sl iQ)],kO [1,2] []⟩ .nil) j0) .nil) .nil))))) (aI (.seq (aI (.meet zj ⟨[(2,.keep)],[(2,.ob (.box [(.own 99),(.own 107003)])),(99,.keep),(107003,.ob anH)]⟩ (.loop ⟨kS [1,2] [(7,.sl q9)],[(1,.keep),(2,.ob (.box [(.own 99),(.own 107003)])),(99,.keep),(107003,.ob anH)]⟩ (.seq j0 (.seq (.seq (aI (.seq (.seq (dS ⟨kS [1,2,7,8] [(128,.sl iQ)],kO [1,2,8,99,107003] []⟩ .nil) j0) (.seq (aI (.meet zj ⟨kS [1,2,7,8] [],kO [1,2,8,99,107003] []⟩ (.loop ⟨kS [1,2,7,8] [(9,.sl q9)],kO [1,2,8,99,107003] []⟩ (.seq j0 (.seq (.seq (.seq (dS ⟨kS [1,2,7,8,9] [(158,.sl iQ)],kO [1,2,8,99,107003] []⟩ .nil) j0) .nil) .nil))))) j50))) .nil) .nil))))) .nil)))))))
def awO:b_:={ bg:=1,pin:=⟨[(0,q22)],[(50000,GY)]⟩,aU:=⟨[(0,(.agg [(.own 103003),(.own 105004)]))],[(50000,q23),(103003,NS),(105004,q30)]⟩,bV:=1,bH:=[50000],aY:=[103003,105004] }
def awP:fG:=(aI (.seq (dS ⟨kS [0,2] [(3,.sl (.one (.box 12 0)))],kO [50000,2] [(12,.ob (.box [(.box 50000 0),(.own 100700),(.own 100701),(.own 100702),q0])),(100700,.ob q64),(100701,.ob anG),(100702,.ob q85)]⟩ .nil) (.seq (aI (dS ⟨kS [0,2,3] [],kO [50000,2] (lO [(12,.ob q91),(101003,.ob q64)] (kO [100701,100702] []))⟩ (.loop ⟨kS [0,2,3] [(4,.sl q9)],kO [50000,2] (lO [(12,.ob q91),(101003,.ob q64)] (kO [100701,100702] []))⟩ (.seq j0 j0)))) (.seq (aI (dS ⟨kS [0,2,3] [],lO [(50000,.ob q23),(2,.keep),(12,.ob q92),(103003,.ob q64)] (kO [100701,100702] [])⟩ (.loop ⟨kS [0,2,3] [(5,.sl q9)],lO [(50000,.ob q23),(2,.keep),(12,.ob q92),(103003,.ob q64)] (kO [100701,100702] [])⟩ (.seq j0 j0)))) (aI (.seq (aI (dS ⟨kS [0,2,3] [],[(50000,.ob q23),(2,.keep),(12,.ob q93),(103003,.keep),(105004,.ob anG),(100702,.keep)]⟩ (.loop ⟨kS [0,2,3] [(6,.sl q9)],[(50000,.ob q23),(2,.keep),(12,.ob q93),(103003,.keep),(105004,.ob anG),(100702,.keep)]⟩ (.seq j0 (.seq (.seq (aI (.seq (aI (dS ⟨kS [0,2,3,6,7] [],kO [50000,2,12] (lO [(7,.ob (.box [TN,q0,(.own 106007),.dD]))] (kO [103003,105004,100702] [(106007,.ob q85)]))⟩ (.loop ⟨kS [0,2,3,6,7] [(8,.sl q9)],kO [50000,2,12] (lO [(7,.ob (.box [TN,q0,(.own 106007),.dD]))] (kO [103003,105004,100702] [(106007,.ob q85)]))⟩ (.seq j0 j0)))) .nil)) .nil) .nil))))) (.seq (aI (dS ⟨kS [2,3] [],[(50000,.ob q23),(2,.keep),(12,.ob q94),(103003,.ob NS),(105004,.ob q30),(109005,.ob yG)]⟩ (.loop ⟨kS [0,2,3] [(9,.sl q9)],[(50000,.ob q23),(2,.keep),(12,.ob q94),(103003,.ob NS),(105004,.ob q30),(109005,.ob yG)]⟩ (.seq j0 j46)))) .nil)))))))
def awQ:b_:={ bg:=2,pin:=⟨[(0,q21),(1,q16)],[]⟩,aU:=⟨[(0,q9)],[]⟩,bV:=1,bH:=[],aY:=[] }
def awR:fG:=(aI (.seq (.seq (dS ⟨kS [2,3] [(25,.sl iQ)],kO [2,3] []⟩ .nil) j0) (.seq (.seq (dS ⟨kS [2,3] [(45,.sl iQ)],kO [2,3] []⟩ .nil) j0) (.seq (aI (.meet zj ⟨[(3,.keep)],[(3,.keep)]⟩ (.loop ⟨kS [2,3] [(5,.sl q9)],kO [2,3] []⟩ (.seq j0 (.seq (.seq (.seq (aI (.meet zj ⟨kS [2,3,5] [],kO [2,3] []⟩ (.loop ⟨kS [2,3,5] [(6,.sl q9)],kO [2,3] []⟩ (.seq j0 j21)))) j6) .nil) .nil))))) (aI (.seq (aI (.meet zj ⟨[],[]⟩ (.loop ⟨[(9,.keep),(10,.sl q9)],[(91,.keep)]⟩ j13))) .nil))))))
def awS:b_:={ bg:=2,pin:=⟨[(0,(.one q31)),(1,oJ)],[]⟩,aU:=⟨[(0,(.agg [q0,q0,q0,q0,q0,q0,q2,(.own 60000)])),(1,q9),(2,q9)],[(60000,q4)]⟩,bV:=3,bH:=[],aY:=[60000] }
def awT:fG:=(aI (.seq j1 (.seq j1 (aI (aI (.seq (.seq (dS ⟨kS [0,1,4,7,8] [(50,.sl iQ)],kO [4,7] []⟩ .nil) j0) (aI (.seq (aI (.meet zj ⟨kS [1,4,7] [(9,.sl q9)],[(4,.keep),(7,.ob q67),(101002,.ob q4)]⟩ (.loop ⟨kS [0,1,4,7,8] [(9,.sl q9),(10,.sl q9)],[(4,.keep),(7,.ob q67),(101002,.ob q4)]⟩ (.seq j0 (.seq (.seq (aI (.seq j1 (aI (.seq (aI (dS ⟨kS [0,1,4,7,8,9,10,11] [(12,.sl (.one q55))],kO [4,7,101002] []⟩ (.loop ⟨kS [0,1,4,7,8,9,10,11] [(12,.sl (.one q55)),(13,.sl q9)],kO [4,7,101002] []⟩ (.seq j0 j0)))) (aI (aI (.seq (aI (.meet zj ⟨kS [0,1,4,7,8] [(9,.sl q9),(10,.keep)],[(4,.keep),(7,.ob (.box [q0,q0,q0,q0,q0,q0,q2,(.own 112002)])),(112002,.ob q4)]⟩ (aI (aI (.meet zj ⟨kS [0,1,4,7,8] [(9,.sl q9),(10,.keep)],[(4,.keep),(7,.ob (.box [q0,q0,q0,q0,q0,q0,q2,(.own 111002)])),(111002,.ob q4)]⟩ (aI (aI (.meet zj ⟨kS [0,1,4,7,8] [(9,.sl q9),(10,.keep)],[(4,.keep),(7,.ob (.box [q0,q0,q0,q0,q0,q0,q2,(.own 110002)])),(110002,.ob q4)]⟩ (aI (aI (.meet zj ⟨kS [0,1,4,7,8] [(9,.sl q9),(10,.keep)],[(4,.keep),(7,.ob (.box [q0,q0,q0,q0,q0,q0,q2,(.own 109002)])),(109002,.ob q4)]⟩ (aI (aI (.meet zj ⟨kS [0,1,4,7,8] [(9,.sl q9),(10,.keep)],[(4,.keep),(7,.ob (.box [q0,q0,q0,q0,q0,q0,q2,(.own 108002)])),(108002,.ob q4)]⟩ (.seq (.seq j1 (.seq (aI (dS ⟨kS [0,1,4,7,8,9,10,12] [],[(4,.keep),(7,.ob (.box [q0,q0,q0,q0,q0,q0,q2,(.own 104002)])),(104002,.ob q4)]⟩ (.loop ⟨kS [0,1,4,7,8,9,10,12] [(14,.sl q9)],[(4,.keep),(7,.ob (.box [q0,q0,q0,q0,q0,q0,q2,(.own 104002)])),(104002,.ob q4)]⟩ (.seq j0 j0)))) .nil)) (aI (.meet zv j42 (.seq (aI (aI (.meet zv j42 .nil))) .nil)))))))))))))))))) .nil))))))) .nil) .nil))))) (.seq j6 .nil)))))))))
def awU:b_:={ bg:=1,pin:=⟨[(0,q20)],[]⟩,aU:=⟨[(0,q37)],[(100001,q4)]⟩,bV:=1,bH:=[],aY:=[100001] }
def awV:fG:=(aI (aI (.seq (aI (.meet zj j41 (.loop j18 (.seq j0 (.seq j19 .nil))))) .nil)))
def awW:b_:={ bg:=1,pin:=⟨[(0,q22)],[(50000,GY)]⟩,aU:=⟨[(0,(.agg [(.own 19),(.own 100004),q0,q0]))],[(50000,q23),(19,q64),(100004,q36)]⟩,bV:=1,bH:=[50000],aY:=[19,100004] }
def awX:fG:=(aI (aI (aI (.seq (aI (dS ⟨kS [0,2,3,4] [],[(50000,.ob q23),(2,.keep),(3,.ob (.box [(.own 19),(.own 100004),q0,q0])),(19,.keep),(100004,.ob q36)]⟩ (.loop ⟨kS [0,2,3,4] [(5,.sl q9)],[(50000,.ob q23),(2,.keep),(3,.ob (.box [(.own 19),(.own 100004),q0,q0])),(19,.keep),(100004,.ob q36)]⟩ (.seq j0 (.seq (.seq (aI (.seq (aI (dS ⟨kS [0,2,3,4,5,6] [],lO [(50000,.ob q23)] (kO [2,3] (lO [(6,.ob (.box [TN,q0,q0,.dD]))] (kO [19,100004] [])))⟩ .nil)) .nil)) .nil) .nil))))) (aI (.seq (aI (dS ⟨kS [2,3] [],lO [(50000,.ob q23)] (kO [2,3,19] [(100004,.ob q36)])⟩ (.loop ⟨kS [0,2,3,4] [(7,.sl q9)],lO [(50000,.ob q23)] (kO [2,3,19] [(100004,.ob q36)])⟩ (.seq j0 (.seq (.seq (aI (.seq (aI (.meet zv j33 (.loop ⟨kS [0,2,3,4,7,8] [(9,.sl q9)],lO [(50000,.ob q23)] (kO [2,3] [(100004,.ob q36),(19,.keep)])⟩ (.seq j0 (.seq (.seq (aI (.seq (aI (dS ⟨kS [0,2,3,4,7,8,9,10] [],lO [(50000,.ob q23)] (kO [2,3] [(100004,.ob q36),(10,.ob (.box [(.own 105006),q0,q0,q0,q0,q0,q0,q0])),(19,.keep),(105006,.ob (.arr zv zv zv (.st 6)))])⟩ (.loop ⟨kS [0,2,3,4,7,8,9,10] [(11,.sl q9)],lO [(50000,.ob q23)] (kO [2,3] [(100004,.ob q36),(10,.ob (.box [(.own 105006),q0,q0,q0,q0,q0,q0,q0])),(19,.keep),(105006,.ob (.arr zv zv zv (.st 6)))])⟩ (.seq j0 j0)))) .nil)) .nil) .nil))))) (.seq (aI (.meet zv j33 (.loop ⟨kS [0,2,3,4,7,8] [(12,.sl q9)],lO [(50000,.ob q23)] (kO [2,3] [(100004,.ob q36),(19,.keep)])⟩ (.seq j0 j4)))) .nil))) .nil) .nil))))) .nil))))))
def arD:TypeId->Option Ty:=λt=>(([(1000046,(.prod (.st 3) .bool)),(3000140,.bool),(3000133,.bool),(3000113,.bool),(3000078,.bool)]:List (Nat×Ty))++Dh).lookup t
def awY:b_:={ bg:=1,pin:=⟨[(0,q24)],[]⟩,aU:=⟨[(0,q66),(1,q9)],[(60000,BK)]⟩,bV:=2,bH:=[],aY:=[60000] }
def awZ:fG:=(aI (.seq j6 (aI (.seq (aI (dS ⟨kS [1,5] [],[(1,.keep),(18,.ob BK)]⟩ .nil)) (.seq (aI (dS ⟨[(5,.sl q70)],[(101001,.ob BK)]⟩ (.loop ⟨[(1,.keep),(5,.sl q70),(30,.keep)],[(1,.keep),(101001,.ob BK),(30,.ob .it)]⟩ (aI (aI (.seq (aI (aI (.seq (aI (dS ⟨[(1,.keep),(5,.sl (.one (.own 109001))),(30,.keep)],[(1,.keep),(109001,.ob BK),(30,.keep)]⟩ (aI (aI (dS ⟨[(1,.keep),(5,.sl (.one (.own 108001))),(30,.keep)],[(1,.keep),(108001,.ob BK),(30,.keep)]⟩ (aI (aI (dS ⟨[(1,.keep),(5,.sl (.one (.own 107001))),(30,.keep)],[(1,.keep),(107001,.ob BK),(30,.keep)]⟩ (aI (aI (dS ⟨[(1,.keep),(5,.sl (.one (.own 106001))),(30,.keep)],[(1,.keep),(106001,.ob BK),(30,.keep)]⟩ (aI (aI (dS ⟨[(1,.keep),(5,.sl (.one (.own 105001))),(30,.keep)],[(1,.keep),(105001,.ob BK),(30,.keep)]⟩ (aI (aI (dS ⟨[(1,.keep),(5,.sl (.one (.own 104001))),(30,.keep)],[(1,.keep),(104001,.ob BK),(30,.keep)]⟩ (.seq (aI (aI (dS ⟨[(1,.keep),(5,.sl q95),(30,.keep)],[(1,.keep),(102001,.ob BK),(30,.keep)]⟩ (.loop ⟨lS [(1,.keep),(5,.sl q95)] (kS [30,83,84] [(85,.sl q9)]),[(1,.keep),(102001,.ob BK),(30,.keep)]⟩ j10)))) .nil)))))))))))))))))) .nil))) .nil)))))) .nil)))))
def aw0:b_:={ bg:=2,pin:=⟨[(0,(.one q31)),(1,oJ)],[]⟩,aU:=⟨[(0,(.agg [q0,q0,q0,q0,q0,q0,q2,(.own 60000)])),(1,q9),(2,q9)],[(60000,q4)]⟩,bV:=3,bH:=[],aY:=[60000] }
def aw1:fG:=(aI (.seq (.seq j32 .nil) (aI (.seq (.seq (dS ⟨kS [0,1,4,7] [(47,.sl iQ)],kO [4,7] []⟩ .nil) j0) (aI (.seq (aI (dS ⟨kS [1,4,7,8] [],[(4,.keep),(7,.ob (.box [q0,q0,q0,q0,q0,q0,q2,(.own 101004)])),(53,.ob q60),(101004,.ob q4)]⟩ (.loop ⟨kS [1,4,7,8,58] [],[(4,.keep),(7,.ob (.box [q0,q0,q0,q0,q0,q0,q2,(.own 101004)])),(53,.ob q60),(58,.ob .it),(101004,.ob q4)]⟩ (aI (aI (.seq (aI (aI (.seq (aI (dS ⟨kS [1,4,7,8,58] [],[(4,.keep),(7,.ob (.box [q0,q0,q0,q0,q0,q0,q2,(.own 109004)])),(53,.ob q60),(58,.keep),(109004,.ob q4)]⟩ (aI (aI (dS ⟨kS [1,4,7,8,58] [],[(4,.keep),(7,.ob (.box [q0,q0,q0,q0,q0,q0,q2,(.own 108004)])),(53,.ob q60),(58,.keep),(108004,.ob q4)]⟩ (aI (aI (dS ⟨kS [1,4,7,8,58] [],[(4,.keep),(7,.ob (.box [q0,q0,q0,q0,q0,q0,q2,(.own 107004)])),(53,.ob q60),(58,.keep),(107004,.ob q4)]⟩ (aI (aI (dS ⟨kS [1,4,7,8,58] [],[(4,.keep),(7,.ob (.box [q0,q0,q0,q0,q0,q0,q2,(.own 106004)])),(53,.ob q60),(58,.keep),(106004,.ob q4)]⟩ (aI (aI (dS ⟨kS [1,4,7,8,58] [],[(4,.keep),(7,.ob (.box [q0,q0,q0,q0,q0,q0,q2,(.own 105004)])),(53,.ob q60),(58,.keep),(105004,.ob q4)]⟩ (aI (aI (dS ⟨kS [1,4,7,8,58] [],[(4,.keep),(7,.ob (.box [q0,q0,q0,q0,q0,q0,q2,(.own 104004)])),(53,.ob q60),(58,.keep),(104004,.ob q4)]⟩ (.seq (aI (dS ⟨kS [1,4,7,8,58] [],[(4,.keep),(7,.ob (.box [q0,q0,q0,q0,q0,q0,q2,(.own 102004)])),(53,.ob q60),(58,.keep),(102004,.ob q4)]⟩ (.loop ⟨kS [1,4,7,8,58,99] [(100,.sl q9)],[(4,.keep),(7,.ob (.box [q0,q0,q0,q0,q0,q0,q2,(.own 102004)])),(53,.ob q60),(58,.keep),(102004,.ob q4)]⟩ j6))) .nil)))))))))))))))))) .nil))) .nil)))))) (.seq j1 (.seq j6 .nil))))))))
def aw2:b_:={ bg:=1,pin:=⟨[(0,q22)],[(50000,GY)]⟩,aU:=⟨[(0,(.agg [(.own 9),(.own 1009)]))],[(50000,q23),(9,NS),(1009,q30)]⟩,bV:=1,bH:=[50000],aY:=[9,1009] }
def aw3:fG:=j1
def aw4:b_:={ bg:=1,pin:=⟨[(0,q24)],[]⟩,aU:=⟨[(0,q9)],[]⟩,bV:=1,bH:=[],aY:=[] }
def aw5:fG:=j1
def aw6:b_:={ bg:=1,pin:=⟨[(0,(.one (.p zj zv (.sl (.st 19)))))],[]⟩,aU:=⟨[(0,q50)],[(100000,q4)]⟩,bV:=1,bH:=[],aY:=[100000] }
def aw7:fG:=(aI (aI (.seq (aI (dS ⟨[(3,.sl q50)],[(100000,.ob q4)]⟩ (.loop ⟨lS [(3,.sl q50)] (kS [7,8] [(9,.sl q9)]),[(100000,.ob q4)]⟩ j10))) .nil)))
def aw8:b_:={ bg:=1,pin:=⟨[(0,q24)],[]⟩,aU:=⟨[(0,q9)],[]⟩,bV:=1,bH:=[],aY:=[] }
def aw9:fG:=j1
def aw_:b_:={ bg:=1,pin:=⟨[(0,q21)],[]⟩,aU:=⟨[(0,q9)],[]⟩,bV:=1,bH:=[],aY:=[] }
def axa:fG:=(aI (.seq (.seq (dS ⟨[(1,.keep),(31,.sl iQ)],[(1,.keep)]⟩ .nil) j0) (.seq (aI (.meet zj ⟨[(1,.keep)],[(1,.keep)]⟩ (.loop ⟨[(1,.keep),(3,.sl q9)],[(1,.keep)]⟩ (.seq j0 (.seq (.seq (.seq (dS ⟨kS [1,3] [(54,.sl iQ)],[(1,.keep)]⟩ .nil) j0) .nil) .nil))))) (.seq (.seq (dS ⟨[(1,.keep),(65,.sl iQ)],[(1,.keep)]⟩ .nil) j0) (.seq j1 (.seq (aI (.meet zj ⟨[],[]⟩ (.loop ⟨[(1,.keep),(4,.sl q9)],[(1,.keep)]⟩ (.seq j0 j21)))) .nil))))))
def axb:b_:={ bg:=1,pin:=⟨[(0,q20)],[]⟩,aU:=⟨[(0,q37)],[(100001,q4)]⟩,bV:=1,bH:=[],aY:=[100001] }
def axc:fG:=(aI (aI (.seq (aI (.meet zv j41 (.loop j18 (.seq j0 (.seq j52 .nil))))) .nil)))
def axd:b_:={ bg:=1,pin:=⟨[(0,q24)],[]⟩,aU:=⟨[(0,q9)],[]⟩,bV:=1,bH:=[],aY:=[] }
def axe:fG:=j1
def axf:b_:={ bg:=1,pin:=⟨[(0,q47)],[]⟩,aU:=⟨[(0,(.agg [(.own 60000),(.own 60001),q0,q0])),(1,q9)],[(60000,q75),(60001,anJ)]⟩,bV:=2,bH:=[],aY:=[60000,60001] }
def axg:fG:=(aI (aI (.seq (aI (dS ⟨kS [2,4] [],[(2,.keep),(4,.ob (.box [(.own 11),(.own 100004),q0,q0])),(11,.keep),(100004,.ob anJ)]⟩ (.loop ⟨kS [1,2,4] [(5,.sl q9)],kO [1,2] [(4,.ob (.box [(.own 11),(.own 100004),q0,q0])),(11,.keep),(100004,.ob anJ)]⟩ (.seq j0 (.seq (.seq (aI (.seq (dS ⟨kS [1,2,4,5,6] [(7,.sl (.one (.box 33 0)))],kO [1,2,4,6] (lO [(33,.ob (.box [(.p zj zv (.sl (.st 3))),(.p zj zv (.sl (.st 15))),q90,q0,q0,(.own 101700),q0]))] (kO [11,100004] [(101700,.ob (.aO zv zv (.st 5) [(0,(.st 6))]))]))⟩ .nil) (aI (aI (.seq (aI (dS ⟨kS [1,2,4,5,6,7] [],kO [1,2,4,6] (lO [(33,.ob (.box [(.p zj zv (.sl (.st 3))),(.p zj zv (.sl (.st 15))),q90,q0,q0,(.own 49),q0]))] (kO [11,100004] [(49,.ob (.aO zj zv (.st 5) [(0,(.st 6))]))]))⟩ j3)) .nil))))) .nil) .nil))))) j3)))
def arE:TypeId->Option Ty:=λt=>(([(1000069,(.prod (.st 0) .bool)),(3000082,.bool),(3000053,.bool),(3000038,.bool),(3000018,.bool),(3000013,.bool)]:List (Nat×Ty))++Dh).lookup t
def axh:b_:={ bg:=1,pin:=⟨[(0,q22)],[(50000,GY)]⟩,aU:=⟨[(0,(.agg [(.own 8),(.own 1008),q0,q0]))],[(50000,q23),(8,NS),(1008,(.arr zv zv zj (.st 4)))]⟩,bV:=1,bH:=[50000],aY:=[8,1008] }
def axi:fG:=j1
def axj:b_:={ bg:=2,pin:=⟨[(0,q16),(1,q76)],[]⟩,aU:=⟨[(0,q66),(1,(.one (.own 60001))),(2,q9)],[(60000,q65),(60001,q4)]⟩,bV:=3,bH:=[],aY:=[60000,60001] }
def axk:fG:=(aI (.seq j1 (aI (aI (.seq (aI (dS ⟨kS [1,4,5] [(7,.sl q37),(8,.keep)],[(100001,.ob q39),(28,.ob q4)]⟩ (.loop ⟨kS [1,2,4,5] [(7,.sl q37),(8,.keep),(9,.sl q9)],[(2,.keep),(100001,.ob q39),(28,.ob q4)]⟩ (.seq j0 (.seq (.seq (aI (aI (.seq (aI (dS ⟨kS [1,2,4,5] (lS [(7,.sl q70)] (kS [8,9,10] [])),lO [(2,.keep),(101001,.ob q39)] (kO [28,10] [])⟩ (.loop ⟨kS [1,2,4,5] (lS [(7,.sl q70)] (kS [8,9,10] [(11,.sl q9)])),lO [(2,.keep),(101001,.ob q39)] (kO [28,10] [])⟩ (.seq j0 j0)))) (aI (.seq (aI (dS ⟨kS [1,2,4,5,7,8,9,10] [(12,.sl oJ)],kO [2,101001,28,10] []⟩ .nil)) .nil))))) .nil) .nil))))) (aI (.seq (aI (dS ⟨kS [1,4,5,7,8,13] [],[(100001,.ob q39),(28,.keep),(87,.ob q4)]⟩ (.loop ⟨kS [1,4,5,7,8,13] [(14,.sl iQ)],[(100001,.ob q39),(28,.keep),(87,.ob q4)]⟩ (.seq j0 (.seq (aI (.seq (aI (dS ⟨kS [1,4,5,7,8,13,14] [],kO [100001,28] [(87,.ob q4)]⟩ (.loop ⟨kS [1,4,5,7,8,13,14] [(15,.sl q9)],kO [100001,28] [(87,.ob q4)]⟩ (.seq j0 j0)))) (aI (.seq (aI (dS ⟨kS [1,4,5,7,8,13] [(14,.sl iQ),(16,.keep)],lO [(100001,.ob q39)] (kO [28,87] [(112,.ob q44)])⟩ (.loop ⟨kS [1,4,5,7,8,13] [(14,.sl iQ),(16,.keep),(17,.sl q9)],lO [(100001,.ob q39)] (kO [28,87] [(112,.ob q44)])⟩ (.seq j0 (.seq (dS ⟨kS [1,4,5,7,8,13] (lS [(14,.sl iQ)] (kS [16,17] [])),lO [(100001,.ob q39)] (kO [28,87] [(112,.ob q44)])⟩ (.seq j0 (aI (aI (.seq (dS ⟨kS [1,4,5,7,8,13,14,16,17] [],kO [100001,28,87] [(112,.ob q44)]⟩ .nil) (dS ⟨kS [1,4,5,7,8,13] (lS [(14,.sl iQ)] (kS [16,17] [])),kO [100001,28,87,112] []⟩ .nil)))))) .nil))))) (aI (dS ⟨kS [1,4,5,7,8,13,14] [],lO [(100001,.ob q39)] (kO [28,87] [])⟩ (.loop ⟨kS [1,4,5,7,8,13,14,16] [(19,.sl q9)],lO [(100001,.ob q39)] (kO [28,87,112] [])⟩ (.seq j0 (.seq (.seq (dS ⟨kS [1,4,5,7,8,13,14,16,19] [],lO [(100001,.ob q39)] (kO [28,87,112] [])⟩ .nil) .nil) .nil))))))))) .nil))))) (.seq (aI (dS ⟨lS [(1,.keep),(4,.sl (.one (.own 117000)))] (kS [5,8,13] []),lO [(117000,.ob q65)] (kO [28,87] [])⟩ (.loop ⟨lS [(1,.keep),(4,.sl (.one (.own 117000)))] (kS [5,7,8,13] [(20,.sl q9)]),lO [(117000,.ob q65)] (kO [100001,28,87] [])⟩ (.seq j0 j0)))) (.seq (aI (dS ⟨[(4,.keep),(5,.sl (.one (.own 119001)))],[(117000,.keep),(119001,.ob q4)]⟩ (.loop ⟨kS [1,4] (lS [(5,.sl (.one (.own 119001)))] (kS [8,13] [(21,.sl q9)])),lO [(117000,.keep),(119001,.ob q4)] (kO [28,87] [])⟩ (.seq j0 j0)))) .nil)))))))))
def sg8:b_:={ bg:=1,pin:=⟨[(0,q22)],[(50000,GY)]⟩,aU:=⟨[(0,(.agg [(.own 60001),(.p zv zj (.sl (.st 4))),q0,q0]))],[(50000,q23),(60001,NS)]⟩,bV:=1,bH:=[50000],aY:=[60001] }
def an8:fG:=j19
def axl:b_:={ bg:=2,pin:=⟨[(0,q16),(1,q76)],[]⟩,aU:=⟨[(0,q9)],[]⟩,bV:=1,bH:=[],aY:=[] }
def axn:fG:=(aI (aI (aI (.seq (aI (dS ⟨[(8,.sl q9)],[]⟩ (.loop ⟨[(5,.keep),(8,.sl q9),(9,.sl q9)],[(13,.keep)]⟩ (.seq j0 j0)))) .nil))))
def axo:b_:={ bg:=2,pin:=⟨[(0,q21),(1,q63)],[]⟩,aU:=⟨[(0,q78),(1,q9)],[(60000,BK),(60001,q4),(60002,q7),(60003,q7),(60004,q75),(60005,q49)]⟩,bV:=2,bH:=[],aY:=[60000,60001,60002,60003,60004,60005] }
def axp:fG:=(aI (.seq j6 (aI (aI (aI (.seq (aI (dS ⟨kS [2,3,4,7,8] [(9,.sl q9)],kO [2,3,4,8] [(36,.ob q4),(43,.keep)]⟩ (.loop ⟨kS [2,3,4,7,8] [(9,.sl q9),(10,.sl q9)],kO [2,3,4,8] [(36,.ob q4),(43,.keep)]⟩ (.seq j0 j46)))) (.seq j1 (.seq (aI (dS ⟨kS [2,4,7,8] [],kO [2,4] (lO [(8,.ob q86),(102004,.ob BK)] (kO [36,43] [(102007,.ob q49)]))⟩ (.loop ⟨kS [2,3,4,7,8] [(12,.sl q9)],kO [2,3,4] (lO [(8,.ob q86),(102004,.ob BK)] (kO [36,43] [(102007,.ob q49)]))⟩ (.seq j0 (.seq (.seq (aI (aI (aI (.seq (aI (dS ⟨kS [2,3,4,7,8,12,13,14,16] [],kO [2,3,4] (lO [(8,.ob q87),(1098,.keep),(103006,.ob BK)] (kO [36,43,102007] []))⟩ (.loop ⟨kS [2,3,4,7,8,12,13,14,15,16] [(18,.sl q9)],kO [2,3,4] (lO [(8,.ob q87)] (kO [98,1098] (lO [(103006,.ob BK)] (kO [36,43,102007] []))))⟩ (.seq j0 (.seq (.seq (aI (.seq (aI (dS ⟨kS [2,3,4,7,8,12,13,14,15,16,18,19] [],kO [2,3,4,8,98,1098] (lO [(19,.ob (.box [q1,q1,q1,q1,q1,q1,q72,q6]))] (kO [103006,36,43,102007] []))⟩ .nil)) .nil)) .nil) .nil))))) (aI (dS ⟨kS [2,3,4,7,8,12] [],kO [2,3,4] (lO [(8,.ob q88)] (kO [103006,36,43] [(106008,.ob q49)]))⟩ (.loop ⟨kS [2,3,4,7,8,12,13,14,16] [(22,.sl q9)],kO [2,3,4] (lO [(8,.ob q88)] (kO [1098,103006,36,43] [(106008,.ob q49)]))⟩ (.seq j0 (.seq (.seq (aI (.seq (aI (dS ⟨kS [2,3,4,7,8,12,13,14,16,22] [(23,.sl q9)],kO [2,3,4,8,1098,103006,36,43,106008] []⟩ .nil)) .nil)) .nil) .nil))))))))) .nil) .nil))))) (.seq (aI (dS ⟨kS [4,8] [],lO [(4,.keep),(8,.ob q79)] (kO [102004,36] (lO [(110005,.ob q7),(110006,.ob q7)] (kO [43,102007] [])))⟩ (.loop ⟨kS [2,4,7,8] [(24,.sl q9)],kO [2,4] (lO [(8,.ob q79)] (kO [102004,36] (lO [(110005,.ob q7),(110006,.ob q7)] (kO [43,102007] []))))⟩ (.seq j0 j4)))) .nil)))))))))
--b 52 c
def axq:b_:={ bg:=2,pin:=⟨[(0,q16),(1,q76)],[]⟩,aU:=⟨[(0,iQ)],[]⟩,bV:=1,bH:=[],aY:=[] }
def axr:fG:=(aI (.seq (.seq j45 j0) j1))
def axt:b_:={ bg:=1,pin:=⟨[(0,q22)],[(50000,GY)]⟩,aU:=⟨[(0,(.agg [q10,(.p zv zj (.sl (.st 4))),q0,q0])),(1,(.agg [(.p zv zv (.sl (.int .u8))),(.p zv zv (.sl (.int .i64))),q29,q29,q0,q0,q10,(.p zv zj (.sl (.st 9)))]))],[(50000,q23)]⟩,bV:=2,bH:=[50000],aY:=[] }
def axu:fG:=j6
def axv:b_:={ bg:=2,pin:=⟨[(0,q21),(1,q63)],[]⟩,aU:=⟨[(0,q9)],[]⟩,bV:=1,bH:=[],aY:=[] }
def axw:fG:=(aI (aI (aI (.seq (.seq (dS ⟨kS [2,3] [(27,.sl iQ)],kO [2,3] []⟩ .nil) j0) (.seq (aI (.meet zj ⟨[],[]⟩ (.loop ⟨kS [3,29,30] [(31,.sl q9)],[(3,.keep)]⟩ j51))) .nil)))))
def axx:b_:={ bg:=2,pin:=⟨[(0,q16),(1,q76)],[]⟩,aU:=⟨[(0,q66),(1,(.one (.own 60001))),(2,q9)],[(60000,q65),(60001,q4)]⟩,bV:=3,bH:=[],aY:=[60000,60001] }
def axy:fG:=(aI (.seq j1 (aI (aI (.seq (aI (dS ⟨kS [4,5,7,8,9] [],kO [28,1028] [(34,.ob q4)]⟩ (.loop ⟨kS [4,5,7,8,9,35,36] [(37,.sl q9)],kO [28,1028] [(34,.ob q4)]⟩ j10))) (aI (aI (.seq (.meet zv j29 (.loop j29 (.seq (aI (.seq (aI (dS ⟨kS [4,5,7,8,9,12] [(13,.sl iQ)],lO [(28,.ob q40)] (kO [1028,34,102003] [])⟩ (.loop ⟨kS [4,5,7,8,9,12] (lS [(13,.sl iQ)] (kS [52,53] [(54,.sl q9)])),lO [(28,.ob q40)] (kO [1028,34,102003] [])⟩ (aI (aI (.seq (.meet zv j27 (aI (.seq (.seq (dS ⟨kS [4,5,7,8,9,12,13,14,15,52,53,54] [(66,.sl (.one q72))],kO [28,1028,34,102003,15] []⟩ .nil) .nil) (aI (.seq (dS ⟨kS [4,5,7,8,9,12,13,14,52,53,54] [(86,.sl iQ)],kO [28,1028,34,102003] []⟩ .nil) (.meet zv j27 j0)))))) .nil)))))) j4)) .nil))) (.seq (aI (dS ⟨lS [(4,.sl (.one (.own 110000)))] (kS [5,8,12] []),lO [(110000,.ob q65)] (kO [1028,102003] [])⟩ (.loop ⟨lS [(4,.sl (.one (.own 110000)))] (kS [5,8,9,12,97,98] [(99,.sl q9)]),lO [(110000,.ob q65)] (kO [1028,34,102003,28] [])⟩ (aI (aI (.seq (.seq (aI (.seq (aI (dS ⟨kS [4,5,8,9,12,18,97,98,99] [],kO [110000,1028,34,102003] [(18,.ob (.box [q1,q1,q1,q1,q1,q1,q72,q6,q1])),(28,.keep)]⟩ .nil)) .nil)) .nil) .nil)))))) (.seq (aI (dS ⟨[(4,.keep),(5,.sl (.one (.own 113001)))],[(110000,.keep),(113001,.ob q4)]⟩ (.loop ⟨lS [(4,.keep),(5,.sl (.one (.own 113001)))] (kS [12,129,130] [(131,.sl q9)]),lO [(110000,.keep),(113001,.ob q4)] (kO [102003,1028] [])⟩ j10))) .nil))))))))))
def axz:b_:={ bg:=2,pin:=⟨[(0,q16),(1,q76)],[]⟩,aU:=⟨[(0,q9)],[]⟩,bV:=1,bH:=[],aY:=[] }
def axA:fG:=(aI (aI (aI (.seq (aI (dS ⟨[(8,.sl q9)],[]⟩ (.loop ⟨lS [(8,.sl q9)] (kS [18,19] [(20,.sl q9)]),[(14,.keep)]⟩ j10))) .nil))))
def axB:b_:={ bg:=2,pin:=⟨[(0,q21),(1,q63)],[]⟩,aU:=⟨[(0,q78),(1,q9)],[(60000,BK),(60001,q4),(60002,q7),(60003,q7),(60004,q75),(60005,q49)]⟩,bV:=2,bH:=[],aY:=[60000,60001,60002,60003,60004,60005] }
def axC:fG:=(aI (.seq j6 (aI (.seq (aI (dS ⟨kS [2,3,4,7] [],kO [2,3,4] [(7,.ob q89),(42,.keep),(100005,.ob q7),(100006,.ob q7),(38,.keep)]⟩ (.loop ⟨kS [2,3,4,7,45,46] [(47,.sl q9)],kO [2,3,4] [(7,.ob q89),(42,.keep),(100005,.ob q7),(100006,.ob q7),(38,.keep)]⟩ j10))) (aI (.seq (aI (dS ⟨kS [2,3,4,7] [(10,.sl q9)],kO [2,3,4,7] (lO [(42,.ob q4)] (kO [100005,100006,38] []))⟩ (.loop ⟨kS [2,3,4,7] (lS [(10,.sl q9)] (kS [67,68] [(69,.sl q9)])),kO [2,3,4,7] (lO [(42,.ob q4)] (kO [100005,100006,38] []))⟩ (aI (aI j46))))) (.seq j1 (.seq (aI (dS ⟨kS [4,7] [],lO [(4,.keep),(7,.ob q80),(104004,.ob BK)] (kO [42,100005,100006,38] [(104009,.ob q49)])⟩ (.loop ⟨kS [2,3,4,7,96,97] [(98,.sl q9)],kO [2,3,4] (lO [(7,.ob q80),(104004,.ob BK)] (kO [42,100005,100006,38] [(104009,.ob q49)]))⟩ (aI (aI (.seq (.seq (aI (aI (aI (.seq (aI (dS ⟨kS [2,3,4,7,14,16,18,96,97,98] [],kO [2,3,4] (lO [(7,.ob q81),(1113,.keep),(105006,.ob BK)] (kO [42,100005,100006,38,104009] []))⟩ (.loop ⟨kS [2,3,4,7,14,16,18,96,97,98,120,121] [(122,.sl q9)],kO [2,3,4] (lO [(7,.ob q81)] (kO [1113,113] (lO [(105006,.ob BK)] (kO [42,100005,100006,38,104009] []))))⟩ (aI (aI (.seq (.seq (aI (.seq (aI (dS ⟨kS [2,3,4,7,14,16,18,20,96,97,98,120,121,122] [],kO [2,3,4,7,1113] (lO [(20,.ob (.box [q1,q1,q1,q1,q1,q1,q72,q6]))] (kO [113,105006,42,100005,100006,38,104009] []))⟩ .nil)) .nil)) .nil) .nil)))))) (aI (aI (dS ⟨kS [2,3,4,7,96,97,98] [],kO [2,3,4] (lO [(7,.ob q82)] (kO [105006,42,100005,100006,38] [(108010,.ob q49)]))⟩ (.loop ⟨kS [2,3,4,7,14,16,18,96,97,98,159,160] [(161,.sl q9)],kO [2,3,4] (lO [(7,.ob q82)] (kO [154,105006,42,100005,100006,38] [(108010,.ob q49)]))⟩ j10)))))))) .nil) .nil)))))) .nil))))))))
def sg6:b_:={ bg:=0,pin:=⟨[],[]⟩,aU:=⟨[(0,iQ)],[]⟩,bV:=1,bH:=[],aY:=[] }
def an6:fG:=(aI (aI (aI (.seq (dS ⟨[(0,.sl iQ)],[]⟩ .nil) .nil))))
def sg5:b_:={ bg:=4,pin:=⟨[(0,(.one q31)),(1,oJ),(2,oJ),(3,oJ)],[]⟩,aU:=⟨[(0,iQ)],[]⟩,bV:=1,bH:=[],aY:=[] }
def an5:fG:=(aI (.seq j1 (aI (aI (.seq (aI (.meet zj ⟨kS [1,2,3,10,11] [],kO [10,11] []⟩ (.loop ⟨kS [1,2,3,10,11] [(12,.sl q9)],kO [10,11] []⟩ (.seq (.seq (dS ⟨kS [1,2,3,10,11,12] [(53,.sl iQ)],kO [10,11] []⟩ .nil) .nil) (.seq (.seq (aI (aI (aI (aI (.seq (dS ⟨kS [1,2,3,10,11,12] [(97,.sl iQ)],kO [10,11] []⟩ .nil) j0))))) .nil) .nil))))) (aI (aI (aI (aI (.seq (.seq (dS ⟨kS [10,11] [(149,.sl iQ)],kO [10,11] []⟩ .nil) j0) (.seq (aI (.meet zj ⟨[],[]⟩ (.loop ⟨kS [10,11] [(29,.sl q9)],kO [10,11] []⟩ (.seq j0 (.seq (.seq (aI (.meet zj ⟨kS [10,11,29] [],kO [10,11] []⟩ (.loop ⟨kS [10,11,29] [(30,.sl q9)],kO [10,11] []⟩ (.seq j0 (.seq (.seq (aI (aI (.seq (dS ⟨kS [10,11,29,30] [(189,.sl iQ)],kO [10,11] []⟩ .nil) j0))) .nil) .nil))))) .nil) .nil))))) .nil)))))))))))
end Go.Fg.YtoipcimfapppmaaGreatDoor

