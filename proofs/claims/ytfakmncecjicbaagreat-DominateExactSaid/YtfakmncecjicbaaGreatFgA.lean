/-
  Shapes of the functions of the seat, printed by a program (wip/gen/Infer.lean).
-/
import Derived.Test.YtfakmncecjicbaaGreatFwT
import Derived.Test.YtfakmncecjicbaaGreatZd
namespace Go.Fg.YtfakmncecjicbaaGreat
open Go.Fw Go.Proofs Go.Fw.YtfakmncecjicbaaGreat
set_option linter.unusedVariables false
structure bK where
  kind:Int
  op:Int
  value:Int
  line:Int
  name:(List UInt8)
  args:(List bK)
def afe:bK:=bK.mk (0:Int) (0:Int) (0:Int) (0:Int) [] []
mutual
def rC:bK->List P
  |⟨y0,y1,y2,y3,y4,y5⟩=>[P.int .i64 y0,P.int .i64 y1,P.int .i64 y2,P.int .i64 y3,P.str ⟨List.toArray y4⟩,P.fG 6 (CJ y5)]
def CJ:List bK->List (List P)
  | []=>[]
  |x::l=>rC x::CJ l
end
theorem FC:∀l,CJ l=List.map rC l
  | []=>rfl
  |x::l=>by rw[CJ,FC l];rfl
theorem Vl(x:bK):rC x=[P.int .i64 (bK.kind x),P.int .i64 (bK.op x),P.int .i64 (bK.value x),P.int .i64 (bK.line x),P.str ⟨List.toArray (bK.name x)⟩,P.fG 6 (List.map rC (bK.args x))]:=by
  cases x
  rw[rC]
  simp only[FC]
structure eP where
  kind:Int
  line:Int
  name:(List UInt8)
  exprs:(List bK)
  then':(List eP)
  else':(List eP)
def aff:eP:=eP.mk (0:Int) (0:Int) [] [] [] []
mutual
def rD:eP->List P
  |⟨y0,y1,y2,y3,y4,y5⟩=>[P.int .i64 y0,P.int .i64 y1,P.str ⟨List.toArray y2⟩,P.fG 6 (List.map rC y3),P.fG 6 (yt y4),P.fG 6 (yt y5)]
def yt:List eP->List (List P)
  | []=>[]
  |x::l=>rD x::yt l
end
theorem FD:∀l,yt l=List.map rD l
  | []=>rfl
  |x::l=>by rw[yt,FD l];rfl
theorem Vm(x:eP):rD x=[P.int .i64 (eP.kind x),P.int .i64 (eP.line x),P.str ⟨List.toArray (eP.name x)⟩,P.fG 6 (List.map rC (eP.exprs x)),P.fG 6 (List.map rD (eP.then' x)),P.fG 6 (List.map rD (eP.else' x))]:=by
  cases x
  rw[rD]
  simp only[FD]
structure aA where
  name:(List UInt8)
  line:Int
  params:(List (List UInt8))
  body:(List eP)
def afg:aA:=aA.mk [] (0:Int) [] []
def afh(x:aA):List P:=[P.str ⟨List.toArray (aA.name x)⟩,P.int .i64 (aA.line x),P.fG 1 (List.map (λ(x:List UInt8)=>[P.str ⟨x.toArray⟩]) (aA.params x)),P.fG 6 (List.map rD (aA.body x))]
structure f_ where
  kind:Int
  op:Int
  dst:Int
  a:Int
  b:Int
  value:Int
  args:(List Int)
def ab6:f_:=f_.mk (0:Int) (0:Int) (0:Int) (0:Int) (0:Int) (0:Int) []
def RV(x:f_):List P:=[P.int .i64 (f_.kind x),P.int .i64 (f_.op x),P.int .i64 (f_.dst x),P.int .i64 (f_.a x),P.int .i64 (f_.b x),P.int .i64 (f_.value x),P.fG 1 (List.map (λ(x:Int)=>[P.int .i64 x]) (f_.args x))]
structure dZ where
  from':Int
  to:Int
def afi:dZ:=dZ.mk (0:Int) (0:Int)
def afj(x:dZ):List P:=[P.int .i64 (dZ.from' x),P.int .i64 (dZ.to x)]
structure aH where
  instrs:(List f_)
  aV:Int
  mJ:Int
  dI:Int
  bg:Int
  line:Int
  jQ:Int
  jf:Int
def ab7:aH:=aH.mk [] (0:Int) (0:Int) (0:Int) (0:Int) (0:Int) (0:Int) (0:Int)
def RX(x:aH):List P:=[P.fG 7 (List.map RV (aH.instrs x)),P.int .i64 (aH.aV x),P.int .i64 (aH.mJ x),P.int .i64 (aH.dI x),P.int .i64 (aH.bg x),P.int .i64 (aH.line x),P.int .i64 (aH.jQ x),P.int .i64 (aH.jf x)]
structure aK where
  name:(List UInt8)
  params:Int
  regs:Int
  blocks:(List aH)
def RY:aK:=aK.mk [] (0:Int) (0:Int) []
def RZ(x:aK):List P:=[P.str ⟨List.toArray (aK.name x)⟩,P.int .i64 (aK.params x),P.int .i64 (aK.regs x),P.fG 8 (List.map RX (aK.blocks x))]
structure aU where
  name:(List UInt8)
  size:Int
def Zw:aU:=aU.mk [] (0:Int)
def Zx(x:aU):List P:=[P.str ⟨List.toArray (aU.name x)⟩,P.int .i64 (aU.size x)]
def reC:Nat->Type
  |0=>Unit
  |1=>Unit
  |2=>Unit
  |3=>aU
  |4=>aK
  |5=>aH
  |6=>f_
  |7=>Unit
  |8=>dZ
  |9=>Unit
  |10=>Unit
  |11=>Unit
  |12=>Unit
  |13=>aA
  |14=>eP
  |15=>bK
  |16=>Unit
  |17=>Unit
  |18=>Unit
  |19=>Unit
  |20=>Unit
  |21=>Unit
  |22=>Unit
  |_=>Unit
def reF:Nat->List Ty
  |0=>[]
  |1=>[]
  |2=>[]
  |3=>[.str,(.int .i64)]
  |4=>[.str,(.int .i64),(.int .i64),(.sl (.st 5))]
  |5=>[(.sl (.st 6)),(.int .i64),(.int .i64),(.int .i64),(.int .i64),(.int .i64),(.int .i64),(.int .i64)]
  |6=>[(.int .i64),(.int .i64),(.int .i64),(.int .i64),(.int .i64),(.int .i64),(.sl (.int .i64))]
  |7=>[]
  |8=>[(.int .i64),(.int .i64)]
  |9=>[]
  |10=>[]
  |11=>[]
  |12=>[]
  |13=>[.str,(.int .i64),(.sl .str),(.sl (.st 14))]
  |14=>[(.int .i64),(.int .i64),.str,(.sl (.st 15)),(.sl (.st 14)),(.sl (.st 14))]
  |15=>[(.int .i64),(.int .i64),(.int .i64),(.int .i64),.str,(.sl (.st 15))]
  |16=>[]
  |17=>[]
  |18=>[]
  |19=>[]
  |20=>[]
  |21=>[]
  |22=>[]
  |_=>[]
def aoR:(n:Nat)->reC n
  |0=>()
  |1=>()
  |2=>()
  |3=>Zw
  |4=>RY
  |5=>ab7
  |6=>ab6
  |7=>()
  |8=>afi
  |9=>()
  |10=>()
  |11=>()
  |12=>()
  |13=>afg
  |14=>aff
  |15=>afe
  |16=>()
  |17=>()
  |18=>()
  |19=>()
  |20=>()
  |21=>()
  |22=>()
  |_+23=>()
def afk:(n:Nat)->reC n->List (TP reC)
  |0,x=>[]
  |1,x=>[]
  |2,x=>[]
  |3,x=>[⟨.str,aU.name x⟩,⟨(.int .i64),aU.size x⟩]
  |4,x=>[⟨.str,aK.name x⟩,⟨(.int .i64),aK.params x⟩,⟨(.int .i64),aK.regs x⟩,⟨(.sl (.st 5)),aK.blocks x⟩]
  |5,x=>[⟨(.sl (.st 6)),aH.instrs x⟩,⟨(.int .i64),aH.aV x⟩,⟨(.int .i64),aH.mJ x⟩,⟨(.int .i64),aH.dI x⟩,⟨(.int .i64),aH.bg x⟩,⟨(.int .i64),aH.line x⟩,⟨(.int .i64),aH.jQ x⟩,⟨(.int .i64),aH.jf x⟩]
  |6,x=>[⟨(.int .i64),f_.kind x⟩,⟨(.int .i64),f_.op x⟩,⟨(.int .i64),f_.dst x⟩,⟨(.int .i64),f_.a x⟩,⟨(.int .i64),f_.b x⟩,⟨(.int .i64),f_.value x⟩,⟨(.sl (.int .i64)),f_.args x⟩]
  |7,x=>[]
  |8,x=>[⟨(.int .i64),dZ.from' x⟩,⟨(.int .i64),dZ.to x⟩]
  |9,x=>[]
  |10,x=>[]
  |11,x=>[]
  |12,x=>[]
  |13,x=>[⟨.str,aA.name x⟩,⟨(.int .i64),aA.line x⟩,⟨(.sl .str),aA.params x⟩,⟨(.sl (.st 14)),aA.body x⟩]
  |14,x=>[⟨(.int .i64),eP.kind x⟩,⟨(.int .i64),eP.line x⟩,⟨.str,eP.name x⟩,⟨(.sl (.st 15)),eP.exprs x⟩,⟨(.sl (.st 14)),eP.then' x⟩,⟨(.sl (.st 14)),eP.else' x⟩]
  |15,x=>[⟨(.int .i64),bK.kind x⟩,⟨(.int .i64),bK.op x⟩,⟨(.int .i64),bK.value x⟩,⟨(.int .i64),bK.line x⟩,⟨.str,bK.name x⟩,⟨(.sl (.st 15)),bK.args x⟩]
  |16,x=>[]
  |17,x=>[]
  |18,x=>[]
  |19,x=>[]
  |20,x=>[]
  |21,x=>[]
  |22,x=>[]
  |_+23,_=>[]
def ak6:(n:Nat)->List (TP reC)->reC n
  |0,ws=>()
  |1,ws=>()
  |2,ws=>()
  |3,ws=>aU.mk (TP.get .str [] ws 0) (TP.get (.int .i64) (0:Int) ws 1)
  |4,ws=>aK.mk (TP.get .str [] ws 0) (TP.get (.int .i64) (0:Int) ws 1) (TP.get (.int .i64) (0:Int) ws 2) (TP.get (.sl (.st 5)) [] ws 3)
  |5,ws=>aH.mk (TP.get (.sl (.st 6)) [] ws 0) (TP.get (.int .i64) (0:Int) ws 1) (TP.get (.int .i64) (0:Int) ws 2) (TP.get (.int .i64) (0:Int) ws 3) (TP.get (.int .i64) (0:Int) ws 4) (TP.get (.int .i64) (0:Int) ws 5) (TP.get (.int .i64) (0:Int) ws 6) (TP.get (.int .i64) (0:Int) ws 7)
  |6,ws=>f_.mk (TP.get (.int .i64) (0:Int) ws 0) (TP.get (.int .i64) (0:Int) ws 1) (TP.get (.int .i64) (0:Int) ws 2) (TP.get (.int .i64) (0:Int) ws 3) (TP.get (.int .i64) (0:Int) ws 4) (TP.get (.int .i64) (0:Int) ws 5) (TP.get (.sl (.int .i64)) [] ws 6)
  |7,ws=>()
  |8,ws=>dZ.mk (TP.get (.int .i64) (0:Int) ws 0) (TP.get (.int .i64) (0:Int) ws 1)
  |9,ws=>()
  |10,ws=>()
  |11,ws=>()
  |12,ws=>()
  |13,ws=>aA.mk (TP.get .str [] ws 0) (TP.get (.int .i64) (0:Int) ws 1) (TP.get (.sl .str) [] ws 2) (TP.get (.sl (.st 14)) [] ws 3)
  |14,ws=>eP.mk (TP.get (.int .i64) (0:Int) ws 0) (TP.get (.int .i64) (0:Int) ws 1) (TP.get .str [] ws 2) (TP.get (.sl (.st 15)) [] ws 3) (TP.get (.sl (.st 14)) [] ws 4) (TP.get (.sl (.st 14)) [] ws 5)
  |15,ws=>bK.mk (TP.get (.int .i64) (0:Int) ws 0) (TP.get (.int .i64) (0:Int) ws 1) (TP.get (.int .i64) (0:Int) ws 2) (TP.get (.int .i64) (0:Int) ws 3) (TP.get .str [] ws 4) (TP.get (.sl (.st 15)) [] ws 5)
  |16,ws=>()
  |17,ws=>()
  |18,ws=>()
  |19,ws=>()
  |20,ws=>()
  |21,ws=>()
  |22,ws=>()
  |_+23,_=>()
def aiJ:(n:Nat)->reC n->List P
  |0,x=>[]
  |1,x=>[]
  |2,x=>[]
  |3,x=>Zx x
  |4,x=>RZ x
  |5,x=>RX x
  |6,x=>RV x
  |7,x=>[]
  |8,x=>afj x
  |9,x=>[]
  |10,x=>[]
  |11,x=>[]
  |12,x=>[]
  |13,x=>afh x
  |14,x=>rD x
  |15,x=>rC x
  |16,x=>[]
  |17,x=>[]
  |18,x=>[]
  |19,x=>[]
  |20,x=>[]
  |21,x=>[]
  |22,x=>[]
  |_+23,_=>[]
theorem ak7:∀n,(reF n).all Ty.word=true
  |0=>rfl
  |1=>rfl
  |2=>rfl
  |3=>rfl
  |4=>rfl
  |5=>rfl
  |6=>rfl
  |7=>rfl
  |8=>rfl
  |9=>rfl
  |10=>rfl
  |11=>rfl
  |12=>rfl
  |13=>rfl
  |14=>rfl
  |15=>rfl
  |16=>rfl
  |17=>rfl
  |18=>rfl
  |19=>rfl
  |20=>rfl
  |21=>rfl
  |22=>rfl
  |_+23=>rfl
theorem aiK:∀(n:Nat) (x:reC n),(afk n x).map (·.t)=reF n
  |0,x=>rfl
  |1,x=>rfl
  |2,x=>rfl
  |3,x=>rfl
  |4,x=>rfl
  |5,x=>rfl
  |6,x=>rfl
  |7,x=>rfl
  |8,x=>rfl
  |9,x=>rfl
  |10,x=>rfl
  |11,x=>rfl
  |12,x=>rfl
  |13,x=>rfl
  |14,x=>rfl
  |15,x=>rfl
  |16,x=>rfl
  |17,x=>rfl
  |18,x=>rfl
  |19,x=>rfl
  |20,x=>rfl
  |21,x=>rfl
  |22,x=>rfl
  |_+23,_=>rfl
theorem aiL:∀(n:Nat) (ws:List (TP reC)),ws.map (·.t)=reF n->afk n (ak6 n ws)=ws
  |0,ws,h=>by
    have e:=dP h
    subst e
    rfl
  |1,ws,h=>by
    have e:=dP h
    subst e
    rfl
  |2,ws,h=>by
    have e:=dP h
    subst e
    rfl
  |3,ws,h=>by
    obtain⟨x0,Lu,e0,h0⟩:=bn h
    subst e0
    obtain⟨x1,Uw,e1,h1⟩:=bn h0
    subst e1
    have e:=dP h1
    subst e
    rfl
  |4,ws,h=>by
    obtain⟨x0,Lu,e0,h0⟩:=bn h
    subst e0
    obtain⟨x1,Uw,e1,h1⟩:=bn h0
    subst e1
    obtain⟨x2,ws2,e2,h2⟩:=bn h1
    subst e2
    obtain⟨x3,ws3,e3,h3⟩:=bn h2
    subst e3
    have e:=dP h3
    subst e
    rfl
  |5,ws,h=>by
    obtain⟨x0,Lu,e0,h0⟩:=bn h
    subst e0
    obtain⟨x1,Uw,e1,h1⟩:=bn h0
    subst e1
    obtain⟨x2,ws2,e2,h2⟩:=bn h1
    subst e2
    obtain⟨x3,ws3,e3,h3⟩:=bn h2
    subst e3
    obtain⟨x4,ws4,e4,h4⟩:=bn h3
    subst e4
    obtain⟨x5,ws5,e5,h5⟩:=bn h4
    subst e5
    obtain⟨x6,ws6,e6,h6⟩:=bn h5
    subst e6
    obtain⟨x7,ws7,e7,h7⟩:=bn h6
    subst e7
    have e:=dP h7
    subst e
    rfl
  |6,ws,h=>by
    obtain⟨x0,Lu,e0,h0⟩:=bn h
    subst e0
    obtain⟨x1,Uw,e1,h1⟩:=bn h0
    subst e1
    obtain⟨x2,ws2,e2,h2⟩:=bn h1
    subst e2
    obtain⟨x3,ws3,e3,h3⟩:=bn h2
    subst e3
    obtain⟨x4,ws4,e4,h4⟩:=bn h3
    subst e4
    obtain⟨x5,ws5,e5,h5⟩:=bn h4
    subst e5
    obtain⟨x6,ws6,e6,h6⟩:=bn h5
    subst e6
    have e:=dP h6
    subst e
    rfl
  |7,ws,h=>by
    have e:=dP h
    subst e
    rfl
  |8,ws,h=>by
    obtain⟨x0,Lu,e0,h0⟩:=bn h
    subst e0
    obtain⟨x1,Uw,e1,h1⟩:=bn h0
    subst e1
    have e:=dP h1
    subst e
    rfl
  |9,ws,h=>by
    have e:=dP h
    subst e
    rfl
  |10,ws,h=>by
    have e:=dP h
    subst e
    rfl
  |11,ws,h=>by
    have e:=dP h
    subst e
    rfl
  |12,ws,h=>by
    have e:=dP h
    subst e
    rfl
  |13,ws,h=>by
    obtain⟨x0,Lu,e0,h0⟩:=bn h
    subst e0
    obtain⟨x1,Uw,e1,h1⟩:=bn h0
    subst e1
    obtain⟨x2,ws2,e2,h2⟩:=bn h1
    subst e2
    obtain⟨x3,ws3,e3,h3⟩:=bn h2
    subst e3
    have e:=dP h3
    subst e
    rfl
  |14,ws,h=>by
    obtain⟨x0,Lu,e0,h0⟩:=bn h
    subst e0
    obtain⟨x1,Uw,e1,h1⟩:=bn h0
    subst e1
    obtain⟨x2,ws2,e2,h2⟩:=bn h1
    subst e2
    obtain⟨x3,ws3,e3,h3⟩:=bn h2
    subst e3
    obtain⟨x4,ws4,e4,h4⟩:=bn h3
    subst e4
    obtain⟨x5,ws5,e5,h5⟩:=bn h4
    subst e5
    have e:=dP h5
    subst e
    rfl
  |15,ws,h=>by
    obtain⟨x0,Lu,e0,h0⟩:=bn h
    subst e0
    obtain⟨x1,Uw,e1,h1⟩:=bn h0
    subst e1
    obtain⟨x2,ws2,e2,h2⟩:=bn h1
    subst e2
    obtain⟨x3,ws3,e3,h3⟩:=bn h2
    subst e3
    obtain⟨x4,ws4,e4,h4⟩:=bn h3
    subst e4
    obtain⟨x5,ws5,e5,h5⟩:=bn h4
    subst e5
    have e:=dP h5
    subst e
    rfl
  |16,ws,h=>by
    have e:=dP h
    subst e
    rfl
  |17,ws,h=>by
    have e:=dP h
    subst e
    rfl
  |18,ws,h=>by
    have e:=dP h
    subst e
    rfl
  |19,ws,h=>by
    have e:=dP h
    subst e
    rfl
  |20,ws,h=>by
    have e:=dP h
    subst e
    rfl
  |21,ws,h=>by
    have e:=dP h
    subst e
    rfl
  |22,ws,h=>by
    have e:=dP h
    subst e
    rfl
  |_+23,ws,h=>by have e:=dP h;subst e;rfl
theorem aiM:∀(n:Nat) (x:reC n),aiJ n x=(afk n x).map λw=>IW (iY reF) (oK reF aiJ (iY reF)) w.t w.x
  |0,x=>by kernel_rfl
  |1,x=>by kernel_rfl
  |2,x=>by kernel_rfl
  |3,x=>by kernel_rfl
  |4,x=>by kernel_rfl
  |5,x=>by kernel_rfl
  |6,x=>by kernel_rfl
  |7,x=>by kernel_rfl
  |8,x=>by kernel_rfl
  |9,x=>by kernel_rfl
  |10,x=>by kernel_rfl
  |11,x=>by kernel_rfl
  |12,x=>by kernel_rfl
  |13,x=>by kernel_rfl
  |14,x=>(Vm x).trans (by kernel_rfl)
  |15,x=>(Vl x).trans (by kernel_rfl)
  |16,x=>by kernel_rfl
  |17,x=>by kernel_rfl
  |18,x=>by kernel_rfl
  |19,x=>by kernel_rfl
  |20,x=>by kernel_rfl
  |21,x=>by kernel_rfl
  |22,x=>by kernel_rfl
  |_+23,_=>rfl
def reG:Nat->Option ((e:Ty)×List (D reC e))
  |_=>none
instance re:RE where
  C:=reC
  F:=reF
  dflt:=aoR
  un:=afk
  ro:=ak6
  er:=aiJ
  Fwd:=ak7
  ag7:=aiK
  ag8:=aiL
  ag9:=aiM
  G:=reG
theorem mixed:Fit Tryz.prog:=⟨Fw.YtfakmncecjicbaaGreat.aiH,λ_ _ _ _ h=>h.elim⟩
def qI:List (Nat×Ty):=[(3,(.int .i64)),(4,.bool),(5,(.int .u8)),(9,.str),(33,(.st 4)),(35,(.sl (.int .i64))),(50,(.st 5)),(54,(.sl .bool)),(67,(.st 8)),(80,(.st 3)),(84,(.st 6)),(94,(.st 13)),(122,(.st 14)),(145,(.st 15))]
def ety:TypeId->Option Ty:=λt=>qI.lookup t
def kS(l:List Nat)(r:List (Nat×Md)):List (Nat×Md):=l.map (λn=>(n,.keep))++r
def kO(l:List Nat)(r:List (Nat×Mo)):List (Nat×Mo):=l.map (λn=>(n,.keep))++r
def lS(l r:List (Nat×Md)):=l++r
def lO(l r:List (Nat×Mo)):=l++r
abbrev q0:jI:=.p false false (.int .i64)
abbrev q1:jI:=.p true false (.int .i64)
abbrev q2:jI:=.p false true (.int .i64)
abbrev q3:j_:=.one (.p false false .bool)
abbrev q4:g_:=.box [(.p false true (.sl (.int .u8))),q0]
abbrev q5:g_:=.arr false false false (.int .i64)
abbrev q6:g_:=.arr false false true (.int .i64)
abbrev q8:g_:=.aF true true (.st 5) [(0,(.st 6))]
abbrev q9:g_:=.arr false true false (.int .i64)
abbrev q10:g_:=.box [(.p false true (.sl (.st 3))),(.p false true (.sl (.st 13))),(.p false true (.sl .str)),q2,q2,(.own 50001),q2]
abbrev q11:g_:=.box [(.p false true (.sl (.st 3))),(.p false true (.sl (.st 13))),(.own 50001),q2,q2]
abbrev q12:j_:=.one q0
abbrev q13:jI:=.p true true (.sl (.st 13))
abbrev Xv:g_:=.box [(.box 50001 0),(.own 50002),(.own 50003),(.own 50004),q2]
abbrev R_:jI:=.p true true (.sl (.st 3))
abbrev q16:g_:=.box [(.p false true (.sl (.st 3))),(.p false true (.sl (.st 13))),(.own 50001),q0,q0]
abbrev wI:g_:=.arr false false true .str
abbrev Aj:g_:=.arr false false false .bool
abbrev TQ:g_:=.aF false false (.sl (.int .i64)) [(0,(.int .i64))]
abbrev Px:g_:=.box [(.p false true (.sl (.int .u8))),q2]
abbrev wS:j_:=.one (.box 50000 0)
abbrev q22:jI:=.p true true (.sl .str)
abbrev q23:g_:=.arr false false true (.st 3)
abbrev q24:g_:=.arr false false true (.st 13)
abbrev sF:j_:=.one q1
abbrev Z9:g_:=.aF false true (.st 5) [(0,(.st 6))]
abbrev q27:g_:=.box [R_,q13,q22,q0,q0,(.own 1033),q0]
abbrev q28:g_:=.aF false false (.st 4) [(3,(.st 5))]
abbrev q30:jI:=.p false false .str
abbrev Z_:g_:=.arr false true false (.st 8)
abbrev q32:jI:=.p true false (.sl (.int .i64))
abbrev q33:j_:=.agg [(.p true false (.sl (.st 3))),(.p true false (.sl (.st 4))),q1,q1]
abbrev q34:g_:=.box [R_,q13,q22,q2,q2,(.own 100002),q2]
abbrev q35:jI:=.p true false (.sl (.st 14))
abbrev q36:j_:=.agg [(.p true false (.sl (.st 3))),(.p true false (.sl (.st 13)))]
abbrev q37:g_:=.box [(.box 50001 0),(.own 50002),(.own 50003),(.own 50004),q0]
abbrev TR:jI:=.p true false .str
abbrev q7:j_:=.agg [TR,q1,q1,(.p true false (.sl (.st 5)))]
abbrev q39:g_:=.box [(.p false true (.sl (.st 3))),(.p false true (.sl (.st 13))),(.p false true (.sl .str)),q0,q0,(.own 50001),q0]
abbrev q40:jI:=.p false true (.sl (.st 5))
abbrev q41:g_:=.arr false false true .bool
abbrev q42:g_:=.aF true false (.sl (.int .i64)) [(0,(.int .i64))]
abbrev q43:j_:=.one (.own 100001)
abbrev q44:g_:=.arr false false true (.st 14)
abbrev q45:g_:=.box [(.fn 26 [50000,50002,50003,50004])]
abbrev q46:g_:=.arr false true true .str
abbrev q47:jI:=.p true false (.sl (.st 15))
abbrev q29:j_:=.agg [q1,q1,q1,q1,TR,q47]
abbrev q48:j_:=.one (.own 55000)
abbrev q49:j_:=.one (.own 100002)
abbrev q50:jI:=.p false true .str
abbrev q51:g_:=.box [R_,q13,(.own 100002),q0,q0]
abbrev q52:g_:=.box [R_,q13,(.own 100002),q2,q2]
abbrev q53:g_:=.arr false false false (.st 3)
abbrev q54:g_:=.arr false true true (.st 15)
abbrev q55:jI:=.p true true (.int .i64)
abbrev q56:g_:=.box [R_,q13,q22,q0,q0,(.own 60001),q0]
abbrev q57:j_:=.one (.p true false (.sl (.st 8)))
abbrev q59:g_:=.arr false false true (.st 15)
abbrev q60:g_:=.box [(.own 50001)]
abbrev q61:g_:=.box [(.own 38)]
abbrev q62:j_:=.agg [q1,q1,q1,q1,q1,q1,q32]
abbrev q63:g_:=.box [(.own 21)]
abbrev q64:jI:=.p true false (.sl (.int .u8))
abbrev q65:j_:=.one (.own 100000)
abbrev q66:g_:=.arr false true false (.st 5)
abbrev q67:g_:=.arr false false false .str
abbrev q69:jI:=.p true false (.sl .str)
abbrev q70:g_:=.box [(.box 50000 0),(.own 101003),(.own 100701),(.own 100702),q0]
abbrev q71:g_:=.box [(.box 50000 0),(.own 103003),(.own 100701),(.own 100702),q0]
abbrev q72:g_:=.box [(.box 50000 0),(.own 103003),(.own 105004),(.own 100702),q0]
abbrev q73:g_:=.box [(.box 50000 0),(.own 103003),(.own 105004),(.own 109005),q0]
abbrev q74:j_:=.one (.own 101002)
abbrev q75:j_:=.one (.own 101001)
abbrev q76:g_:=.box [(.box 50001 0),(.own 50002),(.own 50003),(.own 100005),q2]
abbrev q77:g_:=.box [q50,q2,q2,q40]
abbrev q78:g_:=.arr false false false (.sl .bool)
abbrev q79:j_:=.agg [q1,q1,TR,q47,q35,q35]
abbrev q80:g_:=.box [(.p true false (.sl (.st 6))),q1,q1,q1,q1,q1,q1,q1]
abbrev q82:j_:=.agg [q1,q1,q1,q1]
abbrev q83:g_:=.arr false false false (.st 13)
abbrev q84:g_:=.arr false true false (.st 13)
abbrev q85:g_:=.arr false true true (.st 14)
abbrev q86:g_:=.arr false true false (.st 4)
abbrev j0:fU:=.seq .nil .nil
abbrev j1:fU:=.seq .nil j0
abbrev j2:JT:=⟨[],[(50000,.ob q27),(1033,.ob q8)]⟩
abbrev j4:JT:=⟨kS [0,4] [],lO [(50000,.ob Xv),(50001,.ob q4)] (kO [50002,50003,4,50004] [])⟩
abbrev j5:JT:=⟨kS [0,3,4] [],lO [(50000,.ob q11)] (kO [50001,3,4] [])⟩
abbrev j6:JT:=⟨kS [0,1,5,6,7] [],lO [(50000,.ob q51)] (kO [100001,7,100002,101003] [])⟩
abbrev j7:fU:=.seq j0 .nil
abbrev j9:fU:=.seq .nil j1
abbrev j10:JT:=⟨kS [0,3,4] [],lO [(50000,.ob q16)] (kO [50001,3,4] [])⟩
abbrev j11:fU:=.seq j1 .nil
abbrev j3:fU:=.seq j0 (.seq j11 .nil)
abbrev j8:fU:=.seq (.seq .nil (.meet true ⟨[],[]⟩ (.loop ⟨kS [0,1] [(5,.sl q12)],[]⟩ j3))) .nil
abbrev j13:fU:=.seq .nil (.seq .nil (.seq (.seq .nil (.meet false ⟨[(3,.sl q12)],[]⟩ (.loop ⟨[(1,.keep),(3,.sl q12),(4,.sl q12)],[(1,.keep)]⟩ (.seq j0 j0)))) .nil))
abbrev j14:JT:=⟨[],[(55000,.ob q6)]⟩
abbrev j16:JT:=⟨kS [3,7,8,10,11,13] (lS [(14,.sl q12)] (kS [51,52,53,60,61,62] [])),lO [(18,.keep),(8,.ob q61),(4,.ob q63)] (kO [38,21] [])⟩
abbrev j17:fU:=.seq .nil (.seq (.meet false ⟨[(6,.sl q3)],[]⟩ .nil) .nil)
abbrev j20:fU:=.seq .nil (.seq (.seq .nil (.meet true ⟨[],[]⟩ (.loop ⟨kS [1,2] [(5,.sl q12)],[(2,.keep)]⟩ j3))) .nil)
abbrev j21:JT:=⟨kS [1,4] [(5,.sl q3)],[(1,.keep)]⟩
abbrev j22:fU:=.seq .nil (.meet false ⟨kS [1,2,3,4,7,8,9] [],kO [1,2,11,14,7] [(9,.ob q80),(103005,.keep)]⟩ .nil)
abbrev j23:JT:=⟨lS [(0,.sl (.one q55)),(1,.sl (.one q55))] (kS [2,3] []),kO [50000,50001,50002,50003] []⟩
abbrev j24:JT:=⟨kS [3,7,8,10] [(11,.sl q3)],[(18,.keep),(8,.ob q61),(4,.ob q63),(38,.ob q5),(21,.keep)]⟩
abbrev j26:JT:=⟨kS [0,2,3,4,7,8] [],lO [(50000,.ob q4)] (kO [2,3] [(100004,.ob q28),(19,.keep)])⟩
abbrev j27:JT:=⟨[],[(50000,.ob q34),(100002,.ob q8)]⟩
abbrev j28:JT:=⟨[(1,.keep),(3,.sl q3)],[(1,.keep)]⟩
abbrev j29:JT:=⟨[(1,.keep),(6,.sl q3)],[(1,.keep)]⟩
abbrev j30:fU:=.seq .nil (.seq .nil j11)
abbrev j32:fU:=.seq .nil j7
abbrev j33:fU:=.seq .nil j9
abbrev j34:JT:=⟨kS [0,4] [],kO [50000,50001,50002,50003,4,50004] []⟩
abbrev j37:fU:=.seq (.seq j9 .nil) .nil
abbrev j38:JT:=⟨kS [3,4,5,6,7] [],[(11,.keep),(16,.ob q5)]⟩
abbrev j40:JT:=⟨[],[(50000,.ob q16),(50001,.keep)]⟩
def sg5:dA:={ bD:=2,pin:=⟨[(0,(.one q64)),(1,sF)],[]⟩,aO:=⟨[(0,(.one (.box 14 0)))],[(14,(.box [q64,q0]))]⟩,cO:=1,bC:=[],aQ:=[14] }
def an5:fU:=(.seq .nil (.seq (.seq .nil (.meet false ⟨[(0,.sl (.one q64))],[]⟩ .nil)) .nil))
def sg7:dA:={ bD:=2,pin:=⟨[(0,(.one q32)),(1,(.one q32))],[]⟩,aO:=⟨[(0,q3)],[]⟩,cO:=1,bC:=[],aQ:=[] }
def an7:fU:=(.seq .nil (.seq j1 j8))
def ao1:dA:={ bD:=2,pin:=⟨[(0,q57),(1,q57)],[]⟩,aO:=⟨[(0,q3)],[]⟩,cO:=1,bC:=[],aQ:=[] }
def ao3:fU:=(.seq .nil (.seq j1 j8))
def alj:dA:={ bD:=2,pin:=⟨[(0,wS),(1,sF)],[(50000,Px)]⟩,aO:=⟨[(0,q12)],[(50000,q4)]⟩,cO:=1,bC:=[50000],aQ:=[] }
def ao4:fU:=(.seq .nil (.seq (.seq (.meet false ⟨kS [0,1] [(19,.sl q3)],[(50000,.keep)]⟩ .nil) j0) j30))
def ao5:dA:={ bD:=1,pin:=⟨[(0,q82)],[]⟩,aO:=⟨[(0,(.one (.own 60000)))],[(60000,q9)]⟩,cO:=1,bC:=[],aQ:=[60000] }
def ao6:fU:=(.seq .nil (.seq (.seq (.seq (.seq .nil (.meet false j28 (.seq .nil (.meet false j28 .nil)))) j9) .nil) .nil))
def ao7:dA:={ bD:=1,pin:=⟨[(0,q48)],[(55000,q6)]⟩,aO:=⟨[],[(55000,q6)]⟩,cO:=0,bC:=[55000],aQ:=[] }
def ao8:fU:=(.seq .nil (.meet false j14 (.loop ⟨[(0,.keep),(2,.sl q12),(3,.sl q12)],[(55000,.ob q6)]⟩ (.seq j0 j0))))
def ao9:dA:={ bD:=1,pin:=⟨[(0,q7)],[]⟩,aO:=⟨[(0,(.one (.own 11)))],[(11,TQ)]⟩,cO:=1,bC:=[],aQ:=[11] }
def ao_:fU:=(.seq .nil (.seq .nil (.seq (.seq .nil (.meet false ⟨[(3,.keep)],[(11,.ob TQ)]⟩ (.loop ⟨kS [3,13,14] [(15,.sl q12)],[(11,.ob TQ)]⟩ (.seq .nil (.seq .nil (.seq (.seq (.seq .nil (.seq .nil (.meet false ⟨kS [3,13,14,15] [],[(11,.ob TQ)]⟩ (.loop ⟨kS [3,4,13,14,15,22,23] [(24,.sl q12)],[(11,.ob TQ),(22,.keep)]⟩ (.seq .nil j32))))) .nil) .nil)))))) .nil)))
def alk:TypeId->Option Ty:=λt=>(([(1000035,(.prod (.st 0) .bool)),(3000009,.bool)]:List (Nat×Ty))++qI).lookup t
def apa:dA:={ bD:=4,pin:=⟨[(0,sF),(1,sF),(2,wS),(3,(.one (.box 50002 0)))],[(50000,q60),(50002,(.box [(.own 50003)])),(50001,q6),(50003,q6)]⟩,aO:=⟨[(0,q12)],[(50000,q60),(50001,q6),(50002,(.box [(.own 50003)])),(50003,q6)]⟩,cO:=1,bC:=[50000,50001,50002,50003],aQ:=[],kept:=[50001,50003] }
def apb:fU:=(.seq .nil (.seq (.meet false ⟨[(0,.sl (.one q55))],kO [50000,50001,50002,50003] []⟩ (.loop j23 (.seq j0 (.seq (.seq .nil (.meet false j23 .nil)) .nil)))) .nil))
def apc:dA:={ bD:=3,pin:=⟨[(0,(.one q32)),(1,sF),(2,sF)],[]⟩,aO:=⟨[(0,q3)],[]⟩,cO:=1,bC:=[],aQ:=[] }
def apd:fU:=(.seq .nil (.seq (.meet false ⟨[(2,.sl sF)],[]⟩ (.loop ⟨kS [0,1] [(2,.sl sF)],[]⟩ (.seq (.seq (.meet false ⟨kS [0,1,2] [(13,.sl q3)],[]⟩ .nil) .nil) .nil))) .nil))
def ape:dA:={ bD:=1,pin:=⟨[(0,q82)],[]⟩,aO:=⟨[(0,(.one (.own 60000)))],[(60000,q9)]⟩,cO:=1,bC:=[],aQ:=[60000] }
def apf:fU:=(.seq .nil (.seq (.seq (.seq (.meet false j28 .nil) (.seq .nil (.seq (.meet false ⟨[(1,.keep),(19,.sl q3)],[(1,.keep)]⟩ .nil) j0))) .nil) .nil))
def apg:dA:={ bD:=3,pin:=⟨[(0,q7),(1,sF),(2,q57)],[]⟩,aO:=⟨[(0,(.one (.own 18)))],[(18,Aj)]⟩,cO:=1,bC:=[],aQ:=[18] }
def aph:fU:=(.seq .nil (.seq .nil (.seq .nil (.seq .nil (.seq (.seq .nil (.meet false ⟨kS [7,8] [(9,.sl q49)],[(14,.keep),(18,.ob Aj),(100002,.ob q9)]⟩ (.loop ⟨kS [1,7,8] (lS [(9,.sl q49)] (kS [19,20] [(21,.sl q12)])),[(14,.keep),(18,.ob Aj),(100002,.ob q9)]⟩ (.seq .nil (.seq .nil (.seq (.seq (.seq .nil (.seq .nil (.meet false ⟨kS [1,7,8] (lS [(9,.sl q74)] (kS [19,20,21] [])),[(14,.keep),(18,.ob Aj),(101002,.ob q9)]⟩ j0))) .nil) .nil)))))) (.seq (.meet false ⟨[(8,.keep)],[(18,.ob Aj)]⟩ (.loop ⟨kS [7,8] [(9,.sl (.one (.own 103002)))],[(14,.ob TQ),(18,.ob Aj),(103002,.ob q9)]⟩ (.seq j0 (.seq (.seq .nil (.seq .nil (.seq .nil (.meet false ⟨kS [7,8] [(9,.sl (.one (.own 104002)))],[(14,.ob TQ),(18,.ob Aj),(104002,.ob q9)]⟩ j0)))) .nil)))) .nil))))))
def alm:TypeId->Option Ty:=λt=>(([(2000000,.bool)]:List (Nat×Ty))++qI).lookup t
def apj:dA:={ bD:=2,pin:=⟨[(0,q7),(1,sF)],[]⟩,aO:=⟨[(0,(.one (.own 13)))],[(13,Aj)]⟩,cO:=1,bC:=[],aQ:=[13] }
def apk:fU:=(.seq .nil (.seq .nil (.seq j1 (.seq .nil (.seq .nil (.seq (.meet false ⟨[(5,.keep)],[(13,.ob Aj)]⟩ (.loop ⟨kS [1,2,5] [(6,.sl q49)],[(2,.keep),(13,.ob Aj),(100002,.ob q9)]⟩ (.seq j0 (.seq (.seq .nil (.seq .nil (.seq .nil (.seq .nil (.meet false ⟨kS [1,2,5] [(6,.sl q74)],[(2,.keep),(13,.ob Aj),(101002,.ob q9)]⟩ (.loop ⟨kS [1,2,5] [(6,.sl q74),(8,.keep),(9,.sl q12)],[(2,.keep),(13,.ob Aj),(101002,.ob q9),(40,.keep)]⟩ (.seq j0 (.seq (.seq (.seq (.meet false ⟨kS [1,2,5,6,8,9] [(62,.sl q3)],kO [2,13,101002,40] []⟩ .nil) (.meet false ⟨kS [1,2,5] (lS [(6,.sl (.one (.own 103002)))] (kS [8,9] [])),[(2,.keep),(13,.ob Aj),(103002,.ob q9),(40,.keep)]⟩ j0)) .nil) .nil)))))))) .nil)))) .nil))))))
def aln:TypeId->Option Ty:=λt=>(([(2000000,.bool)]:List (Nat×Ty))++qI).lookup t
def apl:dA:={ bD:=1,pin:=⟨[(0,q7)],[]⟩,aO:=⟨[(0,(.one (.own 10)))],[(10,TQ)]⟩,cO:=1,bC:=[],aQ:=[10] }
def apm:fU:=(.seq .nil (.seq .nil (.seq (.seq .nil (.meet false ⟨[(3,.keep)],[(10,.ob TQ)]⟩ (.loop ⟨kS [1,3] [(4,.sl q12)],[(1,.keep),(10,.ob TQ)]⟩ (.seq j0 (.seq (.seq (.seq .nil (.seq .nil (.meet false ⟨kS [1,3,4] [],[(1,.keep),(10,.ob TQ)]⟩ (.loop ⟨kS [1,3,4,5] [(6,.sl q12)],[(1,.keep),(10,.ob TQ),(24,.keep)]⟩ (.seq j0 j0))))) .nil) .nil))))) .nil)))
def alo:TypeId->Option Ty:=λt=>(([(1000035,(.prod (.st 0) .bool)),(3000013,.bool),(3000008,.bool)]:List (Nat×Ty))++qI).lookup t
def alp:dA:={ bD:=1,pin:=⟨[(0,sF)],[]⟩,aO:=⟨[(0,(.one q30))],[]⟩,cO:=1,bC:=[],aQ:=[] }
def apn:fU:=j30
def apo:dA:={ bD:=3,pin:=⟨[(0,wS),(1,q33),(2,q7)],[(50000,Px)]⟩,aO:=⟨[(0,(.agg [q0,q0,q0,q0,q0,q0,(.own 60001)]))],[(50000,q4),(60001,q5)]⟩,cO:=1,bC:=[50000],aQ:=[60001] }
def apq:fU:=(.seq .nil (.seq .nil (.seq (.seq .nil (.seq (.seq .nil (.meet false ⟨kS [0,4,6,7] [],lO [(50000,.ob q4)] (kO [4,6] [(7,.ob (.box [q0,q0,q0,q0,q0,q0,(.own 110004)])),(110004,.ob q5)])⟩ (.seq .nil (.seq .nil (.meet false ⟨kS [0,4,6,7] [],lO [(50000,.ob q4)] (kO [4,6] [(7,.ob (.box [q0,q0,q0,q0,q0,q0,(.own 109004)])),(109004,.ob q5)])⟩ (.seq .nil (.seq .nil (.meet false ⟨kS [0,4,6,7] [],lO [(50000,.ob q4)] (kO [4,6] [(7,.ob (.box [q0,q0,q0,q0,q0,q0,(.own 108004)])),(108004,.ob q5)])⟩ (.seq .nil (.seq (.seq .nil (.meet false ⟨kS [0,4,5,6,7,27] [(46,.sl q3)],kO [50000,4,5,6,7] []⟩ .nil)) (.meet false ⟨kS [0,4,6,7] [],lO [(50000,.ob q4)] (kO [4,6] [(7,.ob (.box [q0,q0,q0,q0,q0,q0,(.own 107004)])),(107004,.ob q5)])⟩ (.seq .nil (.seq .nil (.meet false ⟨kS [0,4,6,7] [],lO [(50000,.ob q4)] (kO [4,6] [(7,.ob (.box [q0,q0,q0,q0,q0,q0,(.own 106004)])),(106004,.ob q5)])⟩ (.seq (.seq .nil (.seq .nil (.meet false ⟨kS [0,4,6,7] [],lO [(50000,.ob q4)] (kO [4,6] [(7,.ob (.box [q0,q0,q0,q0,q0,q0,(.own 101005)])),(101005,.ob q5)])⟩ (.loop ⟨kS [0,4,5,6,7] [(8,.sl q12)],lO [(50000,.ob q4)] (kO [4,5,6] [(7,.ob (.box [q0,q0,q0,q0,q0,q0,(.own 101005)])),(101005,.ob q5)])⟩ (.seq j0 j0))))) (.seq .nil (.meet false ⟨kS [0,4,6,7] [],lO [(50000,.ob q4)] (kO [4,6] [(7,.ob (.box [q0,q0,q0,q0,q0,q0,(.own 105004)])),(105004,.ob q5)])⟩ (.seq (.seq .nil (.meet false ⟨kS [0,4,6,7] [],lO [(50000,.ob q4)] (kO [4,6] [(7,.ob (.box [q0,q0,q0,q0,q0,q0,(.own 103005)])),(103005,.ob q5)])⟩ (.loop ⟨kS [0,4,5,6,7] [(9,.sl q12)],lO [(50000,.ob q4)] (kO [4,5,6] [(7,.ob (.box [q0,q0,q0,q0,q0,q0,(.own 103005)])),(103005,.ob q5)])⟩ (.seq j0 j0)))) .nil)))))))))))))))))) .nil)) (.seq (.seq (.meet false ⟨kS [0,4,6,7] [(107,.sl q3)],lO [(50000,.ob q4)] (kO [4,6,7,110004] [])⟩ .nil) j0) .nil))))
def apr:dA:={ bD:=2,pin:=⟨[(0,q57),(1,(.agg [q1,q1]))],[]⟩,aO:=⟨[(0,q12)],[]⟩,cO:=1,bC:=[],aQ:=[] }
def aps:fU:=(.seq .nil (.seq (.seq .nil (.meet true ⟨[],[]⟩ (.loop ⟨kS [0,3,7] [(8,.sl q12)],[(3,.keep)]⟩ (.seq .nil (.seq .nil j37))))) .nil))
def apt:dA:={ bD:=2,pin:=⟨[(0,wS),(1,sF)],[(50000,q10),(50001,Z9)]⟩,aO:=⟨[(0,q12)],[(50000,(.box [(.p false true (.sl (.st 3))),(.p false true (.sl (.st 13))),(.p false true (.sl .str)),q0,q0,(.own 30),q0])),(30,q8)]⟩,cO:=1,bC:=[50000],aQ:=[30] }
def apu:fU:=j9
def alq:TypeId->Option Ty:=λt=>(([(1000050,(.prod (.st 0) .bool)),(3000009,.bool)]:List (Nat×Ty))++qI).lookup t
def apv:dA:={ bD:=2,pin:=⟨[(0,wS),(1,q62)],[(50000,q10),(50001,Z9)]⟩,aO:=⟨[],[(50000,q39),(50001,q8)]⟩,cO:=0,bC:=[50000,50001],aQ:=[] }
def apw:fU:=.nil
def alr:TypeId->Option Ty:=λt=>(([(1000050,(.prod (.st 0) .bool))]:List (Nat×Ty))++qI).lookup t
def apx:dA:={ bD:=3,pin:=⟨[(0,wS),(1,sF),(2,q82)],[(50000,q10),(50001,Z9)]⟩,aO:=⟨[],[(50000,q39),(50001,q8)]⟩,cO:=0,bC:=[50000,50001],aQ:=[] }
def apy:fU:=.nil
def als:TypeId->Option Ty:=λt=>(([(1000050,(.prod (.st 0) .bool))]:List (Nat×Ty))++qI).lookup t
def apz:dA:={ bD:=1,pin:=⟨[(0,q7)],[]⟩,aO:=⟨[(0,(.one (.own 11)))],[(11,Aj)]⟩,cO:=1,bC:=[],aQ:=[11] }
def apA:fU:=(.seq .nil (.seq .nil (.seq j1 (.seq .nil (.seq .nil (.seq (.meet false ⟨[(3,.keep)],[(11,.ob Aj)]⟩ (.loop ⟨kS [1,3] [(4,.sl q49)],[(1,.keep),(11,.ob Aj),(100002,.ob q9)]⟩ (.seq j0 (.seq (.seq .nil (.seq .nil (.seq .nil (.seq .nil (.meet false ⟨kS [1,3] [(4,.sl q74)],[(1,.keep),(11,.ob Aj),(101002,.ob q9)]⟩ (.loop ⟨kS [1,3] [(4,.sl q74),(6,.keep),(7,.sl q12)],[(1,.keep),(11,.ob Aj),(101002,.ob q9),(39,.keep)]⟩ (.seq j0 (.seq (.seq (.seq .nil (.meet false ⟨kS [1,3] (lS [(4,.sl (.one (.own 102002)))] (kS [6,7] [])),[(1,.keep),(11,.ob Aj),(102002,.ob q9),(39,.keep)]⟩ j0)) .nil) .nil)))))))) .nil)))) .nil))))))
def alu:TypeId->Option Ty:=λt=>(([(2000000,.bool)]:List (Nat×Ty))++qI).lookup t
def alv:dA:={ bD:=2,pin:=⟨[(0,q48),(1,(.one q35))],[(55000,wI)]⟩,aO:=⟨[(0,q65)],[(100000,q46)]⟩,cO:=1,bC:=[],aQ:=[100000] }
def apB:fU:=(.seq .nil (.seq (.seq .nil (.meet false ⟨[(0,.sl q65)],[(100000,.ob q46)]⟩ (.loop ⟨[(0,.sl q65),(1,.keep),(5,.sl q12)],[(100000,.ob q46)]⟩ (.seq j0 (.seq (.seq (.seq (.seq .nil (.meet false ⟨lS [(0,.sl (.one (.own 101000)))] (kS [1,5] []),[(101000,.ob q46)]⟩ .nil)) .nil) .nil) .nil))))) .nil))
def apC:dA:={ bD:=2,pin:=⟨[(0,q36),(1,(.one TR))],[]⟩,aO:=⟨[(0,q12)],[]⟩,cO:=1,bC:=[],aQ:=[] }
def apD:fU:=j20
def apE:dA:={ bD:=2,pin:=⟨[(0,q36),(1,(.one TR))],[]⟩,aO:=⟨[(0,q12)],[]⟩,cO:=1,bC:=[],aQ:=[] }
def apF:fU:=j20
def alx:dA:={ bD:=1,pin:=⟨[(0,(.one q35))],[]⟩,aO:=⟨[(0,q12)],[]⟩,cO:=1,bC:=[],aQ:=[] }
def apG:fU:=(.seq .nil (.seq .nil (.seq (.seq .nil (.meet false ⟨[(3,.sl q12)],[]⟩ (.loop ⟨[(0,.keep),(3,.sl q12),(4,.sl q12)],[]⟩ (.seq j0 j0)))) .nil)))
def apH:dA:={ bD:=2,pin:=⟨[(0,(.one q69)),(1,(.one TR))],[]⟩,aO:=⟨[(0,q3)],[]⟩,cO:=1,bC:=[],aQ:=[] }
def apI:fU:=(.seq .nil j8)
def apJ:dA:={ bD:=2,pin:=⟨[(0,q36),(1,(.one TR))],[]⟩,aO:=⟨[(0,q12)],[]⟩,cO:=1,bC:=[],aQ:=[] }
def apK:fU:=(.seq .nil (.seq (.seq .nil (.seq .nil (.seq j11 .nil))) j11))
def apL:dA:={ bD:=2,pin:=⟨[(0,wS),(1,(.one TR))],[(50000,q10),(50001,Z9)]⟩,aO:=⟨[(0,q12)],[(50000,q39),(50001,Z9)]⟩,cO:=1,bC:=[50000,50001],aQ:=[],kept:=[50001] }
def apM:fU:=(.seq .nil (.seq (.seq .nil (.meet true ⟨[],kO [50000,50001] []⟩ (.loop ⟨kS [0,1] [(5,.sl q12)],kO [50000,50001] []⟩ j3))) .nil))
def aly:TypeId->Option Ty:=λt=>(([(1000050,(.prod (.st 0) .bool)),(3000010,.bool)]:List (Nat×Ty))++qI).lookup t
def apN:dA:={ bD:=1,pin:=⟨[(0,q7)],[]⟩,aO:=⟨[(0,q12)],[]⟩,cO:=1,bC:=[],aQ:=[] }
def apO:fU:=j13
def apP:dA:={ bD:=2,pin:=⟨[(0,q7),(1,q82)],[]⟩,aO:=⟨[(0,q12)],[]⟩,cO:=1,bC:=[],aQ:=[] }
def apQ:fU:=(.seq .nil (.seq (.seq (.meet false ⟨kS [2,3] [(14,.sl q3)],kO [2,3] []⟩ .nil) j0) (.seq (.seq (.meet false ⟨kS [2,3] [(29,.sl q3)],kO [2,3] []⟩ .nil) j0) (.seq .nil (.seq (.seq .nil (.meet true ⟨[],[]⟩ (.loop ⟨kS [2,5] [(6,.sl q12)],kO [2,31] []⟩ (.seq j0 (.seq (.seq (.seq (.meet false ⟨kS [2,5,6] [(52,.sl q3)],kO [2,31] []⟩ .nil) j0) .nil) .nil))))) .nil)))))
def alz:dA:={ bD:=1,pin:=⟨[(0,q29)],[]⟩,aO:=⟨[(0,q12)],[]⟩,cO:=1,bC:=[],aQ:=[] }
def apR:fU:=j13
def apS:dA:={ bD:=3,pin:=⟨[(0,wS),(1,sF),(2,sF)],[(50000,q11),(50001,wI)]⟩,aO:=⟨[],[(50000,q16),(50001,wI)]⟩,cO:=0,bC:=[50000,50001],aQ:=[],kept:=[50001] }
def apT:fU:=(.seq .nil (.meet false ⟨[],[(50000,.ob (.box [(.p false true (.sl (.st 3))),(.p false true (.sl (.st 13))),(.own 50001),q55,q55])),(50001,.keep)]⟩ .nil))
def apU:dA:={ bD:=2,pin:=⟨[(0,wS),(1,(.one TR))],[(50000,q11),(50001,wI)]⟩,aO:=⟨[(0,q12)],[(50000,q16),(50001,wI)]⟩,cO:=1,bC:=[50000,50001],aQ:=[],kept:=[50001] }
def apV:fU:=(.seq .nil j11)
def alA:dA:={ bD:=3,pin:=⟨[(0,wS),(1,q29),(2,sF)],[(50000,q10),(50001,Z9)]⟩,aO:=⟨[],[(50000,q56),(60001,q8)]⟩,cO:=0,bC:=[50000],aQ:=[60001] }
def apW:fU:=(.seq .nil (.seq .nil (.seq (.seq (.meet false ⟨kS [0,2,4] [(24,.sl q3)],kO [50000,4,50001] []⟩ .nil) j0) (.seq .nil (.seq .nil (.seq (.seq .nil (.meet false j2 (.seq .nil (.seq .nil (.meet false j2 (.seq .nil (.seq .nil (.meet false j2 (.seq .nil (.seq .nil (.meet false j2 (.seq .nil (.seq .nil (.meet false j2 (.seq .nil (.seq .nil (.meet false j2 (.seq .nil (.seq .nil (.meet false j2 (.seq .nil (.seq .nil (.meet false j2 (.seq .nil (.seq .nil (.meet false j2 (.seq .nil (.seq .nil (.meet false j2 .nil))))))))))))))))))))))))))))) .nil))))))
def alB:TypeId->Option Ty:=λt=>(([(1000050,(.prod (.st 0) .bool))]:List (Nat×Ty))++qI).lookup t
def alC:dA:={ bD:=3,pin:=⟨[(0,wS),(1,q29),(2,sF)],[(50000,q10),(50001,Z9)]⟩,aO:=⟨[],[(50000,(.box [R_,q13,q22,q0,q0,(.own 61),q0])),(61,q8)]⟩,cO:=0,bC:=[50000],aQ:=[61] }
def apX:fU:=(.seq .nil (.seq .nil (.seq .nil (.seq .nil (.seq .nil (.seq .nil (.seq .nil (.seq .nil (.seq .nil (.seq .nil (.seq .nil (.seq .nil (.seq .nil (.seq (.seq .nil (.meet false ⟨kS [0,10,11,12] [],[(50000,.ob (.box [R_,q13,q22,q0,q0,(.own 61),q0])),(61,.ob q8)]⟩ .nil)) .nil))))))))))))))
def alD:TypeId->Option Ty:=λt=>(([(1000050,(.prod (.st 0) .bool))]:List (Nat×Ty))++qI).lookup t
def alE:dA:={ bD:=3,pin:=⟨[(0,wS),(1,(.one q47)),(2,sF)],[(50000,q10),(50001,Z9)]⟩,aO:=⟨[(0,q43)],[(50000,(.box [R_,q13,q22,q0,q0,(.own 100002),q0])),(100001,q5),(100002,q8)]⟩,cO:=1,bC:=[50000],aQ:=[100001,100002] }
def apY:fU:=(.seq .nil (.seq .nil (.seq (.seq .nil (.meet false ⟨[(7,.sl q43)],[(50000,.ob q34),(100001,.ob q5),(100002,.ob q8)]⟩ (.loop ⟨kS [0,1,2] [(7,.sl q43),(8,.sl q12)],[(50000,.ob q34),(100001,.ob q5),(100002,.ob q8)]⟩ (.seq j0 j7)))) .nil)))
def alF:TypeId->Option Ty:=λt=>(([(1000050,(.prod (.st 0) .bool))]:List (Nat×Ty))++qI).lookup t
def apZ:dA:={ bD:=1,pin:=⟨[(0,q62)],[]⟩,aO:=⟨[(0,(.one (.own 60000)))],[(60000,q9)]⟩,cO:=1,bC:=[],aQ:=[60000] }
def ap0:fU:=(.seq .nil (.seq (.seq .nil (.seq (.seq (.seq .nil (.meet false j21 (.seq .nil (.seq .nil (.meet false j21 (.seq .nil (.seq .nil (.meet false j21 (.seq .nil (.seq .nil (.meet false j21 .nil))))))))))) (.seq .nil (.seq (.seq .nil (.meet false ⟨kS [1,4] [(14,.sl q3)],[(1,.keep)]⟩ .nil)) (.seq .nil j33)))) .nil)) .nil))
def alG:dA:={ bD:=1,pin:=⟨[(0,q62)],[]⟩,aO:=⟨[(0,q12),(1,q3)],[]⟩,cO:=2,bC:=[],aQ:=[] }
def alH:fU:=(.seq .nil (.seq (.seq .nil (.seq (.seq (.seq .nil (.meet false j29 (.seq .nil (.seq .nil (.meet false j29 (.seq .nil (.seq .nil (.meet false j29 .nil)))))))) j0) .nil)) (.seq (.seq (.meet false ⟨[(1,.keep),(18,.sl q3)],[(1,.keep)]⟩ .nil) j0) .nil)))
def alI:dA:={ bD:=3,pin:=⟨[(0,q33),(1,sF),(2,(.one (.p true false .bool)))],[]⟩,aO:=⟨[(0,q3)],[]⟩,cO:=1,bC:=[],aQ:=[] }
def alJ:fU:=j17
def alK:dA:={ bD:=4,pin:=⟨[(0,wS),(1,q29),(2,sF),(3,sF)],[(50000,q11),(50001,wI)]⟩,aO:=⟨[],[(50000,q16),(50001,wI)]⟩,cO:=0,bC:=[50000,50001],aQ:=[],kept:=[50001] }
def alL:fU:=(.seq .nil (.seq .nil (.seq (.seq .nil (.meet false j40 (.seq .nil (.seq (.meet false ⟨kS [0,5] [(20,.sl q3)],kO [50000,50001,5] []⟩ .nil) (.meet false j40 .nil))))) .nil)))
def alM:dA:={ bD:=3,pin:=⟨[(0,wS),(1,(.one TR)),(2,sF)],[(50000,q11),(50001,wI)]⟩,aO:=⟨[(0,(.agg [q0,q0,q0,q0,q30,.b_]))],[(50000,q16),(50001,wI)]⟩,cO:=1,bC:=[50000,50001],aQ:=[],kept:=[50001] }
def alN:fU:=(.seq .nil (.seq .nil (.seq (.seq .nil (.meet false ⟨kS [1,2,6] [(7,.sl q12)],kO [50000,50001,6] []⟩ .nil)) .nil)))
def alO:dA:={ bD:=2,pin:=⟨[(0,wS),(1,q29)],[(50000,q11),(50001,wI)]⟩,aO:=⟨[(0,(.agg [q0,q0,q0,q0,q30,(.own 60002)]))],[(50000,q16),(50001,wI),(60002,q54)]⟩,cO:=1,bC:=[50000,50001],aQ:=[60002],kept:=[50001] }
def ap1:fU:=(.seq .nil (.seq (.seq .nil (.seq (.seq .nil (.seq j0 (.seq .nil (.meet true j5 (.seq .nil (.seq .nil (.meet true j5 (.seq .nil (.seq .nil (.meet true j5 (.seq (.seq .nil (.seq (.seq .nil (.meet true j10 (.seq .nil (.seq .nil (.meet true j10 (.seq .nil (.seq .nil (.seq (.seq .nil (.meet false j10 .nil)) (.seq (.seq .nil (.meet false j10 .nil)) .nil))))))))) .nil)) (.seq .nil (.meet false j5 (.seq (.seq .nil (.meet false j5 .nil)) .nil)))))))))))))) .nil)) j0))
def ahg:dA:={ bD:=2,pin:=⟨[(0,wS),(1,(.one q47))],[(50000,q11),(50001,wI)]⟩,aO:=⟨[(0,q49)],[(50000,q16),(50001,wI),(100002,q54)]⟩,cO:=1,bC:=[50000,50001],aQ:=[100002],kept:=[50001] }
def alP:fU:=(.seq .nil (.seq .nil (.seq (.seq .nil (.meet false ⟨[(5,.sl q49)],[(50000,.ob q11),(50001,.keep),(100002,.ob q54)]⟩ (.loop ⟨kS [0,1] [(5,.sl q49),(6,.sl q12)],[(50000,.ob q11),(50001,.keep),(100002,.ob q54)]⟩ (.seq j0 j0)))) .nil)))
def alQ:dA:={ bD:=3,pin:=⟨[(0,sF),(1,(.one TR)),(2,q29)],[]⟩,aO:=⟨[(0,(.agg [q0,q0,q30,(.own 10),.b_,.b_]))],[(10,(.arr false true false (.st 15)))]⟩,cO:=1,bC:=[],aQ:=[10] }
def alR:fU:=j0
def alS:dA:={ bD:=2,pin:=⟨[(0,wS),(1,(.one (.p true false .bool)))],[(50000,Xv),(50001,Px),(50002,q23),(50003,q24),(50004,wI)]⟩,aO:=⟨[(0,(.one q30)),(1,q3)],[(50000,q37),(50001,q4),(50002,q23),(50003,q24),(50004,wI)]⟩,cO:=2,bC:=[50000,50001,50002,50003,50004],aQ:=[],kept:=[50002,50003,50004] }
def alT:fU:=(.seq .nil (.seq .nil (.seq (.seq .nil (.meet false ⟨[(0,.keep),(6,.sl (.one (.own 100005)))],kO [50000,50001,50002,50003,50004] [(100005,.ob wI)]⟩ (.loop ⟨kS [0,1] [(6,.sl (.one (.own 100005))),(7,.sl q12)],kO [50000,50001,50002,50003,50004] [(100005,.ob wI)]⟩ (.seq j0 (.seq (.seq (.seq .nil (.meet false ⟨kS [0,1] [(6,.sl (.one (.own 101005))),(7,.keep)],kO [50000,50001,50002,50003,50004] [(101005,.ob wI)]⟩ .nil)) .nil) .nil))))) j11)))
def alU:dA:={ bD:=0,pin:=⟨[],[]⟩,aO:=⟨[(0,(.one (.own 1)))],[(1,q67)]⟩,cO:=1,bC:=[],aQ:=[1] }
def alV:fU:=j0
def alW:dA:={ bD:=1,pin:=⟨[(0,wS)],[(50000,Xv),(50001,Px),(50002,q23),(50003,q24),(50004,wI)]⟩,aO:=⟨[(0,(.agg [q0,q0,q0,q0,q30,.b_]))],[(50000,q37),(50001,q4),(50002,q23),(50003,q24),(50004,wI)]⟩,cO:=1,bC:=[50000,50001,50002,50003,50004],aQ:=[],kept:=[50002,50003,50004] }
def alX:fU:=(.seq .nil (.seq .nil (.seq (.seq .nil (.seq (.seq .nil (.seq .nil (.seq .nil (.meet true ⟨kS [2,3] [],lO [(50000,.ob Xv),(50001,.ob q4)] (kO [50002,50003,50004,2] [])⟩ (.seq j9 (.seq (.seq .nil (.meet false ⟨kS [0,2,3] [(26,.sl q3)],kO [50000,50001,50002,50003,50004,2] []⟩ .nil)) (.meet true ⟨kS [2,3] [],kO [50000,50001,50002,50003,50004,2] []⟩ j11))))))) .nil)) (.seq .nil (.seq (.seq .nil (.meet false ⟨[(2,.keep),(6,.sl q12)],lO [(50000,.keep),(50001,.ob q4)] (kO [50002,50003,50004,2] [])⟩ .nil)) .nil)))))
def alY:dA:={ bD:=3,pin:=⟨[(0,sF),(1,sF),(2,(.one q47))],[]⟩,aO:=⟨[(0,(.agg [q0,q0,q0,q0,q30,q47]))],[]⟩,cO:=1,bC:=[],aQ:=[] }
def alZ:fU:=j0
def ap2:dA:={ bD:=3,pin:=⟨[(0,q7),(1,sF),(2,sF)],[]⟩,aO:=⟨[(0,q3)],[]⟩,cO:=1,bC:=[],aQ:=[] }
def ap3:fU:=(.seq .nil j17)
def al0:dA:={ bD:=5,pin:=⟨[(0,sF),(1,wS),(2,(.one (.box 50002 0))),(3,(.one (.box 50003 0))),(4,(.one (.box 50004 0)))],[(50000,q60),(50002,q77),(50003,q45),(50004,(.box [(.own 50005)])),(50001,q41),(50005,q6)]⟩,aO:=⟨[],[(50000,q60),(50001,q41),(50002,(.box [q30,q0,q0,q40])),(50003,q45),(50004,(.box [(.own 35)])),(35,(.arr false true true (.int .i64)))]⟩,cO:=0,bC:=[50000,50001,50002,50003,50004],aQ:=[35] }
def ap4:fU:=(.seq .nil (.seq (.seq .nil (.meet false ⟨kS [0,4] [],[(50000,.ob q60),(50001,.ob q41),(50002,.ob q77),(50003,.ob q45),(50004,.ob (.box [(.own 100006)])),(100006,.ob q6)]⟩ (.loop ⟨kS [0,1,3,4,17,18] [(19,.sl q12)],[(50000,.ob q60),(50001,.ob q41),(50002,.ob q77),(50003,.ob q45),(50004,.ob (.box [(.own 100006)])),(17,.keep),(100006,.ob q6)]⟩ (.seq .nil (.seq .nil (.seq (.seq (.seq .nil (.seq .nil (.meet false ⟨kS [0,1,3,4,17,18,19] [],[(50000,.ob q60),(50001,.ob q41),(50002,.ob q77),(50003,.ob q45),(50004,.ob (.box [(.own 101006)])),(17,.keep),(101006,.ob q6)]⟩ .nil))) .nil) .nil)))))) .nil))
def al1:dA:={ bD:=2,pin:=⟨[(0,wS),(1,sF)],[(50000,(.box [q50,q2,q2,q40,(.own 50001),(.own 50002)])),(50001,q41),(50002,q6)]⟩,aO:=⟨[],[(50000,(.box [q30,q0,q0,q40,(.own 50001),(.own 52)])),(50001,q41),(52,(.arr false true true (.int .i64)))]⟩,cO:=0,bC:=[50000,50001],aQ:=[52] }
def ap5:fU:=(.seq .nil (.seq .nil (.seq (.seq .nil (.meet false ⟨kS [0,1] [],[(50000,.ob (.box [q50,q2,q2,q40,(.own 50001),(.own 100003)])),(50001,.ob q41),(100003,.ob q6)]⟩ (.loop ⟨kS [0,1,4] [(5,.sl q12)],[(50000,.ob (.box [q50,q2,q2,q40,(.own 50001),(.own 100003)])),(50001,.ob q41),(21,.keep),(100003,.ob q6)]⟩ (.seq j0 (.seq (.seq (.seq .nil (.meet false ⟨kS [0,1,4,5] [],[(50000,.ob (.box [q50,q2,q2,q40,(.own 50001),(.own 101003)])),(50001,.ob q41),(21,.keep),(101003,.ob q6)]⟩ .nil)) .nil) .nil))))) .nil)))
def ap6:dA:={ bD:=1,pin:=⟨[(0,q7)],[]⟩,aO:=⟨[(0,q43)],[(100001,q78)]⟩,cO:=1,bC:=[],aQ:=[100001] }
def ap7:fU:=(.seq .nil (.seq .nil (.seq (.seq .nil (.meet false ⟨[(3,.sl q43)],[(100001,.ob q78)]⟩ (.loop ⟨[(1,.keep),(3,.sl q43),(4,.sl q12)],[(1,.keep),(100001,.ob q78)]⟩ (.seq j0 (.seq (.seq (.seq .nil (.seq .nil (.seq (.seq .nil (.meet false ⟨kS [1,3,4,6] [],kO [1,100001] [(20,.ob Aj)]⟩ (.loop ⟨kS [1,3,4,5,6] [(7,.sl q12)],kO [1,100001,17] [(20,.ob Aj)]⟩ (.seq j0 j0)))) .nil))) .nil) .nil))))) .nil)))
def ap8:dA:={ bD:=2,pin:=⟨[(0,q57),(1,(.agg [q1,q1]))],[]⟩,aO:=⟨[(0,q3)],[]⟩,cO:=1,bC:=[],aQ:=[] }
def ap9:fU:=j0
def ap_:dA:={ bD:=1,pin:=⟨[(0,q7)],[]⟩,aO:=⟨[(0,(.agg [q30,q0,q0,(.own 103005)]))],[(103005,q66)]⟩,cO:=1,bC:=[],aQ:=[103005] }
def aqa:fU:=(.seq .nil (.seq .nil (.seq .nil (.seq .nil (.seq (.seq .nil (.meet false ⟨kS [1,2,3,4] [],kO [1,2,11] [(14,.ob q5)]⟩ (.loop ⟨kS [1,2,3,4] [(5,.sl q12),(6,.sl q12)],kO [1,2,11] [(14,.ob q5)]⟩ (.seq j0 (.seq (.seq (.seq .nil (.seq .nil (.meet false ⟨kS [1,2,3,4] [(5,.sl q12),(6,.keep)],kO [1,2,11,14] []⟩ .nil))) .nil) .nil))))) (.seq .nil (.seq .nil (.seq (.seq .nil (.meet false ⟨kS [2,7] [],[(2,.keep),(7,.ob (.box [TR,q1,q1,(.own 103005)])),(103005,.ob q66)]⟩ (.loop ⟨kS [1,2,3,4,7] [(8,.sl q12)],kO [1,2,11,14] [(7,.ob (.box [TR,q1,q1,(.own 103005)])),(103005,.ob q66)]⟩ (.seq j0 (.seq (.meet false ⟨kS [1,2,3,4,7,8] [],kO [1,2,11,14] [(7,.ob (.box [TR,q1,q1,(.own 106005)])),(106005,.ob q66)]⟩ (.seq j0 (.seq .nil (.seq j22 (.seq j22 .nil))))) .nil))))) .nil))))))))
def aqb:dA:={ bD:=1,pin:=⟨[(0,(.agg [TR,q1,q69,q35]))],[]⟩,aO:=⟨[(0,(.one (.own 8)))],[(8,(.arr false true false .str))]⟩,cO:=1,bC:=[],aQ:=[8] }
def aqc:fU:=j0
def al2:dA:={ bD:=2,pin:=⟨[(0,wS),(1,(.one q35))],[(50000,q10),(50001,Z9)]⟩,aO:=⟨[(0,q3)],[(50000,q56),(60001,q8)]⟩,cO:=1,bC:=[50000],aQ:=[60001] }
def aqd:fU:=(.seq .nil (.seq (.seq .nil (.meet true ⟨[],[(50000,.ob (.box [R_,q13,q22,q2,q2,(.own 100001),q2])),(100001,.ob q8)]⟩ (.loop ⟨kS [0,1] [(5,.sl q12)],[(50000,.ob (.box [R_,q13,q22,q2,q2,(.own 100001),q2])),(100001,.ob q8)]⟩ j3))) .nil))
def al3:TypeId->Option Ty:=λt=>(([(1000050,(.prod (.st 0) .bool))]:List (Nat×Ty))++qI).lookup t
def al4:dA:={ bD:=2,pin:=⟨[(0,wS),(1,q79)],[(50000,q10),(50001,Z9)]⟩,aO:=⟨[(0,q3)],[(50000,q56),(60001,q8)]⟩,cO:=1,bC:=[50000],aQ:=[60001] }
def aqe:fU:=(.seq .nil (.seq .nil (.seq j32 (.seq (.seq .nil (.meet false ⟨kS [0,3,5] [],[(50000,.ob q34),(3,.keep),(100002,.ob q8)]⟩ (.loop ⟨kS [0,3,5] [(6,.sl q12)],[(50000,.ob q34),(3,.keep),(100002,.ob q8)]⟩ (.seq j0 j0)))) (.seq (.seq .nil (.seq (.seq (.seq .nil (.meet false ⟨kS [0,3,5,38] [(39,.sl q3)],kO [50000,3,100002] []⟩ .nil)) (.meet true j27 (.seq (.seq .nil (.seq .nil (.meet false ⟨[],[(50000,.ob (.box [R_,q13,q22,q0,q0,(.own 100002),q0])),(100002,.ob q8)]⟩ .nil))) (.seq .nil (.meet true j27 (.seq .nil (.seq .nil (.seq j0 (.seq .nil (.meet true j27 j9)))))))))) .nil)) .nil)))))
def al5:TypeId->Option Ty:=λt=>(([(1000050,(.prod (.st 0) .bool)),(3000022,.bool),(3000011,.bool)]:List (Nat×Ty))++qI).lookup t
def al6:dA:={ bD:=3,pin:=⟨[(0,wS),(1,q79),(2,sF)],[(50000,q10),(50001,Z9)]⟩,aO:=⟨[],[(50000,(.box [R_,q13,q22,q0,q0,(.own 57),q0])),(57,q8)]⟩,cO:=0,bC:=[50000],aQ:=[57] }
def aqf:fU:=(.seq .nil (.seq .nil (.seq .nil (.seq .nil (.seq .nil (.seq .nil (.seq .nil (.seq (.seq .nil (.meet false ⟨kS [0,2,4,8,9] [],[(50000,.ob (.box [R_,q13,q22,q0,q0,(.own 41),q0])),(4,.keep),(41,.ob q8)]⟩ .nil)) .nil))))))))
def al7:TypeId->Option Ty:=λt=>(([(1000050,(.prod (.st 0) .bool))]:List (Nat×Ty))++qI).lookup t
def al8:dA:={ bD:=3,pin:=⟨[(0,wS),(1,q79),(2,sF)],[(50000,q10),(50001,Z9)]⟩,aO:=⟨[(0,q3)],[(50000,q56),(60001,q8)]⟩,cO:=1,bC:=[50000],aQ:=[60001] }
def aqg:fU:=(.seq .nil (.seq .nil (.seq .nil (.seq .nil (.seq .nil (.seq (.seq .nil (.seq (.seq .nil (.seq .nil (.seq (.seq .nil (.meet false ⟨[],[(50000,.ob (.box [R_,q13,q22,q0,q0,(.own 39),q0])),(39,.ob q8)]⟩ .nil)) .nil))) .nil)) (.seq .nil (.seq .nil (.seq .nil (.seq .nil (.seq (.seq (.meet false ⟨kS [0,4,9,10,13,14] [(77,.sl q3)],kO [50000,4,67] []⟩ .nil) j0) (.seq .nil (.seq (.seq .nil (.meet false ⟨kS [0,13,14,15] [],[(50000,.ob (.box [R_,q13,q22,q0,q0,(.own 81),q0])),(81,.ob q8)]⟩ .nil)) (.seq (.seq .nil (.meet false ⟨[],[(50000,.ob (.box [R_,q13,q22,q0,q0,(.own 81),q0])),(81,.ob q8)]⟩ .nil)) .nil))))))))))))))
def al9:TypeId->Option Ty:=λt=>(([(1000050,(.prod (.st 0) .bool)),(3000033,.bool)]:List (Nat×Ty))++qI).lookup t
def al_:dA:={ bD:=2,pin:=⟨[(0,wS),(1,(.one q35))],[(50000,q11),(50001,wI)]⟩,aO:=⟨[(0,q43)],[(50000,q51),(100001,q85),(100002,q46)]⟩,cO:=1,bC:=[50000],aQ:=[100001,100002] }
def aqh:fU:=(.seq .nil (.seq .nil (.seq (.seq .nil (.meet false ⟨[(5,.sl q43)],[(50000,.ob q52),(100001,.ob q85),(100002,.ob q46)]⟩ (.loop ⟨kS [0,1] [(5,.sl q43),(6,.sl q12)],[(50000,.ob q52),(100001,.ob q85),(100002,.ob q46)]⟩ (.seq j0 (.seq (.seq (.seq .nil (.seq .nil (.seq (.seq .nil (.meet false ⟨kS [0,1,5,6,7] [(8,.sl (.one (.own 101003)))],lO [(50000,.ob q52)] (kO [100001,7] [(101003,.ob q54),(100002,.keep)])⟩ (.loop ⟨kS [0,1,5,6,7] [(8,.sl (.one (.own 101003))),(9,.sl q12)],lO [(50000,.ob q52)] (kO [100001,7] [(101003,.ob q54),(100002,.keep)])⟩ (.seq j0 (.seq (.seq (.seq (.seq .nil (.meet false ⟨kS [0,1,5,6,7,8,9] [],lO [(50000,.ob q52)] (kO [100001,7,101003,100002] [])⟩ .nil)) .nil) .nil) .nil))))) (.seq .nil (.seq .nil (.seq (.seq .nil (.seq (.seq .nil (.meet false ⟨kS [0,1,5,6,7] [],lO [(50000,.ob (.box [R_,q13,(.own 110003),q0,q0]))] (kO [100001,7] [(110003,.ob q46),(101003,.keep)])⟩ (.seq (.seq (.seq .nil (.meet false j6 .nil)) .nil) (.seq (.seq .nil (.meet false ⟨kS [0,1,5,6,7,10] [(80,.sl q3)],kO [50000,100001,7,100002,101003] []⟩ .nil)) (.meet false j6 (.seq (.seq .nil (.meet false j6 (.seq .nil (.seq (.meet false ⟨kS [0,1,5,6,7] [(108,.sl q3)],kO [50000,100001,7,100002,101003] []⟩ .nil) (.meet false j6 .nil))))) .nil)))))) .nil)) j0)))))) .nil) .nil))))) .nil)))
def aqi:dA:={ bD:=3,pin:=⟨[(0,q33),(1,q7),(2,q62)],[]⟩,aO:=⟨[(0,q12)],[]⟩,cO:=1,bC:=[],aQ:=[] }
def aqj:fU:=(.seq .nil (.seq (.seq (.meet false ⟨kS [3,4,5] [(48,.sl q3)],kO [3,4,5] []⟩ .nil) j0) (.seq .nil (.seq (.seq .nil (.seq .nil (.meet false ⟨kS [3,4,5] [(7,.sl (.one (.own 101003)))],kO [3,4,5] [(101003,.ob q9)]⟩ .nil))) (.seq (.seq .nil (.meet true ⟨kS [3,5] [],kO [3,5] []⟩ (.loop ⟨kS [3,4,5,7] [(10,.sl q12)],kO [3,4,5,101003] []⟩ (.seq j0 (.seq (.seq (.seq (.meet false ⟨kS [3,4,5,7,10] [(80,.sl q3)],kO [3,4,5,101003] []⟩ .nil) j0) .nil) .nil))))) (.seq (.seq .nil (.seq (.seq (.seq .nil (.meet false ⟨kS [3,5,82] [(83,.sl q3)],kO [3,5] []⟩ .nil)) (.meet true ⟨[],[]⟩ (.seq j1 (.seq (.seq .nil (.meet false ⟨kS [3,5,82] [(91,.sl q3)],kO [3,5] []⟩ .nil)) (.meet true ⟨[],[]⟩ (.seq j1 (.seq .nil (.meet true ⟨[],[]⟩ (.seq (.seq (.seq (.meet false ⟨kS [3,5] [(111,.sl q3)],kO [3,5] []⟩ .nil) j0) j1) (.seq .nil (.meet true ⟨[],[]⟩ (.seq j1 (.seq .nil (.meet true ⟨[],[]⟩ (.seq (.seq (.meet false ⟨[(140,.sl q3)],[]⟩ .nil) j0) (.seq .nil (.meet true ⟨[],[]⟩ (.seq (.seq (.meet false ⟨[(152,.sl q3)],[]⟩ .nil) j0) .nil)))))))))))))))))) .nil)) .nil))))))
def ama:dA:={ bD:=1,pin:=⟨[(0,wS)],[(50000,Xv),(50001,Px),(50002,q23),(50003,q24),(50004,wI)]⟩,aO:=⟨[(0,(.one q30)),(1,q3)],[(50000,q37),(50001,q4),(50002,q23),(50003,q24),(50004,wI)]⟩,cO:=2,bC:=[50000,50001,50002,50003,50004],aQ:=[],kept:=[50002,50003,50004] }
def amb:fU:=(.seq .nil (.seq .nil (.seq (.seq .nil (.meet true ⟨[],kO [50000,50001,50002,50003,50004] []⟩ (.loop ⟨kS [0,4] [(5,.sl q12)],kO [50000,50001,50002,50003,50004,8] []⟩ (.seq j0 (.seq (.seq (.seq .nil (.seq (.seq .nil (.meet false ⟨kS [0,4,5] [(6,.sl q3)],kO [50000,50001,50002,50003,50004,8] []⟩ (.loop ⟨kS [0,4,5] [(6,.sl q3),(7,.sl q12)],kO [50000,50001,50002,50003,50004,8] []⟩ (.seq j0 (.seq (.seq (.meet false ⟨kS [0,4,5] [(6,.sl q3),(7,.keep)],kO [50000,50001,50002,50003,50004,8] []⟩ .nil) .nil) .nil))))) j1)) .nil) .nil))))) .nil)))
def ahh:dA:={ bD:=2,pin:=⟨[(0,wS),(1,sF)],[(50000,Xv),(50001,Px),(50002,q23),(50003,q24),(50004,wI)]⟩,aO:=⟨[(0,(.agg [q0,q0,q0,q0,q30,(.p false true (.sl (.st 15)))]))],[(50000,q37),(50001,q4),(50002,q23),(50003,q24),(50004,wI)]⟩,cO:=1,bC:=[50000,50001,50002,50003,50004],aQ:=[],kept:=[50002,50003,50004] }
def amc:fU:=(.seq .nil (.seq .nil (.seq (.seq (.meet false ⟨kS [0,1,4,5] [(18,.sl q3)],lO [(50000,.keep),(50001,.ob Px)] (kO [50002,50003,50004,4] [])⟩ .nil) j0) (.seq (.seq .nil (.seq (.seq .nil (.seq .nil (.seq .nil (.seq .nil (.seq .nil (.seq .nil (.seq (.seq .nil (.meet false ⟨kS [0,1,4,5,22] [(58,.sl q3)],kO [50000,50001,50002,50003,50004,4] []⟩ .nil)) (.seq .nil (.seq .nil (.meet true ⟨kS [0,1,4,5] [],lO [(50000,.ob Xv),(50001,.ob q4)] (kO [50002,50003,50004,4] [])⟩ (.seq j9 .nil))))))))))) .nil)) .nil))))
def ahi:dA:={ bD:=2,pin:=⟨[(0,wS),(1,sF)],[(50000,Xv),(50001,Px),(50002,q23),(50003,q24),(50004,wI)]⟩,aO:=⟨[(0,(.agg [q0,q0,q0,q0,q30,(.own 60005)]))],[(50000,q37),(50001,q4),(50002,q23),(50003,q24),(50004,wI),(60005,q59)]⟩,cO:=1,bC:=[50000,50001,50002,50003,50004],aQ:=[60005],kept:=[50002,50003,50004] }
def amd:fU:=(.seq .nil (.seq .nil (.seq .nil (.seq .nil (.seq (.seq (.meet false ⟨kS [0,1,4,5,6,7] [(46,.sl q3)],lO [(50000,.keep),(50001,.ob q4)] (kO [50002,50003,50004,4,5] [])⟩ .nil) (.meet false ⟨kS [0,1,4,5] [(6,.sl q12),(7,.keep)],lO [(50000,.keep),(50001,.ob q4)] (kO [50002,50003,50004,4,5] [])⟩ .nil)) (.seq .nil (.seq (.seq .nil (.meet false ⟨kS [0,1,4,5,7] [(8,.sl (.one (.own 102007)))],lO [(50000,.ob Xv),(50001,.ob q4)] (kO [50002,50003,50004,4,5] [(102007,.ob q59)])⟩ (.loop ⟨kS [0,1,4,5,6,7] [(8,.sl (.one (.own 102007))),(9,.sl q12)],lO [(50000,.ob Xv),(50001,.ob q4)] (kO [50002,50003,50004,4,5] [(102007,.ob q59)])⟩ (.seq j0 j0)))) (.seq j1 (.seq .nil (.seq (.seq .nil (.meet false ⟨kS [4,8,10] [],lO [(50000,.ob Xv),(50001,.ob q4)] (kO [50002,50003,50004,4,102007] [(10,.ob (.box [q0,q0,q0,q0,q50,(.p false true (.sl (.st 15)))]))])⟩ .nil)) j11))))))))))
def ame:dA:={ bD:=3,pin:=⟨[(0,wS),(1,sF),(2,sF)],[(50000,Xv),(50001,Px),(50002,q23),(50003,q24),(50004,wI)]⟩,aO:=⟨[(0,(.one (.own 100004)))],[(50000,(.box [(.box 50001 0),(.own 50002),(.own 50003),(.own 100005),q0])),(50001,q4),(50002,q23),(50003,q24),(100004,q44),(100005,wI)]⟩,cO:=1,bC:=[50000,50001,50002,50003],aQ:=[100004,100005],kept:=[50002,50003] }
def aqk:fU:=(.seq .nil (.seq .nil (.seq (.seq .nil (.meet false ⟨[(7,.sl (.one (.own 100004)))],lO [(50000,.ob q76),(50001,.ob Px)] (kO [50002,50003] [(100004,.ob q44),(100005,.ob wI)])⟩ (.loop ⟨kS [0,1,2] [(7,.sl (.one (.own 100004))),(8,.sl q12)],lO [(50000,.ob q76),(50001,.ob Px)] (kO [50002,50003] [(100004,.ob q44),(100005,.ob wI)])⟩ (.seq (.seq (.meet false ⟨kS [0,1,2,7,8] [(18,.sl q3)],kO [50000,50001,50002,50003,100004,100005] []⟩ .nil) .nil) j7)))) .nil)))
def amf:dA:={ bD:=2,pin:=⟨[(0,wS),(1,sF)],[(50000,Xv),(50001,Px),(50002,q23),(50003,q24),(50004,wI)]⟩,aO:=⟨[(0,(.agg [q0,q0,q30,(.own 60004),(.own 60005),(.own 60006)]))],[(50000,(.box [(.box 50001 0),(.own 50002),(.own 50003),(.own 60007),q0])),(50001,q4),(50002,q23),(50003,q24),(60004,q59),(60005,q44),(60006,q44),(60007,wI)]⟩,cO:=1,bC:=[50000,50001,50002,50003],aQ:=[60004,60005,60006,60007],kept:=[50002,50003] }
def aql:fU:=(.seq .nil (.seq .nil (.seq (.seq .nil (.seq (.seq (.seq .nil (.meet false ⟨kS [0,1,4,5,19] [(20,.sl q3)],kO [50000,50001,50002,50003,4,50004] []⟩ .nil)) (.meet true j4 (.seq j30 (.seq .nil (.meet true j4 (.seq j1 (.seq .nil (.meet true j4 (.seq j9 (.seq .nil (.meet true j4 (.seq j9 (.seq (.seq .nil (.meet false ⟨kS [0,1,4,5,19] [(95,.sl q3)],kO [50000,50001,50002,50003,4,50004] []⟩ .nil)) (.meet true j34 (.seq (.seq .nil (.seq (.seq .nil (.seq .nil (.seq (.seq .nil (.meet false ⟨kS [4,13] [],lO [(50000,.ob (.box [(.box 50001 0),(.own 50002),(.own 50003),(.own 102006),q0])),(50001,.ob q4)] (kO [50002,50003,4] (lO [(13,.ob (.box [q0,q0,q30,(.own 102),(.own 109),(.own 102009)])),(102006,.ob wI)] (kO [102,109] [(102009,.ob q44)])))⟩ .nil)) .nil))) .nil)) (.seq .nil (.meet true j34 (.seq j1 (.seq .nil (.seq j11 .nil)))))))))))))))))))) .nil)) .nil)))
def ahj:dA:={ bD:=2,pin:=⟨[(0,wS),(1,sF)],[(50000,Xv),(50001,Px),(50002,q23),(50003,q24),(50004,wI)]⟩,aO:=⟨[(0,(.agg [q0,q0,q30,(.own 60004),(.own 60005),.b_]))],[(50000,(.box [(.box 50001 0),(.own 50002),(.own 50003),(.own 60006),q0])),(50001,q4),(50002,q23),(50003,q24),(60004,q59),(60005,q44),(60006,wI)]⟩,cO:=1,bC:=[50000,50001,50002,50003],aQ:=[60004,60005,60006],kept:=[50002,50003] }
def amg:fU:=(.seq .nil (.seq .nil (.seq (.seq (.meet false ⟨kS [0,1,4,5,6] [(28,.sl q3)],lO [(50000,.keep),(50001,.ob q4)] (kO [50002,50003,4,50004] [])⟩ .nil) (.meet false ⟨kS [0,1,4] [(5,.sl (.one q50)),(6,.sl q3)],lO [(50000,.keep),(50001,.ob q4)] (kO [50002,50003,4,50004] [])⟩ .nil)) (.seq (.seq (.meet false ⟨kS [0,1,4,5] [(54,.sl q3)],lO [(50000,.keep),(50001,.ob q4)] (kO [50002,50003,4,50004] [])⟩ .nil) j11) j33))))
def sg8:dA:={ bD:=1,pin:=⟨[(0,q7)],[]⟩,aO:=⟨[(0,(.one (.own 12)))],[(12,q9)]⟩,cO:=1,bC:=[],aQ:=[12] }
def an8:fU:=(.seq .nil (.seq .nil (.seq (.meet false ⟨kS [1,3] [(4,.sl (.one (.box 4 0)))],kO [1,3] [(4,.ob (.box [(.own 100700)])),(9,.keep),(100700,.ob q5)]⟩ .nil) j33)))
def sg9:dA:={ bD:=1,pin:=⟨[(0,q7)],[]⟩,aO:=⟨[(0,q75)],[(101001,q9)]⟩,cO:=1,bC:=[],aQ:=[101001] }
def an9:fU:=(.seq .nil (.seq (.meet false ⟨[(3,.sl (.one (.box 12 0)))],[(12,.ob (.box [TR,q1,q1,(.p true false (.sl (.st 5))),(.own 10),(.own 100700)])),(10,.ob Aj),(100700,.ob q5)]⟩ .nil) (.seq .nil (.seq .nil (.seq (.seq .nil (.meet false ⟨[(4,.sl q75)],[(101001,.ob q9)]⟩ (.loop ⟨[(3,.keep),(4,.sl q75),(5,.sl q12)],lO [(12,.keep),(101001,.ob q9)] (kO [10,14] [])⟩ (.seq j0 j0)))) .nil)))))
def aqm:dA:={ bD:=1,pin:=⟨[(0,q7)],[]⟩,aO:=⟨[(0,(.one (.own 38)))],[(38,q5)]⟩,cO:=1,bC:=[],aQ:=[38] }
def aqn:fU:=(.seq .nil (.seq .nil (.seq .nil (.seq (.seq .nil (.meet false ⟨kS [1,3,4] [],kO [1,18,4] [(21,.ob q5)]⟩ (.loop ⟨kS [1,3,4,22,23] [(24,.sl q12)],kO [1,18,4] [(21,.ob q5)]⟩ (.seq .nil j32)))) (.seq .nil (.seq .nil (.seq (.seq .nil (.meet false ⟨kS [3,4] [(7,.sl (.one (.p false false (.sl (.sl (.int .i64)))))),(8,.keep)],kO [18,4,8,21] [(38,.ob q5)]⟩ (.loop ⟨kS [3,4] (lS [(7,.sl (.one (.p false false (.sl (.sl (.int .i64))))))] (kS [8,40] [(41,.sl q12)])),kO [18,4,8,21] [(38,.ob q5)]⟩ (.seq .nil j32)))) (.seq .nil (.seq (.seq .nil (.meet false ⟨[(8,.keep)],[(8,.ob q61),(38,.ob q5)]⟩ (.loop j24 (.seq j0 (.seq (.seq .nil (.seq .nil (.meet false j24 (.loop ⟨kS [3,7,8,10] (lS [(11,.sl q3)] (kS [51,52] [(53,.sl q12)])),[(18,.keep),(8,.ob q61),(4,.ob q63),(38,.ob q5),(21,.keep)]⟩ (.seq .nil (.seq .nil (.seq (.seq (.seq .nil (.seq .nil (.seq (.seq .nil (.meet false ⟨kS [3,7,8,10,11,13] (lS [(14,.sl q12)] (kS [51,52,53] [])),lO [(18,.keep),(8,.ob q61),(4,.ob q63)] (kO [38,21] [])⟩ (.loop ⟨kS [3,7,8,10,11,13] (lS [(14,.sl q12)] (kS [51,52,53,60,61] [(62,.sl q12)])),lO [(18,.keep),(8,.ob q61),(4,.ob q63)] (kO [38,21] [])⟩ (.seq .nil (.seq .nil (.seq (.seq (.seq .nil (.seq (.seq (.meet false ⟨kS [3,7,8,10,11,13,14,16,51,52,53,60,61,62] [(70,.sl q3)],kO [18,8,4,38,21] []⟩ .nil) (.meet false j16 (.seq .nil (.seq .nil (.meet false j16 .nil))))) .nil)) .nil) .nil)))))) (.seq .nil (.meet false ⟨kS [3,7,8,10] (lS [(11,.sl q3)] (kS [51,52,53] [])),kO [18,8,4] [(38,.ob q5),(21,.keep)]⟩ .nil))))) .nil) .nil))))))) .nil))))) .nil)))))))))
def aqo:dA:={ bD:=1,pin:=⟨[(0,q7)],[]⟩,aO:=⟨[(0,(.one (.own 16)))],[(16,q5)]⟩,cO:=1,bC:=[],aQ:=[16] }
def aqp:fU:=(.seq .nil (.seq .nil (.seq .nil (.seq .nil (.seq (.seq .nil (.meet false ⟨[(5,.keep)],[(16,.ob q5)]⟩ (.loop ⟨kS [3,4,5] [(6,.sl q12)],[(11,.keep),(16,.ob q5)]⟩ (.seq j0 (.seq (.seq (.seq .nil (.seq .nil (.meet false ⟨kS [3,4,5,6] [],[(11,.keep),(16,.ob q5)]⟩ (.loop ⟨kS [3,4,5,6] [(7,.sl q12)],[(11,.keep),(16,.ob q5)]⟩ (.seq j0 (.seq (.meet false j38 (.seq (.seq (.meet false ⟨kS [3,4,5,6,7] [(42,.sl q3)],kO [11,16] []⟩ .nil) .nil) (.seq .nil (.seq (.seq .nil (.meet false ⟨kS [3,4,5,6,7] [(8,.sl q3)],kO [11,16] []⟩ (.loop ⟨kS [3,4,5,6,7] [(8,.sl q3),(9,.sl q12)],kO [11,16] []⟩ (.seq j0 (.seq (.seq (.seq (.meet false ⟨kS [3,4,5,6,7,8,9] [(69,.sl q3)],kO [11,16] []⟩ .nil) (.meet false ⟨kS [3,4,5,6,7] [(8,.sl q3),(9,.keep)],kO [11,16] []⟩ .nil)) .nil) .nil))))) (.seq .nil (.meet false j38 .nil)))))) .nil)))))) .nil) .nil))))) .nil)))))
def aqr:dA:={ bD:=1,pin:=⟨[(0,q7)],[]⟩,aO:=⟨[(0,q49)],[(100002,Z_)]⟩,cO:=1,bC:=[],aQ:=[100002] }
def aqs:fU:=(.seq .nil (.seq .nil (.seq .nil (.seq (.seq .nil (.meet false ⟨[(4,.sl q49)],[(100002,.ob Z_)]⟩ (.loop ⟨kS [1,3] [(4,.sl q49),(5,.sl q12)],kO [1,9] [(100002,.ob Z_)]⟩ (.seq j0 (.seq (.seq (.seq .nil (.seq (.seq (.meet false ⟨kS [1,3,4,5,6] [(35,.sl q3)],kO [1,9,100002,23] []⟩ .nil) (.meet false ⟨kS [1,3,4,5] [(6,.sl (.one (.own 102003)))],kO [1,9,100002] [(102003,.ob q9)]⟩ .nil)) (.seq .nil (.meet false ⟨kS [1,3] [(4,.sl (.one (.own 103002))),(5,.keep)],kO [1,9] [(103002,.ob Z_)]⟩ (.loop ⟨kS [1,3] (lS [(4,.sl (.one (.own 103002)))] (kS [5,6] [(7,.sl q12)])),kO [1,9] [(103002,.ob Z_),(102003,.keep)]⟩ (.seq j0 (.seq (.seq (.seq .nil (.meet false ⟨kS [1,3] (lS [(4,.sl (.one (.own 104002)))] (kS [5,6,7] [])),kO [1,9] [(104002,.ob Z_),(102003,.keep)]⟩ .nil)) .nil) .nil))))))) .nil) .nil))))) .nil))))
def aqt:dA:={ bD:=1,pin:=⟨[(0,q7)],[]⟩,aO:=⟨[(0,q3)],[]⟩,cO:=1,bC:=[],aQ:=[] }
def aqu:fU:=(.seq .nil (.seq .nil (.seq .nil (.seq .nil (.seq (.seq .nil (.meet false ⟨kS [1,3,4,5] [],kO [1,19] [(21,.ob q5)]⟩ (.loop ⟨kS [1,3,4,5] [(6,.sl q12)],kO [1,19] [(21,.ob q5)]⟩ (.seq j0 (.seq (.seq (.seq .nil (.seq .nil (.meet false ⟨kS [1,3,4,5,6] [],kO [1,19] [(21,.ob q5)]⟩ (.loop ⟨kS [1,3,4,5,6,7] [(8,.sl q12)],kO [1,19] [(21,.ob q5),(33,.keep)]⟩ (.seq j0 (.seq (.seq (.seq .nil (.meet false ⟨kS [1,3,4,5,6,7,8] [],kO [1,19] [(21,.ob q5),(33,.keep)]⟩ .nil)) .nil) .nil)))))) .nil) .nil))))) (.seq .nil (.seq (.seq .nil (.meet false ⟨kS [1,3,4,5] [(9,.sl (.one (.own 105003)))],kO [1,19,21] [(105003,.ob q5)]⟩ (.loop ⟨kS [1,3,4,5] [(9,.sl (.one (.own 105003))),(10,.sl q12)],kO [1,19,21] [(105003,.ob q5)]⟩ (.seq j0 (.seq (.seq (.seq .nil (.meet false ⟨kS [1,3,4,5] [(9,.sl (.one (.own 106003))),(10,.keep)],kO [1,19,21] [(106003,.ob q5)]⟩ .nil)) .nil) .nil))))) (.seq .nil (.seq (.meet false ⟨[(3,.keep),(11,.sl q12)],[]⟩ (.loop ⟨kS [1,3,4,5] [(9,.sl (.one (.own 108003))),(11,.sl q12)],kO [1,19] [(21,.ob q5),(108003,.ob q9)]⟩ (.seq j0 (.seq (.seq .nil (.seq .nil (.seq .nil (.seq .nil (.seq .nil (.meet false ⟨kS [1,3,4,5] [(9,.sl (.one (.own 109003))),(11,.keep)],kO [1,19] [(21,.ob q5),(109003,.ob q9)]⟩ (.loop ⟨kS [1,3,4,5] (lS [(9,.sl (.one (.own 109003)))] (kS [11,12,13] [(14,.sl q12)])),kO [1,19] [(21,.ob q5),(109003,.ob q9),(96,.keep)]⟩ (.seq j0 (.seq (.seq (.seq .nil (.meet false ⟨kS [1,3,4,5] (lS [(9,.sl (.one (.own 111003)))] (kS [11,12,13,14] [])),kO [1,19] [(21,.ob q5),(111003,.ob q9),(96,.keep)]⟩ (.seq (.seq .nil (.seq .nil (.meet false ⟨kS [1,3,4,5] (lS [(9,.sl (.one (.own 110003)))] (kS [11,12,13,14] [])),kO [1,19,21] [(110003,.ob q9),(96,.keep)]⟩ .nil))) .nil))) .nil) .nil))))))))) .nil)))) .nil)))))))))
def amh:TypeId->Option Ty:=λt=>(([(2000000,.bool)]:List (Nat×Ty))++qI).lookup t
def aqv:dA:={ bD:=3,pin:=⟨[(0,q7),(1,sF),(2,sF)],[]⟩,aO:=⟨[(0,q3)],[]⟩,cO:=1,bC:=[],aQ:=[] }
def aqw:fU:=(.seq .nil j17)
def aqx:dA:={ bD:=2,pin:=⟨[(0,q7),(1,sF)],[]⟩,aO:=⟨[(0,(.one (.own 109001)))],[(109001,q5)]⟩,cO:=1,bC:=[],aQ:=[109001] }
def aqy:fU:=(.seq .nil (.seq .nil (.seq .nil (.seq .nil (.seq (.seq .nil (.meet false ⟨kS [2,6] [(7,.sl (.one (.own 100003)))],[(2,.keep),(19,.ob Aj),(100003,.ob q9)]⟩ (.loop ⟨kS [1,2,5,6] [(7,.sl (.one (.own 100003))),(8,.sl q12)],kO [2,15] [(19,.ob Aj),(100003,.ob q9)]⟩ (.seq j0 (.seq (.seq (.seq .nil (.meet false ⟨kS [1,2,5,6] [(7,.sl (.one (.own 102003))),(8,.keep)],kO [2,15] [(19,.ob Aj),(102003,.ob q9)]⟩ (.seq (.seq .nil (.seq .nil (.meet false ⟨kS [1,2,5,6] [(7,.sl (.one (.own 101003))),(8,.keep)],kO [2,15] [(19,.ob Aj),(101003,.ob q9)]⟩ j0))) .nil))) .nil) .nil))))) (.seq .nil (.seq (.meet false ⟨[(6,.keep)],[(19,.ob Aj)]⟩ (.loop ⟨[(6,.keep),(7,.sl (.one (.own 104001))),(9,.keep)],[(19,.ob Aj),(104001,.ob q9),(61,.ob TQ)]⟩ (.seq j0 (.seq (.seq .nil (.seq .nil (.seq .nil (.meet false ⟨[(6,.keep),(7,.sl (.one (.own 105001))),(9,.keep)],[(19,.ob Aj),(105001,.ob q9),(61,.ob TQ)]⟩ (.loop ⟨lS [(6,.keep),(7,.sl (.one (.own 105001)))] (kS [9,10] [(11,.sl q12)]),[(19,.ob Aj),(105001,.ob q9),(61,.ob TQ)]⟩ (.seq j0 (.seq (.seq (.seq .nil (.meet false ⟨lS [(6,.keep),(7,.sl (.one (.own 106001)))] (kS [9,10,11] []),[(19,.ob Aj),(106001,.ob q9),(61,.ob TQ)]⟩ j0)) .nil) .nil))))))) .nil)))) (.seq .nil (.seq (.seq .nil (.meet false ⟨[(12,.sl (.one (.own 109001)))],[(109001,.ob q5)]⟩ (.loop ⟨[(6,.keep),(12,.sl (.one (.own 109001))),(13,.sl q12)],[(19,.keep),(109001,.ob q5)]⟩ (.seq j0 (.seq (.seq (.seq .nil (.meet false ⟨[(6,.keep),(12,.sl (.one (.own 110001))),(13,.keep)],[(19,.keep),(110001,.ob q5)]⟩ .nil)) .nil) .nil))))) .nil)))))))))
def ami:TypeId->Option Ty:=λt=>(([(2000000,.bool)]:List (Nat×Ty))++qI).lookup t
def aqz:dA:={ bD:=1,pin:=⟨[(0,wS)],[(50000,Px)]⟩,aO:=⟨[(0,(.agg [(.own 19),(.own 100004),q0,q0]))],[(50000,q4),(19,q53),(100004,q28)]⟩,cO:=1,bC:=[50000],aQ:=[19,100004] }
def aqA:fU:=(.seq .nil (.seq .nil (.seq .nil (.seq (.seq .nil (.meet false ⟨kS [0,2,3,4] [],[(50000,.ob q4),(2,.keep),(3,.ob (.box [(.own 19),(.own 100004),q0,q0])),(19,.keep),(100004,.ob q28)]⟩ (.loop ⟨kS [0,2,3,4] [(5,.sl q12)],[(50000,.ob q4),(2,.keep),(3,.ob (.box [(.own 19),(.own 100004),q0,q0])),(19,.keep),(100004,.ob q28)]⟩ (.seq j0 (.seq (.seq (.seq .nil (.seq (.seq .nil (.meet false ⟨kS [0,2,3,4,5,6] [],lO [(50000,.ob q4)] (kO [2,3] (lO [(6,.ob (.box [q30,q0,q0,.b_]))] (kO [19,100004] [])))⟩ .nil)) .nil)) .nil) .nil))))) (.seq .nil (.seq (.seq .nil (.meet false ⟨kS [2,3] [],lO [(50000,.ob q4)] (kO [2,3,19] [(100004,.ob q28)])⟩ (.loop ⟨kS [0,2,3,4] [(7,.sl q12)],lO [(50000,.ob q4)] (kO [2,3,19] [(100004,.ob q28)])⟩ (.seq j0 (.seq (.seq (.seq .nil (.seq (.seq .nil (.meet false j26 (.loop ⟨kS [0,2,3,4,7,8] [(9,.sl q12)],lO [(50000,.ob q4)] (kO [2,3] [(100004,.ob q28),(19,.keep)])⟩ (.seq j0 (.seq (.seq (.seq .nil (.seq (.seq .nil (.meet false ⟨kS [0,2,3,4,7,8,9,10] [],lO [(50000,.ob q4)] (kO [2,3] [(100004,.ob q28),(10,.ob (.box [(.own 105006),q0,q0,q0,q0,q0,q0,q0])),(19,.keep),(105006,.ob (.arr false false false (.st 6)))])⟩ (.loop ⟨kS [0,2,3,4,7,8,9,10] [(11,.sl q12)],lO [(50000,.ob q4)] (kO [2,3] [(100004,.ob q28),(10,.ob (.box [(.own 105006),q0,q0,q0,q0,q0,q0,q0])),(19,.keep),(105006,.ob (.arr false false false (.st 6)))])⟩ (.seq j0 j0)))) .nil)) .nil) .nil))))) (.seq (.seq .nil (.meet false j26 (.loop ⟨kS [0,2,3,4,7,8] [(12,.sl q12)],lO [(50000,.ob q4)] (kO [2,3] [(100004,.ob q28),(19,.keep)])⟩ (.seq j0 j7)))) .nil))) .nil) .nil))))) .nil))))))
def amj:TypeId->Option Ty:=λt=>(([(1000033,(.prod (.st 3) .bool)),(3000140,.bool),(3000133,.bool),(3000113,.bool),(3000078,.bool)]:List (Nat×Ty))++qI).lookup t
def aqB:dA:={ bD:=1,pin:=⟨[(0,q36)],[]⟩,aO:=⟨[(0,(.agg [(.own 60000),(.own 60001)])),(1,q12),(2,q12)],[(60000,(.arr false true false (.st 3))),(60001,q84)]⟩,cO:=3,bC:=[],aQ:=[60000,60001] }
def aqC:fU:=(.seq .nil (.seq (.seq (.meet false ⟨kS [1,2] [(20,.sl q3)],kO [1,2] []⟩ .nil) j0) (.seq (.seq (.meet false ⟨kS [1,2] [(42,.sl q3)],kO [1,2] []⟩ .nil) j0) (.seq (.seq .nil (.meet true ⟨kS [1,2] [],kO [1,2] []⟩ (.loop ⟨kS [1,2] [(5,.sl q12)],kO [1,2] []⟩ j3))) (.seq (.seq .nil (.meet true ⟨kS [1,2] [],kO [1,2] []⟩ (.loop ⟨kS [1,2] [(6,.sl q12)],kO [1,2] []⟩ (.seq j0 (.seq (.seq (.seq (.meet false ⟨kS [1,2,6] [(89,.sl q3)],kO [1,2] []⟩ .nil) j0) .nil) .nil))))) (.seq .nil (.seq (.seq .nil (.meet true ⟨[(2,.keep)],[(2,.ob (.box [(.own 99),(.own 107003)])),(99,.keep),(107003,.ob q84)]⟩ (.loop ⟨kS [1,2] [(7,.sl q12)],[(1,.keep),(2,.ob (.box [(.own 99),(.own 107003)])),(99,.keep),(107003,.ob q84)]⟩ (.seq j0 (.seq (.seq (.seq .nil (.seq (.seq (.meet false ⟨kS [1,2,7,8] [(128,.sl q3)],kO [1,2,8,99,107003] []⟩ .nil) j0) (.seq (.seq .nil (.meet true ⟨kS [1,2,7,8] [],kO [1,2,8,99,107003] []⟩ (.loop ⟨kS [1,2,7,8] [(9,.sl q12)],kO [1,2,8,99,107003] []⟩ (.seq j0 (.seq (.seq (.seq (.meet false ⟨kS [1,2,7,8,9] [(158,.sl q3)],kO [1,2,8,99,107003] []⟩ .nil) j0) .nil) .nil))))) j30))) .nil) .nil))))) .nil)))))))
def aqD:dA:={ bD:=1,pin:=⟨[(0,wS)],[(50000,Px)]⟩,aO:=⟨[(0,(.agg [(.own 103003),(.own 105004)]))],[(50000,q4),(103003,q23),(105004,q24)]⟩,cO:=1,bC:=[50000],aQ:=[103003,105004] }
def aqE:fU:=(.seq .nil (.seq (.meet false ⟨kS [0,2] [(3,.sl (.one (.box 12 0)))],kO [50000,2] [(12,.ob (.box [(.box 50000 0),(.own 100700),(.own 100701),(.own 100702),q0])),(100700,.ob q53),(100701,.ob q83),(100702,.ob q67)]⟩ .nil) (.seq (.seq .nil (.meet false ⟨kS [0,2,3] [],kO [50000,2] (lO [(12,.ob q70),(101003,.ob q53)] (kO [100701,100702] []))⟩ (.loop ⟨kS [0,2,3] [(4,.sl q12)],kO [50000,2] (lO [(12,.ob q70),(101003,.ob q53)] (kO [100701,100702] []))⟩ (.seq j0 j0)))) (.seq (.seq .nil (.meet false ⟨kS [0,2,3] [],lO [(50000,.ob q4),(2,.keep),(12,.ob q71),(103003,.ob q53)] (kO [100701,100702] [])⟩ (.loop ⟨kS [0,2,3] [(5,.sl q12)],lO [(50000,.ob q4),(2,.keep),(12,.ob q71),(103003,.ob q53)] (kO [100701,100702] [])⟩ (.seq j0 j0)))) (.seq .nil (.seq (.seq .nil (.meet false ⟨kS [0,2,3] [],[(50000,.ob q4),(2,.keep),(12,.ob q72),(103003,.keep),(105004,.ob q83),(100702,.keep)]⟩ (.loop ⟨kS [0,2,3] [(6,.sl q12)],[(50000,.ob q4),(2,.keep),(12,.ob q72),(103003,.keep),(105004,.ob q83),(100702,.keep)]⟩ (.seq j0 (.seq (.seq (.seq .nil (.seq (.seq .nil (.meet false ⟨kS [0,2,3,6,7] [],kO [50000,2,12] (lO [(7,.ob (.box [q30,q0,(.own 106007),.b_]))] (kO [103003,105004,100702] [(106007,.ob q67)]))⟩ (.loop ⟨kS [0,2,3,6,7] [(8,.sl q12)],kO [50000,2,12] (lO [(7,.ob (.box [q30,q0,(.own 106007),.b_]))] (kO [103003,105004,100702] [(106007,.ob q67)]))⟩ (.seq j0 j0)))) .nil)) .nil) .nil))))) (.seq (.seq .nil (.meet false ⟨kS [2,3] [],[(50000,.ob q4),(2,.keep),(12,.ob q73),(103003,.ob q23),(105004,.ob q24),(109005,.ob wI)]⟩ (.loop ⟨kS [0,2,3] [(9,.sl q12)],[(50000,.ob q4),(2,.keep),(12,.ob q73),(103003,.ob q23),(105004,.ob q24),(109005,.ob wI)]⟩ (.seq j0 (.seq j7 .nil))))) .nil)))))))
def aqF:dA:={ bD:=2,pin:=⟨[(0,q33),(1,q7)],[]⟩,aO:=⟨[(0,q12)],[]⟩,cO:=1,bC:=[],aQ:=[] }
def aqG:fU:=(.seq .nil (.seq (.seq (.meet false ⟨kS [2,3] [(25,.sl q3)],kO [2,3] []⟩ .nil) j0) (.seq (.seq (.meet false ⟨kS [2,3] [(45,.sl q3)],kO [2,3] []⟩ .nil) j0) (.seq (.seq .nil (.meet true ⟨[(3,.keep)],[(3,.keep)]⟩ (.loop ⟨kS [2,3] [(5,.sl q12)],kO [2,3] []⟩ (.seq j0 (.seq (.seq (.seq (.seq .nil (.meet true ⟨kS [2,3,5] [],kO [2,3] []⟩ (.loop ⟨kS [2,3,5] [(6,.sl q12)],kO [2,3] []⟩ (.seq j0 j37)))) j9) .nil) .nil))))) (.seq .nil (.seq (.seq .nil (.meet true ⟨[],[]⟩ (.loop ⟨[(9,.keep),(10,.sl q12)],[(91,.keep)]⟩ j3))) .nil))))))
def aqH:dA:={ bD:=1,pin:=⟨[(0,q7)],[]⟩,aO:=⟨[(0,(.one (.own 10)))],[(10,q5)]⟩,cO:=1,bC:=[],aQ:=[10] }
def aqI:fU:=(.seq .nil (.seq .nil (.seq (.seq .nil (.meet false ⟨[(3,.keep)],[(10,.ob q5)]⟩ (.loop ⟨kS [1,3] [(4,.sl q12)],[(1,.keep),(10,.ob q5)]⟩ (.seq j0 (.seq (.seq (.seq .nil (.seq .nil (.meet false ⟨kS [1,3,4] [],[(1,.keep),(10,.ob q5)]⟩ (.loop ⟨kS [1,3,4,5] [(6,.sl q12)],[(1,.keep),(10,.ob q5),(20,.keep)]⟩ (.seq j0 j0))))) .nil) .nil))))) .nil)))
def aqJ:dA:={ bD:=1,pin:=⟨[(0,wS)],[(50000,Px)]⟩,aO:=⟨[(0,(.agg [(.own 9),(.own 1009)]))],[(50000,q4),(9,q23),(1009,q24)]⟩,cO:=1,bC:=[50000],aQ:=[9,1009] }
def aqK:fU:=j1
def aqL:dA:={ bD:=1,pin:=⟨[(0,q33)],[]⟩,aO:=⟨[(0,q12)],[]⟩,cO:=1,bC:=[],aQ:=[] }
def aqM:fU:=(.seq .nil (.seq (.seq (.meet false ⟨[(1,.keep),(31,.sl q3)],[(1,.keep)]⟩ .nil) j0) (.seq (.seq .nil (.meet true ⟨[(1,.keep)],[(1,.keep)]⟩ (.loop ⟨[(1,.keep),(3,.sl q12)],[(1,.keep)]⟩ (.seq j0 (.seq (.seq (.seq (.meet false ⟨kS [1,3] [(54,.sl q3)],[(1,.keep)]⟩ .nil) j0) .nil) .nil))))) (.seq (.seq (.meet false ⟨[(1,.keep),(65,.sl q3)],[(1,.keep)]⟩ .nil) j0) (.seq j1 (.seq (.seq .nil (.meet true ⟨[],[]⟩ (.loop ⟨[(1,.keep),(4,.sl q12)],[(1,.keep)]⟩ (.seq j0 j37)))) .nil))))))
def aqN:dA:={ bD:=1,pin:=⟨[(0,q36)],[]⟩,aO:=⟨[(0,(.agg [(.own 60000),(.own 60001),q0,q0])),(1,q12)],[(60000,(.arr false true false (.st 3))),(60001,q86)]⟩,cO:=2,bC:=[],aQ:=[60000,60001] }
def aqO:fU:=(.seq .nil (.seq .nil (.seq (.seq .nil (.meet false ⟨kS [2,4] [],[(2,.keep),(4,.ob (.box [(.own 11),(.own 100004),q0,q0])),(11,.keep),(100004,.ob q86)]⟩ (.loop ⟨kS [1,2,4] [(5,.sl q12)],kO [1,2] [(4,.ob (.box [(.own 11),(.own 100004),q0,q0])),(11,.keep),(100004,.ob q86)]⟩ (.seq j0 (.seq (.seq (.seq .nil (.seq (.meet false ⟨kS [1,2,4,5,6] [(7,.sl (.one (.box 33 0)))],kO [1,2,4,6] (lO [(33,.ob (.box [(.p true false (.sl (.st 3))),(.p true false (.sl (.st 13))),q69,q0,q0,(.own 101700),q0]))] (kO [11,100004] [(101700,.ob (.aF false false (.st 5) [(0,(.st 6))]))]))⟩ .nil) (.seq .nil (.seq .nil (.seq (.seq .nil (.meet false ⟨kS [1,2,4,5,6,7] [],kO [1,2,4,6] (lO [(33,.ob (.box [(.p true false (.sl (.st 3))),(.p true false (.sl (.st 13))),q69,q0,q0,(.own 49),q0]))] (kO [11,100004] [(49,.ob (.aF true false (.st 5) [(0,(.st 6))]))]))⟩ j11)) .nil))))) .nil) .nil))))) j11)))
def amk:TypeId->Option Ty:=λt=>(([(1000050,(.prod (.st 0) .bool)),(3000082,.bool),(3000053,.bool),(3000038,.bool),(3000018,.bool),(3000013,.bool)]:List (Nat×Ty))++qI).lookup t
def aqP:dA:={ bD:=1,pin:=⟨[(0,wS)],[(50000,Px)]⟩,aO:=⟨[(0,(.agg [(.own 8),(.own 1008),q0,q0]))],[(50000,q4),(8,q23),(1008,(.arr false false true (.st 4)))]⟩,cO:=1,bC:=[50000],aQ:=[8,1008] }
def aqQ:fU:=j1
def sg6:dA:={ bD:=1,pin:=⟨[(0,wS)],[(50000,Px)]⟩,aO:=⟨[(0,(.agg [(.own 60001),(.p false true (.sl (.st 4))),q0,q0]))],[(50000,q4),(60001,q23)]⟩,cO:=1,bC:=[50000],aQ:=[60001] }
def an6:fU:=(.seq .nil j11)
--HAND 33 Srt
def aqR:dA:={ bD:=1,pin:=⟨[(0,q7)],[]⟩,aO:=⟨[(0,q43)],[(100001,Z_)]⟩,cO:=1,bC:=[],aQ:=[100001] }
def aqS:fU:=(.seq .nil (.seq .nil (.seq .nil (.seq (.seq .nil (.meet false ⟨[(4,.sl q43)],[(100001,.ob Z_)]⟩ (.loop ⟨lS [(3,.keep),(4,.sl q43)] (kS [13,14] [(15,.sl q12)]),[(11,.keep),(100001,.ob Z_)]⟩ (.seq .nil (.seq .nil (.seq (.seq (.seq .nil (.seq .nil (.seq .nil (.seq .nil (.meet false ⟨lS [(3,.keep),(4,.sl q75)] (kS [13,14,15] []),[(11,.keep),(101001,.ob Z_)]⟩ (.loop ⟨lS [(3,.keep),(4,.sl q75)] (kS [5,13,14,15,25,26] [(27,.sl q12)]),[(11,.keep),(101001,.ob Z_),(22,.keep)]⟩ (.seq .nil (.seq .nil (.seq (.seq (.seq .nil (.seq .nil (.meet false ⟨lS [(3,.keep),(4,.sl (.one (.own 102001)))] (kS [5,13,14,15,25,26,27] []),[(11,.keep),(102001,.ob Z_),(22,.keep)]⟩ .nil))) .nil) .nil))))))))) .nil) .nil)))))) .nil))))
def aqT:dA:={ bD:=1,pin:=⟨[(0,q7)],[]⟩,aO:=⟨[(0,(.one (.own 11)))],[(11,q5)]⟩,cO:=1,bC:=[],aQ:=[11] }
def aqU:fU:=(.seq .nil (.seq .nil (.seq .nil (.seq (.seq .nil (.meet false ⟨[(3,.keep)],[(11,.ob q5)]⟩ (.loop ⟨kS [1,3,4,16] [(17,.sl q12)],[(1,.keep),(11,.ob q5),(13,.keep)]⟩ (.seq .nil (.seq .nil (.seq (.seq (.seq .nil (.seq .nil (.meet false ⟨kS [1,3,4,16,17] [],[(1,.keep),(11,.ob q5),(13,.keep)]⟩ (.loop ⟨kS [1,3,4,16,17,23,24] [(25,.sl q12)],lO [(1,.keep),(11,.ob q5)] (kO [13,23] [])⟩ (.seq .nil (.seq .nil (.seq (.seq (.seq .nil (.seq .nil (.meet false ⟨kS [1,3,4,16,17,23,24,25] [],lO [(1,.keep),(11,.ob q5)] (kO [13,23] [])⟩ .nil))) .nil) .nil))))))) .nil) .nil)))))) .nil))))
def aqV:dA:={ bD:=1,pin:=⟨[(0,q7)],[]⟩,aO:=⟨[(0,q3)],[]⟩,cO:=1,bC:=[],aQ:=[] }
def aqW:fU:=(.seq .nil (.seq .nil (.seq .nil (.seq .nil (.seq (.seq .nil (.meet false ⟨kS [1,4,5] [],[(1,.keep),(20,.ob q5),(24,.ob q42)]⟩ (.loop ⟨kS [1,3,4,5,26,27] [(28,.sl q12)],kO [1,16] [(20,.ob q5),(24,.ob q42)]⟩ (.seq .nil (.seq .nil (.seq (.seq (.seq .nil (.seq .nil (.meet false ⟨kS [1,3,4,5,26,27,28] [],kO [1,16] [(20,.ob q5),(24,.ob q42)]⟩ (.loop ⟨kS [1,3,4,5,6,26,27,28,35,36] [(37,.sl q12)],kO [1,16] [(20,.ob q5),(24,.ob q42),(35,.keep)]⟩ (.seq .nil (.seq .nil (.seq (.seq (.seq .nil (.seq .nil (.meet false ⟨kS [1,3,4,5,6,26,27,28,35,36,37] [],kO [1,16] [(20,.ob q5),(24,.ob q42),(35,.keep)]⟩ j0))) .nil) .nil))))))) .nil) .nil)))))) (.seq .nil (.seq j1 (.seq (.meet false ⟨[(1,.keep),(11,.sl q12)],[(1,.keep)]⟩ (.loop ⟨kS [1,4] [(5,.sl (.one (.p true false (.sl (.sl (.int .i64)))))),(10,.sl (.one (.own 105002))),(11,.sl q12)],[(1,.keep),(20,.ob q5),(105002,.ob q9)]⟩ (.seq j0 (.seq (.seq .nil (.seq .nil (.seq .nil (.seq .nil (.meet false ⟨kS [1,4,5] [(10,.sl (.one (.own 106002))),(11,.keep)],[(1,.keep),(20,.ob q5),(106002,.ob q9)]⟩ (.loop ⟨kS [1,4,5] (lS [(10,.sl (.one (.own 106002)))] (kS [11,89,90] [(91,.sl q12)])),[(1,.keep),(20,.ob q5),(106002,.ob q9)]⟩ (.seq .nil (.seq .nil (.seq (.seq (.seq .nil (.seq .nil (.seq .nil (.meet false ⟨kS [1,4,5] (lS [(10,.sl (.one (.own 107002)))] (kS [11,89,90,91] [])),kO [1,20] [(107002,.ob q9)]⟩ .nil)))) .nil) .nil))))))))) .nil)))) .nil))))))))
def aml:TypeId->Option Ty:=λt=>(([(1000035,(.prod (.st 0) .bool)),(2000000,.bool),(3000113,.bool),(3000022,.bool),(3000018,.bool)]:List (Nat×Ty))++qI).lookup t
def aqX:dA:={ bD:=2,pin:=⟨[(0,q7),(1,sF)],[]⟩,aO:=⟨[(0,q65)],[(100000,q5)]⟩,cO:=1,bC:=[],aQ:=[100000] }
def aqY:fU:=(.seq .nil (.seq .nil (.seq (.seq .nil (.meet false ⟨[(5,.sl q65)],[(100000,.ob q5)]⟩ (.loop ⟨lS [(5,.sl q65)] (kS [12,13] [(14,.sl q12)]),[(100000,.ob q5),(12,.keep)]⟩ (.seq .nil (.seq .nil (.seq (.seq (.seq .nil (.seq .nil (.meet false ⟨lS [(5,.sl (.one (.own 101000)))] (kS [12,13,14] []),[(101000,.ob q5),(12,.keep)]⟩ .nil))) .nil) .nil)))))) .nil)))
def sg4:dA:={ bD:=0,pin:=⟨[],[]⟩,aO:=⟨[(0,q3)],[]⟩,cO:=1,bC:=[],aQ:=[] }
def an4:fU:=(.seq .nil (.seq .nil (.seq .nil (.seq (.meet false ⟨[(0,.sl q3)],[]⟩ .nil) .nil))))
def sg3:dA:={ bD:=3,pin:=⟨[(0,(.one q64)),(1,sF),(2,sF)],[]⟩,aO:=⟨[(0,q3)],[]⟩,cO:=1,bC:=[],aQ:=[] }
def an3:fU:=(.seq .nil (.seq j1 (.seq .nil (.seq (.seq .nil (.meet true ⟨[],[]⟩ (.loop ⟨kS [1,2,7] [(8,.sl q12)],kO [7,16] []⟩ (.seq j0 (.seq (.seq (.seq .nil (.seq (.seq (.meet false ⟨kS [1,2,7,8,9] [(76,.sl q3)],kO [7,9,16] []⟩ .nil) j0) (.seq .nil (.meet true ⟨kS [1,2,7,8] [],kO [7,16] []⟩ (.loop ⟨kS [1,2,7,8,9] [(10,.sl q12)],kO [7,9,16] []⟩ (.seq j0 (.seq (.seq (.seq j1 (.seq .nil (.meet true ⟨kS [1,2,7,8,9,10] [],kO [7,9,16] []⟩ (.loop ⟨kS [1,2,7,8,9,10] [(11,.sl q12)],kO [7,9,16] []⟩ j3)))) .nil) .nil))))))) .nil) .nil))))) .nil))))
end Go.Fg.YtfakmncecjicbaaGreat

