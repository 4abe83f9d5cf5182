/-
  Shapes of the functions of the seat, printed by a program (wip/gen/Infer.lean).
-/
import Derived.Test.YtmgfidfcioiedaaFwT
import Derived.Test.YtmgfidfcioiedaaZd
namespace Go.Fg.Ytmgfidfcioiedaa
open Go.Fw Go.Proofs Go.Fw.Ytmgfidfcioiedaa
set_option linter.unusedVariables false
structure bG where
  kind:Int
  op:Int
  value:Int
  line:Int
  name:(List UInt8)
  args:(List bG)
def ac1:bG:=bG.mk (0:Int) (0:Int) (0:Int) (0:Int) [] []
mutual
def qY:bG→List P
  |⟨y0,y1,y2,y3,y4,y5⟩=>[P.int .i64 y0,P.int .i64 y1,P.int .i64 y2,P.int .i64 y3,P.str ⟨List.toArray y4⟩,P.fF 6 (BF y5)]
def BF:List bG→List (List P)
  | []=>[]
  |x::l=>qY x::BF l
end
theorem ED :∀l,BF l=List.map qY l
  | []=>rfl
  |x::l=>by rw [BF,ED l];rfl
theorem TL (x:bG):qY x=[P.int .i64 (bG.kind x),P.int .i64 (bG.op x),P.int .i64 (bG.value x),P.int .i64 (bG.line x),P.str ⟨List.toArray (bG.name x)⟩,P.fF 6 (List.map qY (bG.args x))]:=by
  cases x
  rw [qY]
  simp only [ED]
structure d_ where
  kind:Int
  line:Int
  name:(List UInt8)
  exprs:(List bG)
  then':(List d_)
  else':(List d_)
def ac2:d_:=d_.mk (0:Int) (0:Int) [] [] [] []
mutual
def qZ:d_→List P
  |⟨y0,y1,y2,y3,y4,y5⟩=>[P.int .i64 y0,P.int .i64 y1,P.str ⟨List.toArray y2⟩,P.fF 6 (List.map qY y3),P.fF 6 (xM y4),P.fF 6 (xM y5)]
def xM:List d_→List (List P)
  | []=>[]
  |x::l=>qZ x::xM l
end
theorem EF :∀l,xM l=List.map qZ l
  | []=>rfl
  |x::l=>by rw [xM,EF l];rfl
theorem TM (x:d_):qZ x=[P.int .i64 (d_.kind x),P.int .i64 (d_.line x),P.str ⟨List.toArray (d_.name x)⟩,P.fF 6 (List.map qY (d_.exprs x)),P.fF 6 (List.map qZ (d_.then' x)),P.fF 6 (List.map qZ (d_.else' x))]:=by
  cases x
  rw [qZ]
  simp only [EF]
structure ay where
  name:(List UInt8)
  line:Int
  params:(List (List UInt8))
  body:(List d_)
def ac3:ay:=ay.mk [] (0:Int) [] []
def ac4 (x:ay):List P:=[P.str ⟨List.toArray (ay.name x)⟩,P.int .i64 (ay.line x),P.fF 1 (List.map (fun (x:List UInt8)=>[P.str ⟨x.toArray⟩]) (ay.params x)),P.fF 6 (List.map qZ (ay.body x))]
structure fE where
  from':Int
  to:Int
def ac5:fE:=fE.mk (0:Int) (0:Int)
def ac6 (x:fE):List P:=[P.int .i64 (fE.from' x),P.int .i64 (fE.to x)]
structure fZ where
  kind:Int
  op:Int
  dst:Int
  a:Int
  b:Int
  value:Int
  args:(List Int)
def aal:fZ:=fZ.mk (0:Int) (0:Int) (0:Int) (0:Int) (0:Int) (0:Int) []
def Qq (x:fZ):List P:=[P.int .i64 (fZ.kind x),P.int .i64 (fZ.op x),P.int .i64 (fZ.dst x),P.int .i64 (fZ.a x),P.int .i64 (fZ.b x),P.int .i64 (fZ.value x),P.fF 1 (List.map (fun (x:Int)=>[P.int .i64 x]) (fZ.args x))]
structure aJ where
  instrs:(List fZ)
  bf:Int
  oH:Int
  dV:Int
  bK:Int
  line:Int
  jG:Int
  iU:Int
def aam:aJ:=aJ.mk [] (0:Int) (0:Int) (0:Int) (0:Int) (0:Int) (0:Int) (0:Int)
def Qr (x:aJ):List P:=[P.fF 7 (List.map Qq (aJ.instrs x)),P.int .i64 (aJ.bf x),P.int .i64 (aJ.oH x),P.int .i64 (aJ.dV x),P.int .i64 (aJ.bK x),P.int .i64 (aJ.line x),P.int .i64 (aJ.jG x),P.int .i64 (aJ.iU x)]
structure aV where
  name:(List UInt8)
  params:Int
  regs:Int
  blocks:(List aJ)
def Qs:aV:=aV.mk [] (0:Int) (0:Int) []
def Qu (x:aV):List P:=[P.str ⟨List.toArray (aV.name x)⟩,P.int .i64 (aV.params x),P.int .i64 (aV.regs x),P.fF 8 (List.map Qr (aV.blocks x))]
structure aP where
  name:(List UInt8)
  size:Int
def XO:aP:=aP.mk [] (0:Int)
def XP (x:aP):List P:=[P.str ⟨List.toArray (aP.name x)⟩,P.int .i64 (aP.size x)]
def reC:Nat→Type
  |0=>Unit
  |1=>Unit
  |2=>Unit
  |3=>aP
  |4=>aV
  |5=>aJ
  |6=>fZ
  |7=>Unit
  |8=>Unit
  |9=>Unit
  |10=>Unit
  |11=>fE
  |12=>ay
  |13=>d_
  |14=>bG
  |15=>Unit
  |16=>Unit
  |17=>Unit
  |18=>Unit
  |19=>Unit
  |20=>Unit
  |21=>Unit
  |_=>Unit
def reF:Nat→List Ty
  |0=>[]
  |1=>[]
  |2=>[]
  |3=>[.str,(.int .i64)]
  |4=>[.str,(.int .i64),(.int .i64),(.sl (.st 5))]
  |5=>[(.sl (.st 6)),(.int .i64),(.int .i64),(.int .i64),(.int .i64),(.int .i64),(.int .i64),(.int .i64)]
  |6=>[(.int .i64),(.int .i64),(.int .i64),(.int .i64),(.int .i64),(.int .i64),(.sl (.int .i64))]
  |7=>[]
  |8=>[]
  |9=>[]
  |10=>[]
  |11=>[(.int .i64),(.int .i64)]
  |12=>[.str,(.int .i64),(.sl .str),(.sl (.st 13))]
  |13=>[(.int .i64),(.int .i64),.str,(.sl (.st 14)),(.sl (.st 13)),(.sl (.st 13))]
  |14=>[(.int .i64),(.int .i64),(.int .i64),(.int .i64),.str,(.sl (.st 14))]
  |15=>[]
  |16=>[]
  |17=>[]
  |18=>[]
  |19=>[]
  |20=>[]
  |21=>[]
  |_=>[]
def alS:(n:Nat)→reC n
  |0=>()
  |1=>()
  |2=>()
  |3=>XO
  |4=>Qs
  |5=>aam
  |6=>aal
  |7=>()
  |8=>()
  |9=>()
  |10=>()
  |11=>ac5
  |12=>ac3
  |13=>ac2
  |14=>ac1
  |15=>()
  |16=>()
  |17=>()
  |18=>()
  |19=>()
  |20=>()
  |21=>()
  |_+22=>()
def ac7:(n:Nat)→reC n→List (TP reC)
  |0,x=>[]
  |1,x=>[]
  |2,x=>[]
  |3,x=>[⟨.str,aP.name x⟩,⟨(.int .i64),aP.size x⟩]
  |4,x=>[⟨.str,aV.name x⟩,⟨(.int .i64),aV.params x⟩,⟨(.int .i64),aV.regs x⟩,⟨(.sl (.st 5)),aV.blocks x⟩]
  |5,x=>[⟨(.sl (.st 6)),aJ.instrs x⟩,⟨(.int .i64),aJ.bf x⟩,⟨(.int .i64),aJ.oH x⟩,⟨(.int .i64),aJ.dV x⟩,⟨(.int .i64),aJ.bK x⟩,⟨(.int .i64),aJ.line x⟩,⟨(.int .i64),aJ.jG x⟩,⟨(.int .i64),aJ.iU x⟩]
  |6,x=>[⟨(.int .i64),fZ.kind x⟩,⟨(.int .i64),fZ.op x⟩,⟨(.int .i64),fZ.dst x⟩,⟨(.int .i64),fZ.a x⟩,⟨(.int .i64),fZ.b x⟩,⟨(.int .i64),fZ.value x⟩,⟨(.sl (.int .i64)),fZ.args x⟩]
  |7,x=>[]
  |8,x=>[]
  |9,x=>[]
  |10,x=>[]
  |11,x=>[⟨(.int .i64),fE.from' x⟩,⟨(.int .i64),fE.to x⟩]
  |12,x=>[⟨.str,ay.name x⟩,⟨(.int .i64),ay.line x⟩,⟨(.sl .str),ay.params x⟩,⟨(.sl (.st 13)),ay.body x⟩]
  |13,x=>[⟨(.int .i64),d_.kind x⟩,⟨(.int .i64),d_.line x⟩,⟨.str,d_.name x⟩,⟨(.sl (.st 14)),d_.exprs x⟩,⟨(.sl (.st 13)),d_.then' x⟩,⟨(.sl (.st 13)),d_.else' x⟩]
  |14,x=>[⟨(.int .i64),bG.kind x⟩,⟨(.int .i64),bG.op x⟩,⟨(.int .i64),bG.value x⟩,⟨(.int .i64),bG.line x⟩,⟨.str,bG.name x⟩,⟨(.sl (.st 14)),bG.args x⟩]
  |15,x=>[]
  |16,x=>[]
  |17,x=>[]
  |18,x=>[]
  |19,x=>[]
  |20,x=>[]
  |21,x=>[]
  |_+22,_=>[]
def aiC:(n:Nat)→List (TP reC)→reC n
  |0,ws=>()
  |1,ws=>()
  |2,ws=>()
  |3,ws=>aP.mk (TP.get .str [] ws 0) (TP.get (.int .i64) (0:Int) ws 1)
  |4,ws=>aV.mk (TP.get .str [] ws 0) (TP.get (.int .i64) (0:Int) ws 1) (TP.get (.int .i64) (0:Int) ws 2) (TP.get (.sl (.st 5)) [] ws 3)
  |5,ws=>aJ.mk (TP.get (.sl (.st 6)) [] ws 0) (TP.get (.int .i64) (0:Int) ws 1) (TP.get (.int .i64) (0:Int) ws 2) (TP.get (.int .i64) (0:Int) ws 3) (TP.get (.int .i64) (0:Int) ws 4) (TP.get (.int .i64) (0:Int) ws 5) (TP.get (.int .i64) (0:Int) ws 6) (TP.get (.int .i64) (0:Int) ws 7)
  |6,ws=>fZ.mk (TP.get (.int .i64) (0:Int) ws 0) (TP.get (.int .i64) (0:Int) ws 1) (TP.get (.int .i64) (0:Int) ws 2) (TP.get (.int .i64) (0:Int) ws 3) (TP.get (.int .i64) (0:Int) ws 4) (TP.get (.int .i64) (0:Int) ws 5) (TP.get (.sl (.int .i64)) [] ws 6)
  |7,ws=>()
  |8,ws=>()
  |9,ws=>()
  |10,ws=>()
  |11,ws=>fE.mk (TP.get (.int .i64) (0:Int) ws 0) (TP.get (.int .i64) (0:Int) ws 1)
  |12,ws=>ay.mk (TP.get .str [] ws 0) (TP.get (.int .i64) (0:Int) ws 1) (TP.get (.sl .str) [] ws 2) (TP.get (.sl (.st 13)) [] ws 3)
  |13,ws=>d_.mk (TP.get (.int .i64) (0:Int) ws 0) (TP.get (.int .i64) (0:Int) ws 1) (TP.get .str [] ws 2) (TP.get (.sl (.st 14)) [] ws 3) (TP.get (.sl (.st 13)) [] ws 4) (TP.get (.sl (.st 13)) [] ws 5)
  |14,ws=>bG.mk (TP.get (.int .i64) (0:Int) ws 0) (TP.get (.int .i64) (0:Int) ws 1) (TP.get (.int .i64) (0:Int) ws 2) (TP.get (.int .i64) (0:Int) ws 3) (TP.get .str [] ws 4) (TP.get (.sl (.st 14)) [] ws 5)
  |15,ws=>()
  |16,ws=>()
  |17,ws=>()
  |18,ws=>()
  |19,ws=>()
  |20,ws=>()
  |21,ws=>()
  |_+22,_=>()
def ags:(n:Nat)→reC n→List P
  |0,x=>[]
  |1,x=>[]
  |2,x=>[]
  |3,x=>XP x
  |4,x=>Qu x
  |5,x=>Qr x
  |6,x=>Qq x
  |7,x=>[]
  |8,x=>[]
  |9,x=>[]
  |10,x=>[]
  |11,x=>ac6 x
  |12,x=>ac4 x
  |13,x=>qZ x
  |14,x=>qY x
  |15,x=>[]
  |16,x=>[]
  |17,x=>[]
  |18,x=>[]
  |19,x=>[]
  |20,x=>[]
  |21,x=>[]
  |_+22,_=>[]
theorem aiD :∀n,(reF n).all Ty.word=true
  |0=>rfl
  |1=>rfl
  |2=>rfl
  |3=>rfl
  |4=>rfl
  |5=>rfl
  |6=>rfl
  |7=>rfl
  |8=>rfl
  |9=>rfl
  |10=>rfl
  |11=>rfl
  |12=>rfl
  |13=>rfl
  |14=>rfl
  |15=>rfl
  |16=>rfl
  |17=>rfl
  |18=>rfl
  |19=>rfl
  |20=>rfl
  |21=>rfl
  |_+22=>rfl
theorem agt :∀(n:Nat) (x:reC n),(ac7 n x).map (·.t)=reF n
  |0,x=>rfl
  |1,x=>rfl
  |2,x=>rfl
  |3,x=>rfl
  |4,x=>rfl
  |5,x=>rfl
  |6,x=>rfl
  |7,x=>rfl
  |8,x=>rfl
  |9,x=>rfl
  |10,x=>rfl
  |11,x=>rfl
  |12,x=>rfl
  |13,x=>rfl
  |14,x=>rfl
  |15,x=>rfl
  |16,x=>rfl
  |17,x=>rfl
  |18,x=>rfl
  |19,x=>rfl
  |20,x=>rfl
  |21,x=>rfl
  |_+22,_=>rfl
theorem agu :∀(n:Nat) (ws:List (TP reC)),ws.map (·.t)=reF n→ac7 n (aiC n ws)=ws
  |0,ws,h=>by
    have e:=dU h
    subst e
    rfl
  |1,ws,h=>by
    have e:=dU h
    subst e
    rfl
  |2,ws,h=>by
    have e:=dU h
    subst e
    rfl
  |3,ws,h=>by
    obtain ⟨x0,J5,e0,h0⟩:=aY h
    subst e0
    obtain ⟨x1,RQ,e1,h1⟩:=aY h0
    subst e1
    have e:=dU h1
    subst e
    rfl
  |4,ws,h=>by
    obtain ⟨x0,J5,e0,h0⟩:=aY h
    subst e0
    obtain ⟨x1,RQ,e1,h1⟩:=aY h0
    subst e1
    obtain ⟨x2,ws2,e2,h2⟩:=aY h1
    subst e2
    obtain ⟨x3,ws3,e3,h3⟩:=aY h2
    subst e3
    have e:=dU h3
    subst e
    rfl
  |5,ws,h=>by
    obtain ⟨x0,J5,e0,h0⟩:=aY h
    subst e0
    obtain ⟨x1,RQ,e1,h1⟩:=aY h0
    subst e1
    obtain ⟨x2,ws2,e2,h2⟩:=aY h1
    subst e2
    obtain ⟨x3,ws3,e3,h3⟩:=aY h2
    subst e3
    obtain ⟨x4,ws4,e4,h4⟩:=aY h3
    subst e4
    obtain ⟨x5,ws5,e5,h5⟩:=aY h4
    subst e5
    obtain ⟨x6,ws6,e6,h6⟩:=aY h5
    subst e6
    obtain ⟨x7,ws7,e7,h7⟩:=aY h6
    subst e7
    have e:=dU h7
    subst e
    rfl
  |6,ws,h=>by
    obtain ⟨x0,J5,e0,h0⟩:=aY h
    subst e0
    obtain ⟨x1,RQ,e1,h1⟩:=aY h0
    subst e1
    obtain ⟨x2,ws2,e2,h2⟩:=aY h1
    subst e2
    obtain ⟨x3,ws3,e3,h3⟩:=aY h2
    subst e3
    obtain ⟨x4,ws4,e4,h4⟩:=aY h3
    subst e4
    obtain ⟨x5,ws5,e5,h5⟩:=aY h4
    subst e5
    obtain ⟨x6,ws6,e6,h6⟩:=aY h5
    subst e6
    have e:=dU h6
    subst e
    rfl
  |7,ws,h=>by
    have e:=dU h
    subst e
    rfl
  |8,ws,h=>by
    have e:=dU h
    subst e
    rfl
  |9,ws,h=>by
    have e:=dU h
    subst e
    rfl
  |10,ws,h=>by
    have e:=dU h
    subst e
    rfl
  |11,ws,h=>by
    obtain ⟨x0,J5,e0,h0⟩:=aY h
    subst e0
    obtain ⟨x1,RQ,e1,h1⟩:=aY h0
    subst e1
    have e:=dU h1
    subst e
    rfl
  |12,ws,h=>by
    obtain ⟨x0,J5,e0,h0⟩:=aY h
    subst e0
    obtain ⟨x1,RQ,e1,h1⟩:=aY h0
    subst e1
    obtain ⟨x2,ws2,e2,h2⟩:=aY h1
    subst e2
    obtain ⟨x3,ws3,e3,h3⟩:=aY h2
    subst e3
    have e:=dU h3
    subst e
    rfl
  |13,ws,h=>by
    obtain ⟨x0,J5,e0,h0⟩:=aY h
    subst e0
    obtain ⟨x1,RQ,e1,h1⟩:=aY h0
    subst e1
    obtain ⟨x2,ws2,e2,h2⟩:=aY h1
    subst e2
    obtain ⟨x3,ws3,e3,h3⟩:=aY h2
    subst e3
    obtain ⟨x4,ws4,e4,h4⟩:=aY h3
    subst e4
    obtain ⟨x5,ws5,e5,h5⟩:=aY h4
    subst e5
    have e:=dU h5
    subst e
    rfl
  |14,ws,h=>by
    obtain ⟨x0,J5,e0,h0⟩:=aY h
    subst e0
    obtain ⟨x1,RQ,e1,h1⟩:=aY h0
    subst e1
    obtain ⟨x2,ws2,e2,h2⟩:=aY h1
    subst e2
    obtain ⟨x3,ws3,e3,h3⟩:=aY h2
    subst e3
    obtain ⟨x4,ws4,e4,h4⟩:=aY h3
    subst e4
    obtain ⟨x5,ws5,e5,h5⟩:=aY h4
    subst e5
    have e:=dU h5
    subst e
    rfl
  |15,ws,h=>by
    have e:=dU h
    subst e
    rfl
  |16,ws,h=>by
    have e:=dU h
    subst e
    rfl
  |17,ws,h=>by
    have e:=dU h
    subst e
    rfl
  |18,ws,h=>by
    have e:=dU h
    subst e
    rfl
  |19,ws,h=>by
    have e:=dU h
    subst e
    rfl
  |20,ws,h=>by
    have e:=dU h
    subst e
    rfl
  |21,ws,h=>by
    have e:=dU h
    subst e
    rfl
  |_+22,ws,h=>by have e:=dU h;subst e;rfl
theorem agv :∀(n:Nat) (x:reC n),ags n x=(ac7 n x).map fun w=>Hr (iQ reF) (oh reF ags (iQ reF)) w.t w.x
  |0,x=>by kernel_rfl
  |1,x=>by kernel_rfl
  |2,x=>by kernel_rfl
  |3,x=>by kernel_rfl
  |4,x=>by kernel_rfl
  |5,x=>by kernel_rfl
  |6,x=>by kernel_rfl
  |7,x=>by kernel_rfl
  |8,x=>by kernel_rfl
  |9,x=>by kernel_rfl
  |10,x=>by kernel_rfl
  |11,x=>by kernel_rfl
  |12,x=>by kernel_rfl
  |13,x=>(TM x).trans (by kernel_rfl)
  |14,x=>(TL x).trans (by kernel_rfl)
  |15,x=>by kernel_rfl
  |16,x=>by kernel_rfl
  |17,x=>by kernel_rfl
  |18,x=>by kernel_rfl
  |19,x=>by kernel_rfl
  |20,x=>by kernel_rfl
  |21,x=>by kernel_rfl
  |_+22,_=>rfl
def reG:Nat→Option ((e:Ty)×List (D reC e))
  |_=>none
instance re:RE where
  C:=reC
  F:=reF
  dflt:=alS
  un:=ac7
  ro:=aiC
  er:=ags
  Fwd:=aiD
  ae1:=agt
  ae2:=agu
  ae3:=agv
  G:=reG
theorem mixed:Fit Try.prog:=⟨Fw.Ytmgfidfcioiedaa.agq,fun _ _ _ _ h=>h.elim⟩
def vU:List (Nat×Ty):=[(3,(.int .i64)),(4,.bool),(5,(.int .u8)),(9,.str),(33,(.st 4)),(34,(.sl (.int .i64))),(44,(.st 5)),(65,(.st 11)),(74,(.st 3)),(78,(.st 6)),(85,(.st 12)),(104,(.st 13)),(132,(.st 14))]
def ety:TypeId→Option Ty:=fun t=>vU.lookup t
def kS (l:List Nat) (r:List (Nat×Md)):List (Nat×Md):=l.map (fun n=>(n,.keep))++r
def kO (l:List Nat) (r:List (Nat×Mo)):List (Nat×Mo):=l.map (fun n=>(n,.keep))++r
def lS (l r:List (Nat×Md)):=l++r
def lO (l r:List (Nat×Mo)):=l++r
abbrev q0:jH:=.p false false (.int .i64)
abbrev q1:jH:=.p true false (.int .i64)
abbrev q2:jH:=.p false true (.int .i64)
abbrev q3:jX:=.one (.p false false .bool)
abbrev q4:gX:=.box [(.p false true (.sl (.int .u8))),q0]
abbrev q5:gX:=.arr false false true (.int .i64)
abbrev q6:gX:=.arr false false false (.int .i64)
abbrev q7:gX:=.aG true true (.st 5) [(0,(.st 6))]
abbrev q8:gX:=.box [(.p false true (.sl (.st 3))),(.p false true (.sl (.st 12))),(.p false true (.sl .str)),q2,q2,(.own 50001),q2]
abbrev q9:gX:=.box [(.p false true (.sl (.st 3))),(.p false true (.sl (.st 12))),(.own 50001),q2,q2]
abbrev q10:jH:=.p true true (.sl (.st 12))
abbrev q11:gX:=.box [(.box 50001 0),(.own 50002),(.own 50003),(.own 50004),q2]
abbrev q12:jH:=.p true true (.sl (.st 3))
abbrev q13:jX:=.one q0
abbrev q14:gX:=.box [(.p false true (.sl (.st 3))),(.p false true (.sl (.st 12))),(.own 50001),q0,q0]
abbrev vJ:gX:=.arr false false true .str
abbrev N9:gX:=.box [(.p false true (.sl (.int .u8))),q2]
abbrev xO:jX:=.one (.box 50000 0)
abbrev VH:jH:=.p true true (.sl .str)
abbrev Jl:gX:=.arr false false true (.st 3)
abbrev KT:gX:=.arr false false true (.st 12)
abbrev q22:gX:=.arr false true false (.int .i64)
abbrev q23:jX:=.one q1
abbrev q24:gX:=.aG false true (.st 5) [(0,(.st 6))]
abbrev q25:gX:=.box [q12,q10,VH,q0,q0,(.own 1033),q0]
abbrev q26:gX:=.aG false false (.st 4) [(3,(.st 5))]
abbrev XQ:gX:=.arr false false false .bool
abbrev q29:gX:=.aG false false (.sl (.int .i64)) [(0,(.int .i64))]
abbrev q30:jH:=.p false false .str
abbrev q31:jX:=.agg [(.p true false (.sl (.st 3))),(.p true false (.sl (.st 4))),q1,q1]
abbrev q32:gX:=.box [q12,q10,VH,q2,q2,(.own 100002),q2]
abbrev q33:jH:=.p true false (.sl (.int .i64))
abbrev q34:jH:=.p true false (.sl (.st 13))
abbrev q35:jX:=.agg [(.p true false (.sl (.st 3))),(.p true false (.sl (.st 12)))]
abbrev q36:gX:=.box [(.box 50001 0),(.own 50002),(.own 50003),(.own 50004),q0]
abbrev q37:gX:=.box [(.p false true (.sl (.st 3))),(.p false true (.sl (.st 12))),(.p false true (.sl .str)),q0,q0,(.own 50001),q0]
abbrev TN:jH:=.p true false .str
abbrev q16:jX:=.agg [TN,q1,q1,(.p true false (.sl (.st 5)))]
abbrev q39:gX:=.aG true false (.sl (.int .i64)) [(0,(.int .i64))]
abbrev q40:gX:=.box [(.p false true .str),q2,q2,(.p false true (.sl (.st 5)))]
abbrev q41:jX:=.one (.p true false (.sl (.int .u8)))
abbrev q42:gX:=.arr false false true (.st 13)
abbrev q43:gX:=.box [(.fn 24 [50000,50002,50003,50004])]
abbrev q44:gX:=.arr false true true .str
abbrev q45:jH:=.p true false (.sl (.st 14))
abbrev q27:jX:=.agg [q1,q1,q1,q1,TN,q45]
abbrev q46:jX:=.one (.own 55000)
abbrev q47:gX:=.box [q12,q10,(.own 100002),q0,q0]
abbrev q48:gX:=.box [q12,q10,(.own 100002),q2,q2]
abbrev q49:gX:=.arr false false false (.st 3)
abbrev q50:gX:=.arr false true false (.st 11)
abbrev q51:gX:=.arr false true true (.st 14)
abbrev q52:jH:=.p true true (.int .i64)
abbrev q53:jX:=.one (.own 100001)
abbrev q54:gX:=.box [q12,q10,VH,q0,q0,(.own 60001),q0]
abbrev q56:gX:=.arr false false true (.st 14)
abbrev q57:gX:=.box [(.own 50001)]
abbrev q58:gX:=.box [(.own 38)]
abbrev q59:gX:=.arr false false true .bool
abbrev q60:jX:=.agg [q1,q1,q1,q1,q1,q1,q33]
abbrev q61:gX:=.box [(.own 21)]
abbrev q62:jX:=.one (.own 100002)
abbrev q63:jX:=.one (.own 100000)
abbrev q64:gX:=.arr false true false (.st 5)
abbrev q65:gX:=.arr false false false .str
abbrev q67:jH:=.p true false (.sl .str)
abbrev q68:gX:=.box [(.box 50000 0),(.own 101003),(.own 100701),(.own 100702),q0]
abbrev q69:gX:=.box [(.box 50000 0),(.own 103003),(.own 100701),(.own 100702),q0]
abbrev q70:gX:=.box [(.box 50000 0),(.own 103003),(.own 105004),(.own 100702),q0]
abbrev q71:gX:=.box [(.box 50000 0),(.own 103003),(.own 105004),(.own 109005),q0]
abbrev q72:jX:=.one (.p true false (.sl (.st 11)))
abbrev q73:gX:=.box [(.box 50001 0),(.own 50002),(.own 50003),(.own 100005),q2]
abbrev q74:jX:=.agg [q1,q1,TN,q45,q34,q34]
abbrev q75:gX:=.box [(.p true false (.sl (.st 6))),q1,q1,q1,q1,q1,q1,q1]
abbrev q77:jX:=.agg [q1,q1,q1,q1]
abbrev q78:gX:=.arr false false false (.st 12)
abbrev q79:gX:=.arr false true false (.st 12)
abbrev q80:gX:=.arr false true true (.st 13)
abbrev q81:gX:=.arr false true false (.st 4)
abbrev j0:gJ:=.seq .nil .nil
abbrev j1:gJ:=.seq .nil j0
abbrev j2:JT:=⟨[],[(50000,.ob q25),(1033,.ob q7)]⟩
abbrev j4:JT:=⟨kS [0,4] [],lO [(50000,.ob q11),(50001,.ob q4)] (kO [50002,50003,4,50004] [])⟩
abbrev j5:JT:=⟨kS [0,3,4] [],lO [(50000,.ob q9)] (kO [50001,3,4] [])⟩
abbrev j6:JT:=⟨kS [0,1,5,6,7] [],lO [(50000,.ob q47)] (kO [100001,7,100002,101003] [])⟩
abbrev j7:gJ:=.seq j0 .nil
abbrev j8:gJ:=.seq .nil j1
abbrev j9:JT:=⟨kS [0,3,4] [],lO [(50000,.ob q14)] (kO [50001,3,4] [])⟩
abbrev j10:gJ:=.seq j1 .nil
abbrev j3:gJ:=.seq j0 (.seq j10 .nil)
abbrev j12:gJ:=.seq .nil (.seq .nil (.seq (.seq .nil (.meet false ⟨[(3,.sl q13)],[]⟩ (.loop ⟨[(1,.keep),(3,.sl q13),(4,.sl q13)],[(1,.keep)]⟩ (.seq j0 j0)))) .nil))
abbrev j13:JT:=⟨[],[(55000,.ob q5)]⟩
abbrev j15:JT:=⟨kS [3,7,8,10,11,13] (lS [(14,.sl q13)] (kS [51,52,53,60,61,62] [])),lO [(18,.keep),(8,.ob q58),(4,.ob q61)] (kO [38,21] [])⟩
abbrev j18:gJ:=.seq .nil (.seq (.seq .nil (.meet true ⟨[],[]⟩ (.loop ⟨kS [1,2] [(5,.sl q13)],[(2,.keep)]⟩ j3))) .nil)
abbrev j19:JT:=⟨kS [1,4] [(5,.sl q3)],[(1,.keep)]⟩
abbrev j20:gJ:=.seq .nil (.meet false ⟨kS [1,2,3,4,7,8,9] [],kO [1,2,11,14,7] [(9,.ob q75),(103005,.keep)]⟩ .nil)
abbrev j21:gJ:=.seq .nil (.seq (.seq .nil (.meet true ⟨[],[]⟩ (.loop ⟨kS [0,1] [(5,.sl q13)],[]⟩ j3))) .nil)
abbrev j22:JT:=⟨lS [(0,.sl (.one q52)),(1,.sl (.one q52))] (kS [2,3] []),kO [50000,50001,50002,50003] []⟩
abbrev j23:JT:=⟨kS [3,7,8,10] [(11,.sl q3)],[(18,.keep),(8,.ob q58),(4,.ob q61),(38,.ob q6),(21,.keep)]⟩
abbrev j25:JT:=⟨kS [0,2,3,4,7,8] [],lO [(50000,.ob q4)] (kO [2,3] [(100004,.ob q26),(19,.keep)])⟩
abbrev j26:JT:=⟨[],[(50000,.ob q32),(100002,.ob q7)]⟩
abbrev j27:JT:=⟨[(1,.keep),(3,.sl q3)],[(1,.keep)]⟩
abbrev j28:JT:=⟨[(1,.keep),(6,.sl q3)],[(1,.keep)]⟩
abbrev j29:gJ:=.seq .nil (.seq .nil j10)
abbrev j30:gJ:=.seq .nil (.seq (.meet false ⟨[(6,.sl q3)],[]⟩ .nil) .nil)
abbrev j32:gJ:=.seq .nil j8
abbrev j33:gJ:=.seq .nil j7
abbrev j34:JT:=⟨kS [0,4] [],kO [50000,50001,50002,50003,4,50004] []⟩
abbrev j37:gJ:=.seq (.seq j8 .nil) .nil
abbrev j40:JT:=⟨[],[(50000,.ob q14),(50001,.keep)]⟩
def sg7:dB:={ bM:=2,pin:=⟨[(0,q41),(1,q23)],[]⟩,aI:=⟨[(0,(.one (.box 14 0)))],[(14,(.box [(.p true false (.sl (.int .u8))),q0]))]⟩,dA:=1,aU:=[],aT:=[14] }
def an7:gJ:=(.seq .nil (.seq (.seq .nil (.meet false ⟨[(0,.sl q41)],[]⟩ .nil)) .nil))
def al2:dB:={ bM:=1,pin:=⟨[(0,q77)],[]⟩,aI:=⟨[(0,(.one (.own 60000)))],[(60000,q22)]⟩,dA:=1,aU:=[],aT:=[60000] }
def al3:gJ:=(.seq .nil (.seq (.seq (.seq (.meet false j27 .nil) (.seq .nil (.seq (.meet false ⟨[(1,.keep),(19,.sl q3)],[(1,.keep)]⟩ .nil) j0))) .nil) .nil))
def aiN:dB:={ bM:=2,pin:=⟨[(0,xO),(1,q23)],[(50000,N9)]⟩,aI:=⟨[(0,q13)],[(50000,q4)]⟩,dA:=1,aU:=[50000],aT:=[] }
def al4:gJ:=(.seq .nil (.seq (.seq (.meet false ⟨kS [0,1] [(19,.sl q3)],[(50000,.keep)]⟩ .nil) j0) j29))
def al5:dB:={ bM:=4,pin:=⟨[(0,q23),(1,q23),(2,xO),(3,(.one (.box 50002 0)))],[(50000,q57),(50002,(.box [(.own 50003)])),(50001,q5),(50003,q5)]⟩,aI:=⟨[(0,q13)],[(50000,q57),(50001,q5),(50002,(.box [(.own 50003)])),(50003,q5)]⟩,dA:=1,aU:=[50000,50001,50002,50003],aT:=[],kept:=[50001,50003] }
def al6:gJ:=(.seq .nil (.seq (.meet false ⟨[(0,.sl (.one q52))],kO [50000,50001,50002,50003] []⟩ (.loop j22 (.seq j0 (.seq (.seq .nil (.meet false j22 .nil)) .nil)))) .nil))
def al7:dB:={ bM:=3,pin:=⟨[(0,(.one q33)),(1,q23),(2,q23)],[]⟩,aI:=⟨[(0,q3)],[]⟩,dA:=1,aU:=[],aT:=[] }
def al8:gJ:=(.seq .nil (.seq (.meet false ⟨[(2,.sl q23)],[]⟩ (.loop ⟨kS [0,1] [(2,.sl q23)],[]⟩ (.seq (.seq (.meet false ⟨kS [0,1,2] [(13,.sl q3)],[]⟩ .nil) .nil) .nil))) .nil))
def al9:dB:={ bM:=1,pin:=⟨[(0,q77)],[]⟩,aI:=⟨[(0,(.one (.own 60000)))],[(60000,q22)]⟩,dA:=1,aU:=[],aT:=[60000] }
def al_:gJ:=(.seq .nil (.seq (.seq (.seq (.seq .nil (.meet false j27 (.seq .nil (.meet false j27 .nil)))) j8) .nil) .nil))
def ama:dB:={ bM:=1,pin:=⟨[(0,q46)],[(55000,q5)]⟩,aI:=⟨[],[(55000,q5)]⟩,dA:=0,aU:=[55000],aT:=[] }
def amb:gJ:=(.seq .nil (.meet false j13 (.loop ⟨[(0,.keep),(2,.sl q13),(3,.sl q13)],[(55000,.ob q5)]⟩ (.seq j0 j0))))
def aiO:dB:={ bM:=1,pin:=⟨[(0,q23)],[]⟩,aI:=⟨[(0,(.one q30))],[]⟩,dA:=1,aU:=[],aT:=[] }
def amc:gJ:=j29
def amd:dB:={ bM:=3,pin:=⟨[(0,xO),(1,q31),(2,q16)],[(50000,N9)]⟩,aI:=⟨[(0,(.agg [q0,q0,q0,q0,q0,q0,(.own 60001)]))],[(50000,q4),(60001,q6)]⟩,dA:=1,aU:=[50000],aT:=[60001] }
def ame:gJ:=(.seq .nil (.seq .nil (.seq (.seq .nil (.seq (.seq .nil (.meet false ⟨kS [0,4,6,7] [],lO [(50000,.ob q4)] (kO [4,6] [(7,.ob (.box [q0,q0,q0,q0,q0,q0,(.own 110004)])),(110004,.ob q6)])⟩ (.seq .nil (.seq .nil (.meet false ⟨kS [0,4,6,7] [],lO [(50000,.ob q4)] (kO [4,6] [(7,.ob (.box [q0,q0,q0,q0,q0,q0,(.own 109004)])),(109004,.ob q6)])⟩ (.seq .nil (.seq .nil (.meet false ⟨kS [0,4,6,7] [],lO [(50000,.ob q4)] (kO [4,6] [(7,.ob (.box [q0,q0,q0,q0,q0,q0,(.own 108004)])),(108004,.ob q6)])⟩ (.seq .nil (.seq (.seq .nil (.meet false ⟨kS [0,4,5,6,7,27] [(46,.sl q3)],kO [50000,4,5,6,7] []⟩ .nil)) (.meet false ⟨kS [0,4,6,7] [],lO [(50000,.ob q4)] (kO [4,6] [(7,.ob (.box [q0,q0,q0,q0,q0,q0,(.own 107004)])),(107004,.ob q6)])⟩ (.seq .nil (.seq .nil (.meet false ⟨kS [0,4,6,7] [],lO [(50000,.ob q4)] (kO [4,6] [(7,.ob (.box [q0,q0,q0,q0,q0,q0,(.own 106004)])),(106004,.ob q6)])⟩ (.seq (.seq .nil (.seq .nil (.meet false ⟨kS [0,4,6,7] [],lO [(50000,.ob q4)] (kO [4,6] [(7,.ob (.box [q0,q0,q0,q0,q0,q0,(.own 101005)])),(101005,.ob q6)])⟩ (.loop ⟨kS [0,4,5,6,7] [(8,.sl q13)],lO [(50000,.ob q4)] (kO [4,5,6] [(7,.ob (.box [q0,q0,q0,q0,q0,q0,(.own 101005)])),(101005,.ob q6)])⟩ (.seq j0 j0))))) (.seq .nil (.meet false ⟨kS [0,4,6,7] [],lO [(50000,.ob q4)] (kO [4,6] [(7,.ob (.box [q0,q0,q0,q0,q0,q0,(.own 105004)])),(105004,.ob q6)])⟩ (.seq (.seq .nil (.meet false ⟨kS [0,4,6,7] [],lO [(50000,.ob q4)] (kO [4,6] [(7,.ob (.box [q0,q0,q0,q0,q0,q0,(.own 103005)])),(103005,.ob q6)])⟩ (.loop ⟨kS [0,4,5,6,7] [(9,.sl q13)],lO [(50000,.ob q4)] (kO [4,5,6] [(7,.ob (.box [q0,q0,q0,q0,q0,q0,(.own 103005)])),(103005,.ob q6)])⟩ (.seq j0 j0)))) .nil)))))))))))))))))) .nil)) (.seq (.seq (.meet false ⟨kS [0,4,6,7] [(107,.sl q3)],lO [(50000,.ob q4)] (kO [4,6,7,110004] [])⟩ .nil) j0) .nil))))
def amf:dB:={ bM:=2,pin:=⟨[(0,q72),(1,(.agg [q1,q1]))],[]⟩,aI:=⟨[(0,q13)],[]⟩,dA:=1,aU:=[],aT:=[] }
def amg:gJ:=(.seq .nil (.seq (.seq .nil (.meet true ⟨[],[]⟩ (.loop ⟨kS [0,3,7] [(8,.sl q13)],[(3,.keep)]⟩ (.seq .nil (.seq .nil j37))))) .nil))
def amh:dB:={ bM:=2,pin:=⟨[(0,xO),(1,q23)],[(50000,q8),(50001,q24)]⟩,aI:=⟨[(0,q13)],[(50000,(.box [(.p false true (.sl (.st 3))),(.p false true (.sl (.st 12))),(.p false true (.sl .str)),q0,q0,(.own 30),q0])),(30,q7)]⟩,dA:=1,aU:=[50000],aT:=[30] }
def ami:gJ:=j8
def aiP:TypeId→Option Ty:=fun t=>(([(1000044,(.prod (.st 0) .bool)),(3000009,.bool)]:List (Nat×Ty))++vU).lookup t
def amj:dB:={ bM:=2,pin:=⟨[(0,xO),(1,q60)],[(50000,q8),(50001,q24)]⟩,aI:=⟨[],[(50000,q37),(50001,q7)]⟩,dA:=0,aU:=[50000,50001],aT:=[] }
def amk:gJ:=.nil
def aiQ:TypeId→Option Ty:=fun t=>(([(1000044,(.prod (.st 0) .bool))]:List (Nat×Ty))++vU).lookup t
def aml:dB:={ bM:=3,pin:=⟨[(0,xO),(1,q23),(2,q77)],[(50000,q8),(50001,q24)]⟩,aI:=⟨[],[(50000,q37),(50001,q7)]⟩,dA:=0,aU:=[50000,50001],aT:=[] }
def amm:gJ:=.nil
def aiR:TypeId→Option Ty:=fun t=>(([(1000044,(.prod (.st 0) .bool))]:List (Nat×Ty))++vU).lookup t
def amn:dB:={ bM:=1,pin:=⟨[(0,q16)],[]⟩,aI:=⟨[(0,(.one (.own 11)))],[(11,XQ)]⟩,dA:=1,aU:=[],aT:=[11] }
def amo:gJ:=(.seq .nil (.seq .nil (.seq j1 (.seq .nil (.seq .nil (.seq (.meet false ⟨[(3,.keep)],[(11,.ob XQ)]⟩ (.loop ⟨kS [1,3] [(4,.sl q62)],[(1,.keep),(11,.ob XQ),(100002,.ob q22)]⟩ (.seq j0 (.seq (.seq .nil (.seq .nil (.seq .nil (.seq .nil (.meet false ⟨kS [1,3] [(4,.sl (.one (.own 101002)))],[(1,.keep),(11,.ob XQ),(101002,.ob q22)]⟩ (.loop ⟨kS [1,3] [(4,.sl (.one (.own 101002))),(6,.keep),(7,.sl q13)],[(1,.keep),(11,.ob XQ),(101002,.ob q22),(39,.keep)]⟩ (.seq j0 (.seq (.seq (.seq .nil (.meet false ⟨kS [1,3] (lS [(4,.sl (.one (.own 102002)))] (kS [6,7] [])),[(1,.keep),(11,.ob XQ),(102002,.ob q22),(39,.keep)]⟩ j0)) .nil) .nil)))))))) .nil)))) .nil))))))
def aiS:TypeId→Option Ty:=fun t=>(([(2000000,.bool)]:List (Nat×Ty))++vU).lookup t
def aiT:dB:={ bM:=2,pin:=⟨[(0,q46),(1,(.one q34))],[(55000,vJ)]⟩,aI:=⟨[(0,q63)],[(100000,q44)]⟩,dA:=1,aU:=[],aT:=[100000] }
def amq:gJ:=(.seq .nil (.seq (.seq .nil (.meet false ⟨[(0,.sl q63)],[(100000,.ob q44)]⟩ (.loop ⟨[(0,.sl q63),(1,.keep),(5,.sl q13)],[(100000,.ob q44)]⟩ (.seq j0 (.seq (.seq (.seq (.seq .nil (.meet false ⟨lS [(0,.sl (.one (.own 101000)))] (kS [1,5] []),[(101000,.ob q44)]⟩ .nil)) .nil) .nil) .nil))))) .nil))
def amr:dB:={ bM:=2,pin:=⟨[(0,q35),(1,(.one TN))],[]⟩,aI:=⟨[(0,q13)],[]⟩,dA:=1,aU:=[],aT:=[] }
def ams:gJ:=j18
def amu:dB:={ bM:=2,pin:=⟨[(0,q35),(1,(.one TN))],[]⟩,aI:=⟨[(0,q13)],[]⟩,dA:=1,aU:=[],aT:=[] }
def amv:gJ:=j18
def aiU:dB:={ bM:=1,pin:=⟨[(0,(.one q34))],[]⟩,aI:=⟨[(0,q13)],[]⟩,dA:=1,aU:=[],aT:=[] }
def amw:gJ:=(.seq .nil (.seq .nil (.seq (.seq .nil (.meet false ⟨[(3,.sl q13)],[]⟩ (.loop ⟨[(0,.keep),(3,.sl q13),(4,.sl q13)],[]⟩ (.seq j0 j0)))) .nil)))
def amx:dB:={ bM:=2,pin:=⟨[(0,(.one q67)),(1,(.one TN))],[]⟩,aI:=⟨[(0,q3)],[]⟩,dA:=1,aU:=[],aT:=[] }
def amy:gJ:=j21
def amA:dB:={ bM:=2,pin:=⟨[(0,q35),(1,(.one TN))],[]⟩,aI:=⟨[(0,q13)],[]⟩,dA:=1,aU:=[],aT:=[] }
def amB:gJ:=(.seq .nil (.seq (.seq .nil (.seq .nil (.seq j10 .nil))) j10))
def amC:dB:={ bM:=2,pin:=⟨[(0,xO),(1,(.one TN))],[(50000,q8),(50001,q24)]⟩,aI:=⟨[(0,q13)],[(50000,q37),(50001,q24)]⟩,dA:=1,aU:=[50000,50001],aT:=[],kept:=[50001] }
def amD:gJ:=(.seq .nil (.seq (.seq .nil (.meet true ⟨[],kO [50000,50001] []⟩ (.loop ⟨kS [0,1] [(5,.sl q13)],kO [50000,50001] []⟩ j3))) .nil))
def aiV:TypeId→Option Ty:=fun t=>(([(1000044,(.prod (.st 0) .bool)),(3000010,.bool)]:List (Nat×Ty))++vU).lookup t
def amE:dB:={ bM:=1,pin:=⟨[(0,q16)],[]⟩,aI:=⟨[(0,q13)],[]⟩,dA:=1,aU:=[],aT:=[] }
def amF:gJ:=j12
def amG:dB:={ bM:=2,pin:=⟨[(0,q16),(1,q77)],[]⟩,aI:=⟨[(0,q13)],[]⟩,dA:=1,aU:=[],aT:=[] }
def amH:gJ:=(.seq .nil (.seq (.seq (.meet false ⟨kS [2,3] [(14,.sl q3)],kO [2,3] []⟩ .nil) j0) (.seq (.seq (.meet false ⟨kS [2,3] [(29,.sl q3)],kO [2,3] []⟩ .nil) j0) (.seq .nil (.seq (.seq .nil (.meet true ⟨[],[]⟩ (.loop ⟨kS [2,5] [(6,.sl q13)],kO [2,31] []⟩ (.seq j0 (.seq (.seq (.seq (.meet false ⟨kS [2,5,6] [(52,.sl q3)],kO [2,31] []⟩ .nil) j0) .nil) .nil))))) .nil)))))
def aiW:dB:={ bM:=1,pin:=⟨[(0,q27)],[]⟩,aI:=⟨[(0,q13)],[]⟩,dA:=1,aU:=[],aT:=[] }
def amI:gJ:=j12
def amJ:dB:={ bM:=3,pin:=⟨[(0,xO),(1,q23),(2,q23)],[(50000,q9),(50001,vJ)]⟩,aI:=⟨[],[(50000,q14),(50001,vJ)]⟩,dA:=0,aU:=[50000,50001],aT:=[],kept:=[50001] }
def amK:gJ:=(.seq .nil (.meet false ⟨[],[(50000,.ob (.box [(.p false true (.sl (.st 3))),(.p false true (.sl (.st 12))),(.own 50001),q52,q52])),(50001,.keep)]⟩ .nil))
def amL:dB:={ bM:=2,pin:=⟨[(0,xO),(1,(.one TN))],[(50000,q9),(50001,vJ)]⟩,aI:=⟨[(0,q13)],[(50000,q14),(50001,vJ)]⟩,dA:=1,aU:=[50000,50001],aT:=[],kept:=[50001] }
def amM:gJ:=(.seq .nil j10)
def aiX:dB:={ bM:=3,pin:=⟨[(0,xO),(1,q27),(2,q23)],[(50000,q8),(50001,q24)]⟩,aI:=⟨[],[(50000,q54),(60001,q7)]⟩,dA:=0,aU:=[50000],aT:=[60001] }
def amN:gJ:=(.seq .nil (.seq .nil (.seq (.seq (.meet false ⟨kS [0,2,4] [(24,.sl q3)],kO [50000,4,50001] []⟩ .nil) j0) (.seq .nil (.seq .nil (.seq (.seq .nil (.meet false j2 (.seq .nil (.seq .nil (.meet false j2 (.seq .nil (.seq .nil (.meet false j2 (.seq .nil (.seq .nil (.meet false j2 (.seq .nil (.seq .nil (.meet false j2 (.seq .nil (.seq .nil (.meet false j2 (.seq .nil (.seq .nil (.meet false j2 (.seq .nil (.seq .nil (.meet false j2 (.seq .nil (.seq .nil (.meet false j2 (.seq .nil (.seq .nil (.meet false j2 .nil))))))))))))))))))))))))))))) .nil))))))
def aiY:TypeId→Option Ty:=fun t=>(([(1000044,(.prod (.st 0) .bool))]:List (Nat×Ty))++vU).lookup t
def aiZ:dB:={ bM:=3,pin:=⟨[(0,xO),(1,q27),(2,q23)],[(50000,q8),(50001,q24)]⟩,aI:=⟨[],[(50000,(.box [q12,q10,VH,q0,q0,(.own 61),q0])),(61,q7)]⟩,dA:=0,aU:=[50000],aT:=[61] }
def amO:gJ:=(.seq .nil (.seq .nil (.seq .nil (.seq .nil (.seq .nil (.seq .nil (.seq .nil (.seq .nil (.seq .nil (.seq .nil (.seq .nil (.seq .nil (.seq .nil (.seq (.seq .nil (.meet false ⟨kS [0,10,11,12] [],[(50000,.ob (.box [q12,q10,VH,q0,q0,(.own 61),q0])),(61,.ob q7)]⟩ .nil)) .nil))))))))))))))
def ai0:TypeId→Option Ty:=fun t=>(([(1000044,(.prod (.st 0) .bool))]:List (Nat×Ty))++vU).lookup t
def ai1:dB:={ bM:=3,pin:=⟨[(0,xO),(1,(.one q45)),(2,q23)],[(50000,q8),(50001,q24)]⟩,aI:=⟨[(0,q53)],[(50000,(.box [q12,q10,VH,q0,q0,(.own 100002),q0])),(100001,q6),(100002,q7)]⟩,dA:=1,aU:=[50000],aT:=[100001,100002] }
def amP:gJ:=(.seq .nil (.seq .nil (.seq (.seq .nil (.meet false ⟨[(7,.sl q53)],[(50000,.ob q32),(100001,.ob q6),(100002,.ob q7)]⟩ (.loop ⟨kS [0,1,2] [(7,.sl q53),(8,.sl q13)],[(50000,.ob q32),(100001,.ob q6),(100002,.ob q7)]⟩ (.seq j0 j7)))) .nil)))
def ai2:TypeId→Option Ty:=fun t=>(([(1000044,(.prod (.st 0) .bool))]:List (Nat×Ty))++vU).lookup t
def amQ:dB:={ bM:=1,pin:=⟨[(0,q60)],[]⟩,aI:=⟨[(0,(.one (.own 60000)))],[(60000,q22)]⟩,dA:=1,aU:=[],aT:=[60000] }
def amR:gJ:=(.seq .nil (.seq (.seq .nil (.seq (.seq (.seq .nil (.meet false j19 (.seq .nil (.seq .nil (.meet false j19 (.seq .nil (.seq .nil (.meet false j19 (.seq .nil (.seq .nil (.meet false j19 .nil))))))))))) (.seq .nil (.seq (.seq .nil (.meet false ⟨kS [1,4] [(14,.sl q3)],[(1,.keep)]⟩ .nil)) (.seq .nil j32)))) .nil)) .nil))
def amS:dB:={ bM:=1,pin:=⟨[(0,q60)],[]⟩,aI:=⟨[(0,q13),(1,q3)],[]⟩,dA:=2,aU:=[],aT:=[] }
def amT:gJ:=(.seq .nil (.seq (.seq .nil (.seq (.seq (.seq .nil (.meet false j28 (.seq .nil (.seq .nil (.meet false j28 (.seq .nil (.seq .nil (.meet false j28 .nil)))))))) j0) .nil)) (.seq (.seq (.meet false ⟨[(1,.keep),(18,.sl q3)],[(1,.keep)]⟩ .nil) j0) .nil)))
def amU:dB:={ bM:=3,pin:=⟨[(0,q31),(1,q23),(2,(.one (.p true false .bool)))],[]⟩,aI:=⟨[(0,q3)],[]⟩,dA:=1,aU:=[],aT:=[] }
def amV:gJ:=j30
def amW:dB:={ bM:=4,pin:=⟨[(0,xO),(1,q27),(2,q23),(3,q23)],[(50000,q9),(50001,vJ)]⟩,aI:=⟨[],[(50000,q14),(50001,vJ)]⟩,dA:=0,aU:=[50000,50001],aT:=[],kept:=[50001] }
def amX:gJ:=(.seq .nil (.seq .nil (.seq (.seq .nil (.meet false j40 (.seq .nil (.seq (.meet false ⟨kS [0,5] [(20,.sl q3)],kO [50000,50001,5] []⟩ .nil) (.meet false j40 .nil))))) .nil)))
def amY:dB:={ bM:=3,pin:=⟨[(0,xO),(1,(.one TN)),(2,q23)],[(50000,q9),(50001,vJ)]⟩,aI:=⟨[(0,(.agg [q0,q0,q0,q0,q30,.bY]))],[(50000,q14),(50001,vJ)]⟩,dA:=1,aU:=[50000,50001],aT:=[],kept:=[50001] }
def amZ:gJ:=(.seq .nil (.seq .nil (.seq (.seq .nil (.meet false ⟨kS [1,2,6] [(7,.sl q13)],kO [50000,50001,6] []⟩ .nil)) .nil)))
def ai3:dB:={ bM:=2,pin:=⟨[(0,xO),(1,q27)],[(50000,q9),(50001,vJ)]⟩,aI:=⟨[(0,(.agg [q0,q0,q0,q0,q30,(.own 60002)]))],[(50000,q14),(50001,vJ),(60002,q51)]⟩,dA:=1,aU:=[50000,50001],aT:=[60002],kept:=[50001] }
def am0:gJ:=(.seq .nil (.seq (.seq .nil (.seq (.seq .nil (.seq j0 (.seq .nil (.meet true j5 (.seq .nil (.seq .nil (.meet true j5 (.seq .nil (.seq .nil (.meet true j5 (.seq (.seq .nil (.seq (.seq .nil (.meet true j9 (.seq .nil (.seq .nil (.meet true j9 (.seq .nil (.seq .nil (.seq (.seq .nil (.meet false j9 .nil)) (.seq (.seq .nil (.meet false j9 .nil)) .nil))))))))) .nil)) (.seq .nil (.meet false j5 (.seq (.seq .nil (.meet false j5 .nil)) .nil)))))))))))))) .nil)) j0))
def ai4:dB:={ bM:=2,pin:=⟨[(0,xO),(1,(.one q45))],[(50000,q9),(50001,vJ)]⟩,aI:=⟨[(0,q62)],[(50000,q14),(50001,vJ),(100002,q51)]⟩,dA:=1,aU:=[50000,50001],aT:=[100002],kept:=[50001] }
def am1:gJ:=(.seq .nil (.seq .nil (.seq (.seq .nil (.meet false ⟨[(5,.sl q62)],[(50000,.ob q9),(50001,.keep),(100002,.ob q51)]⟩ (.loop ⟨kS [0,1] [(5,.sl q62),(6,.sl q13)],[(50000,.ob q9),(50001,.keep),(100002,.ob q51)]⟩ (.seq j0 j0)))) .nil)))
def am2:dB:={ bM:=3,pin:=⟨[(0,q23),(1,(.one TN)),(2,q27)],[]⟩,aI:=⟨[(0,(.agg [q0,q0,q30,(.own 10),.bY,.bY]))],[(10,(.arr false true false (.st 14)))]⟩,dA:=1,aU:=[],aT:=[10] }
def am3:gJ:=j0
def am4:dB:={ bM:=2,pin:=⟨[(0,xO),(1,(.one (.p true false .bool)))],[(50000,q11),(50001,N9),(50002,Jl),(50003,KT),(50004,vJ)]⟩,aI:=⟨[(0,(.one q30)),(1,q3)],[(50000,q36),(50001,q4),(50002,Jl),(50003,KT),(50004,vJ)]⟩,dA:=2,aU:=[50000,50001,50002,50003,50004],aT:=[],kept:=[50002,50003,50004] }
def am5:gJ:=(.seq .nil (.seq .nil (.seq (.seq .nil (.meet false ⟨[(0,.keep),(6,.sl (.one (.own 100005)))],kO [50000,50001,50002,50003,50004] [(100005,.ob vJ)]⟩ (.loop ⟨kS [0,1] [(6,.sl (.one (.own 100005))),(7,.sl q13)],kO [50000,50001,50002,50003,50004] [(100005,.ob vJ)]⟩ (.seq j0 (.seq (.seq (.seq .nil (.meet false ⟨kS [0,1] [(6,.sl (.one (.own 101005))),(7,.keep)],kO [50000,50001,50002,50003,50004] [(101005,.ob vJ)]⟩ .nil)) .nil) .nil))))) j10)))
def ai5:dB:={ bM:=0,pin:=⟨[],[]⟩,aI:=⟨[(0,(.one (.own 1)))],[(1,q65)]⟩,dA:=1,aU:=[],aT:=[1] }
def ai6:gJ:=j0
def ai7:dB:={ bM:=1,pin:=⟨[(0,xO)],[(50000,q11),(50001,N9),(50002,Jl),(50003,KT),(50004,vJ)]⟩,aI:=⟨[(0,(.agg [q0,q0,q0,q0,q30,.bY]))],[(50000,q36),(50001,q4),(50002,Jl),(50003,KT),(50004,vJ)]⟩,dA:=1,aU:=[50000,50001,50002,50003,50004],aT:=[],kept:=[50002,50003,50004] }
def ai8:gJ:=(.seq .nil (.seq .nil (.seq (.seq .nil (.seq (.seq .nil (.seq .nil (.seq .nil (.meet true ⟨kS [2,3] [],lO [(50000,.ob q11),(50001,.ob q4)] (kO [50002,50003,50004,2] [])⟩ (.seq j8 (.seq (.seq .nil (.meet false ⟨kS [0,2,3] [(26,.sl q3)],kO [50000,50001,50002,50003,50004,2] []⟩ .nil)) (.meet true ⟨kS [2,3] [],kO [50000,50001,50002,50003,50004,2] []⟩ j10))))))) .nil)) (.seq .nil (.seq (.seq .nil (.meet false ⟨[(2,.keep),(6,.sl q13)],lO [(50000,.keep),(50001,.ob q4)] (kO [50002,50003,50004,2] [])⟩ .nil)) .nil)))))
def ai9:dB:={ bM:=3,pin:=⟨[(0,q23),(1,q23),(2,(.one q45))],[]⟩,aI:=⟨[(0,(.agg [q0,q0,q0,q0,q30,q45]))],[]⟩,dA:=1,aU:=[],aT:=[] }
def ai_:gJ:=j0
def am6:dB:={ bM:=1,pin:=⟨[(0,q16)],[]⟩,aI:=⟨[(0,(.one (.own 11)))],[(11,q29)]⟩,dA:=1,aU:=[],aT:=[11] }
def am7:gJ:=(.seq .nil (.seq .nil (.seq (.seq .nil (.meet false ⟨[(3,.keep)],[(11,.ob q29)]⟩ (.loop ⟨kS [3,13,14] [(15,.sl q13)],[(11,.ob q29)]⟩ (.seq .nil (.seq .nil (.seq (.seq (.seq .nil (.seq .nil (.meet false ⟨kS [3,13,14,15] [],[(11,.ob q29)]⟩ (.loop ⟨kS [3,4,13,14,15,22,23] [(24,.sl q13)],[(11,.ob q29),(22,.keep)]⟩ (.seq .nil j33))))) .nil) .nil)))))) .nil)))
def aja:TypeId→Option Ty:=fun t=>(([(1000034,(.prod (.st 0) .bool)),(3000009,.bool)]:List (Nat×Ty))++vU).lookup t
def am8:dB:={ bM:=3,pin:=⟨[(0,q16),(1,q23),(2,q72)],[]⟩,aI:=⟨[(0,(.one (.own 18)))],[(18,XQ)]⟩,dA:=1,aU:=[],aT:=[18] }
def am9:gJ:=(.seq .nil (.seq .nil (.seq .nil (.seq .nil (.seq (.seq .nil (.meet false ⟨kS [7,8] [(9,.sl q62)],[(14,.keep),(18,.ob XQ),(100002,.ob q22)]⟩ (.loop ⟨kS [1,7,8] (lS [(9,.sl q62)] (kS [19,20] [(21,.sl q13)])),[(14,.keep),(18,.ob XQ),(100002,.ob q22)]⟩ (.seq .nil (.seq .nil (.seq (.seq (.seq .nil (.seq .nil (.meet false ⟨kS [1,7,8] (lS [(9,.sl (.one (.own 101002)))] (kS [19,20,21] [])),[(14,.keep),(18,.ob XQ),(101002,.ob q22)]⟩ j0))) .nil) .nil)))))) (.seq (.meet false ⟨[(8,.keep)],[(18,.ob XQ)]⟩ (.loop ⟨kS [7,8] [(9,.sl (.one (.own 103002)))],[(14,.ob q29),(18,.ob XQ),(103002,.ob q22)]⟩ (.seq j0 (.seq (.seq .nil (.seq .nil (.seq .nil (.meet false ⟨kS [7,8] [(9,.sl (.one (.own 104002)))],[(14,.ob q29),(18,.ob XQ),(104002,.ob q22)]⟩ j0)))) .nil)))) .nil))))))
def ajb:TypeId→Option Ty:=fun t=>(([(2000000,.bool)]:List (Nat×Ty))++vU).lookup t
def ajc:dB:={ bM:=5,pin:=⟨[(0,q23),(1,xO),(2,(.one (.box 50002 0))),(3,(.one (.box 50003 0))),(4,(.one (.box 50004 0)))],[(50000,q57),(50002,q40),(50003,q43),(50004,(.box [(.own 50005)])),(50001,q59),(50005,q5)]⟩,aI:=⟨[],[(50000,q57),(50001,q59),(50002,(.box [q30,q0,q0,(.p false true (.sl (.st 5)))])),(50003,q43),(50004,(.box [(.own 35)])),(35,(.arr false true true (.int .i64)))]⟩,dA:=0,aU:=[50000,50001,50002,50003,50004],aT:=[35] }
def am_:gJ:=(.seq .nil (.seq (.seq .nil (.meet false ⟨kS [0,4] [],[(50000,.ob q57),(50001,.ob q59),(50002,.ob q40),(50003,.ob q43),(50004,.ob (.box [(.own 100006)])),(100006,.ob q5)]⟩ (.loop ⟨kS [0,1,3,4,17,18] [(19,.sl q13)],[(50000,.ob q57),(50001,.ob q59),(50002,.ob q40),(50003,.ob q43),(50004,.ob (.box [(.own 100006)])),(17,.keep),(100006,.ob q5)]⟩ (.seq .nil (.seq .nil (.seq (.seq (.seq .nil (.seq .nil (.meet false ⟨kS [0,1,3,4,17,18,19] [],[(50000,.ob q57),(50001,.ob q59),(50002,.ob q40),(50003,.ob q43),(50004,.ob (.box [(.own 101006)])),(17,.keep),(101006,.ob q5)]⟩ .nil))) .nil) .nil)))))) .nil))
def ana:dB:={ bM:=2,pin:=⟨[(0,q72),(1,(.agg [q1,q1]))],[]⟩,aI:=⟨[(0,q3)],[]⟩,dA:=1,aU:=[],aT:=[] }
def anb:gJ:=j0
def anc:dB:={ bM:=1,pin:=⟨[(0,q16)],[]⟩,aI:=⟨[(0,(.agg [q30,q0,q0,(.own 103005)]))],[(103005,q64)]⟩,dA:=1,aU:=[],aT:=[103005] }
def ane:gJ:=(.seq .nil (.seq .nil (.seq .nil (.seq .nil (.seq (.seq .nil (.meet false ⟨kS [1,2,3,4] [],kO [1,2,11] [(14,.ob q6)]⟩ (.loop ⟨kS [1,2,3,4] [(5,.sl q13),(6,.sl q13)],kO [1,2,11] [(14,.ob q6)]⟩ (.seq j0 (.seq (.seq (.seq .nil (.seq .nil (.meet false ⟨kS [1,2,3,4] [(5,.sl q13),(6,.keep)],kO [1,2,11,14] []⟩ .nil))) .nil) .nil))))) (.seq .nil (.seq .nil (.seq (.seq .nil (.meet false ⟨kS [2,7] [],[(2,.keep),(7,.ob (.box [TN,q1,q1,(.own 103005)])),(103005,.ob q64)]⟩ (.loop ⟨kS [1,2,3,4,7] [(8,.sl q13)],kO [1,2,11,14] [(7,.ob (.box [TN,q1,q1,(.own 103005)])),(103005,.ob q64)]⟩ (.seq j0 (.seq (.meet false ⟨kS [1,2,3,4,7,8] [],kO [1,2,11,14] [(7,.ob (.box [TN,q1,q1,(.own 106005)])),(106005,.ob q64)]⟩ (.seq j0 (.seq .nil (.seq j20 (.seq j20 .nil))))) .nil))))) .nil))))))))
def anf:dB:={ bM:=1,pin:=⟨[(0,(.agg [TN,q1,q67,q34]))],[]⟩,aI:=⟨[(0,(.one (.own 8)))],[(8,(.arr false true false .str))]⟩,dA:=1,aU:=[],aT:=[8] }
def ang:gJ:=j0
def ajd:dB:={ bM:=2,pin:=⟨[(0,xO),(1,(.one q34))],[(50000,q8),(50001,q24)]⟩,aI:=⟨[(0,q3)],[(50000,q54),(60001,q7)]⟩,dA:=1,aU:=[50000],aT:=[60001] }
def anh:gJ:=(.seq .nil (.seq (.seq .nil (.meet true ⟨[],[(50000,.ob (.box [q12,q10,VH,q2,q2,(.own 100001),q2])),(100001,.ob q7)]⟩ (.loop ⟨kS [0,1] [(5,.sl q13)],[(50000,.ob (.box [q12,q10,VH,q2,q2,(.own 100001),q2])),(100001,.ob q7)]⟩ j3))) .nil))
def aje:TypeId→Option Ty:=fun t=>(([(1000044,(.prod (.st 0) .bool))]:List (Nat×Ty))++vU).lookup t
def ajf:dB:={ bM:=2,pin:=⟨[(0,xO),(1,q74)],[(50000,q8),(50001,q24)]⟩,aI:=⟨[(0,q3)],[(50000,q54),(60001,q7)]⟩,dA:=1,aU:=[50000],aT:=[60001] }
def ani:gJ:=(.seq .nil (.seq .nil (.seq j33 (.seq (.seq .nil (.meet false ⟨kS [0,3,5] [],[(50000,.ob q32),(3,.keep),(100002,.ob q7)]⟩ (.loop ⟨kS [0,3,5] [(6,.sl q13)],[(50000,.ob q32),(3,.keep),(100002,.ob q7)]⟩ (.seq j0 j0)))) (.seq (.seq .nil (.seq (.seq (.seq .nil (.meet false ⟨kS [0,3,5,38] [(39,.sl q3)],kO [50000,3,100002] []⟩ .nil)) (.meet true j26 (.seq (.seq .nil (.seq .nil (.meet false ⟨[],[(50000,.ob (.box [q12,q10,VH,q0,q0,(.own 100002),q0])),(100002,.ob q7)]⟩ .nil))) (.seq .nil (.meet true j26 (.seq .nil (.seq .nil (.seq j0 (.seq .nil (.meet true j26 j8)))))))))) .nil)) .nil)))))
def ajg:TypeId→Option Ty:=fun t=>(([(1000044,(.prod (.st 0) .bool)),(3000022,.bool),(3000011,.bool)]:List (Nat×Ty))++vU).lookup t
def ajh:dB:={ bM:=3,pin:=⟨[(0,xO),(1,q74),(2,q23)],[(50000,q8),(50001,q24)]⟩,aI:=⟨[],[(50000,(.box [q12,q10,VH,q0,q0,(.own 57),q0])),(57,q7)]⟩,dA:=0,aU:=[50000],aT:=[57] }
def anj:gJ:=(.seq .nil (.seq .nil (.seq .nil (.seq .nil (.seq .nil (.seq .nil (.seq .nil (.seq (.seq .nil (.meet false ⟨kS [0,2,4,8,9] [],[(50000,.ob (.box [q12,q10,VH,q0,q0,(.own 41),q0])),(4,.keep),(41,.ob q7)]⟩ .nil)) .nil))))))))
def aji:TypeId→Option Ty:=fun t=>(([(1000044,(.prod (.st 0) .bool))]:List (Nat×Ty))++vU).lookup t
def ajj:dB:={ bM:=3,pin:=⟨[(0,xO),(1,q74),(2,q23)],[(50000,q8),(50001,q24)]⟩,aI:=⟨[(0,q3)],[(50000,q54),(60001,q7)]⟩,dA:=1,aU:=[50000],aT:=[60001] }
def ank:gJ:=(.seq .nil (.seq .nil (.seq .nil (.seq .nil (.seq .nil (.seq (.seq .nil (.seq (.seq .nil (.seq .nil (.seq (.seq .nil (.meet false ⟨[],[(50000,.ob (.box [q12,q10,VH,q0,q0,(.own 39),q0])),(39,.ob q7)]⟩ .nil)) .nil))) .nil)) (.seq .nil (.seq .nil (.seq .nil (.seq .nil (.seq (.seq (.meet false ⟨kS [0,4,9,10,13,14] [(77,.sl q3)],kO [50000,4,67] []⟩ .nil) j0) (.seq .nil (.seq (.seq .nil (.meet false ⟨kS [0,13,14,15] [],[(50000,.ob (.box [q12,q10,VH,q0,q0,(.own 81),q0])),(81,.ob q7)]⟩ .nil)) (.seq (.seq .nil (.meet false ⟨[],[(50000,.ob (.box [q12,q10,VH,q0,q0,(.own 81),q0])),(81,.ob q7)]⟩ .nil)) .nil))))))))))))))
def ajk:TypeId→Option Ty:=fun t=>(([(1000044,(.prod (.st 0) .bool)),(3000033,.bool)]:List (Nat×Ty))++vU).lookup t
def ajl:dB:={ bM:=2,pin:=⟨[(0,xO),(1,(.one q34))],[(50000,q9),(50001,vJ)]⟩,aI:=⟨[(0,q53)],[(50000,q47),(100001,q80),(100002,q44)]⟩,dA:=1,aU:=[50000],aT:=[100001,100002] }
def anl:gJ:=(.seq .nil (.seq .nil (.seq (.seq .nil (.meet false ⟨[(5,.sl q53)],[(50000,.ob q48),(100001,.ob q80),(100002,.ob q44)]⟩ (.loop ⟨kS [0,1] [(5,.sl q53),(6,.sl q13)],[(50000,.ob q48),(100001,.ob q80),(100002,.ob q44)]⟩ (.seq j0 (.seq (.seq (.seq .nil (.seq .nil (.seq (.seq .nil (.meet false ⟨kS [0,1,5,6,7] [(8,.sl (.one (.own 101003)))],lO [(50000,.ob q48)] (kO [100001,7] [(101003,.ob q51),(100002,.keep)])⟩ (.loop ⟨kS [0,1,5,6,7] [(8,.sl (.one (.own 101003))),(9,.sl q13)],lO [(50000,.ob q48)] (kO [100001,7] [(101003,.ob q51),(100002,.keep)])⟩ (.seq j0 (.seq (.seq (.seq (.seq .nil (.meet false ⟨kS [0,1,5,6,7,8,9] [],lO [(50000,.ob q48)] (kO [100001,7,101003,100002] [])⟩ .nil)) .nil) .nil) .nil))))) (.seq .nil (.seq .nil (.seq (.seq .nil (.seq (.seq .nil (.meet false ⟨kS [0,1,5,6,7] [],lO [(50000,.ob (.box [q12,q10,(.own 110003),q0,q0]))] (kO [100001,7] [(110003,.ob q44),(101003,.keep)])⟩ (.seq (.seq (.seq .nil (.meet false j6 .nil)) .nil) (.seq (.seq .nil (.meet false ⟨kS [0,1,5,6,7,10] [(80,.sl q3)],kO [50000,100001,7,100002,101003] []⟩ .nil)) (.meet false j6 (.seq (.seq .nil (.meet false j6 (.seq .nil (.seq (.meet false ⟨kS [0,1,5,6,7] [(108,.sl q3)],kO [50000,100001,7,100002,101003] []⟩ .nil) (.meet false j6 .nil))))) .nil)))))) .nil)) j0)))))) .nil) .nil))))) .nil)))
def anm:dB:={ bM:=3,pin:=⟨[(0,q31),(1,q16),(2,q60)],[]⟩,aI:=⟨[(0,q13)],[]⟩,dA:=1,aU:=[],aT:=[] }
def ano:gJ:=(.seq .nil (.seq (.seq (.meet false ⟨kS [3,4,5] [(48,.sl q3)],kO [3,4,5] []⟩ .nil) j0) (.seq .nil (.seq (.seq .nil (.seq .nil (.meet false ⟨kS [3,4,5] [(7,.sl (.one (.own 101003)))],kO [3,4,5] [(101003,.ob q22)]⟩ .nil))) (.seq (.seq .nil (.meet true ⟨kS [3,5] [],kO [3,5] []⟩ (.loop ⟨kS [3,4,5,7] [(10,.sl q13)],kO [3,4,5,101003] []⟩ (.seq j0 (.seq (.seq (.seq (.meet false ⟨kS [3,4,5,7,10] [(80,.sl q3)],kO [3,4,5,101003] []⟩ .nil) j0) .nil) .nil))))) (.seq (.seq .nil (.seq (.seq (.seq .nil (.meet false ⟨kS [3,5,82] [(83,.sl q3)],kO [3,5] []⟩ .nil)) (.meet true ⟨[],[]⟩ (.seq j1 (.seq (.seq .nil (.meet false ⟨kS [3,5,82] [(91,.sl q3)],kO [3,5] []⟩ .nil)) (.meet true ⟨[],[]⟩ (.seq j1 (.seq .nil (.meet true ⟨[],[]⟩ (.seq (.seq (.seq (.meet false ⟨kS [3,5] [(111,.sl q3)],kO [3,5] []⟩ .nil) j0) j1) (.seq .nil (.meet true ⟨[],[]⟩ (.seq j1 (.seq .nil (.meet true ⟨[],[]⟩ (.seq (.seq (.meet false ⟨[(140,.sl q3)],[]⟩ .nil) j0) (.seq .nil (.meet true ⟨[],[]⟩ (.seq (.seq (.meet false ⟨[(152,.sl q3)],[]⟩ .nil) j0) .nil)))))))))))))))))) .nil)) .nil))))))
def anp:dB:={ bM:=1,pin:=⟨[(0,xO)],[(50000,q11),(50001,N9),(50002,Jl),(50003,KT),(50004,vJ)]⟩,aI:=⟨[(0,(.one q30)),(1,q3)],[(50000,q36),(50001,q4),(50002,Jl),(50003,KT),(50004,vJ)]⟩,dA:=2,aU:=[50000,50001,50002,50003,50004],aT:=[],kept:=[50002,50003,50004] }
def anq:gJ:=(.seq .nil (.seq .nil (.seq (.seq .nil (.meet true ⟨[],kO [50000,50001,50002,50003,50004] []⟩ (.loop ⟨kS [0,4] [(5,.sl q13)],kO [50000,50001,50002,50003,50004,8] []⟩ (.seq j0 (.seq (.seq (.seq .nil (.seq (.seq .nil (.meet false ⟨kS [0,4,5] [(6,.sl q3)],kO [50000,50001,50002,50003,50004,8] []⟩ (.loop ⟨kS [0,4,5] [(6,.sl q3),(7,.sl q13)],kO [50000,50001,50002,50003,50004,8] []⟩ (.seq j0 (.seq (.seq (.meet false ⟨kS [0,4,5] [(6,.sl q3),(7,.keep)],kO [50000,50001,50002,50003,50004,8] []⟩ .nil) .nil) .nil))))) j1)) .nil) .nil))))) .nil)))
def ajm:dB:={ bM:=2,pin:=⟨[(0,xO),(1,q23)],[(50000,q11),(50001,N9),(50002,Jl),(50003,KT),(50004,vJ)]⟩,aI:=⟨[(0,(.agg [q0,q0,q0,q0,q30,(.p false true (.sl (.st 14)))]))],[(50000,q36),(50001,q4),(50002,Jl),(50003,KT),(50004,vJ)]⟩,dA:=1,aU:=[50000,50001,50002,50003,50004],aT:=[],kept:=[50002,50003,50004] }
def anr:gJ:=(.seq .nil (.seq .nil (.seq (.seq (.meet false ⟨kS [0,1,4,5] [(18,.sl q3)],lO [(50000,.keep),(50001,.ob N9)] (kO [50002,50003,50004,4] [])⟩ .nil) j0) (.seq (.seq .nil (.seq (.seq .nil (.seq .nil (.seq .nil (.seq .nil (.seq .nil (.seq .nil (.seq (.seq .nil (.meet false ⟨kS [0,1,4,5,22] [(58,.sl q3)],kO [50000,50001,50002,50003,50004,4] []⟩ .nil)) (.seq .nil (.seq .nil (.meet true ⟨kS [0,1,4,5] [],lO [(50000,.ob q11),(50001,.ob q4)] (kO [50002,50003,50004,4] [])⟩ (.seq j8 .nil))))))))))) .nil)) .nil))))
def ajn:dB:={ bM:=2,pin:=⟨[(0,xO),(1,q23)],[(50000,q11),(50001,N9),(50002,Jl),(50003,KT),(50004,vJ)]⟩,aI:=⟨[(0,(.agg [q0,q0,q0,q0,q30,(.own 60005)]))],[(50000,q36),(50001,q4),(50002,Jl),(50003,KT),(50004,vJ),(60005,q56)]⟩,dA:=1,aU:=[50000,50001,50002,50003,50004],aT:=[60005],kept:=[50002,50003,50004] }
def ant:gJ:=(.seq .nil (.seq .nil (.seq .nil (.seq .nil (.seq (.seq (.meet false ⟨kS [0,1,4,5,6,7] [(46,.sl q3)],lO [(50000,.keep),(50001,.ob q4)] (kO [50002,50003,50004,4,5] [])⟩ .nil) (.meet false ⟨kS [0,1,4,5] [(6,.sl q13),(7,.keep)],lO [(50000,.keep),(50001,.ob q4)] (kO [50002,50003,50004,4,5] [])⟩ .nil)) (.seq .nil (.seq (.seq .nil (.meet false ⟨kS [0,1,4,5,7] [(8,.sl (.one (.own 102007)))],lO [(50000,.ob q11),(50001,.ob q4)] (kO [50002,50003,50004,4,5] [(102007,.ob q56)])⟩ (.loop ⟨kS [0,1,4,5,6,7] [(8,.sl (.one (.own 102007))),(9,.sl q13)],lO [(50000,.ob q11),(50001,.ob q4)] (kO [50002,50003,50004,4,5] [(102007,.ob q56)])⟩ (.seq j0 j0)))) (.seq j1 (.seq .nil (.seq (.seq .nil (.meet false ⟨kS [4,8,10] [],lO [(50000,.ob q11),(50001,.ob q4)] (kO [50002,50003,50004,4,102007] [(10,.ob (.box [q0,q0,q0,q0,(.p false true .str),(.p false true (.sl (.st 14)))]))])⟩ .nil)) j10))))))))))
def ajo:dB:={ bM:=3,pin:=⟨[(0,xO),(1,q23),(2,q23)],[(50000,q11),(50001,N9),(50002,Jl),(50003,KT),(50004,vJ)]⟩,aI:=⟨[(0,(.one (.own 100004)))],[(50000,(.box [(.box 50001 0),(.own 50002),(.own 50003),(.own 100005),q0])),(50001,q4),(50002,Jl),(50003,KT),(100004,q42),(100005,vJ)]⟩,dA:=1,aU:=[50000,50001,50002,50003],aT:=[100004,100005],kept:=[50002,50003] }
def anu:gJ:=(.seq .nil (.seq .nil (.seq (.seq .nil (.meet false ⟨[(7,.sl (.one (.own 100004)))],lO [(50000,.ob q73),(50001,.ob N9)] (kO [50002,50003] [(100004,.ob q42),(100005,.ob vJ)])⟩ (.loop ⟨kS [0,1,2] [(7,.sl (.one (.own 100004))),(8,.sl q13)],lO [(50000,.ob q73),(50001,.ob N9)] (kO [50002,50003] [(100004,.ob q42),(100005,.ob vJ)])⟩ (.seq (.seq (.meet false ⟨kS [0,1,2,7,8] [(18,.sl q3)],kO [50000,50001,50002,50003,100004,100005] []⟩ .nil) .nil) j7)))) .nil)))
def ajp:dB:={ bM:=2,pin:=⟨[(0,xO),(1,q23)],[(50000,q11),(50001,N9),(50002,Jl),(50003,KT),(50004,vJ)]⟩,aI:=⟨[(0,(.agg [q0,q0,q30,(.own 60004),(.own 60005),(.own 60006)]))],[(50000,(.box [(.box 50001 0),(.own 50002),(.own 50003),(.own 60007),q0])),(50001,q4),(50002,Jl),(50003,KT),(60004,q56),(60005,q42),(60006,q42),(60007,vJ)]⟩,dA:=1,aU:=[50000,50001,50002,50003],aT:=[60004,60005,60006,60007],kept:=[50002,50003] }
def anv:gJ:=(.seq .nil (.seq .nil (.seq (.seq .nil (.seq (.seq (.seq .nil (.meet false ⟨kS [0,1,4,5,19] [(20,.sl q3)],kO [50000,50001,50002,50003,4,50004] []⟩ .nil)) (.meet true j4 (.seq j29 (.seq .nil (.meet true j4 (.seq j1 (.seq .nil (.meet true j4 (.seq j8 (.seq .nil (.meet true j4 (.seq j8 (.seq (.seq .nil (.meet false ⟨kS [0,1,4,5,19] [(95,.sl q3)],kO [50000,50001,50002,50003,4,50004] []⟩ .nil)) (.meet true j34 (.seq (.seq .nil (.seq (.seq .nil (.seq .nil (.seq (.seq .nil (.meet false ⟨kS [4,13] [],lO [(50000,.ob (.box [(.box 50001 0),(.own 50002),(.own 50003),(.own 102006),q0])),(50001,.ob q4)] (kO [50002,50003,4] (lO [(13,.ob (.box [q0,q0,q30,(.own 102),(.own 109),(.own 102009)])),(102006,.ob vJ)] (kO [102,109] [(102009,.ob q42)])))⟩ .nil)) .nil))) .nil)) (.seq .nil (.meet true j34 (.seq j1 (.seq .nil (.seq j10 .nil)))))))))))))))))))) .nil)) .nil)))
def ajq:dB:={ bM:=2,pin:=⟨[(0,xO),(1,q23)],[(50000,q11),(50001,N9),(50002,Jl),(50003,KT),(50004,vJ)]⟩,aI:=⟨[(0,(.agg [q0,q0,q30,(.own 60004),(.own 60005),.bY]))],[(50000,(.box [(.box 50001 0),(.own 50002),(.own 50003),(.own 60006),q0])),(50001,q4),(50002,Jl),(50003,KT),(60004,q56),(60005,q42),(60006,vJ)]⟩,dA:=1,aU:=[50000,50001,50002,50003],aT:=[60004,60005,60006],kept:=[50002,50003] }
def anw:gJ:=(.seq .nil (.seq .nil (.seq (.seq (.meet false ⟨kS [0,1,4,5,6] [(28,.sl q3)],lO [(50000,.keep),(50001,.ob q4)] (kO [50002,50003,4,50004] [])⟩ .nil) (.meet false ⟨kS [0,1,4] [(5,.sl (.one (.p false true .str))),(6,.sl q3)],lO [(50000,.keep),(50001,.ob q4)] (kO [50002,50003,4,50004] [])⟩ .nil)) (.seq (.seq (.meet false ⟨kS [0,1,4,5] [(54,.sl q3)],lO [(50000,.keep),(50001,.ob q4)] (kO [50002,50003,4,50004] [])⟩ .nil) j10) j32))))
def anx:dB:={ bM:=1,pin:=⟨[(0,q16)],[]⟩,aI:=⟨[(0,(.one (.own 12)))],[(12,q22)]⟩,dA:=1,aU:=[],aT:=[12] }
def anz:gJ:=(.seq .nil (.seq .nil (.seq (.meet false ⟨kS [1,3] [(4,.sl (.one (.box 4 0)))],kO [1,3] [(4,.ob (.box [(.own 100700)])),(9,.keep),(100700,.ob q6)]⟩ .nil) j32)))
def anA:dB:={ bM:=1,pin:=⟨[(0,xO)],[(50000,N9)]⟩,aI:=⟨[(0,(.agg [(.own 19),(.own 100004),q0,q0]))],[(50000,q4),(19,q49),(100004,q26)]⟩,dA:=1,aU:=[50000],aT:=[19,100004] }
def anB:gJ:=(.seq .nil (.seq .nil (.seq .nil (.seq (.seq .nil (.meet false ⟨kS [0,2,3,4] [],[(50000,.ob q4),(2,.keep),(3,.ob (.box [(.own 19),(.own 100004),q0,q0])),(19,.keep),(100004,.ob q26)]⟩ (.loop ⟨kS [0,2,3,4] [(5,.sl q13)],[(50000,.ob q4),(2,.keep),(3,.ob (.box [(.own 19),(.own 100004),q0,q0])),(19,.keep),(100004,.ob q26)]⟩ (.seq j0 (.seq (.seq (.seq .nil (.seq (.seq .nil (.meet false ⟨kS [0,2,3,4,5,6] [],lO [(50000,.ob q4)] (kO [2,3] (lO [(6,.ob (.box [q30,q0,q0,.bY]))] (kO [19,100004] [])))⟩ .nil)) .nil)) .nil) .nil))))) (.seq .nil (.seq (.seq .nil (.meet false ⟨kS [2,3] [],lO [(50000,.ob q4)] (kO [2,3,19] [(100004,.ob q26)])⟩ (.loop ⟨kS [0,2,3,4] [(7,.sl q13)],lO [(50000,.ob q4)] (kO [2,3,19] [(100004,.ob q26)])⟩ (.seq j0 (.seq (.seq (.seq .nil (.seq (.seq .nil (.meet false j25 (.loop ⟨kS [0,2,3,4,7,8] [(9,.sl q13)],lO [(50000,.ob q4)] (kO [2,3] [(100004,.ob q26),(19,.keep)])⟩ (.seq j0 (.seq (.seq (.seq .nil (.seq (.seq .nil (.meet false ⟨kS [0,2,3,4,7,8,9,10] [],lO [(50000,.ob q4)] (kO [2,3] [(100004,.ob q26),(10,.ob (.box [(.own 105006),q0,q0,q0,q0,q0,q0,q0])),(19,.keep),(105006,.ob (.arr false false false (.st 6)))])⟩ (.loop ⟨kS [0,2,3,4,7,8,9,10] [(11,.sl q13)],lO [(50000,.ob q4)] (kO [2,3] [(100004,.ob q26),(10,.ob (.box [(.own 105006),q0,q0,q0,q0,q0,q0,q0])),(19,.keep),(105006,.ob (.arr false false false (.st 6)))])⟩ (.seq j0 j0)))) .nil)) .nil) .nil))))) (.seq (.seq .nil (.meet false j25 (.loop ⟨kS [0,2,3,4,7,8] [(12,.sl q13)],lO [(50000,.ob q4)] (kO [2,3] [(100004,.ob q26),(19,.keep)])⟩ (.seq j0 j7)))) .nil))) .nil) .nil))))) .nil))))))
def ajr:TypeId→Option Ty:=fun t=>(([(1000033,(.prod (.st 3) .bool)),(3000140,.bool),(3000133,.bool),(3000113,.bool),(3000078,.bool)]:List (Nat×Ty))++vU).lookup t
def anC:dB:={ bM:=1,pin:=⟨[(0,q35)],[]⟩,aI:=⟨[(0,(.agg [(.own 60000),(.own 60001)])),(1,q13),(2,q13)],[(60000,(.arr false true false (.st 3))),(60001,q79)]⟩,dA:=3,aU:=[],aT:=[60000,60001] }
def anD:gJ:=(.seq .nil (.seq (.seq (.meet false ⟨kS [1,2] [(20,.sl q3)],kO [1,2] []⟩ .nil) j0) (.seq (.seq (.meet false ⟨kS [1,2] [(42,.sl q3)],kO [1,2] []⟩ .nil) j0) (.seq (.seq .nil (.meet true ⟨kS [1,2] [],kO [1,2] []⟩ (.loop ⟨kS [1,2] [(5,.sl q13)],kO [1,2] []⟩ j3))) (.seq (.seq .nil (.meet true ⟨kS [1,2] [],kO [1,2] []⟩ (.loop ⟨kS [1,2] [(6,.sl q13)],kO [1,2] []⟩ (.seq j0 (.seq (.seq (.seq (.meet false ⟨kS [1,2,6] [(89,.sl q3)],kO [1,2] []⟩ .nil) j0) .nil) .nil))))) (.seq .nil (.seq (.seq .nil (.meet true ⟨[(2,.keep)],[(2,.ob (.box [(.own 99),(.own 107003)])),(99,.keep),(107003,.ob q79)]⟩ (.loop ⟨kS [1,2] [(7,.sl q13)],[(1,.keep),(2,.ob (.box [(.own 99),(.own 107003)])),(99,.keep),(107003,.ob q79)]⟩ (.seq j0 (.seq (.seq (.seq .nil (.seq (.seq (.meet false ⟨kS [1,2,7,8] [(128,.sl q3)],kO [1,2,8,99,107003] []⟩ .nil) j0) (.seq (.seq .nil (.meet true ⟨kS [1,2,7,8] [],kO [1,2,8,99,107003] []⟩ (.loop ⟨kS [1,2,7,8] [(9,.sl q13)],kO [1,2,8,99,107003] []⟩ (.seq j0 (.seq (.seq (.seq (.meet false ⟨kS [1,2,7,8,9] [(158,.sl q3)],kO [1,2,8,99,107003] []⟩ .nil) j0) .nil) .nil))))) j29))) .nil) .nil))))) .nil)))))))
def anE:dB:={ bM:=1,pin:=⟨[(0,xO)],[(50000,N9)]⟩,aI:=⟨[(0,(.agg [(.own 103003),(.own 105004)]))],[(50000,q4),(103003,Jl),(105004,KT)]⟩,dA:=1,aU:=[50000],aT:=[103003,105004] }
def anF:gJ:=(.seq .nil (.seq (.meet false ⟨kS [0,2] [(3,.sl (.one (.box 12 0)))],kO [50000,2] [(12,.ob (.box [(.box 50000 0),(.own 100700),(.own 100701),(.own 100702),q0])),(100700,.ob q49),(100701,.ob q78),(100702,.ob q65)]⟩ .nil) (.seq (.seq .nil (.meet false ⟨kS [0,2,3] [],kO [50000,2] (lO [(12,.ob q68),(101003,.ob q49)] (kO [100701,100702] []))⟩ (.loop ⟨kS [0,2,3] [(4,.sl q13)],kO [50000,2] (lO [(12,.ob q68),(101003,.ob q49)] (kO [100701,100702] []))⟩ (.seq j0 j0)))) (.seq (.seq .nil (.meet false ⟨kS [0,2,3] [],lO [(50000,.ob q4),(2,.keep),(12,.ob q69),(103003,.ob q49)] (kO [100701,100702] [])⟩ (.loop ⟨kS [0,2,3] [(5,.sl q13)],lO [(50000,.ob q4),(2,.keep),(12,.ob q69),(103003,.ob q49)] (kO [100701,100702] [])⟩ (.seq j0 j0)))) (.seq .nil (.seq (.seq .nil (.meet false ⟨kS [0,2,3] [],[(50000,.ob q4),(2,.keep),(12,.ob q70),(103003,.keep),(105004,.ob q78),(100702,.keep)]⟩ (.loop ⟨kS [0,2,3] [(6,.sl q13)],[(50000,.ob q4),(2,.keep),(12,.ob q70),(103003,.keep),(105004,.ob q78),(100702,.keep)]⟩ (.seq j0 (.seq (.seq (.seq .nil (.seq (.seq .nil (.meet false ⟨kS [0,2,3,6,7] [],kO [50000,2,12] (lO [(7,.ob (.box [q30,q0,(.own 106007),.bY]))] (kO [103003,105004,100702] [(106007,.ob q65)]))⟩ (.loop ⟨kS [0,2,3,6,7] [(8,.sl q13)],kO [50000,2,12] (lO [(7,.ob (.box [q30,q0,(.own 106007),.bY]))] (kO [103003,105004,100702] [(106007,.ob q65)]))⟩ (.seq j0 j0)))) .nil)) .nil) .nil))))) (.seq (.seq .nil (.meet false ⟨kS [2,3] [],[(50000,.ob q4),(2,.keep),(12,.ob q71),(103003,.ob Jl),(105004,.ob KT),(109005,.ob vJ)]⟩ (.loop ⟨kS [0,2,3] [(9,.sl q13)],[(50000,.ob q4),(2,.keep),(12,.ob q71),(103003,.ob Jl),(105004,.ob KT),(109005,.ob vJ)]⟩ (.seq j0 (.seq j7 .nil))))) .nil)))))))
def anG:dB:={ bM:=2,pin:=⟨[(0,q31),(1,q16)],[]⟩,aI:=⟨[(0,q13)],[]⟩,dA:=1,aU:=[],aT:=[] }
def anH:gJ:=(.seq .nil (.seq (.seq (.meet false ⟨kS [2,3] [(25,.sl q3)],kO [2,3] []⟩ .nil) j0) (.seq (.seq (.meet false ⟨kS [2,3] [(45,.sl q3)],kO [2,3] []⟩ .nil) j0) (.seq (.seq .nil (.meet true ⟨[(3,.keep)],[(3,.keep)]⟩ (.loop ⟨kS [2,3] [(5,.sl q13)],kO [2,3] []⟩ (.seq j0 (.seq (.seq (.seq (.seq .nil (.meet true ⟨kS [2,3,5] [],kO [2,3] []⟩ (.loop ⟨kS [2,3,5] [(6,.sl q13)],kO [2,3] []⟩ (.seq j0 j37)))) j8) .nil) .nil))))) (.seq .nil (.seq (.seq .nil (.meet true ⟨[],[]⟩ (.loop ⟨[(9,.keep),(10,.sl q13)],[(91,.keep)]⟩ j3))) .nil))))))
def sg9:dB:={ bM:=1,pin:=⟨[(0,q16)],[]⟩,aI:=⟨[(0,(.one (.own 38)))],[(38,q6)]⟩,dA:=1,aU:=[],aT:=[38] }
def an9:gJ:=(.seq .nil (.seq .nil (.seq .nil (.seq (.seq .nil (.meet false ⟨kS [1,3,4] [],kO [1,18,4] [(21,.ob q6)]⟩ (.loop ⟨kS [1,3,4,22,23] [(24,.sl q13)],kO [1,18,4] [(21,.ob q6)]⟩ (.seq .nil j33)))) (.seq .nil (.seq .nil (.seq (.seq .nil (.meet false ⟨kS [3,4] [(7,.sl (.one (.p false false (.sl (.sl (.int .i64)))))),(8,.keep)],kO [18,4,8,21] [(38,.ob q6)]⟩ (.loop ⟨kS [3,4] (lS [(7,.sl (.one (.p false false (.sl (.sl (.int .i64))))))] (kS [8,40] [(41,.sl q13)])),kO [18,4,8,21] [(38,.ob q6)]⟩ (.seq .nil j33)))) (.seq .nil (.seq (.seq .nil (.meet false ⟨[(8,.keep)],[(8,.ob q58),(38,.ob q6)]⟩ (.loop j23 (.seq j0 (.seq (.seq .nil (.seq .nil (.meet false j23 (.loop ⟨kS [3,7,8,10] (lS [(11,.sl q3)] (kS [51,52] [(53,.sl q13)])),[(18,.keep),(8,.ob q58),(4,.ob q61),(38,.ob q6),(21,.keep)]⟩ (.seq .nil (.seq .nil (.seq (.seq (.seq .nil (.seq .nil (.seq (.seq .nil (.meet false ⟨kS [3,7,8,10,11,13] (lS [(14,.sl q13)] (kS [51,52,53] [])),lO [(18,.keep),(8,.ob q58),(4,.ob q61)] (kO [38,21] [])⟩ (.loop ⟨kS [3,7,8,10,11,13] (lS [(14,.sl q13)] (kS [51,52,53,60,61] [(62,.sl q13)])),lO [(18,.keep),(8,.ob q58),(4,.ob q61)] (kO [38,21] [])⟩ (.seq .nil (.seq .nil (.seq (.seq (.seq .nil (.seq (.seq (.meet false ⟨kS [3,7,8,10,11,13,14,16,51,52,53,60,61,62] [(70,.sl q3)],kO [18,8,4,38,21] []⟩ .nil) (.meet false j15 (.seq .nil (.seq .nil (.meet false j15 .nil))))) .nil)) .nil) .nil)))))) (.seq .nil (.meet false ⟨kS [3,7,8,10] (lS [(11,.sl q3)] (kS [51,52,53] [])),kO [18,8,4] [(38,.ob q6),(21,.keep)]⟩ .nil))))) .nil) .nil))))))) .nil))))) .nil)))))))))
def anI:dB:={ bM:=3,pin:=⟨[(0,q16),(1,q23),(2,q23)],[]⟩,aI:=⟨[(0,q3)],[]⟩,dA:=1,aU:=[],aT:=[] }
def anJ:gJ:=(.seq .nil j30)
def anK:dB:={ bM:=1,pin:=⟨[(0,xO)],[(50000,N9)]⟩,aI:=⟨[(0,(.agg [(.own 9),(.own 1009)]))],[(50000,q4),(9,Jl),(1009,KT)]⟩,dA:=1,aU:=[50000],aT:=[9,1009] }
def anL:gJ:=j1
def anM:dB:={ bM:=1,pin:=⟨[(0,q31)],[]⟩,aI:=⟨[(0,q13)],[]⟩,dA:=1,aU:=[],aT:=[] }
def anN:gJ:=(.seq .nil (.seq (.seq (.meet false ⟨[(1,.keep),(31,.sl q3)],[(1,.keep)]⟩ .nil) j0) (.seq (.seq .nil (.meet true ⟨[(1,.keep)],[(1,.keep)]⟩ (.loop ⟨[(1,.keep),(3,.sl q13)],[(1,.keep)]⟩ (.seq j0 (.seq (.seq (.seq (.meet false ⟨kS [1,3] [(54,.sl q3)],[(1,.keep)]⟩ .nil) j0) .nil) .nil))))) (.seq (.seq (.meet false ⟨[(1,.keep),(65,.sl q3)],[(1,.keep)]⟩ .nil) j0) (.seq j1 (.seq (.seq .nil (.meet true ⟨[],[]⟩ (.loop ⟨[(1,.keep),(4,.sl q13)],[(1,.keep)]⟩ (.seq j0 j37)))) .nil))))))
def anO:dB:={ bM:=1,pin:=⟨[(0,q35)],[]⟩,aI:=⟨[(0,(.agg [(.own 60000),(.own 60001),q0,q0])),(1,q13)],[(60000,(.arr false true false (.st 3))),(60001,q81)]⟩,dA:=2,aU:=[],aT:=[60000,60001] }
def anP:gJ:=(.seq .nil (.seq .nil (.seq (.seq .nil (.meet false ⟨kS [2,4] [],[(2,.keep),(4,.ob (.box [(.own 11),(.own 100004),q0,q0])),(11,.keep),(100004,.ob q81)]⟩ (.loop ⟨kS [1,2,4] [(5,.sl q13)],kO [1,2] [(4,.ob (.box [(.own 11),(.own 100004),q0,q0])),(11,.keep),(100004,.ob q81)]⟩ (.seq j0 (.seq (.seq (.seq .nil (.seq (.meet false ⟨kS [1,2,4,5,6] [(7,.sl (.one (.box 33 0)))],kO [1,2,4,6] (lO [(33,.ob (.box [(.p true false (.sl (.st 3))),(.p true false (.sl (.st 12))),q67,q0,q0,(.own 101700),q0]))] (kO [11,100004] [(101700,.ob (.aG false false (.st 5) [(0,(.st 6))]))]))⟩ .nil) (.seq .nil (.seq .nil (.seq (.seq .nil (.meet false ⟨kS [1,2,4,5,6,7] [],kO [1,2,4,6] (lO [(33,.ob (.box [(.p true false (.sl (.st 3))),(.p true false (.sl (.st 12))),q67,q0,q0,(.own 49),q0]))] (kO [11,100004] [(49,.ob (.aG true false (.st 5) [(0,(.st 6))]))]))⟩ j10)) .nil))))) .nil) .nil))))) j10)))
def ajs:TypeId→Option Ty:=fun t=>(([(1000044,(.prod (.st 0) .bool)),(3000082,.bool),(3000053,.bool),(3000038,.bool),(3000018,.bool),(3000013,.bool)]:List (Nat×Ty))++vU).lookup t
def anQ:dB:={ bM:=1,pin:=⟨[(0,xO)],[(50000,N9)]⟩,aI:=⟨[(0,(.agg [(.own 8),(.own 1008),q0,q0]))],[(50000,q4),(8,Jl),(1008,(.arr false false true (.st 4)))]⟩,dA:=1,aU:=[50000],aT:=[8,1008] }
def anR:gJ:=j1
def sg8:dB:={ bM:=1,pin:=⟨[(0,xO)],[(50000,N9)]⟩,aI:=⟨[(0,(.agg [(.own 60001),(.p false true (.sl (.st 4))),q0,q0]))],[(50000,q4),(60001,Jl)]⟩,dA:=1,aU:=[50000],aT:=[60001] }
def an8:gJ:=(.seq .nil j10)
--HAND 33 Srt
def anS:dB:={ bM:=1,pin:=⟨[(0,q16)],[]⟩,aI:=⟨[(0,q53)],[(100001,q50)]⟩,dA:=1,aU:=[],aT:=[100001] }
def anT:gJ:=(.seq .nil (.seq .nil (.seq .nil (.seq (.seq .nil (.meet false ⟨[(4,.sl q53)],[(100001,.ob q50)]⟩ (.loop ⟨lS [(3,.keep),(4,.sl q53)] (kS [13,14] [(15,.sl q13)]),[(11,.keep),(100001,.ob q50)]⟩ (.seq .nil (.seq .nil (.seq (.seq (.seq .nil (.seq .nil (.seq .nil (.seq .nil (.meet false ⟨lS [(3,.keep),(4,.sl (.one (.own 101001)))] (kS [13,14,15] []),[(11,.keep),(101001,.ob q50)]⟩ (.loop ⟨lS [(3,.keep),(4,.sl (.one (.own 101001)))] (kS [5,13,14,15,25,26] [(27,.sl q13)]),[(11,.keep),(101001,.ob q50),(22,.keep)]⟩ (.seq .nil (.seq .nil (.seq (.seq (.seq .nil (.seq .nil (.meet false ⟨lS [(3,.keep),(4,.sl (.one (.own 102001)))] (kS [5,13,14,15,25,26,27] []),[(11,.keep),(102001,.ob q50),(22,.keep)]⟩ .nil))) .nil) .nil))))))))) .nil) .nil)))))) .nil))))
def anU:dB:={ bM:=2,pin:=⟨[(0,q16),(1,q23)],[]⟩,aI:=⟨[(0,q63)],[(100000,q6)]⟩,dA:=1,aU:=[],aT:=[100000] }
def anV:gJ:=(.seq .nil (.seq .nil (.seq (.seq .nil (.meet false ⟨[(5,.sl q63)],[(100000,.ob q6)]⟩ (.loop ⟨lS [(5,.sl q63)] (kS [12,13] [(14,.sl q13)]),[(100000,.ob q6),(12,.keep)]⟩ (.seq .nil (.seq .nil (.seq (.seq (.seq .nil (.seq .nil (.meet false ⟨lS [(5,.sl (.one (.own 101000)))] (kS [12,13,14] []),[(101000,.ob q6),(12,.keep)]⟩ .nil))) .nil) .nil)))))) .nil)))
def anW:dB:={ bM:=1,pin:=⟨[(0,q16)],[]⟩,aI:=⟨[(0,q3)],[]⟩,dA:=1,aU:=[],aT:=[] }
def anX:gJ:=(.seq .nil (.seq .nil (.seq .nil (.seq .nil (.seq (.seq .nil (.meet false ⟨kS [1,4,5] [],[(1,.keep),(20,.ob q6),(24,.ob q39)]⟩ (.loop ⟨kS [1,3,4,5,26,27] [(28,.sl q13)],kO [1,16] [(20,.ob q6),(24,.ob q39)]⟩ (.seq .nil (.seq .nil (.seq (.seq (.seq .nil (.seq .nil (.meet false ⟨kS [1,3,4,5,26,27,28] [],kO [1,16] [(20,.ob q6),(24,.ob q39)]⟩ (.loop ⟨kS [1,3,4,5,6,26,27,28,35,36] [(37,.sl q13)],kO [1,16] [(20,.ob q6),(24,.ob q39),(35,.keep)]⟩ (.seq .nil (.seq .nil (.seq (.seq (.seq .nil (.seq .nil (.meet false ⟨kS [1,3,4,5,6,26,27,28,35,36,37] [],kO [1,16] [(20,.ob q6),(24,.ob q39),(35,.keep)]⟩ j0))) .nil) .nil))))))) .nil) .nil)))))) (.seq .nil (.seq j1 (.seq (.meet false ⟨[(1,.keep),(11,.sl q13)],[(1,.keep)]⟩ (.loop ⟨kS [1,4] [(5,.sl (.one (.p true false (.sl (.sl (.int .i64)))))),(10,.sl (.one (.own 105002))),(11,.sl q13)],[(1,.keep),(20,.ob q6),(105002,.ob q22)]⟩ (.seq j0 (.seq (.seq .nil (.seq .nil (.seq .nil (.seq .nil (.meet false ⟨kS [1,4,5] [(10,.sl (.one (.own 106002))),(11,.keep)],[(1,.keep),(20,.ob q6),(106002,.ob q22)]⟩ (.loop ⟨kS [1,4,5] (lS [(10,.sl (.one (.own 106002)))] (kS [11,89,90] [(91,.sl q13)])),[(1,.keep),(20,.ob q6),(106002,.ob q22)]⟩ (.seq .nil (.seq .nil (.seq (.seq (.seq .nil (.seq .nil (.seq .nil (.meet false ⟨kS [1,4,5] (lS [(10,.sl (.one (.own 107002)))] (kS [11,89,90,91] [])),kO [1,20] [(107002,.ob q22)]⟩ .nil)))) .nil) .nil))))))))) .nil)))) .nil))))))))
def ajt:TypeId→Option Ty:=fun t=>(([(1000034,(.prod (.st 0) .bool)),(2000000,.bool),(3000113,.bool),(3000022,.bool),(3000018,.bool)]:List (Nat×Ty))++vU).lookup t
def sg6:dB:={ bM:=0,pin:=⟨[],[]⟩,aI:=⟨[(0,q3)],[]⟩,dA:=1,aU:=[],aT:=[] }
def an6:gJ:=(.seq .nil (.seq .nil (.seq .nil (.seq (.meet false ⟨[(0,.sl q3)],[]⟩ .nil) .nil))))
def sg5:dB:={ bM:=1,pin:=⟨[(0,q41)],[]⟩,aI:=⟨[(0,q3)],[]⟩,dA:=1,aU:=[],aT:=[] }
def an5:gJ:=(.seq .nil (.seq j1 (.seq .nil (.seq (.seq .nil (.meet true ⟨[],[]⟩ (.loop ⟨[(3,.keep),(4,.sl q13)],kO [3,18] []⟩ (.seq j0 (.seq (.seq (.seq .nil (.seq .nil (.seq .nil (.seq (.seq .nil (.meet true ⟨kS [3,4,5,6,7,8] [],kO [3,5,32,34] [(38,.ob q6),(18,.keep)]⟩ (.loop ⟨kS [3,4,5,6,7,8] [(9,.sl q13)],kO [3,5,32,34] [(38,.ob q6),(18,.keep)]⟩ (.seq j0 (.seq (.seq (.seq (.seq (.meet false ⟨kS [3,4,5,6,7,8,9] [(68,.sl q3)],kO [3,5,32,34,38,18] []⟩ .nil) j0) .nil) .nil) .nil))))) (.seq (.seq (.meet false ⟨kS [3,4,5,6,7,8] [(95,.sl q3)],kO [3,5,32,34,38,18] []⟩ .nil) j0) (.seq .nil (.seq (.seq .nil (.meet true ⟨kS [3,4,5] [(10,.sl q3)],kO [3,5,18] []⟩ (.loop ⟨kS [3,4,5,6,7,8] [(10,.sl q3),(11,.sl q13)],kO [3,5,32,34,38,18] []⟩ (.seq j0 (.seq (.seq (.seq (.seq (.meet false ⟨kS [3,4,5,6,7,8,10,11] [(117,.sl q3)],kO [3,5,32,34,38,18] []⟩ .nil) j0) (.seq .nil (.seq .nil (.meet false ⟨kS [3,4,5,6,7,8] [(10,.sl q3),(11,.keep)],kO [3,5,32,34,38,18] []⟩ (.loop ⟨kS [3,4,5,6,7,8] (lS [(10,.sl q3)] (kS [11,12] [(13,.sl q13)])),kO [3,5,32,34,38,124,18] []⟩ (.seq j0 (.seq (.seq (.meet false ⟨kS [3,4,5,6,7,8] (lS [(10,.sl q3)] (kS [11,12,13] [])),kO [3,5,32,34,38,124,18] []⟩ .nil) .nil) .nil))))))) .nil) .nil))))) j1))))))) .nil) .nil))))) .nil))))
end Go.Fg.Ytmgfidfcioiedaa

