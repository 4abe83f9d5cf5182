/-
  Shapes of the functions of the seat, printed by a program (wip/gen/Infer.lean).
-/
import Derived.Test.YtfklooeiipkijaaFwT
import Derived.Test.YtfklooeiipkijaaZd
namespace Go.Fg.Ytfklooeiipkijaa
open Go.Fw Go.Proofs Go.Fw.Ytfklooeiipkijaa
set_option linter.unusedVariables false
structure aI where
  kind:Int
  op:Int
  value:Int
  line:Int
  name:(List UInt8)
  args:(List aI)
def abJ:aI:=aI.mk (0:Int) (0:Int) (0:Int) (0:Int) [] []
mutual
def qw:aI→List P
  |⟨y0,y1,y2,y3,y4,y5⟩=>[P.int .i64 y0,P.int .i64 y1,P.int .i64 y2,P.int .i64 y3,P.str ⟨List.toArray y4⟩,P.dS 6 (Aw y5)]
def Aw:List aI→List (List P)
  | []=>[]
  |x::l=>qw x::Aw l
end
theorem DI :∀l,Aw l=List.map qw l
  | []=>rfl
  |x::l=>by rw [Aw,DI l];rfl
theorem RU (x:aI):qw x=[P.int .i64 (aI.kind x),P.int .i64 (aI.op x),P.int .i64 (aI.value x),P.int .i64 (aI.line x),P.str ⟨List.toArray (aI.name x)⟩,P.dS 6 (List.map qw (aI.args x))]:=by
  cases x
  rw [qw]
  simp only [DI]
structure aU where
  kind:Int
  line:Int
  name:(List UInt8)
  exprs:(List aI)
  then':(List aU)
  else':(List aU)
def abK:aU:=aU.mk (0:Int) (0:Int) [] [] [] []
mutual
def qx:aU→List P
  |⟨y0,y1,y2,y3,y4,y5⟩=>[P.int .i64 y0,P.int .i64 y1,P.str ⟨List.toArray y2⟩,P.dS 6 (List.map qw y3),P.dS 6 (wL y4),P.dS 6 (wL y5)]
def wL:List aU→List (List P)
  | []=>[]
  |x::l=>qx x::wL l
end
theorem DJ :∀l,wL l=List.map qx l
  | []=>rfl
  |x::l=>by rw [wL,DJ l];rfl
theorem RV (x:aU):qx x=[P.int .i64 (aU.kind x),P.int .i64 (aU.line x),P.str ⟨List.toArray (aU.name x)⟩,P.dS 6 (List.map qw (aU.exprs x)),P.dS 6 (List.map qx (aU.then' x)),P.dS 6 (List.map qx (aU.else' x))]:=by
  cases x
  rw [qx]
  simp only [DJ]
structure mY where
  func:Int
  count:Int
def WO:mY:=mY.mk (0:Int) (0:Int)
def JQ (x:mY):List P:=[P.int .i64 (mY.func x),P.int .i64 (mY.count x)]
structure bY where
  from':Int
  to:Int
def abL:bY:=bY.mk (0:Int) (0:Int)
def abM (x:bY):List P:=[P.int .i64 (bY.from' x),P.int .i64 (bY.to x)]
structure au where
  name:(List UInt8)
  line:Int
  params:(List (List UInt8))
  body:(List aU)
def abN:au:=au.mk [] (0:Int) [] []
def abO (x:au):List P:=[P.str ⟨List.toArray (au.name x)⟩,P.int .i64 (au.line x),P.dS 1 (List.map (fun (x:List UInt8)=>[P.str ⟨x.toArray⟩]) (au.params x)),P.dS 6 (List.map qx (au.body x))]
structure uH where
  block:Int
  instr:Int
  targets:(List mY)
def abP:uH:=uH.mk (0:Int) (0:Int) []
def UK (x:uH):List P:=[P.int .i64 (uH.block x),P.int .i64 (uH.instr x),P.dS 2 (List.map JQ (uH.targets x))]
structure Az where
  func:Int
  block:Int
def abQ:Az:=Az.mk (0:Int) (0:Int)
def abR (x:Az):List P:=[P.int .i64 (Az.func x),P.int .i64 (Az.block x)]
structure fB where
  entries:Int
  blocks:(List Int)
  edges:(List (Int×Int))
  sites:(List uH)
def IZ:fB:=fB.mk (0:Int) [] [] []
def I4 (x:fB):List P:=[P.int .i64 (fB.entries x),P.dS 1 (List.map (fun (x:Int)=>[P.int .i64 x]) (fB.blocks x)),P.dS 2 (List.map (fun (x:Int×Int)=>(fun (x:Int)=>[P.int .i64 x]) x.1++(fun (x:Int)=>[P.int .i64 x]) x.2) (fB.edges x)),P.dS 3 (List.map UK (fB.sites x))]
structure d_ where
  kind:Int
  op:Int
  dst:Int
  a:Int
  b:Int
  value:Int
  args:(List Int)
def Zb:d_:=d_.mk (0:Int) (0:Int) (0:Int) (0:Int) (0:Int) (0:Int) []
def Pm (x:d_):List P:=[P.int .i64 (d_.kind x),P.int .i64 (d_.op x),P.int .i64 (d_.dst x),P.int .i64 (d_.a x),P.int .i64 (d_.b x),P.int .i64 (d_.value x),P.dS 1 (List.map (fun (x:Int)=>[P.int .i64 x]) (d_.args x))]
structure ak where
  instrs:(List d_)
  aQ:Int
  AA:Int
  fE:Int
  bP:Int
  line:Int
  jq:Int
  iG:Int
def Zc:ak:=ak.mk [] (0:Int) (0:Int) (0:Int) (0:Int) (0:Int) (0:Int) (0:Int)
def Pn (x:ak):List P:=[P.dS 7 (List.map Pm (ak.instrs x)),P.int .i64 (ak.aQ x),P.int .i64 (ak.AA x),P.int .i64 (ak.fE x),P.int .i64 (ak.bP x),P.int .i64 (ak.line x),P.int .i64 (ak.jq x),P.int .i64 (ak.iG x)]
structure aT where
  func:Int
  block:Int
  way:Int
def Zd:aT:=aT.mk (0:Int) (0:Int) (0:Int)
def Ze (x:aT):List P:=[P.int .i64 (aT.func x),P.int .i64 (aT.block x),P.int .i64 (aT.way x)]
structure aH where
  name:(List UInt8)
  params:Int
  regs:Int
  blocks:(List ak)
def Po:aH:=aH.mk [] (0:Int) (0:Int) []
def Pq (x:aH):List P:=[P.str ⟨List.toArray (aH.name x)⟩,P.int .i64 (aH.params x),P.int .i64 (aH.regs x),P.dS 8 (List.map Pn (aH.blocks x))]
structure ah where
  name:(List UInt8)
  size:Int
def WQ:ah:=ah.mk [] (0:Int)
def WR (x:ah):List P:=[P.str ⟨List.toArray (ah.name x)⟩,P.int .i64 (ah.size x)]
def Zf:Nat→Type
  |0=>Unit
  |1=>Unit
  |2=>Unit
  |3=>ah
  |4=>aH
  |5=>ak
  |6=>d_
  |7=>Unit
  |8=>aT
  |9=>Unit
  |10=>Az
  |11=>fB
  |12=>uH
  |13=>mY
  |14=>Unit
  |15=>Unit
  |16=>Unit
  |17=>Unit
  |18=>au
  |19=>aU
  |20=>aI
  |21=>Unit
  |22=>bY
  |23=>Unit
  |24=>Unit
  |25=>Unit
  |26=>Unit
  |27=>Unit
  |28=>Unit
  |_=>Unit
def reF:Nat→List Ty
  |0=>[]
  |1=>[]
  |2=>[]
  |3=>[.str,(.int .i64)]
  |4=>[.str,(.int .i64),(.int .i64),(.sl (.st 5))]
  |5=>[(.sl (.st 6)),(.int .i64),(.int .i64),(.int .i64),(.int .i64),(.int .i64),(.int .i64),(.int .i64)]
  |6=>[(.int .i64),(.int .i64),(.int .i64),(.int .i64),(.int .i64),(.int .i64),(.sl (.int .i64))]
  |7=>[]
  |8=>[(.int .i64),(.int .i64),(.int .i64)]
  |9=>[]
  |10=>[(.int .i64),(.int .i64)]
  |11=>[(.int .i64),(.sl (.int .i64)),(.sl (.prod (.int .i64) (.int .i64))),(.sl (.st 12))]
  |12=>[(.int .i64),(.int .i64),(.sl (.st 13))]
  |13=>[(.int .i64),(.int .i64)]
  |14=>[]
  |15=>[]
  |16=>[]
  |17=>[]
  |18=>[.str,(.int .i64),(.sl .str),(.sl (.st 19))]
  |19=>[(.int .i64),(.int .i64),.str,(.sl (.st 20)),(.sl (.st 19)),(.sl (.st 19))]
  |20=>[(.int .i64),(.int .i64),(.int .i64),(.int .i64),.str,(.sl (.st 20))]
  |21=>[]
  |22=>[(.int .i64),(.int .i64)]
  |23=>[]
  |24=>[]
  |25=>[]
  |26=>[]
  |27=>[]
  |28=>[]
  |_=>[]
def ajF:(n:Nat)→Zf n
  |0=>()
  |1=>()
  |2=>()
  |3=>WQ
  |4=>Po
  |5=>Zc
  |6=>Zb
  |7=>()
  |8=>Zd
  |9=>()
  |10=>abQ
  |11=>IZ
  |12=>abP
  |13=>WO
  |14=>()
  |15=>()
  |16=>()
  |17=>()
  |18=>abN
  |19=>abK
  |20=>abJ
  |21=>()
  |22=>abL
  |23=>()
  |24=>()
  |25=>()
  |26=>()
  |27=>()
  |28=>()
  |_+29=>()
def abS:(n:Nat)→Zf n→List (TP Zf)
  |0,x=>[]
  |1,x=>[]
  |2,x=>[]
  |3,x=>[⟨.str,ah.name x⟩,⟨(.int .i64),ah.size x⟩]
  |4,x=>[⟨.str,aH.name x⟩,⟨(.int .i64),aH.params x⟩,⟨(.int .i64),aH.regs x⟩,⟨(.sl (.st 5)),aH.blocks x⟩]
  |5,x=>[⟨(.sl (.st 6)),ak.instrs x⟩,⟨(.int .i64),ak.aQ x⟩,⟨(.int .i64),ak.AA x⟩,⟨(.int .i64),ak.fE x⟩,⟨(.int .i64),ak.bP x⟩,⟨(.int .i64),ak.line x⟩,⟨(.int .i64),ak.jq x⟩,⟨(.int .i64),ak.iG x⟩]
  |6,x=>[⟨(.int .i64),d_.kind x⟩,⟨(.int .i64),d_.op x⟩,⟨(.int .i64),d_.dst x⟩,⟨(.int .i64),d_.a x⟩,⟨(.int .i64),d_.b x⟩,⟨(.int .i64),d_.value x⟩,⟨(.sl (.int .i64)),d_.args x⟩]
  |7,x=>[]
  |8,x=>[⟨(.int .i64),aT.func x⟩,⟨(.int .i64),aT.block x⟩,⟨(.int .i64),aT.way x⟩]
  |9,x=>[]
  |10,x=>[⟨(.int .i64),Az.func x⟩,⟨(.int .i64),Az.block x⟩]
  |11,x=>[⟨(.int .i64),fB.entries x⟩,⟨(.sl (.int .i64)),fB.blocks x⟩,⟨(.sl (.prod (.int .i64) (.int .i64))),fB.edges x⟩,⟨(.sl (.st 12)),fB.sites x⟩]
  |12,x=>[⟨(.int .i64),uH.block x⟩,⟨(.int .i64),uH.instr x⟩,⟨(.sl (.st 13)),uH.targets x⟩]
  |13,x=>[⟨(.int .i64),mY.func x⟩,⟨(.int .i64),mY.count x⟩]
  |14,x=>[]
  |15,x=>[]
  |16,x=>[]
  |17,x=>[]
  |18,x=>[⟨.str,au.name x⟩,⟨(.int .i64),au.line x⟩,⟨(.sl .str),au.params x⟩,⟨(.sl (.st 19)),au.body x⟩]
  |19,x=>[⟨(.int .i64),aU.kind x⟩,⟨(.int .i64),aU.line x⟩,⟨.str,aU.name x⟩,⟨(.sl (.st 20)),aU.exprs x⟩,⟨(.sl (.st 19)),aU.then' x⟩,⟨(.sl (.st 19)),aU.else' x⟩]
  |20,x=>[⟨(.int .i64),aI.kind x⟩,⟨(.int .i64),aI.op x⟩,⟨(.int .i64),aI.value x⟩,⟨(.int .i64),aI.line x⟩,⟨.str,aI.name x⟩,⟨(.sl (.st 20)),aI.args x⟩]
  |21,x=>[]
  |22,x=>[⟨(.int .i64),bY.from' x⟩,⟨(.int .i64),bY.to x⟩]
  |23,x=>[]
  |24,x=>[]
  |25,x=>[]
  |26,x=>[]
  |27,x=>[]
  |28,x=>[]
  |_+29,_=>[]
def ahe:(n:Nat)→List (TP Zf)→Zf n
  |0,ws=>()
  |1,ws=>()
  |2,ws=>()
  |3,ws=>ah.mk (TP.get .str [] ws 0) (TP.get (.int .i64) (0:Int) ws 1)
  |4,ws=>aH.mk (TP.get .str [] ws 0) (TP.get (.int .i64) (0:Int) ws 1) (TP.get (.int .i64) (0:Int) ws 2) (TP.get (.sl (.st 5)) [] ws 3)
  |5,ws=>ak.mk (TP.get (.sl (.st 6)) [] ws 0) (TP.get (.int .i64) (0:Int) ws 1) (TP.get (.int .i64) (0:Int) ws 2) (TP.get (.int .i64) (0:Int) ws 3) (TP.get (.int .i64) (0:Int) ws 4) (TP.get (.int .i64) (0:Int) ws 5) (TP.get (.int .i64) (0:Int) ws 6) (TP.get (.int .i64) (0:Int) ws 7)
  |6,ws=>d_.mk (TP.get (.int .i64) (0:Int) ws 0) (TP.get (.int .i64) (0:Int) ws 1) (TP.get (.int .i64) (0:Int) ws 2) (TP.get (.int .i64) (0:Int) ws 3) (TP.get (.int .i64) (0:Int) ws 4) (TP.get (.int .i64) (0:Int) ws 5) (TP.get (.sl (.int .i64)) [] ws 6)
  |7,ws=>()
  |8,ws=>aT.mk (TP.get (.int .i64) (0:Int) ws 0) (TP.get (.int .i64) (0:Int) ws 1) (TP.get (.int .i64) (0:Int) ws 2)
  |9,ws=>()
  |10,ws=>Az.mk (TP.get (.int .i64) (0:Int) ws 0) (TP.get (.int .i64) (0:Int) ws 1)
  |11,ws=>fB.mk (TP.get (.int .i64) (0:Int) ws 0) (TP.get (.sl (.int .i64)) [] ws 1) (TP.get (.sl (.prod (.int .i64) (.int .i64))) [] ws 2) (TP.get (.sl (.st 12)) [] ws 3)
  |12,ws=>uH.mk (TP.get (.int .i64) (0:Int) ws 0) (TP.get (.int .i64) (0:Int) ws 1) (TP.get (.sl (.st 13)) [] ws 2)
  |13,ws=>mY.mk (TP.get (.int .i64) (0:Int) ws 0) (TP.get (.int .i64) (0:Int) ws 1)
  |14,ws=>()
  |15,ws=>()
  |16,ws=>()
  |17,ws=>()
  |18,ws=>au.mk (TP.get .str [] ws 0) (TP.get (.int .i64) (0:Int) ws 1) (TP.get (.sl .str) [] ws 2) (TP.get (.sl (.st 19)) [] ws 3)
  |19,ws=>aU.mk (TP.get (.int .i64) (0:Int) ws 0) (TP.get (.int .i64) (0:Int) ws 1) (TP.get .str [] ws 2) (TP.get (.sl (.st 20)) [] ws 3) (TP.get (.sl (.st 19)) [] ws 4) (TP.get (.sl (.st 19)) [] ws 5)
  |20,ws=>aI.mk (TP.get (.int .i64) (0:Int) ws 0) (TP.get (.int .i64) (0:Int) ws 1) (TP.get (.int .i64) (0:Int) ws 2) (TP.get (.int .i64) (0:Int) ws 3) (TP.get .str [] ws 4) (TP.get (.sl (.st 20)) [] ws 5)
  |21,ws=>()
  |22,ws=>bY.mk (TP.get (.int .i64) (0:Int) ws 0) (TP.get (.int .i64) (0:Int) ws 1)
  |23,ws=>()
  |24,ws=>()
  |25,ws=>()
  |26,ws=>()
  |27,ws=>()
  |28,ws=>()
  |_+29,_=>()
def afk:(n:Nat)→Zf n→List P
  |0,x=>[]
  |1,x=>[]
  |2,x=>[]
  |3,x=>WR x
  |4,x=>Pq x
  |5,x=>Pn x
  |6,x=>Pm x
  |7,x=>[]
  |8,x=>Ze x
  |9,x=>[]
  |10,x=>abR x
  |11,x=>I4 x
  |12,x=>UK x
  |13,x=>JQ x
  |14,x=>[]
  |15,x=>[]
  |16,x=>[]
  |17,x=>[]
  |18,x=>abO x
  |19,x=>qx x
  |20,x=>qw x
  |21,x=>[]
  |22,x=>abM x
  |23,x=>[]
  |24,x=>[]
  |25,x=>[]
  |26,x=>[]
  |27,x=>[]
  |28,x=>[]
  |_+29,_=>[]
theorem ahf :∀n,(reF n).all Ty.word=true
  |0=>rfl
  |1=>rfl
  |2=>rfl
  |3=>rfl
  |4=>rfl
  |5=>rfl
  |6=>rfl
  |7=>rfl
  |8=>rfl
  |9=>rfl
  |10=>rfl
  |11=>rfl
  |12=>rfl
  |13=>rfl
  |14=>rfl
  |15=>rfl
  |16=>rfl
  |17=>rfl
  |18=>rfl
  |19=>rfl
  |20=>rfl
  |21=>rfl
  |22=>rfl
  |23=>rfl
  |24=>rfl
  |25=>rfl
  |26=>rfl
  |27=>rfl
  |28=>rfl
  |_+29=>rfl
theorem afl :∀(n:Nat) (x:Zf n),(abS n x).map (·.t)=reF n
  |0,x=>rfl
  |1,x=>rfl
  |2,x=>rfl
  |3,x=>rfl
  |4,x=>rfl
  |5,x=>rfl
  |6,x=>rfl
  |7,x=>rfl
  |8,x=>rfl
  |9,x=>rfl
  |10,x=>rfl
  |11,x=>rfl
  |12,x=>rfl
  |13,x=>rfl
  |14,x=>rfl
  |15,x=>rfl
  |16,x=>rfl
  |17,x=>rfl
  |18,x=>rfl
  |19,x=>rfl
  |20,x=>rfl
  |21,x=>rfl
  |22,x=>rfl
  |23,x=>rfl
  |24,x=>rfl
  |25,x=>rfl
  |26,x=>rfl
  |27,x=>rfl
  |28,x=>rfl
  |_+29,_=>rfl
theorem afm :∀(n:Nat) (ws:List (TP Zf)),ws.map (·.t)=reF n→abS n (ahe n ws)=ws
  |0,ws,h=>by
    have e:=bH h
    subst e
    rfl
  |1,ws,h=>by
    have e:=bH h
    subst e
    rfl
  |2,ws,h=>by
    have e:=bH h
    subst e
    rfl
  |3,ws,h=>by
    obtain ⟨x0,Ef,e0,h0⟩:=aK h
    subst e0
    obtain ⟨x1,Jj,e1,h1⟩:=aK h0
    subst e1
    have e:=bH h1
    subst e
    rfl
  |4,ws,h=>by
    obtain ⟨x0,Ef,e0,h0⟩:=aK h
    subst e0
    obtain ⟨x1,Jj,e1,h1⟩:=aK h0
    subst e1
    obtain ⟨x2,ws2,e2,h2⟩:=aK h1
    subst e2
    obtain ⟨x3,ws3,e3,h3⟩:=aK h2
    subst e3
    have e:=bH h3
    subst e
    rfl
  |5,ws,h=>by
    obtain ⟨x0,Ef,e0,h0⟩:=aK h
    subst e0
    obtain ⟨x1,Jj,e1,h1⟩:=aK h0
    subst e1
    obtain ⟨x2,ws2,e2,h2⟩:=aK h1
    subst e2
    obtain ⟨x3,ws3,e3,h3⟩:=aK h2
    subst e3
    obtain ⟨x4,ws4,e4,h4⟩:=aK h3
    subst e4
    obtain ⟨x5,ws5,e5,h5⟩:=aK h4
    subst e5
    obtain ⟨x6,ws6,e6,h6⟩:=aK h5
    subst e6
    obtain ⟨x7,ws7,e7,h7⟩:=aK h6
    subst e7
    have e:=bH h7
    subst e
    rfl
  |6,ws,h=>by
    obtain ⟨x0,Ef,e0,h0⟩:=aK h
    subst e0
    obtain ⟨x1,Jj,e1,h1⟩:=aK h0
    subst e1
    obtain ⟨x2,ws2,e2,h2⟩:=aK h1
    subst e2
    obtain ⟨x3,ws3,e3,h3⟩:=aK h2
    subst e3
    obtain ⟨x4,ws4,e4,h4⟩:=aK h3
    subst e4
    obtain ⟨x5,ws5,e5,h5⟩:=aK h4
    subst e5
    obtain ⟨x6,ws6,e6,h6⟩:=aK h5
    subst e6
    have e:=bH h6
    subst e
    rfl
  |7,ws,h=>by
    have e:=bH h
    subst e
    rfl
  |8,ws,h=>by
    obtain ⟨x0,Ef,e0,h0⟩:=aK h
    subst e0
    obtain ⟨x1,Jj,e1,h1⟩:=aK h0
    subst e1
    obtain ⟨x2,ws2,e2,h2⟩:=aK h1
    subst e2
    have e:=bH h2
    subst e
    rfl
  |9,ws,h=>by
    have e:=bH h
    subst e
    rfl
  |10,ws,h=>by
    obtain ⟨x0,Ef,e0,h0⟩:=aK h
    subst e0
    obtain ⟨x1,Jj,e1,h1⟩:=aK h0
    subst e1
    have e:=bH h1
    subst e
    rfl
  |11,ws,h=>by
    obtain ⟨x0,Ef,e0,h0⟩:=aK h
    subst e0
    obtain ⟨x1,Jj,e1,h1⟩:=aK h0
    subst e1
    obtain ⟨x2,ws2,e2,h2⟩:=aK h1
    subst e2
    obtain ⟨x3,ws3,e3,h3⟩:=aK h2
    subst e3
    have e:=bH h3
    subst e
    rfl
  |12,ws,h=>by
    obtain ⟨x0,Ef,e0,h0⟩:=aK h
    subst e0
    obtain ⟨x1,Jj,e1,h1⟩:=aK h0
    subst e1
    obtain ⟨x2,ws2,e2,h2⟩:=aK h1
    subst e2
    have e:=bH h2
    subst e
    rfl
  |13,ws,h=>by
    obtain ⟨x0,Ef,e0,h0⟩:=aK h
    subst e0
    obtain ⟨x1,Jj,e1,h1⟩:=aK h0
    subst e1
    have e:=bH h1
    subst e
    rfl
  |14,ws,h=>by
    have e:=bH h
    subst e
    rfl
  |15,ws,h=>by
    have e:=bH h
    subst e
    rfl
  |16,ws,h=>by
    have e:=bH h
    subst e
    rfl
  |17,ws,h=>by
    have e:=bH h
    subst e
    rfl
  |18,ws,h=>by
    obtain ⟨x0,Ef,e0,h0⟩:=aK h
    subst e0
    obtain ⟨x1,Jj,e1,h1⟩:=aK h0
    subst e1
    obtain ⟨x2,ws2,e2,h2⟩:=aK h1
    subst e2
    obtain ⟨x3,ws3,e3,h3⟩:=aK h2
    subst e3
    have e:=bH h3
    subst e
    rfl
  |19,ws,h=>by
    obtain ⟨x0,Ef,e0,h0⟩:=aK h
    subst e0
    obtain ⟨x1,Jj,e1,h1⟩:=aK h0
    subst e1
    obtain ⟨x2,ws2,e2,h2⟩:=aK h1
    subst e2
    obtain ⟨x3,ws3,e3,h3⟩:=aK h2
    subst e3
    obtain ⟨x4,ws4,e4,h4⟩:=aK h3
    subst e4
    obtain ⟨x5,ws5,e5,h5⟩:=aK h4
    subst e5
    have e:=bH h5
    subst e
    rfl
  |20,ws,h=>by
    obtain ⟨x0,Ef,e0,h0⟩:=aK h
    subst e0
    obtain ⟨x1,Jj,e1,h1⟩:=aK h0
    subst e1
    obtain ⟨x2,ws2,e2,h2⟩:=aK h1
    subst e2
    obtain ⟨x3,ws3,e3,h3⟩:=aK h2
    subst e3
    obtain ⟨x4,ws4,e4,h4⟩:=aK h3
    subst e4
    obtain ⟨x5,ws5,e5,h5⟩:=aK h4
    subst e5
    have e:=bH h5
    subst e
    rfl
  |21,ws,h=>by
    have e:=bH h
    subst e
    rfl
  |22,ws,h=>by
    obtain ⟨x0,Ef,e0,h0⟩:=aK h
    subst e0
    obtain ⟨x1,Jj,e1,h1⟩:=aK h0
    subst e1
    have e:=bH h1
    subst e
    rfl
  |23,ws,h=>by
    have e:=bH h
    subst e
    rfl
  |24,ws,h=>by
    have e:=bH h
    subst e
    rfl
  |25,ws,h=>by
    have e:=bH h
    subst e
    rfl
  |26,ws,h=>by
    have e:=bH h
    subst e
    rfl
  |27,ws,h=>by
    have e:=bH h
    subst e
    rfl
  |28,ws,h=>by
    have e:=bH h
    subst e
    rfl
  |_+29,ws,h=>by have e:=bH h;subst e;rfl
theorem afn :∀(n:Nat) (x:Zf n),afk n x=(abS n x).map fun w=>Gj (iC reF) (ny reF afk (iC reF)) w.t w.x
  |0,x=>by kernel_rfl
  |1,x=>by kernel_rfl
  |2,x=>by kernel_rfl
  |3,x=>by kernel_rfl
  |4,x=>by kernel_rfl
  |5,x=>by kernel_rfl
  |6,x=>by kernel_rfl
  |7,x=>by kernel_rfl
  |8,x=>by kernel_rfl
  |9,x=>by kernel_rfl
  |10,x=>by kernel_rfl
  |11,x=>by kernel_rfl
  |12,x=>by kernel_rfl
  |13,x=>by kernel_rfl
  |14,x=>by kernel_rfl
  |15,x=>by kernel_rfl
  |16,x=>by kernel_rfl
  |17,x=>by kernel_rfl
  |18,x=>by kernel_rfl
  |19,x=>(RV x).trans (by kernel_rfl)
  |20,x=>(RU x).trans (by kernel_rfl)
  |21,x=>by kernel_rfl
  |22,x=>by kernel_rfl
  |23,x=>by kernel_rfl
  |24,x=>by kernel_rfl
  |25,x=>by kernel_rfl
  |26,x=>by kernel_rfl
  |27,x=>by kernel_rfl
  |28,x=>by kernel_rfl
  |_+29,_=>rfl
def reG:Nat→Option ((e:Ty)×List (D Zf e))
  |_=>none
instance re:RE where
  C:=Zf
  F:=reF
  dflt:=ajF
  un:=abS
  ro:=ahe
  er:=afk
  Fwd:=ahf
  adY:=afl
  adZ:=afm
  ad4:=afn
  G:=reG
theorem mixed:Fit Try.prog:=⟨Fw.Ytfklooeiipkijaa.afi,fun _ _ _ _ h=>h.elim⟩
def zo:List (Nat×Ty):=[(3,(.int .i64)),(4,.bool),(5,(.int .u8)),(9,.str),(35,(.st 4)),(38,(.st 8)),(43,(.st 10)),(45,(.st 5)),(47,(.sl (.int .i64))),(65,(.st 11)),(66,(.prod (.int .i64) (.int .i64))),(88,(.st 3)),(92,(.st 6)),(99,(.st 22)),(104,(.st 12)),(106,(.st 13)),(111,(.st 18)),(126,(.st 19)),(143,(.st 20))]
def ety:TypeId→Option Ty:=fun t=>zo.lookup t
abbrev q0:jo:=.p false false (.int .i64)
abbrev q1:jo:=.p true false (.int .i64)
abbrev q2:jo:=.p false true (.int .i64)
abbrev q3:gy:=.box [(.p false true (.sl (.int .u8))),q0]
abbrev q4:kG:=.one (.p false false .bool)
abbrev q5:gy:=.deep true true (.st 5) [(0,(.st 6))]
abbrev q6:gy:=.box [(.p false true (.sl (.st 3))),(.p false true (.sl (.st 18))),(.p false true (.sl .str)),q2,q2,(.own 50001),q2]
abbrev q7:gy:=.box [(.p false true (.sl (.st 3))),(.p false true (.sl (.st 18))),(.own 50001),q2,q2]
abbrev q8:jo:=.p true true (.sl (.st 18))
abbrev q9:gy:=.box [(.box 50001 0),(.own 50002),(.own 50003),(.own 50004),q2]
abbrev q10:jo:=.p true true (.sl (.st 3))
abbrev q11:gy:=.arr false true false (.int .i64)
abbrev q12:gy:=.box [(.p false true (.sl (.st 3))),(.p false true (.sl (.st 18))),(.own 50001),q0,q0]
abbrev uI:gy:=.arr false false true .str
abbrev M_:gy:=.arr false false false (.int .i64)
abbrev q16:gy:=.box [(.p false true (.sl (.int .u8))),q2]
abbrev UL:jo:=.p true true (.sl .str)
abbrev gV:kG:=.one q0
abbrev wM:kG:=.one (.box 50000 0)
abbrev q20:kG:=.agg [(.p true false (.sl (.st 3))),(.p true false (.sl (.st 4))),q1,q1]
abbrev Io:gy:=.arr false false true (.st 3)
abbrev q22:gy:=.arr false false true (.st 18)
abbrev q23:gy:=.deep false true (.st 5) [(0,(.st 6))]
abbrev q24:gy:=.arr false false false (.st 8)
abbrev Zg:gy:=.deep false false (.st 4) [(3,(.st 5))]
abbrev q26:gy:=.box [q10,q8,UL,q0,q0,(.own 1033),q0]
abbrev q28:jo:=.p true false (.sl (.int .i64))
abbrev Pv:jo:=.p false false .str
abbrev q30:jo:=.p true false (.sl (.st 19))
abbrev q31:gy:=.box [q10,q8,UL,q2,q2,(.own 100002),q2]
abbrev q32:kG:=.agg [(.p true false (.sl (.st 3))),(.p true false (.sl (.st 18)))]
abbrev q33:gy:=.box [(.box 50001 0),(.own 50002),(.own 50003),(.own 50004),q0]
abbrev q34:gy:=.box [(.p false true (.sl (.st 3))),(.p false true (.sl (.st 18))),(.p false true (.sl .str)),q0,q0,(.own 50001),q0]
abbrev q35:jo:=.p true false .str
abbrev q13:kG:=.agg [q35,q1,q1,(.p true false (.sl (.st 5)))]
abbrev Cb:kG:=.one q1
abbrev q37:gy:=.arr false true false .bool
abbrev q38:gy:=.arr false true false (.st 22)
abbrev q39:gy:=.arr false false true (.st 19)
abbrev Zh:kG:=.one (.own 100001)
abbrev q41:gy:=.arr false true true .str
abbrev q42:jo:=.p true false (.sl (.st 20))
abbrev q27:kG:=.agg [q1,q1,q1,q1,q35,q42]
abbrev q43:gy:=.arr false false true (.int .i64)
abbrev q44:gy:=.arr false false false (.st 3)
abbrev q45:gy:=.box [(.p true false (.sl (.st 22)))]
abbrev q46:gy:=.box [q10,q8,(.own 100002),q0,q0]
abbrev q47:gy:=.box [q10,q8,(.own 100002),q2,q2]
abbrev q48:gy:=.arr false true true (.st 20)
abbrev q49:kG:=.one (.own 100000)
abbrev q50:gy:=.arr false false false .bool
abbrev q51:gy:=.box [q10,q8,UL,q0,q0,(.own 60001),q0]
abbrev q52:gy:=.arr false false true (.st 20)
abbrev q53:kG:=.agg [q1,q1,q1,q1,q1,q1,q28]
abbrev q54:jo:=.p true false (.sl (.int .u8))
abbrev q55:gy:=.arr false true false (.st 5)
abbrev q56:gy:=.arr false false false .str
abbrev q57:jo:=.p true true (.int .i64)
abbrev q58:jo:=.p true false (.sl .str)
abbrev q59:gy:=.box [(.box 50000 0),(.own 101003),(.own 100701),(.own 100702),q0]
abbrev q60:gy:=.box [(.box 50000 0),(.own 103003),(.own 100701),(.own 100702),q0]
abbrev q61:gy:=.box [(.box 50000 0),(.own 103003),(.own 105004),(.own 100702),q0]
abbrev q62:gy:=.box [(.box 50000 0),(.own 103003),(.own 105004),(.own 109005),q0]
abbrev q63:gy:=.box [(.box 50001 0),(.own 50002),(.own 50003),(.own 100005),q2]
abbrev q64:kG:=.agg [q1,q1,q35,q42,q30,q30]
abbrev q65:gy:=.box [(.p true false (.sl (.st 6))),q1,q1,q1,q1,q1,q1,q1]
abbrev q66:gy:=.arr false false false (.st 18)
abbrev q67:gy:=.arr false true false (.st 18)
abbrev q68:gy:=.arr false true true (.st 19)
abbrev q69:gy:=.arr false true false (.st 4)
def sg6:cZ:={ nargs:=2,pin:=⟨[(0,(.one q54)),(1,Cb)],[]⟩,aN:=⟨[(0,(.one (.box 14 0)))],[(14,(.box [q54,q0]))]⟩,cu:=1,aS:=[],news:=[14] }
def an6:iT:=(.seq .nil (.seq (.seq .nil (.meet false ⟨[(0,.sl (.one q54))],[]⟩ .nil)) .nil))
def sg9:cZ:={ nargs:=1,pin:=⟨[(0,q13)],[]⟩,aN:=⟨[(0,q49)],[(100000,q24)]⟩,cu:=1,aS:=[],news:=[100000] }
def an9:iT:=(.seq .nil (.seq .nil (.seq (.seq .nil (.meet false ⟨[(3,.sl q49)],[(100000,.ob q24)]⟩ (.loop ⟨[(3,.sl q49),(9,.keep),(10,.keep),(11,.sl gV)],[(100000,.ob q24)]⟩ (.seq .nil (.seq .nil (.seq (.seq (.seq .nil (.seq (.seq .nil (.meet false ⟨[(3,.sl (.one (.own 101000))),(4,.keep),(5,.keep),(9,.keep),(10,.keep),(11,.keep)],[(101000,.ob q24),(5,.keep)]⟩ .nil)) (.seq .nil (.meet false ⟨[(3,.sl (.one (.own 102000))),(9,.keep),(10,.keep),(11,.keep)],[(102000,.ob q24)]⟩ .nil)))) .nil) .nil)))))) .nil)))
def abU:cZ:={ nargs:=2,pin:=⟨[(0,wM),(1,Cb)],[(50000,q16)]⟩,aN:=⟨[(0,gV)],[(50000,q3)]⟩,cu:=1,aS:=[50000],news:=[] }
def ajO:iT:=(.seq .nil (.seq (.seq (.meet false ⟨[(0,.keep),(1,.keep),(19,.sl q4)],[(50000,.keep)]⟩ .nil) (.seq .nil .nil)) (.seq .nil (.seq .nil (.seq (.seq .nil (.seq .nil .nil)) .nil)))))
def abV:cZ:={ nargs:=1,pin:=⟨[(0,Cb)],[]⟩,aN:=⟨[(0,(.one Pv))],[]⟩,cu:=1,aS:=[],news:=[] }
def ajP:iT:=(.seq .nil (.seq .nil (.seq (.seq .nil (.seq .nil .nil)) .nil)))
def ajQ:cZ:={ nargs:=3,pin:=⟨[(0,wM),(1,q20),(2,q13)],[(50000,q16)]⟩,aN:=⟨[(0,(.agg [q0,q0,q0,q0,q0,q0,(.own 60001)]))],[(50000,q3),(60001,M_)]⟩,cu:=1,aS:=[50000],news:=[60001] }
def ajR:iT:=(.seq .nil (.seq .nil (.seq (.seq .nil (.seq (.seq .nil (.meet false ⟨[(0,.keep),(4,.keep),(6,.keep),(7,.keep)],[(50000,.ob q3),(4,.keep),(6,.keep),(7,.ob (.box [q0,q0,q0,q0,q0,q0,(.own 110004)])),(110004,.ob M_)]⟩ (.seq .nil (.seq .nil (.meet false ⟨[(0,.keep),(4,.keep),(6,.keep),(7,.keep)],[(50000,.ob q3),(4,.keep),(6,.keep),(7,.ob (.box [q0,q0,q0,q0,q0,q0,(.own 109004)])),(109004,.ob M_)]⟩ (.seq .nil (.seq .nil (.meet false ⟨[(0,.keep),(4,.keep),(6,.keep),(7,.keep)],[(50000,.ob q3),(4,.keep),(6,.keep),(7,.ob (.box [q0,q0,q0,q0,q0,q0,(.own 108004)])),(108004,.ob M_)]⟩ (.seq .nil (.seq (.seq .nil (.meet false ⟨[(0,.keep),(4,.keep),(5,.keep),(6,.keep),(7,.keep),(27,.keep),(46,.sl q4)],[(50000,.keep),(4,.keep),(5,.keep),(6,.keep),(7,.keep)]⟩ .nil)) (.meet false ⟨[(0,.keep),(4,.keep),(6,.keep),(7,.keep)],[(50000,.ob q3),(4,.keep),(6,.keep),(7,.ob (.box [q0,q0,q0,q0,q0,q0,(.own 107004)])),(107004,.ob M_)]⟩ (.seq .nil (.seq .nil (.meet false ⟨[(0,.keep),(4,.keep),(6,.keep),(7,.keep)],[(50000,.ob q3),(4,.keep),(6,.keep),(7,.ob (.box [q0,q0,q0,q0,q0,q0,(.own 106004)])),(106004,.ob M_)]⟩ (.seq (.seq .nil (.seq .nil (.meet false ⟨[(0,.keep),(4,.keep),(6,.keep),(7,.keep)],[(50000,.ob q3),(4,.keep),(6,.keep),(7,.ob (.box [q0,q0,q0,q0,q0,q0,(.own 101005)])),(101005,.ob M_)]⟩ (.loop ⟨[(0,.keep),(4,.keep),(5,.keep),(6,.keep),(7,.keep),(8,.sl gV)],[(50000,.ob q3),(4,.keep),(5,.keep),(6,.keep),(7,.ob (.box [q0,q0,q0,q0,q0,q0,(.own 101005)])),(101005,.ob M_)]⟩ (.seq (.seq .nil .nil) (.seq .nil .nil)))))) (.seq .nil (.meet false ⟨[(0,.keep),(4,.keep),(6,.keep),(7,.keep)],[(50000,.ob q3),(4,.keep),(6,.keep),(7,.ob (.box [q0,q0,q0,q0,q0,q0,(.own 105004)])),(105004,.ob M_)]⟩ (.seq (.seq .nil (.meet false ⟨[(0,.keep),(4,.keep),(6,.keep),(7,.keep)],[(50000,.ob q3),(4,.keep),(6,.keep),(7,.ob (.box [q0,q0,q0,q0,q0,q0,(.own 103005)])),(103005,.ob M_)]⟩ (.loop ⟨[(0,.keep),(4,.keep),(5,.keep),(6,.keep),(7,.keep),(9,.sl gV)],[(50000,.ob q3),(4,.keep),(5,.keep),(6,.keep),(7,.ob (.box [q0,q0,q0,q0,q0,q0,(.own 103005)])),(103005,.ob M_)]⟩ (.seq (.seq .nil .nil) (.seq .nil .nil))))) .nil)))))))))))))))))) .nil)) (.seq (.seq (.meet false ⟨[(0,.keep),(4,.keep),(6,.keep),(7,.keep),(107,.sl q4)],[(50000,.ob q3),(4,.keep),(6,.keep),(7,.keep),(110004,.keep)]⟩ .nil) (.seq .nil .nil)) .nil))))
def ajS:cZ:={ nargs:=2,pin:=⟨[(0,Cb),(1,wM)],[(50000,(.box [(.own 50001)])),(50001,q43)]⟩,aN:=⟨[(0,gV)],[(50000,(.box [(.own 50001)])),(50001,q43)]⟩,cu:=1,aS:=[50000,50001],news:=[] }
def ajT:iT:=(.seq .nil (.seq (.meet false ⟨[(0,.sl (.one q57))],[(50000,.keep),(50001,.ob q43)]⟩ (.loop ⟨[(0,.sl (.one q57)),(1,.keep)],[(50000,.keep),(50001,.ob q43)]⟩ (.seq (.seq .nil .nil) (.seq .nil .nil)))) .nil))
def ajU:cZ:={ nargs:=1,pin:=⟨[(0,q13)],[]⟩,aN:=⟨[(0,(.one (.own 104000)))],[(104000,q38)]⟩,cu:=1,aS:=[],news:=[104000] }
def ajV:iT:=(.seq .nil (.seq .nil (.seq .nil (.seq (.seq .nil (.meet false ⟨[(1,.keep),(3,.keep),(4,.sl Zh)],[(1,.keep),(100001,.ob q38)]⟩ (.loop ⟨[(1,.keep),(3,.keep),(4,.sl Zh),(14,.keep),(15,.keep),(16,.sl gV)],[(1,.keep),(100001,.ob q38),(14,.keep)]⟩ (.seq .nil (.seq .nil (.seq (.seq (.seq .nil (.seq .nil (.seq .nil (.seq (.seq .nil (.meet false ⟨[(1,.keep),(3,.keep),(4,.sl (.one (.own 102001))),(14,.keep),(15,.keep),(16,.keep)],[(1,.keep),(102001,.ob q38),(14,.keep)]⟩ (.seq .nil (.seq .nil (.meet false ⟨[(1,.keep),(3,.keep),(4,.sl (.one (.own 101001))),(14,.keep),(15,.keep),(16,.keep)],[(1,.keep),(101001,.ob q38),(14,.keep)]⟩ .nil))))) .nil)))) .nil) .nil)))))) (.seq (.seq .nil (.meet false ⟨[(4,.sl (.one (.own 104000)))],[(104000,.ob q38)]⟩ (.loop ⟨[(3,.keep),(4,.sl (.one (.own 104000))),(56,.keep),(57,.keep),(58,.sl gV)],[(104000,.ob q38)]⟩ (.seq .nil (.seq .nil (.seq (.seq (.seq .nil (.seq .nil (.meet false ⟨[(3,.keep),(4,.sl (.one (.own 105000))),(56,.keep),(57,.keep),(58,.keep)],[(105000,.ob q38)]⟩ .nil))) .nil) .nil)))))) .nil)))))
def ajW:cZ:={ nargs:=5,pin:=⟨[(0,Cb),(1,(.one (.box 50002 0))),(2,(.one (.box 50003 0))),(3,(.one (.box 50004 0))),(4,wM)],[(50000,(.box [(.own 50001)])),(50002,(.box [(.fn 35 [50000])])),(50003,(.box [(.p false true (.sl (.st 22)))])),(50004,(.box [(.own 50005)])),(50001,q43),(50005,(.arr false false true .bool))]⟩,aN:=⟨[],[(50000,(.box [(.own 50001)])),(50001,q43),(50002,(.box [(.fn 35 [50000])])),(50003,(.box [(.p false true (.sl (.st 22)))])),(50004,(.box [(.own 50005)])),(50005,(.arr false false true .bool))]⟩,cu:=0,aS:=[50000,50001,50002,50003,50004,50005],news:=[] }
def ajX:iT:=(.seq .nil .nil)
def ajY:cZ:={ nargs:=2,pin:=⟨[(0,wM),(1,Cb)],[(50000,q6),(50001,q23)]⟩,aN:=⟨[(0,gV)],[(50000,(.box [(.p false true (.sl (.st 3))),(.p false true (.sl (.st 18))),(.p false true (.sl .str)),q0,q0,(.own 30),q0])),(30,q5)]⟩,cu:=1,aS:=[50000],news:=[30] }
def ajZ:iT:=(.seq .nil (.seq .nil (.seq .nil .nil)))
def ahl:TypeId→Option Ty:=fun t=>(([(1000045,(.prod (.st 0) .bool)),(3000009,.bool)]:List (Nat×Ty))++zo).lookup t
def aj0:cZ:={ nargs:=2,pin:=⟨[(0,wM),(1,q53)],[(50000,q6),(50001,q23)]⟩,aN:=⟨[],[(50000,q34),(50001,q5)]⟩,cu:=0,aS:=[50000,50001],news:=[] }
def aj1:iT:=.nil
def ahm:TypeId→Option Ty:=fun t=>(([(1000045,(.prod (.st 0) .bool))]:List (Nat×Ty))++zo).lookup t
def aj2:cZ:={ nargs:=3,pin:=⟨[(0,wM),(1,Cb),(2,(.agg [q1,q1,q1,q1]))],[(50000,q6),(50001,q23)]⟩,aN:=⟨[],[(50000,q34),(50001,q5)]⟩,cu:=0,aS:=[50000,50001],news:=[] }
def aj3:iT:=.nil
def ahn:TypeId→Option Ty:=fun t=>(([(1000045,(.prod (.st 0) .bool))]:List (Nat×Ty))++zo).lookup t
def abW:cZ:={ nargs:=2,pin:=⟨[(0,(.one (.own 55000))),(1,(.one q30))],[(55000,uI)]⟩,aN:=⟨[(0,q49)],[(100000,q41)]⟩,cu:=1,aS:=[],news:=[100000] }
def aj6:iT:=(.seq .nil (.seq (.seq .nil (.meet false ⟨[(0,.sl q49)],[(100000,.ob q41)]⟩ (.loop ⟨[(0,.sl q49),(1,.keep),(5,.sl gV)],[(100000,.ob q41)]⟩ (.seq (.seq .nil .nil) (.seq (.seq (.seq (.seq .nil (.meet false ⟨[(0,.sl (.one (.own 101000))),(1,.keep),(5,.keep)],[(101000,.ob q41)]⟩ .nil)) .nil) .nil) .nil))))) .nil))
def aj7:cZ:={ nargs:=2,pin:=⟨[(0,q32),(1,(.one q35))],[]⟩,aN:=⟨[(0,gV)],[]⟩,cu:=1,aS:=[],news:=[] }
def aj8:iT:=(.seq .nil (.seq (.seq .nil (.meet true ⟨[],[]⟩ (.loop ⟨[(1,.keep),(2,.keep),(5,.sl gV)],[(2,.keep)]⟩ (.seq (.seq .nil .nil) (.seq (.seq (.seq .nil (.seq .nil .nil)) .nil) .nil))))) .nil))
def aj9:cZ:={ nargs:=2,pin:=⟨[(0,q32),(1,(.one q35))],[]⟩,aN:=⟨[(0,gV)],[]⟩,cu:=1,aS:=[],news:=[] }
def aj_:iT:=(.seq .nil (.seq (.seq .nil (.meet true ⟨[],[]⟩ (.loop ⟨[(1,.keep),(2,.keep),(5,.sl gV)],[(2,.keep)]⟩ (.seq (.seq .nil .nil) (.seq (.seq (.seq .nil (.seq .nil .nil)) .nil) .nil))))) .nil))
def abX:cZ:={ nargs:=1,pin:=⟨[(0,(.one q30))],[]⟩,aN:=⟨[(0,gV)],[]⟩,cu:=1,aS:=[],news:=[] }
def akb:iT:=(.seq .nil (.seq .nil (.seq (.seq .nil (.meet false ⟨[(3,.sl gV)],[]⟩ (.loop ⟨[(0,.keep),(3,.sl gV),(4,.sl gV)],[]⟩ (.seq (.seq .nil .nil) (.seq .nil .nil))))) .nil)))
def akc:cZ:={ nargs:=2,pin:=⟨[(0,(.one q58)),(1,(.one q35))],[]⟩,aN:=⟨[(0,q4)],[]⟩,cu:=1,aS:=[],news:=[] }
def akd:iT:=(.seq .nil (.seq (.seq .nil (.meet true ⟨[],[]⟩ (.loop ⟨[(0,.keep),(1,.keep),(5,.sl gV)],[]⟩ (.seq (.seq .nil .nil) (.seq (.seq (.seq .nil (.seq .nil .nil)) .nil) .nil))))) .nil))
def ake:cZ:={ nargs:=2,pin:=⟨[(0,q32),(1,(.one q35))],[]⟩,aN:=⟨[(0,gV)],[]⟩,cu:=1,aS:=[],news:=[] }
def akf:iT:=(.seq .nil (.seq (.seq .nil (.seq .nil (.seq (.seq (.seq .nil (.seq .nil .nil)) .nil) .nil))) (.seq (.seq .nil (.seq .nil .nil)) .nil)))
def akg:cZ:={ nargs:=1,pin:=⟨[(0,(.agg [q1,q1,q1,q1]))],[]⟩,aN:=⟨[(0,(.one (.own 60000)))],[(60000,q11)]⟩,cu:=1,aS:=[],news:=[60000] }
def akh:iT:=(.seq .nil (.seq (.seq (.seq (.meet false ⟨[(1,.keep),(3,.sl q4)],[(1,.keep)]⟩ .nil) (.seq .nil (.seq (.meet false ⟨[(1,.keep),(19,.sl q4)],[(1,.keep)]⟩ .nil) (.seq .nil .nil)))) .nil) .nil))
def aki:cZ:={ nargs:=2,pin:=⟨[(0,wM),(1,(.one q35))],[(50000,q6),(50001,q23)]⟩,aN:=⟨[(0,gV)],[(50000,q34),(50001,q23)]⟩,cu:=1,aS:=[50000,50001],news:=[],kept:=[50001] }
def akj:iT:=(.seq .nil (.seq (.seq .nil (.meet true ⟨[],[(50000,.keep),(50001,.keep)]⟩ (.loop ⟨[(0,.keep),(1,.keep),(5,.sl gV)],[(50000,.keep),(50001,.keep)]⟩ (.seq (.seq .nil .nil) (.seq (.seq (.seq .nil (.seq .nil .nil)) .nil) .nil))))) .nil))
def aho:TypeId→Option Ty:=fun t=>(([(1000045,(.prod (.st 0) .bool)),(3000010,.bool)]:List (Nat×Ty))++zo).lookup t
def akk:cZ:={ nargs:=1,pin:=⟨[(0,q13)],[]⟩,aN:=⟨[(0,gV)],[]⟩,cu:=1,aS:=[],news:=[] }
def akl:iT:=(.seq .nil (.seq .nil (.seq (.seq .nil (.meet false ⟨[(3,.sl gV)],[]⟩ (.loop ⟨[(1,.keep),(3,.sl gV),(4,.sl gV)],[(1,.keep)]⟩ (.seq (.seq .nil .nil) (.seq .nil .nil))))) .nil)))
def akm:cZ:={ nargs:=2,pin:=⟨[(0,q13),(1,(.agg [q1,q1,q1,q1]))],[]⟩,aN:=⟨[(0,gV)],[]⟩,cu:=1,aS:=[],news:=[] }
def akn:iT:=(.seq .nil (.seq (.seq (.meet false ⟨[(2,.keep),(3,.keep),(14,.sl q4)],[(2,.keep),(3,.keep)]⟩ .nil) (.seq .nil .nil)) (.seq (.seq (.meet false ⟨[(2,.keep),(3,.keep),(29,.sl q4)],[(2,.keep),(3,.keep)]⟩ .nil) (.seq .nil .nil)) (.seq .nil (.seq (.seq .nil (.meet true ⟨[],[]⟩ (.loop ⟨[(2,.keep),(5,.keep),(6,.sl gV)],[(2,.keep),(31,.keep)]⟩ (.seq (.seq .nil .nil) (.seq (.seq (.seq (.meet false ⟨[(2,.keep),(5,.keep),(6,.keep),(52,.sl q4)],[(2,.keep),(31,.keep)]⟩ .nil) (.seq .nil .nil)) .nil) .nil))))) .nil)))))
def abY:cZ:={ nargs:=1,pin:=⟨[(0,q27)],[]⟩,aN:=⟨[(0,gV)],[]⟩,cu:=1,aS:=[],news:=[] }
def ako:iT:=(.seq .nil (.seq .nil (.seq (.seq .nil (.meet false ⟨[(3,.sl gV)],[]⟩ (.loop ⟨[(1,.keep),(3,.sl gV),(4,.sl gV)],[(1,.keep)]⟩ (.seq (.seq .nil .nil) (.seq .nil .nil))))) .nil)))
def akp:cZ:={ nargs:=3,pin:=⟨[(0,wM),(1,Cb),(2,Cb)],[(50000,q7),(50001,uI)]⟩,aN:=⟨[],[(50000,q12),(50001,uI)]⟩,cu:=0,aS:=[50000,50001],news:=[],kept:=[50001] }
def akq:iT:=(.seq .nil (.meet false ⟨[],[(50000,.ob (.box [(.p false true (.sl (.st 3))),(.p false true (.sl (.st 18))),(.own 50001),q57,q57])),(50001,.keep)]⟩ .nil))
def akr:cZ:={ nargs:=2,pin:=⟨[(0,wM),(1,(.one q35))],[(50000,q7),(50001,uI)]⟩,aN:=⟨[(0,gV)],[(50000,q12),(50001,uI)]⟩,cu:=1,aS:=[50000,50001],news:=[],kept:=[50001] }
def aks:iT:=(.seq .nil (.seq (.seq .nil (.seq .nil .nil)) .nil))
def abZ:cZ:={ nargs:=3,pin:=⟨[(0,wM),(1,q27),(2,Cb)],[(50000,q6),(50001,q23)]⟩,aN:=⟨[],[(50000,q51),(60001,q5)]⟩,cu:=0,aS:=[50000],news:=[60001] }
def akt:iT:=(.seq .nil (.seq .nil (.seq (.seq (.meet false ⟨[(0,.keep),(2,.keep),(4,.keep),(24,.sl q4)],[(50000,.keep),(4,.keep),(50001,.keep)]⟩ .nil) (.seq .nil .nil)) (.seq .nil (.seq .nil (.seq (.seq .nil (.meet false ⟨[],[(50000,.ob q26),(1033,.ob q5)]⟩ (.seq .nil (.seq .nil (.meet false ⟨[],[(50000,.ob q26),(1033,.ob q5)]⟩ (.seq .nil (.seq .nil (.meet false ⟨[],[(50000,.ob q26),(1033,.ob q5)]⟩ (.seq .nil (.seq .nil (.meet false ⟨[],[(50000,.ob q26),(1033,.ob q5)]⟩ (.seq .nil (.seq .nil (.meet false ⟨[],[(50000,.ob q26),(1033,.ob q5)]⟩ (.seq .nil (.seq .nil (.meet false ⟨[],[(50000,.ob q26),(1033,.ob q5)]⟩ (.seq .nil (.seq .nil (.meet false ⟨[],[(50000,.ob q26),(1033,.ob q5)]⟩ (.seq .nil (.seq .nil (.meet false ⟨[],[(50000,.ob q26),(1033,.ob q5)]⟩ (.seq .nil (.seq .nil (.meet false ⟨[],[(50000,.ob q26),(1033,.ob q5)]⟩ (.seq .nil (.seq .nil (.meet false ⟨[],[(50000,.ob q26),(1033,.ob q5)]⟩ .nil))))))))))))))))))))))))))))) .nil))))))
def ahp:TypeId→Option Ty:=fun t=>(([(1000045,(.prod (.st 0) .bool))]:List (Nat×Ty))++zo).lookup t
def ab1:cZ:={ nargs:=3,pin:=⟨[(0,wM),(1,q27),(2,Cb)],[(50000,q6),(50001,q23)]⟩,aN:=⟨[],[(50000,(.box [q10,q8,UL,q0,q0,(.own 61),q0])),(61,q5)]⟩,cu:=0,aS:=[50000],news:=[61] }
def aku:iT:=(.seq .nil (.seq .nil (.seq .nil (.seq .nil (.seq .nil (.seq .nil (.seq .nil (.seq .nil (.seq .nil (.seq .nil (.seq .nil (.seq .nil (.seq .nil (.seq (.seq .nil (.meet false ⟨[(0,.keep),(10,.keep),(11,.keep),(12,.keep)],[(50000,.ob (.box [q10,q8,UL,q0,q0,(.own 61),q0])),(61,.ob q5)]⟩ .nil)) .nil))))))))))))))
def ahq:TypeId→Option Ty:=fun t=>(([(1000045,(.prod (.st 0) .bool))]:List (Nat×Ty))++zo).lookup t
def ab2:cZ:={ nargs:=3,pin:=⟨[(0,wM),(1,(.one q42)),(2,Cb)],[(50000,q6),(50001,q23)]⟩,aN:=⟨[(0,Zh)],[(50000,(.box [q10,q8,UL,q0,q0,(.own 100002),q0])),(100001,M_),(100002,q5)]⟩,cu:=1,aS:=[50000],news:=[100001,100002] }
def akv:iT:=(.seq .nil (.seq .nil (.seq (.seq .nil (.meet false ⟨[(7,.sl Zh)],[(50000,.ob q31),(100001,.ob M_),(100002,.ob q5)]⟩ (.loop ⟨[(0,.keep),(1,.keep),(2,.keep),(7,.sl Zh),(8,.sl gV)],[(50000,.ob q31),(100001,.ob M_),(100002,.ob q5)]⟩ (.seq (.seq .nil .nil) (.seq (.seq .nil .nil) .nil))))) .nil)))
def ahr:TypeId→Option Ty:=fun t=>(([(1000045,(.prod (.st 0) .bool))]:List (Nat×Ty))++zo).lookup t
def akw:cZ:={ nargs:=1,pin:=⟨[(0,q53)],[]⟩,aN:=⟨[(0,(.one (.own 60000)))],[(60000,q11)]⟩,cu:=1,aS:=[],news:=[60000] }
def akx:iT:=(.seq .nil (.seq (.seq .nil (.seq (.seq (.seq .nil (.meet false ⟨[(1,.keep),(4,.keep),(5,.sl q4)],[(1,.keep)]⟩ (.seq .nil (.seq .nil (.meet false ⟨[(1,.keep),(4,.keep),(5,.sl q4)],[(1,.keep)]⟩ (.seq .nil (.seq .nil (.meet false ⟨[(1,.keep),(4,.keep),(5,.sl q4)],[(1,.keep)]⟩ (.seq .nil (.seq .nil (.meet false ⟨[(1,.keep),(4,.keep),(5,.sl q4)],[(1,.keep)]⟩ .nil))))))))))) (.seq .nil (.seq (.seq .nil (.meet false ⟨[(1,.keep),(4,.keep),(14,.sl q4)],[(1,.keep)]⟩ .nil)) (.seq .nil (.seq .nil (.seq .nil (.seq .nil (.seq .nil .nil)))))))) .nil)) .nil))
def aky:cZ:={ nargs:=1,pin:=⟨[(0,q53)],[]⟩,aN:=⟨[(0,gV),(1,q4)],[]⟩,cu:=2,aS:=[],news:=[] }
def akz:iT:=(.seq .nil (.seq (.seq .nil (.seq (.seq (.seq .nil (.meet false ⟨[(1,.keep),(6,.sl q4)],[(1,.keep)]⟩ (.seq .nil (.seq .nil (.meet false ⟨[(1,.keep),(6,.sl q4)],[(1,.keep)]⟩ (.seq .nil (.seq .nil (.meet false ⟨[(1,.keep),(6,.sl q4)],[(1,.keep)]⟩ .nil)))))))) (.seq .nil .nil)) .nil)) (.seq (.seq (.meet false ⟨[(1,.keep),(18,.sl q4)],[(1,.keep)]⟩ .nil) (.seq .nil .nil)) .nil)))
def akA:cZ:={ nargs:=3,pin:=⟨[(0,q20),(1,Cb),(2,(.one (.p true false .bool)))],[]⟩,aN:=⟨[(0,q4)],[]⟩,cu:=1,aS:=[],news:=[] }
def akB:iT:=(.seq .nil (.seq (.meet false ⟨[(6,.sl q4)],[]⟩ .nil) .nil))
def akC:cZ:={ nargs:=4,pin:=⟨[(0,wM),(1,q27),(2,Cb),(3,Cb)],[(50000,q7),(50001,uI)]⟩,aN:=⟨[],[(50000,q12),(50001,uI)]⟩,cu:=0,aS:=[50000,50001],news:=[],kept:=[50001] }
def akD:iT:=(.seq .nil (.seq .nil (.seq (.seq .nil (.meet false ⟨[],[(50000,.ob q12),(50001,.keep)]⟩ (.seq .nil (.seq (.meet false ⟨[(0,.keep),(5,.keep),(20,.sl q4)],[(50000,.keep),(50001,.keep),(5,.keep)]⟩ .nil) (.meet false ⟨[],[(50000,.ob q12),(50001,.keep)]⟩ .nil))))) .nil)))
def akE:cZ:={ nargs:=3,pin:=⟨[(0,wM),(1,(.one q35)),(2,Cb)],[(50000,q7),(50001,uI)]⟩,aN:=⟨[(0,(.agg [q0,q0,q0,q0,Pv,.bC]))],[(50000,q12),(50001,uI)]⟩,cu:=1,aS:=[50000,50001],news:=[],kept:=[50001] }
def akF:iT:=(.seq .nil (.seq .nil (.seq (.seq .nil (.meet false ⟨[(1,.keep),(2,.keep),(6,.keep),(7,.sl gV)],[(50000,.keep),(50001,.keep),(6,.keep)]⟩ .nil)) .nil)))
def ab3:cZ:={ nargs:=2,pin:=⟨[(0,wM),(1,q27)],[(50000,q7),(50001,uI)]⟩,aN:=⟨[(0,(.agg [q0,q0,q0,q0,Pv,(.own 60002)]))],[(50000,q12),(50001,uI),(60002,q48)]⟩,cu:=1,aS:=[50000,50001],news:=[60002],kept:=[50001] }
def akG:iT:=(.seq .nil (.seq (.seq .nil (.seq (.seq .nil (.seq (.seq .nil .nil) (.seq .nil (.meet true ⟨[(0,.keep),(3,.keep),(4,.keep)],[(50000,.ob q7),(50001,.keep),(3,.keep),(4,.keep)]⟩ (.seq .nil (.seq .nil (.meet true ⟨[(0,.keep),(3,.keep),(4,.keep)],[(50000,.ob q7),(50001,.keep),(3,.keep),(4,.keep)]⟩ (.seq .nil (.seq .nil (.meet true ⟨[(0,.keep),(3,.keep),(4,.keep)],[(50000,.ob q7),(50001,.keep),(3,.keep),(4,.keep)]⟩ (.seq (.seq .nil (.seq (.seq .nil (.meet true ⟨[(0,.keep),(3,.keep),(4,.keep)],[(50000,.ob q12),(50001,.keep),(3,.keep),(4,.keep)]⟩ (.seq .nil (.seq .nil (.meet true ⟨[(0,.keep),(3,.keep),(4,.keep)],[(50000,.ob q12),(50001,.keep),(3,.keep),(4,.keep)]⟩ (.seq .nil (.seq .nil (.seq (.seq .nil (.meet false ⟨[(0,.keep),(3,.keep),(4,.keep)],[(50000,.ob q12),(50001,.keep),(3,.keep),(4,.keep)]⟩ .nil)) (.seq (.seq .nil (.meet false ⟨[(0,.keep),(3,.keep),(4,.keep)],[(50000,.ob q12),(50001,.keep),(3,.keep),(4,.keep)]⟩ .nil)) .nil))))))))) .nil)) (.seq .nil (.meet false ⟨[(0,.keep),(3,.keep),(4,.keep)],[(50000,.ob q7),(50001,.keep),(3,.keep),(4,.keep)]⟩ (.seq (.seq .nil (.meet false ⟨[(0,.keep),(3,.keep),(4,.keep)],[(50000,.ob q7),(50001,.keep),(3,.keep),(4,.keep)]⟩ .nil)) .nil)))))))))))))) .nil)) (.seq .nil .nil)))
def ab4:cZ:={ nargs:=2,pin:=⟨[(0,wM),(1,(.one q42))],[(50000,q7),(50001,uI)]⟩,aN:=⟨[(0,(.one (.own 100002)))],[(50000,q12),(50001,uI),(100002,q48)]⟩,cu:=1,aS:=[50000,50001],news:=[100002],kept:=[50001] }
def akH:iT:=(.seq .nil (.seq .nil (.seq (.seq .nil (.meet false ⟨[(5,.sl (.one (.own 100002)))],[(50000,.ob q7),(50001,.keep),(100002,.ob q48)]⟩ (.loop ⟨[(0,.keep),(1,.keep),(5,.sl (.one (.own 100002))),(6,.sl gV)],[(50000,.ob q7),(50001,.keep),(100002,.ob q48)]⟩ (.seq (.seq .nil .nil) (.seq .nil .nil))))) .nil)))
def akI:cZ:={ nargs:=3,pin:=⟨[(0,Cb),(1,(.one q35)),(2,q27)],[]⟩,aN:=⟨[(0,(.agg [q0,q0,Pv,(.own 10),.bC,.bC]))],[(10,(.arr false true false (.st 20)))]⟩,cu:=1,aS:=[],news:=[10] }
def akJ:iT:=(.seq .nil .nil)
def akK:cZ:={ nargs:=2,pin:=⟨[(0,wM),(1,(.one (.p true false .bool)))],[(50000,q9),(50001,q16),(50002,Io),(50003,q22),(50004,uI)]⟩,aN:=⟨[(0,(.one Pv)),(1,q4)],[(50000,q33),(50001,q3),(50002,Io),(50003,q22),(50004,uI)]⟩,cu:=2,aS:=[50000,50001,50002,50003,50004],news:=[],kept:=[50002,50003,50004] }
def akL:iT:=(.seq .nil (.seq .nil (.seq (.seq .nil (.meet false ⟨[(0,.keep),(6,.sl (.one (.own 100005)))],[(50000,.keep),(50001,.keep),(50002,.keep),(50003,.keep),(50004,.keep),(100005,.ob uI)]⟩ (.loop ⟨[(0,.keep),(1,.keep),(6,.sl (.one (.own 100005))),(7,.sl gV)],[(50000,.keep),(50001,.keep),(50002,.keep),(50003,.keep),(50004,.keep),(100005,.ob uI)]⟩ (.seq (.seq .nil .nil) (.seq (.seq (.seq .nil (.meet false ⟨[(0,.keep),(1,.keep),(6,.sl (.one (.own 101005))),(7,.keep)],[(50000,.keep),(50001,.keep),(50002,.keep),(50003,.keep),(50004,.keep),(101005,.ob uI)]⟩ .nil)) .nil) .nil))))) (.seq (.seq .nil (.seq .nil .nil)) .nil))))
def akM:cZ:={ nargs:=0,pin:=⟨[],[]⟩,aN:=⟨[(0,(.one (.own 1)))],[(1,q56)]⟩,cu:=1,aS:=[],news:=[1] }
def akN:iT:=(.seq .nil .nil)
def akO:cZ:={ nargs:=1,pin:=⟨[(0,wM)],[(50000,q9),(50001,q16),(50002,Io),(50003,q22),(50004,uI)]⟩,aN:=⟨[(0,(.agg [q0,q0,q0,q0,Pv,.bC]))],[(50000,q33),(50001,q3),(50002,Io),(50003,q22),(50004,uI)]⟩,cu:=1,aS:=[50000,50001,50002,50003,50004],news:=[],kept:=[50002,50003,50004] }
def akP:iT:=(.seq .nil (.seq .nil (.seq (.seq .nil (.seq (.seq .nil (.seq .nil (.seq .nil (.meet true ⟨[(2,.keep),(3,.keep)],[(50000,.ob q9),(50001,.ob q3),(50002,.keep),(50003,.keep),(50004,.keep),(2,.keep)]⟩ (.seq (.seq .nil (.seq .nil (.seq .nil .nil))) (.seq (.seq .nil (.meet false ⟨[(0,.keep),(2,.keep),(3,.keep),(26,.sl q4)],[(50000,.keep),(50001,.keep),(50002,.keep),(50003,.keep),(50004,.keep),(2,.keep)]⟩ .nil)) (.meet true ⟨[(2,.keep),(3,.keep)],[(50000,.keep),(50001,.keep),(50002,.keep),(50003,.keep),(50004,.keep),(2,.keep)]⟩ (.seq (.seq .nil (.seq .nil .nil)) .nil)))))))) .nil)) (.seq .nil (.seq (.seq .nil (.meet false ⟨[(2,.keep),(6,.sl gV)],[(50000,.keep),(50001,.ob q3),(50002,.keep),(50003,.keep),(50004,.keep),(2,.keep)]⟩ .nil)) .nil)))))
def akQ:cZ:={ nargs:=3,pin:=⟨[(0,Cb),(1,Cb),(2,(.one q42))],[]⟩,aN:=⟨[(0,(.agg [q0,q0,q0,q0,Pv,q42]))],[]⟩,cu:=1,aS:=[],news:=[] }
def akR:iT:=(.seq .nil .nil)
def akS:cZ:={ nargs:=1,pin:=⟨[(0,q13)],[]⟩,aN:=⟨[(0,(.one (.own 35)))],[(35,q37)]⟩,cu:=1,aS:=[],news:=[35] }
def akT:iT:=(.seq .nil (.seq .nil (.seq (.seq .nil (.meet false ⟨[(1,.keep),(3,.keep)],[(1,.keep),(3,.keep),(16,.ob M_)]⟩ (.loop ⟨[(1,.keep),(3,.keep),(18,.keep),(19,.sl gV)],[(1,.keep),(3,.keep),(16,.ob M_)]⟩ (.seq .nil (.seq .nil (.seq (.seq .nil .nil) .nil)))))) (.seq .nil (.seq (.meet false ⟨[(3,.keep),(5,.keep),(6,.sl (.one (.box 6 0))),(7,.sl gV)],[(3,.keep),(5,.keep),(6,.ob q45),(16,.keep)]⟩ .nil) (.seq .nil (.seq .nil (.seq (.seq .nil (.meet false ⟨[(7,.keep),(8,.keep),(9,.keep)],[(8,.ob (.box [(.own 35)])),(5,.ob (.box [(.fn 35 [3])])),(6,.ob q45),(3,.ob (.box [(.own 16)])),(35,.ob q37),(16,.ob q11)]⟩ (.loop ⟨[(6,.keep),(7,.keep),(8,.keep),(9,.keep),(10,.sl gV)],[(6,.ob q45),(8,.ob (.box [(.own 35)])),(5,.ob (.box [(.fn 35 [3])])),(3,.ob (.box [(.own 16)])),(35,.ob q37),(16,.ob q11)]⟩ (.seq (.seq .nil .nil) (.seq .nil .nil))))) (.seq (.seq .nil (.meet false ⟨[(8,.keep),(9,.keep)],[(8,.ob (.box [(.own 35)])),(5,.ob (.box [(.fn 35 [3])])),(6,.ob q45),(3,.ob (.box [(.own 16)])),(35,.ob q37),(16,.ob q11)]⟩ (.loop ⟨[(7,.keep),(8,.keep),(9,.keep),(11,.sl gV)],[(8,.ob (.box [(.own 35)])),(5,.ob (.box [(.fn 35 [3])])),(6,.ob q45),(3,.ob (.box [(.own 16)])),(35,.ob q37),(16,.ob q11)]⟩ (.seq (.seq .nil .nil) (.seq .nil .nil))))) (.seq .nil .nil))))))))))
def akU:cZ:={ nargs:=1,pin:=⟨[(0,(.agg [q35,q1,q58,q30]))],[]⟩,aN:=⟨[(0,(.one (.own 8)))],[(8,(.arr false true false .str))]⟩,cu:=1,aS:=[],news:=[8] }
def akV:iT:=(.seq .nil .nil)
def ab5:cZ:={ nargs:=2,pin:=⟨[(0,wM),(1,(.one q30))],[(50000,q6),(50001,q23)]⟩,aN:=⟨[(0,q4)],[(50000,q51),(60001,q5)]⟩,cu:=1,aS:=[50000],news:=[60001] }
def akW:iT:=(.seq .nil (.seq (.seq .nil (.meet true ⟨[],[(50000,.ob (.box [q10,q8,UL,q2,q2,(.own 100001),q2])),(100001,.ob q5)]⟩ (.loop ⟨[(0,.keep),(1,.keep),(5,.sl gV)],[(50000,.ob (.box [q10,q8,UL,q2,q2,(.own 100001),q2])),(100001,.ob q5)]⟩ (.seq (.seq .nil .nil) (.seq (.seq (.seq .nil (.seq .nil .nil)) .nil) .nil))))) .nil))
def ahs:TypeId→Option Ty:=fun t=>(([(1000045,(.prod (.st 0) .bool))]:List (Nat×Ty))++zo).lookup t
def ab6:cZ:={ nargs:=2,pin:=⟨[(0,wM),(1,q64)],[(50000,q6),(50001,q23)]⟩,aN:=⟨[(0,q4)],[(50000,q51),(60001,q5)]⟩,cu:=1,aS:=[50000],news:=[60001] }
def akX:iT:=(.seq .nil (.seq .nil (.seq (.seq .nil (.seq (.seq .nil .nil) .nil)) (.seq (.seq .nil (.meet false ⟨[(0,.keep),(3,.keep),(5,.keep)],[(50000,.ob q31),(3,.keep),(100002,.ob q5)]⟩ (.loop ⟨[(0,.keep),(3,.keep),(5,.keep),(6,.sl gV)],[(50000,.ob q31),(3,.keep),(100002,.ob q5)]⟩ (.seq (.seq .nil .nil) (.seq .nil .nil))))) (.seq (.seq .nil (.seq (.seq (.seq .nil (.meet false ⟨[(0,.keep),(3,.keep),(5,.keep),(38,.keep),(39,.sl q4)],[(50000,.keep),(3,.keep),(100002,.keep)]⟩ .nil)) (.meet true ⟨[],[(50000,.ob q31),(100002,.ob q5)]⟩ (.seq (.seq .nil (.seq .nil (.meet false ⟨[],[(50000,.ob (.box [q10,q8,UL,q0,q0,(.own 100002),q0])),(100002,.ob q5)]⟩ .nil))) (.seq .nil (.meet true ⟨[],[(50000,.ob q31),(100002,.ob q5)]⟩ (.seq .nil (.seq .nil (.seq (.seq .nil .nil) (.seq .nil (.meet true ⟨[],[(50000,.ob q31),(100002,.ob q5)]⟩ (.seq .nil (.seq .nil (.seq .nil .nil))))))))))))) .nil)) .nil)))))
def aht:TypeId→Option Ty:=fun t=>(([(1000045,(.prod (.st 0) .bool)),(3000022,.bool),(3000011,.bool)]:List (Nat×Ty))++zo).lookup t
def ab7:cZ:={ nargs:=3,pin:=⟨[(0,wM),(1,q64),(2,Cb)],[(50000,q6),(50001,q23)]⟩,aN:=⟨[],[(50000,(.box [q10,q8,UL,q0,q0,(.own 57),q0])),(57,q5)]⟩,cu:=0,aS:=[50000],news:=[57] }
def akY:iT:=(.seq .nil (.seq .nil (.seq .nil (.seq .nil (.seq .nil (.seq .nil (.seq .nil (.seq (.seq .nil (.meet false ⟨[(0,.keep),(2,.keep),(4,.keep),(8,.keep),(9,.keep)],[(50000,.ob (.box [q10,q8,UL,q0,q0,(.own 41),q0])),(4,.keep),(41,.ob q5)]⟩ .nil)) .nil))))))))
def ahu:TypeId→Option Ty:=fun t=>(([(1000045,(.prod (.st 0) .bool))]:List (Nat×Ty))++zo).lookup t
def ab8:cZ:={ nargs:=3,pin:=⟨[(0,wM),(1,q64),(2,Cb)],[(50000,q6),(50001,q23)]⟩,aN:=⟨[(0,q4)],[(50000,q51),(60001,q5)]⟩,cu:=1,aS:=[50000],news:=[60001] }
def akZ:iT:=(.seq .nil (.seq .nil (.seq .nil (.seq .nil (.seq .nil (.seq (.seq .nil (.seq (.seq .nil (.seq .nil (.seq (.seq .nil (.meet false ⟨[],[(50000,.ob (.box [q10,q8,UL,q0,q0,(.own 39),q0])),(39,.ob q5)]⟩ .nil)) .nil))) .nil)) (.seq .nil (.seq .nil (.seq .nil (.seq .nil (.seq (.seq (.meet false ⟨[(0,.keep),(4,.keep),(9,.keep),(10,.keep),(13,.keep),(14,.keep),(77,.sl q4)],[(50000,.keep),(4,.keep),(67,.keep)]⟩ .nil) (.seq .nil .nil)) (.seq .nil (.seq (.seq .nil (.meet false ⟨[(0,.keep),(13,.keep),(14,.keep),(15,.keep)],[(50000,.ob (.box [q10,q8,UL,q0,q0,(.own 81),q0])),(81,.ob q5)]⟩ .nil)) (.seq (.seq .nil (.meet false ⟨[],[(50000,.ob (.box [q10,q8,UL,q0,q0,(.own 81),q0])),(81,.ob q5)]⟩ .nil)) .nil))))))))))))))
def ahv:TypeId→Option Ty:=fun t=>(([(1000045,(.prod (.st 0) .bool)),(3000033,.bool)]:List (Nat×Ty))++zo).lookup t
def ak0:cZ:={ nargs:=1,pin:=⟨[(0,q13)],[]⟩,aN:=⟨[(0,(.one (.own 11)))],[(11,q50)]⟩,cu:=1,aS:=[],news:=[11] }
def ak1:iT:=(.seq .nil (.seq .nil (.seq (.seq .nil (.seq .nil .nil)) (.seq .nil (.seq .nil (.seq (.meet false ⟨[(3,.keep)],[(11,.ob q50)]⟩ (.loop ⟨[(1,.keep),(3,.keep),(4,.sl (.one (.own 100002)))],[(1,.keep),(11,.ob q50),(100002,.ob q11)]⟩ (.seq (.seq .nil .nil) (.seq (.seq .nil (.seq .nil (.seq .nil (.seq .nil (.meet false ⟨[(1,.keep),(3,.keep),(4,.sl (.one (.own 101002)))],[(1,.keep),(11,.ob q50),(101002,.ob q11)]⟩ (.loop ⟨[(1,.keep),(3,.keep),(4,.sl (.one (.own 101002))),(6,.keep),(7,.sl gV)],[(1,.keep),(11,.ob q50),(101002,.ob q11),(39,.keep)]⟩ (.seq (.seq .nil .nil) (.seq (.seq (.seq .nil (.meet false ⟨[(1,.keep),(3,.keep),(4,.sl (.one (.own 102002))),(6,.keep),(7,.keep)],[(1,.keep),(11,.ob q50),(102002,.ob q11),(39,.keep)]⟩ (.seq .nil .nil))) .nil) .nil)))))))) .nil)))) .nil))))))
def ahw:TypeId→Option Ty:=fun t=>(([(2000000,.bool)]:List (Nat×Ty))++zo).lookup t
def ab9:cZ:={ nargs:=2,pin:=⟨[(0,wM),(1,(.one q30))],[(50000,q7),(50001,uI)]⟩,aN:=⟨[(0,Zh)],[(50000,q46),(100001,q68),(100002,q41)]⟩,cu:=1,aS:=[50000],news:=[100001,100002] }
def ak2:iT:=(.seq .nil (.seq .nil (.seq (.seq .nil (.meet false ⟨[(5,.sl Zh)],[(50000,.ob q47),(100001,.ob q68),(100002,.ob q41)]⟩ (.loop ⟨[(0,.keep),(1,.keep),(5,.sl Zh),(6,.sl gV)],[(50000,.ob q47),(100001,.ob q68),(100002,.ob q41)]⟩ (.seq (.seq .nil .nil) (.seq (.seq (.seq .nil (.seq .nil (.seq (.seq .nil (.meet false ⟨[(0,.keep),(1,.keep),(5,.keep),(6,.keep),(7,.keep),(8,.sl (.one (.own 101003)))],[(50000,.ob q47),(100001,.keep),(7,.keep),(101003,.ob q48),(100002,.keep)]⟩ (.loop ⟨[(0,.keep),(1,.keep),(5,.keep),(6,.keep),(7,.keep),(8,.sl (.one (.own 101003))),(9,.sl gV)],[(50000,.ob q47),(100001,.keep),(7,.keep),(101003,.ob q48),(100002,.keep)]⟩ (.seq (.seq .nil .nil) (.seq (.seq (.seq (.seq .nil (.meet false ⟨[(0,.keep),(1,.keep),(5,.keep),(6,.keep),(7,.keep),(8,.keep),(9,.keep)],[(50000,.ob q47),(100001,.keep),(7,.keep),(101003,.keep),(100002,.keep)]⟩ .nil)) .nil) .nil) .nil))))) (.seq .nil (.seq .nil (.seq (.seq .nil (.seq (.seq .nil (.meet false ⟨[(0,.keep),(1,.keep),(5,.keep),(6,.keep),(7,.keep)],[(50000,.ob (.box [q10,q8,(.own 110003),q0,q0])),(100001,.keep),(7,.keep),(110003,.ob q41),(101003,.keep)]⟩ (.seq (.seq (.seq .nil (.meet false ⟨[(0,.keep),(1,.keep),(5,.keep),(6,.keep),(7,.keep)],[(50000,.ob q46),(100001,.keep),(7,.keep),(100002,.keep),(101003,.keep)]⟩ .nil)) .nil) (.seq (.seq .nil (.meet false ⟨[(0,.keep),(1,.keep),(5,.keep),(6,.keep),(7,.keep),(10,.keep),(80,.sl q4)],[(50000,.keep),(100001,.keep),(7,.keep),(100002,.keep),(101003,.keep)]⟩ .nil)) (.meet false ⟨[(0,.keep),(1,.keep),(5,.keep),(6,.keep),(7,.keep)],[(50000,.ob q46),(100001,.keep),(7,.keep),(100002,.keep),(101003,.keep)]⟩ (.seq (.seq .nil (.meet false ⟨[(0,.keep),(1,.keep),(5,.keep),(6,.keep),(7,.keep)],[(50000,.ob q46),(100001,.keep),(7,.keep),(100002,.keep),(101003,.keep)]⟩ (.seq .nil (.seq (.meet false ⟨[(0,.keep),(1,.keep),(5,.keep),(6,.keep),(7,.keep),(108,.sl q4)],[(50000,.keep),(100001,.keep),(7,.keep),(100002,.keep),(101003,.keep)]⟩ .nil) (.meet false ⟨[(0,.keep),(1,.keep),(5,.keep),(6,.keep),(7,.keep)],[(50000,.ob q46),(100001,.keep),(7,.keep),(100002,.keep),(101003,.keep)]⟩ .nil))))) .nil)))))) .nil)) (.seq .nil .nil))))))) .nil) .nil))))) .nil)))
def ak3:cZ:={ nargs:=3,pin:=⟨[(0,q20),(1,q13),(2,q53)],[]⟩,aN:=⟨[(0,gV)],[]⟩,cu:=1,aS:=[],news:=[] }
def ak4:iT:=(.seq .nil (.seq (.seq (.meet false ⟨[(3,.keep),(4,.keep),(5,.keep),(48,.sl q4)],[(3,.keep),(4,.keep),(5,.keep)]⟩ .nil) (.seq .nil .nil)) (.seq .nil (.seq (.seq .nil (.seq .nil (.meet false ⟨[(3,.keep),(4,.keep),(5,.keep),(7,.sl (.one (.own 101003)))],[(3,.keep),(4,.keep),(5,.keep),(101003,.ob q11)]⟩ .nil))) (.seq (.seq .nil (.meet true ⟨[(3,.keep),(5,.keep)],[(3,.keep),(5,.keep)]⟩ (.loop ⟨[(3,.keep),(4,.keep),(5,.keep),(7,.keep),(10,.sl gV)],[(3,.keep),(4,.keep),(5,.keep),(101003,.keep)]⟩ (.seq (.seq .nil .nil) (.seq (.seq (.seq (.meet false ⟨[(3,.keep),(4,.keep),(5,.keep),(7,.keep),(10,.keep),(80,.sl q4)],[(3,.keep),(4,.keep),(5,.keep),(101003,.keep)]⟩ .nil) (.seq .nil .nil)) .nil) .nil))))) (.seq (.seq .nil (.seq (.seq (.seq .nil (.meet false ⟨[(3,.keep),(5,.keep),(82,.keep),(83,.sl q4)],[(3,.keep),(5,.keep)]⟩ .nil)) (.meet true ⟨[],[]⟩ (.seq (.seq .nil (.seq .nil .nil)) (.seq (.seq .nil (.meet false ⟨[(3,.keep),(5,.keep),(82,.keep),(91,.sl q4)],[(3,.keep),(5,.keep)]⟩ .nil)) (.meet true ⟨[],[]⟩ (.seq (.seq .nil (.seq .nil .nil)) (.seq .nil (.meet true ⟨[],[]⟩ (.seq (.seq (.seq (.meet false ⟨[(3,.keep),(5,.keep),(111,.sl q4)],[(3,.keep),(5,.keep)]⟩ .nil) (.seq .nil .nil)) (.seq .nil (.seq .nil .nil))) (.seq .nil (.meet true ⟨[],[]⟩ (.seq (.seq .nil (.seq .nil .nil)) (.seq .nil (.meet true ⟨[],[]⟩ (.seq (.seq (.meet false ⟨[(140,.sl q4)],[]⟩ .nil) (.seq .nil .nil)) (.seq .nil (.meet true ⟨[],[]⟩ (.seq (.seq (.meet false ⟨[(152,.sl q4)],[]⟩ .nil) (.seq .nil .nil)) .nil)))))))))))))))))) .nil)) .nil))))))
def ak5:cZ:={ nargs:=1,pin:=⟨[(0,wM)],[(50000,q9),(50001,q16),(50002,Io),(50003,q22),(50004,uI)]⟩,aN:=⟨[(0,(.one Pv)),(1,q4)],[(50000,q33),(50001,q3),(50002,Io),(50003,q22),(50004,uI)]⟩,cu:=2,aS:=[50000,50001,50002,50003,50004],news:=[],kept:=[50002,50003,50004] }
def ak6:iT:=(.seq .nil (.seq .nil (.seq (.seq .nil (.meet true ⟨[],[(50000,.keep),(50001,.keep),(50002,.keep),(50003,.keep),(50004,.keep)]⟩ (.loop ⟨[(0,.keep),(4,.keep),(5,.sl gV)],[(50000,.keep),(50001,.keep),(50002,.keep),(50003,.keep),(50004,.keep),(8,.keep)]⟩ (.seq (.seq .nil .nil) (.seq (.seq (.seq .nil (.seq (.seq .nil (.meet false ⟨[(0,.keep),(4,.keep),(5,.keep),(6,.sl q4)],[(50000,.keep),(50001,.keep),(50002,.keep),(50003,.keep),(50004,.keep),(8,.keep)]⟩ (.loop ⟨[(0,.keep),(4,.keep),(5,.keep),(6,.sl q4),(7,.sl gV)],[(50000,.keep),(50001,.keep),(50002,.keep),(50003,.keep),(50004,.keep),(8,.keep)]⟩ (.seq (.seq .nil .nil) (.seq (.seq (.meet false ⟨[(0,.keep),(4,.keep),(5,.keep),(6,.sl q4),(7,.keep)],[(50000,.keep),(50001,.keep),(50002,.keep),(50003,.keep),(50004,.keep),(8,.keep)]⟩ .nil) .nil) .nil))))) (.seq .nil (.seq .nil .nil)))) .nil) .nil))))) .nil)))
def ab_:cZ:={ nargs:=2,pin:=⟨[(0,wM),(1,Cb)],[(50000,q9),(50001,q16),(50002,Io),(50003,q22),(50004,uI)]⟩,aN:=⟨[(0,(.agg [q0,q0,q0,q0,Pv,(.p false true (.sl (.st 20)))]))],[(50000,q33),(50001,q3),(50002,Io),(50003,q22),(50004,uI)]⟩,cu:=1,aS:=[50000,50001,50002,50003,50004],news:=[],kept:=[50002,50003,50004] }
def ak7:iT:=(.seq .nil (.seq .nil (.seq (.seq (.meet false ⟨[(0,.keep),(1,.keep),(4,.keep),(5,.keep),(18,.sl q4)],[(50000,.keep),(50001,.ob q16),(50002,.keep),(50003,.keep),(50004,.keep),(4,.keep)]⟩ .nil) (.seq .nil .nil)) (.seq (.seq .nil (.seq (.seq .nil (.seq .nil (.seq .nil (.seq .nil (.seq .nil (.seq .nil (.seq (.seq .nil (.meet false ⟨[(0,.keep),(1,.keep),(4,.keep),(5,.keep),(22,.keep),(58,.sl q4)],[(50000,.keep),(50001,.keep),(50002,.keep),(50003,.keep),(50004,.keep),(4,.keep)]⟩ .nil)) (.seq .nil (.seq .nil (.meet true ⟨[(0,.keep),(1,.keep),(4,.keep),(5,.keep)],[(50000,.ob q9),(50001,.ob q3),(50002,.keep),(50003,.keep),(50004,.keep),(4,.keep)]⟩ (.seq (.seq .nil (.seq .nil (.seq .nil .nil))) .nil))))))))))) .nil)) .nil))))
def acd:cZ:={ nargs:=2,pin:=⟨[(0,wM),(1,Cb)],[(50000,q9),(50001,q16),(50002,Io),(50003,q22),(50004,uI)]⟩,aN:=⟨[(0,(.agg [q0,q0,q0,q0,Pv,(.own 60005)]))],[(50000,q33),(50001,q3),(50002,Io),(50003,q22),(50004,uI),(60005,q52)]⟩,cu:=1,aS:=[50000,50001,50002,50003,50004],news:=[60005],kept:=[50002,50003,50004] }
def ak8:iT:=(.seq .nil (.seq .nil (.seq .nil (.seq .nil (.seq (.seq (.meet false ⟨[(0,.keep),(1,.keep),(4,.keep),(5,.keep),(6,.keep),(7,.keep),(46,.sl q4)],[(50000,.keep),(50001,.ob q3),(50002,.keep),(50003,.keep),(50004,.keep),(4,.keep),(5,.keep)]⟩ .nil) (.meet false ⟨[(0,.keep),(1,.keep),(4,.keep),(5,.keep),(6,.sl gV),(7,.keep)],[(50000,.keep),(50001,.ob q3),(50002,.keep),(50003,.keep),(50004,.keep),(4,.keep),(5,.keep)]⟩ .nil)) (.seq .nil (.seq (.seq .nil (.meet false ⟨[(0,.keep),(1,.keep),(4,.keep),(5,.keep),(7,.keep),(8,.sl (.one (.own 102007)))],[(50000,.ob q9),(50001,.ob q3),(50002,.keep),(50003,.keep),(50004,.keep),(4,.keep),(5,.keep),(102007,.ob q52)]⟩ (.loop ⟨[(0,.keep),(1,.keep),(4,.keep),(5,.keep),(6,.keep),(7,.keep),(8,.sl (.one (.own 102007))),(9,.sl gV)],[(50000,.ob q9),(50001,.ob q3),(50002,.keep),(50003,.keep),(50004,.keep),(4,.keep),(5,.keep),(102007,.ob q52)]⟩ (.seq (.seq .nil .nil) (.seq .nil .nil))))) (.seq (.seq .nil (.seq .nil .nil)) (.seq .nil (.seq (.seq .nil (.meet false ⟨[(4,.keep),(8,.keep),(10,.keep)],[(50000,.ob q9),(50001,.ob q3),(50002,.keep),(50003,.keep),(50004,.keep),(4,.keep),(102007,.keep),(10,.ob (.box [q0,q0,q0,q0,(.p false true .str),(.p false true (.sl (.st 20)))]))]⟩ .nil)) (.seq (.seq .nil (.seq .nil .nil)) .nil)))))))))))
def ace:cZ:={ nargs:=3,pin:=⟨[(0,wM),(1,Cb),(2,Cb)],[(50000,q9),(50001,q16),(50002,Io),(50003,q22),(50004,uI)]⟩,aN:=⟨[(0,(.one (.own 100004)))],[(50000,(.box [(.box 50001 0),(.own 50002),(.own 50003),(.own 100005),q0])),(50001,q3),(50002,Io),(50003,q22),(100004,q39),(100005,uI)]⟩,cu:=1,aS:=[50000,50001,50002,50003],news:=[100004,100005],kept:=[50002,50003] }
def ak9:iT:=(.seq .nil (.seq .nil (.seq (.seq .nil (.meet false ⟨[(7,.sl (.one (.own 100004)))],[(50000,.ob q63),(50001,.ob q16),(50002,.keep),(50003,.keep),(100004,.ob q39),(100005,.ob uI)]⟩ (.loop ⟨[(0,.keep),(1,.keep),(2,.keep),(7,.sl (.one (.own 100004))),(8,.sl gV)],[(50000,.ob q63),(50001,.ob q16),(50002,.keep),(50003,.keep),(100004,.ob q39),(100005,.ob uI)]⟩ (.seq (.seq (.meet false ⟨[(0,.keep),(1,.keep),(2,.keep),(7,.keep),(8,.keep),(18,.sl q4)],[(50000,.keep),(50001,.keep),(50002,.keep),(50003,.keep),(100004,.keep),(100005,.keep)]⟩ .nil) .nil) (.seq (.seq .nil .nil) .nil))))) .nil)))
def acf:cZ:={ nargs:=2,pin:=⟨[(0,wM),(1,Cb)],[(50000,q9),(50001,q16),(50002,Io),(50003,q22),(50004,uI)]⟩,aN:=⟨[(0,(.agg [q0,q0,Pv,(.own 60004),(.own 60005),(.own 60006)]))],[(50000,(.box [(.box 50001 0),(.own 50002),(.own 50003),(.own 60007),q0])),(50001,q3),(50002,Io),(50003,q22),(60004,q52),(60005,q39),(60006,q39),(60007,uI)]⟩,cu:=1,aS:=[50000,50001,50002,50003],news:=[60004,60005,60006,60007],kept:=[50002,50003] }
def ak_:iT:=(.seq .nil (.seq .nil (.seq (.seq .nil (.seq (.seq (.seq .nil (.meet false ⟨[(0,.keep),(1,.keep),(4,.keep),(5,.keep),(19,.keep),(20,.sl q4)],[(50000,.keep),(50001,.keep),(50002,.keep),(50003,.keep),(4,.keep),(50004,.keep)]⟩ .nil)) (.meet true ⟨[(0,.keep),(4,.keep)],[(50000,.ob q9),(50001,.ob q3),(50002,.keep),(50003,.keep),(4,.keep),(50004,.keep)]⟩ (.seq (.seq .nil (.seq .nil (.seq (.seq .nil (.seq .nil .nil)) .nil))) (.seq .nil (.meet true ⟨[(0,.keep),(4,.keep)],[(50000,.ob q9),(50001,.ob q3),(50002,.keep),(50003,.keep),(4,.keep),(50004,.keep)]⟩ (.seq (.seq .nil (.seq .nil .nil)) (.seq .nil (.meet true ⟨[(0,.keep),(4,.keep)],[(50000,.ob q9),(50001,.ob q3),(50002,.keep),(50003,.keep),(4,.keep),(50004,.keep)]⟩ (.seq (.seq .nil (.seq .nil (.seq .nil .nil))) (.seq .nil (.meet true ⟨[(0,.keep),(4,.keep)],[(50000,.ob q9),(50001,.ob q3),(50002,.keep),(50003,.keep),(4,.keep),(50004,.keep)]⟩ (.seq (.seq .nil (.seq .nil (.seq .nil .nil))) (.seq (.seq .nil (.meet false ⟨[(0,.keep),(1,.keep),(4,.keep),(5,.keep),(19,.keep),(95,.sl q4)],[(50000,.keep),(50001,.keep),(50002,.keep),(50003,.keep),(4,.keep),(50004,.keep)]⟩ .nil)) (.meet true ⟨[(0,.keep),(4,.keep)],[(50000,.keep),(50001,.keep),(50002,.keep),(50003,.keep),(4,.keep),(50004,.keep)]⟩ (.seq (.seq .nil (.seq (.seq .nil (.seq .nil (.seq (.seq .nil (.meet false ⟨[(4,.keep),(13,.keep)],[(50000,.ob (.box [(.box 50001 0),(.own 50002),(.own 50003),(.own 102006),q0])),(50001,.ob q3),(50002,.keep),(50003,.keep),(4,.keep),(13,.ob (.box [q0,q0,Pv,(.own 102),(.own 109),(.own 102009)])),(102006,.ob uI),(102,.keep),(109,.keep),(102009,.ob q39)]⟩ .nil)) .nil))) .nil)) (.seq .nil (.meet true ⟨[(0,.keep),(4,.keep)],[(50000,.keep),(50001,.keep),(50002,.keep),(50003,.keep),(4,.keep),(50004,.keep)]⟩ (.seq (.seq .nil (.seq .nil .nil)) (.seq .nil (.seq (.seq (.seq .nil (.seq .nil .nil)) .nil) .nil)))))))))))))))))))) .nil)) .nil)))
def acg:cZ:={ nargs:=2,pin:=⟨[(0,wM),(1,Cb)],[(50000,q9),(50001,q16),(50002,Io),(50003,q22),(50004,uI)]⟩,aN:=⟨[(0,(.agg [q0,q0,Pv,(.own 60004),(.own 60005),.bC]))],[(50000,(.box [(.box 50001 0),(.own 50002),(.own 50003),(.own 60006),q0])),(50001,q3),(50002,Io),(50003,q22),(60004,q52),(60005,q39),(60006,uI)]⟩,cu:=1,aS:=[50000,50001,50002,50003],news:=[60004,60005,60006],kept:=[50002,50003] }
def ala:iT:=(.seq .nil (.seq .nil (.seq (.seq (.meet false ⟨[(0,.keep),(1,.keep),(4,.keep),(5,.keep),(6,.keep),(28,.sl q4)],[(50000,.keep),(50001,.ob q3),(50002,.keep),(50003,.keep),(4,.keep),(50004,.keep)]⟩ .nil) (.meet false ⟨[(0,.keep),(1,.keep),(4,.keep),(5,.sl (.one (.p false true .str))),(6,.sl q4)],[(50000,.keep),(50001,.ob q3),(50002,.keep),(50003,.keep),(4,.keep),(50004,.keep)]⟩ .nil)) (.seq (.seq (.meet false ⟨[(0,.keep),(1,.keep),(4,.keep),(5,.keep),(54,.sl q4)],[(50000,.keep),(50001,.ob q3),(50002,.keep),(50003,.keep),(4,.keep),(50004,.keep)]⟩ .nil) (.seq (.seq .nil (.seq .nil .nil)) .nil)) (.seq .nil (.seq .nil (.seq .nil (.seq .nil .nil))))))))
def alb:cZ:={ nargs:=2,pin:=⟨[(0,q13),(1,(.one (.p true false .bool)))],[]⟩,aN:=⟨[(0,Zh)],[(100001,q24)]⟩,cu:=1,aS:=[],news:=[100001] }
def alc:iT:=(.seq .nil (.seq .nil (.seq .nil (.seq (.seq .nil (.meet false ⟨[(6,.sl Zh)],[(100001,.ob q24)]⟩ (.loop ⟨[(1,.keep),(5,.keep),(6,.sl Zh),(12,.keep),(13,.keep),(14,.sl gV)],[(10,.keep),(100001,.ob q24),(12,.keep)]⟩ (.seq .nil (.seq .nil (.seq (.seq (.seq .nil (.seq .nil (.meet false ⟨[(1,.keep),(5,.keep),(6,.sl (.one (.own 101001))),(12,.keep),(13,.keep),(14,.keep)],[(10,.keep),(101001,.ob q24),(12,.keep)]⟩ .nil))) .nil) .nil)))))) .nil))))
def ald:cZ:={ nargs:=1,pin:=⟨[(0,q13)],[]⟩,aN:=⟨[(0,(.agg [Pv,q0,q0,(.own 103005)]))],[(103005,q55)]⟩,cu:=1,aS:=[],news:=[103005] }
def ale:iT:=(.seq .nil (.seq .nil (.seq .nil (.seq .nil (.seq (.seq .nil (.meet false ⟨[(1,.keep),(2,.keep),(3,.keep),(4,.keep)],[(1,.keep),(2,.keep),(11,.keep),(14,.ob M_)]⟩ (.loop ⟨[(1,.keep),(2,.keep),(3,.keep),(4,.keep),(5,.sl gV),(6,.sl gV)],[(1,.keep),(2,.keep),(11,.keep),(14,.ob M_)]⟩ (.seq (.seq .nil .nil) (.seq (.seq (.seq .nil (.seq .nil (.meet false ⟨[(1,.keep),(2,.keep),(3,.keep),(4,.keep),(5,.sl gV),(6,.keep)],[(1,.keep),(2,.keep),(11,.keep),(14,.keep)]⟩ .nil))) .nil) .nil))))) (.seq .nil (.seq .nil (.seq (.seq .nil (.meet false ⟨[(2,.keep),(7,.keep)],[(2,.keep),(7,.ob (.box [q35,q1,q1,(.own 103005)])),(103005,.ob q55)]⟩ (.loop ⟨[(1,.keep),(2,.keep),(3,.keep),(4,.keep),(7,.keep),(8,.sl gV)],[(1,.keep),(2,.keep),(11,.keep),(14,.keep),(7,.ob (.box [q35,q1,q1,(.own 103005)])),(103005,.ob q55)]⟩ (.seq (.seq .nil .nil) (.seq (.meet false ⟨[(1,.keep),(2,.keep),(3,.keep),(4,.keep),(7,.keep),(8,.keep)],[(1,.keep),(2,.keep),(11,.keep),(14,.keep),(7,.ob (.box [q35,q1,q1,(.own 106005)])),(106005,.ob q55)]⟩ (.seq (.seq .nil .nil) (.seq .nil (.seq (.seq .nil (.meet false ⟨[(1,.keep),(2,.keep),(3,.keep),(4,.keep),(7,.keep),(8,.keep),(9,.keep)],[(1,.keep),(2,.keep),(11,.keep),(14,.keep),(7,.keep),(9,.ob q65),(103005,.keep)]⟩ .nil)) (.seq (.seq .nil (.meet false ⟨[(1,.keep),(2,.keep),(3,.keep),(4,.keep),(7,.keep),(8,.keep),(9,.keep)],[(1,.keep),(2,.keep),(11,.keep),(14,.keep),(7,.keep),(9,.ob q65),(103005,.keep)]⟩ .nil)) .nil))))) .nil))))) .nil))))))))
def alf:cZ:={ nargs:=1,pin:=⟨[(0,q32)],[]⟩,aN:=⟨[(0,(.agg [(.own 60000),(.own 60001)])),(1,gV),(2,gV)],[(60000,(.arr false true false (.st 3))),(60001,q67)]⟩,cu:=3,aS:=[],news:=[60000,60001] }
def alg:iT:=(.seq .nil (.seq (.seq (.meet false ⟨[(1,.keep),(2,.keep),(20,.sl q4)],[(1,.keep),(2,.keep)]⟩ .nil) (.seq .nil .nil)) (.seq (.seq (.meet false ⟨[(1,.keep),(2,.keep),(42,.sl q4)],[(1,.keep),(2,.keep)]⟩ .nil) (.seq .nil .nil)) (.seq (.seq .nil (.meet true ⟨[(1,.keep),(2,.keep)],[(1,.keep),(2,.keep)]⟩ (.loop ⟨[(1,.keep),(2,.keep),(5,.sl gV)],[(1,.keep),(2,.keep)]⟩ (.seq (.seq .nil .nil) (.seq (.seq (.seq .nil (.seq .nil .nil)) .nil) .nil))))) (.seq (.seq .nil (.meet true ⟨[(1,.keep),(2,.keep)],[(1,.keep),(2,.keep)]⟩ (.loop ⟨[(1,.keep),(2,.keep),(6,.sl gV)],[(1,.keep),(2,.keep)]⟩ (.seq (.seq .nil .nil) (.seq (.seq (.seq (.meet false ⟨[(1,.keep),(2,.keep),(6,.keep),(89,.sl q4)],[(1,.keep),(2,.keep)]⟩ .nil) (.seq .nil .nil)) .nil) .nil))))) (.seq .nil (.seq (.seq .nil (.meet true ⟨[(2,.keep)],[(2,.ob (.box [(.own 99),(.own 107003)])),(99,.keep),(107003,.ob q67)]⟩ (.loop ⟨[(1,.keep),(2,.keep),(7,.sl gV)],[(1,.keep),(2,.ob (.box [(.own 99),(.own 107003)])),(99,.keep),(107003,.ob q67)]⟩ (.seq (.seq .nil .nil) (.seq (.seq (.seq .nil (.seq (.seq (.meet false ⟨[(1,.keep),(2,.keep),(7,.keep),(8,.keep),(128,.sl q4)],[(1,.keep),(2,.keep),(8,.keep),(99,.keep),(107003,.keep)]⟩ .nil) (.seq .nil .nil)) (.seq (.seq .nil (.meet true ⟨[(1,.keep),(2,.keep),(7,.keep),(8,.keep)],[(1,.keep),(2,.keep),(8,.keep),(99,.keep),(107003,.keep)]⟩ (.loop ⟨[(1,.keep),(2,.keep),(7,.keep),(8,.keep),(9,.sl gV)],[(1,.keep),(2,.keep),(8,.keep),(99,.keep),(107003,.keep)]⟩ (.seq (.seq .nil .nil) (.seq (.seq (.seq (.meet false ⟨[(1,.keep),(2,.keep),(7,.keep),(8,.keep),(9,.keep),(158,.sl q4)],[(1,.keep),(2,.keep),(8,.keep),(99,.keep),(107003,.keep)]⟩ .nil) (.seq .nil .nil)) .nil) .nil))))) (.seq .nil (.seq .nil (.seq (.seq .nil (.seq .nil .nil)) .nil)))))) .nil) .nil))))) .nil)))))))
def alh:cZ:={ nargs:=1,pin:=⟨[(0,wM)],[(50000,q16)]⟩,aN:=⟨[(0,(.agg [(.own 103003),(.own 105004)]))],[(50000,q3),(103003,Io),(105004,q22)]⟩,cu:=1,aS:=[50000],news:=[103003,105004] }
def ali:iT:=(.seq .nil (.seq (.meet false ⟨[(0,.keep),(2,.keep),(3,.sl (.one (.box 12 0)))],[(50000,.keep),(2,.keep),(12,.ob (.box [(.box 50000 0),(.own 100700),(.own 100701),(.own 100702),q0])),(100700,.ob q44),(100701,.ob q66),(100702,.ob q56)]⟩ .nil) (.seq (.seq .nil (.meet false ⟨[(0,.keep),(2,.keep),(3,.keep)],[(50000,.keep),(2,.keep),(12,.ob q59),(101003,.ob q44),(100701,.keep),(100702,.keep)]⟩ (.loop ⟨[(0,.keep),(2,.keep),(3,.keep),(4,.sl gV)],[(50000,.keep),(2,.keep),(12,.ob q59),(101003,.ob q44),(100701,.keep),(100702,.keep)]⟩ (.seq (.seq .nil .nil) (.seq .nil .nil))))) (.seq (.seq .nil (.meet false ⟨[(0,.keep),(2,.keep),(3,.keep)],[(50000,.ob q3),(2,.keep),(12,.ob q60),(103003,.ob q44),(100701,.keep),(100702,.keep)]⟩ (.loop ⟨[(0,.keep),(2,.keep),(3,.keep),(5,.sl gV)],[(50000,.ob q3),(2,.keep),(12,.ob q60),(103003,.ob q44),(100701,.keep),(100702,.keep)]⟩ (.seq (.seq .nil .nil) (.seq .nil .nil))))) (.seq .nil (.seq (.seq .nil (.meet false ⟨[(0,.keep),(2,.keep),(3,.keep)],[(50000,.ob q3),(2,.keep),(12,.ob q61),(103003,.keep),(105004,.ob q66),(100702,.keep)]⟩ (.loop ⟨[(0,.keep),(2,.keep),(3,.keep),(6,.sl gV)],[(50000,.ob q3),(2,.keep),(12,.ob q61),(103003,.keep),(105004,.ob q66),(100702,.keep)]⟩ (.seq (.seq .nil .nil) (.seq (.seq (.seq .nil (.seq (.seq .nil (.meet false ⟨[(0,.keep),(2,.keep),(3,.keep),(6,.keep),(7,.keep)],[(50000,.keep),(2,.keep),(12,.keep),(7,.ob (.box [Pv,q0,(.own 106007),.bC])),(103003,.keep),(105004,.keep),(100702,.keep),(106007,.ob q56)]⟩ (.loop ⟨[(0,.keep),(2,.keep),(3,.keep),(6,.keep),(7,.keep),(8,.sl gV)],[(50000,.keep),(2,.keep),(12,.keep),(7,.ob (.box [Pv,q0,(.own 106007),.bC])),(103003,.keep),(105004,.keep),(100702,.keep),(106007,.ob q56)]⟩ (.seq (.seq .nil .nil) (.seq .nil .nil))))) .nil)) .nil) .nil))))) (.seq (.seq .nil (.meet false ⟨[(2,.keep),(3,.keep)],[(50000,.ob q3),(2,.keep),(12,.ob q62),(103003,.ob Io),(105004,.ob q22),(109005,.ob uI)]⟩ (.loop ⟨[(0,.keep),(2,.keep),(3,.keep),(9,.sl gV)],[(50000,.ob q3),(2,.keep),(12,.ob q62),(103003,.ob Io),(105004,.ob q22),(109005,.ob uI)]⟩ (.seq (.seq .nil .nil) (.seq (.seq (.seq .nil .nil) .nil) .nil))))) .nil)))))))
def alj:cZ:={ nargs:=2,pin:=⟨[(0,q20),(1,q13)],[]⟩,aN:=⟨[(0,gV)],[]⟩,cu:=1,aS:=[],news:=[] }
def alk:iT:=(.seq .nil (.seq (.seq (.meet false ⟨[(2,.keep),(3,.keep),(25,.sl q4)],[(2,.keep),(3,.keep)]⟩ .nil) (.seq .nil .nil)) (.seq (.seq (.meet false ⟨[(2,.keep),(3,.keep),(45,.sl q4)],[(2,.keep),(3,.keep)]⟩ .nil) (.seq .nil .nil)) (.seq (.seq .nil (.meet true ⟨[(3,.keep)],[(3,.keep)]⟩ (.loop ⟨[(2,.keep),(3,.keep),(5,.sl gV)],[(2,.keep),(3,.keep)]⟩ (.seq (.seq .nil .nil) (.seq (.seq (.seq (.seq .nil (.meet true ⟨[(2,.keep),(3,.keep),(5,.keep)],[(2,.keep),(3,.keep)]⟩ (.loop ⟨[(2,.keep),(3,.keep),(5,.keep),(6,.sl gV)],[(2,.keep),(3,.keep)]⟩ (.seq (.seq .nil .nil) (.seq (.seq (.seq .nil (.seq .nil (.seq .nil .nil))) .nil) .nil))))) (.seq .nil (.seq .nil (.seq .nil .nil)))) .nil) .nil))))) (.seq .nil (.seq (.seq .nil (.meet true ⟨[],[]⟩ (.loop ⟨[(9,.keep),(10,.sl gV)],[(91,.keep)]⟩ (.seq (.seq .nil .nil) (.seq (.seq (.seq .nil (.seq .nil .nil)) .nil) .nil))))) .nil))))))
def sg8:cZ:={ nargs:=1,pin:=⟨[(0,q20)],[]⟩,aN:=⟨[(0,q49)],[(100000,q24)]⟩,cu:=1,aS:=[],news:=[100000] }
def an8:iT:=(.seq .nil (.seq .nil (.seq (.seq .nil (.meet false ⟨[(3,.sl q49)],[(100000,.ob q24)]⟩ (.loop ⟨[(3,.sl q49),(9,.keep),(10,.keep),(11,.sl gV)],[(100000,.ob q24)]⟩ (.seq .nil (.seq .nil (.seq (.seq (.seq .nil (.seq .nil (.meet false ⟨[(3,.sl (.one (.own 101000))),(9,.keep),(10,.keep),(11,.keep)],[(101000,.ob q24)]⟩ (.loop ⟨[(3,.sl (.one (.own 101000))),(4,.keep),(9,.keep),(10,.keep),(11,.keep),(17,.keep),(18,.keep),(19,.sl gV)],[(101000,.ob q24),(17,.keep)]⟩ (.seq .nil (.seq .nil (.seq (.seq (.seq .nil .nil) .nil) .nil))))))) .nil) .nil)))))) .nil)))
def alm:cZ:={ nargs:=1,pin:=⟨[(0,q13)],[]⟩,aN:=⟨[(0,(.one (.own 4)))],[(4,q24)]⟩,cu:=1,aS:=[],news:=[4] }
def aln:iT:=(.seq .nil .nil)
def alo:cZ:={ nargs:=1,pin:=⟨[(0,wM)],[(50000,q16)]⟩,aN:=⟨[(0,(.agg [(.own 19),(.own 100004),q0,q0]))],[(50000,q3),(19,q44),(100004,Zg)]⟩,cu:=1,aS:=[50000],news:=[19,100004] }
def alp:iT:=(.seq .nil (.seq .nil (.seq .nil (.seq (.seq .nil (.meet false ⟨[(0,.keep),(2,.keep),(3,.keep),(4,.keep)],[(50000,.ob q3),(2,.keep),(3,.ob (.box [(.own 19),(.own 100004),q0,q0])),(19,.keep),(100004,.ob Zg)]⟩ (.loop ⟨[(0,.keep),(2,.keep),(3,.keep),(4,.keep),(5,.sl gV)],[(50000,.ob q3),(2,.keep),(3,.ob (.box [(.own 19),(.own 100004),q0,q0])),(19,.keep),(100004,.ob Zg)]⟩ (.seq (.seq .nil .nil) (.seq (.seq (.seq .nil (.seq (.seq .nil (.meet false ⟨[(0,.keep),(2,.keep),(3,.keep),(4,.keep),(5,.keep),(6,.keep)],[(50000,.ob q3),(2,.keep),(3,.keep),(6,.ob (.box [Pv,q0,q0,.bC])),(19,.keep),(100004,.keep)]⟩ .nil)) .nil)) .nil) .nil))))) (.seq .nil (.seq (.seq .nil (.meet false ⟨[(2,.keep),(3,.keep)],[(50000,.ob q3),(2,.keep),(3,.keep),(19,.keep),(100004,.ob Zg)]⟩ (.loop ⟨[(0,.keep),(2,.keep),(3,.keep),(4,.keep),(7,.sl gV)],[(50000,.ob q3),(2,.keep),(3,.keep),(19,.keep),(100004,.ob Zg)]⟩ (.seq (.seq .nil .nil) (.seq (.seq (.seq .nil (.seq (.seq .nil (.meet false ⟨[(0,.keep),(2,.keep),(3,.keep),(4,.keep),(7,.keep),(8,.keep)],[(50000,.ob q3),(2,.keep),(3,.keep),(100004,.ob Zg),(19,.keep)]⟩ (.loop ⟨[(0,.keep),(2,.keep),(3,.keep),(4,.keep),(7,.keep),(8,.keep),(9,.sl gV)],[(50000,.ob q3),(2,.keep),(3,.keep),(100004,.ob Zg),(19,.keep)]⟩ (.seq (.seq .nil .nil) (.seq (.seq (.seq .nil (.seq (.seq .nil (.meet false ⟨[(0,.keep),(2,.keep),(3,.keep),(4,.keep),(7,.keep),(8,.keep),(9,.keep),(10,.keep)],[(50000,.ob q3),(2,.keep),(3,.keep),(100004,.ob Zg),(10,.ob (.box [(.own 105006),q0,q0,q0,q0,q0,q0,q0])),(19,.keep),(105006,.ob (.arr false false false (.st 6)))]⟩ (.loop ⟨[(0,.keep),(2,.keep),(3,.keep),(4,.keep),(7,.keep),(8,.keep),(9,.keep),(10,.keep),(11,.sl gV)],[(50000,.ob q3),(2,.keep),(3,.keep),(100004,.ob Zg),(10,.ob (.box [(.own 105006),q0,q0,q0,q0,q0,q0,q0])),(19,.keep),(105006,.ob (.arr false false false (.st 6)))]⟩ (.seq (.seq .nil .nil) (.seq .nil .nil))))) .nil)) .nil) .nil))))) (.seq (.seq .nil (.meet false ⟨[(0,.keep),(2,.keep),(3,.keep),(4,.keep),(7,.keep),(8,.keep)],[(50000,.ob q3),(2,.keep),(3,.keep),(100004,.ob Zg),(19,.keep)]⟩ (.loop ⟨[(0,.keep),(2,.keep),(3,.keep),(4,.keep),(7,.keep),(8,.keep),(12,.sl gV)],[(50000,.ob q3),(2,.keep),(3,.keep),(100004,.ob Zg),(19,.keep)]⟩ (.seq (.seq .nil .nil) (.seq (.seq .nil .nil) .nil))))) .nil))) .nil) .nil))))) .nil))))))
def ahx:TypeId→Option Ty:=fun t=>(([(1000035,(.prod (.st 3) .bool)),(3000140,.bool),(3000133,.bool),(3000113,.bool),(3000078,.bool)]:List (Nat×Ty))++zo).lookup t
def alq:cZ:={ nargs:=1,pin:=⟨[(0,wM)],[(50000,q16)]⟩,aN:=⟨[(0,(.agg [(.own 9),(.own 1009)]))],[(50000,q3),(9,Io),(1009,q22)]⟩,cu:=1,aS:=[50000],news:=[9,1009] }
def alr:iT:=(.seq .nil (.seq .nil .nil))
def als:cZ:={ nargs:=1,pin:=⟨[(0,q20)],[]⟩,aN:=⟨[(0,gV)],[]⟩,cu:=1,aS:=[],news:=[] }
def alu:iT:=(.seq .nil (.seq (.seq (.meet false ⟨[(1,.keep),(31,.sl q4)],[(1,.keep)]⟩ .nil) (.seq .nil .nil)) (.seq (.seq .nil (.meet true ⟨[(1,.keep)],[(1,.keep)]⟩ (.loop ⟨[(1,.keep),(3,.sl gV)],[(1,.keep)]⟩ (.seq (.seq .nil .nil) (.seq (.seq (.seq (.meet false ⟨[(1,.keep),(3,.keep),(54,.sl q4)],[(1,.keep)]⟩ .nil) (.seq .nil .nil)) .nil) .nil))))) (.seq (.seq (.meet false ⟨[(1,.keep),(65,.sl q4)],[(1,.keep)]⟩ .nil) (.seq .nil .nil)) (.seq (.seq .nil (.seq .nil .nil)) (.seq (.seq .nil (.meet true ⟨[],[]⟩ (.loop ⟨[(1,.keep),(4,.sl gV)],[(1,.keep)]⟩ (.seq (.seq .nil .nil) (.seq (.seq (.seq .nil (.seq .nil (.seq .nil .nil))) .nil) .nil))))) .nil))))))
def sg5:cZ:={ nargs:=0,pin:=⟨[],[]⟩,aN:=⟨[(0,q4)],[]⟩,cu:=1,aS:=[],news:=[] }
def an5:iT:=(.seq .nil (.seq .nil (.seq .nil (.seq (.meet false ⟨[(0,.sl q4)],[]⟩ .nil) .nil))))
def alv:cZ:={ nargs:=1,pin:=⟨[(0,q32)],[]⟩,aN:=⟨[(0,(.agg [(.own 60000),(.own 60001),q0,q0])),(1,gV)],[(60000,(.arr false true false (.st 3))),(60001,q69)]⟩,cu:=2,aS:=[],news:=[60000,60001] }
def alx:iT:=(.seq .nil (.seq .nil (.seq (.seq .nil (.meet false ⟨[(2,.keep),(4,.keep)],[(2,.keep),(4,.ob (.box [(.own 11),(.own 100004),q0,q0])),(11,.keep),(100004,.ob q69)]⟩ (.loop ⟨[(1,.keep),(2,.keep),(4,.keep),(5,.sl gV)],[(1,.keep),(2,.keep),(4,.ob (.box [(.own 11),(.own 100004),q0,q0])),(11,.keep),(100004,.ob q69)]⟩ (.seq (.seq .nil .nil) (.seq (.seq (.seq .nil (.seq (.meet false ⟨[(1,.keep),(2,.keep),(4,.keep),(5,.keep),(6,.keep),(7,.sl (.one (.box 33 0)))],[(1,.keep),(2,.keep),(4,.keep),(6,.keep),(33,.ob (.box [(.p true false (.sl (.st 3))),(.p true false (.sl (.st 18))),q58,q0,q0,(.own 101700),q0])),(11,.keep),(100004,.keep),(101700,.ob (.deep false false (.st 5) [(0,(.st 6))]))]⟩ .nil) (.seq .nil (.seq .nil (.seq (.seq .nil (.meet false ⟨[(1,.keep),(2,.keep),(4,.keep),(5,.keep),(6,.keep),(7,.keep)],[(1,.keep),(2,.keep),(4,.keep),(6,.keep),(33,.ob (.box [(.p true false (.sl (.st 3))),(.p true false (.sl (.st 18))),q58,q0,q0,(.own 49),q0])),(11,.keep),(100004,.keep),(49,.ob (.deep true false (.st 5) [(0,(.st 6))]))]⟩ (.seq (.seq .nil (.seq .nil .nil)) .nil))) .nil))))) .nil) .nil))))) (.seq (.seq .nil (.seq .nil .nil)) .nil))))
def ahy:TypeId→Option Ty:=fun t=>(([(1000045,(.prod (.st 0) .bool)),(3000082,.bool),(3000053,.bool),(3000038,.bool),(3000018,.bool),(3000013,.bool)]:List (Nat×Ty))++zo).lookup t
def aly:cZ:={ nargs:=1,pin:=⟨[(0,wM)],[(50000,q16)]⟩,aN:=⟨[(0,(.agg [(.own 8),(.own 1008),q0,q0]))],[(50000,q3),(8,Io),(1008,(.arr false false true (.st 4)))]⟩,cu:=1,aS:=[50000],news:=[8,1008] }
def alz:iT:=(.seq .nil (.seq .nil .nil))
def sg7:cZ:={ nargs:=1,pin:=⟨[(0,wM)],[(50000,q16)]⟩,aN:=⟨[(0,(.agg [(.own 60001),(.p false true (.sl (.st 4))),q0,q0]))],[(50000,q3),(60001,Io)]⟩,cu:=1,aS:=[50000],news:=[60001] }
def an7:iT:=(.seq .nil (.seq (.seq .nil (.seq .nil .nil)) .nil))
def sg3:cZ:={ nargs:=1,pin:=⟨[(0,(.one q54))],[]⟩,aN:=⟨[(0,q4)],[]⟩,cu:=1,aS:=[],news:=[] }
def an3:iT:=(.seq .nil (.seq (.seq .nil (.seq .nil .nil)) (.seq .nil (.seq .nil (.seq .nil (.seq (.seq .nil (.meet true ⟨[(4,.keep),(5,.sl gV)],[(20,.keep)]⟩ (.loop ⟨[(3,.keep),(4,.keep),(5,.sl gV),(6,.sl gV)],[(3,.keep),(20,.keep),(18,.keep)]⟩ (.seq (.seq .nil .nil) (.seq (.seq (.seq .nil (.seq .nil (.seq (.seq .nil (.meet false ⟨[(3,.keep),(4,.keep),(5,.keep),(6,.keep),(7,.keep),(8,.keep),(9,.keep),(10,.sl gV),(11,.keep)],[(3,.keep),(20,.keep),(7,.keep),(18,.keep)]⟩ (.loop ⟨[(3,.keep),(4,.keep),(5,.keep),(6,.keep),(7,.keep),(8,.keep),(9,.keep),(10,.sl gV),(11,.keep),(12,.sl gV)],[(3,.keep),(20,.keep),(7,.keep),(18,.keep)]⟩ (.seq (.seq .nil .nil) (.seq (.seq (.seq .nil (.meet false ⟨[(3,.keep),(4,.keep),(5,.keep),(6,.keep),(7,.keep),(8,.keep),(9,.keep),(10,.sl gV),(11,.keep),(12,.keep)],[(3,.keep),(20,.keep),(7,.keep),(18,.keep)]⟩ .nil)) .nil) .nil))))) (.seq (.seq .nil (.meet false ⟨[(3,.keep),(4,.keep),(5,.keep),(6,.keep),(7,.keep),(8,.keep),(9,.keep),(10,.keep),(11,.sl gV)],[(3,.keep),(20,.keep),(7,.keep),(18,.keep)]⟩ (.loop ⟨[(3,.keep),(4,.keep),(5,.keep),(6,.keep),(7,.keep),(8,.keep),(9,.keep),(10,.keep),(11,.sl gV),(13,.sl gV)],[(3,.keep),(20,.keep),(7,.keep),(18,.keep)]⟩ (.seq (.seq .nil .nil) (.seq (.seq (.seq .nil (.meet false ⟨[(3,.keep),(4,.keep),(5,.keep),(6,.keep),(7,.keep),(8,.keep),(9,.keep),(10,.keep),(11,.sl gV),(13,.keep)],[(3,.keep),(20,.keep),(7,.keep),(18,.keep)]⟩ .nil)) .nil) .nil))))) (.seq (.seq (.meet false ⟨[(3,.keep),(4,.keep),(5,.keep),(6,.keep),(10,.keep),(86,.sl q4)],[(3,.keep),(20,.keep),(18,.keep)]⟩ .nil) (.seq .nil .nil)) .nil))))) .nil) .nil))))) .nil))))))
end Go.Fg.Ytfklooeiipkijaa

