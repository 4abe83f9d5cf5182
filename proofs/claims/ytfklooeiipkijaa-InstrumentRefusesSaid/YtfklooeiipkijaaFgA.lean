/-
  Shapes of the functions of the seat, printed by a program (wip/gen/Infer.lean).
-/
import Derived.Test.YtfklooeiipkijaaFwT
import Derived.Test.YtfklooeiipkijaaZd
namespace Go.Fg.Ytfklooeiipkijaa
open Go.Fw Go.Proofs Go.Fw.Ytfklooeiipkijaa
set_option linter.unusedVariables false
structure bK where
  kind:Int
  op:Int
  value:Int
  line:Int
  name:(List UInt8)
  args:(List bK)
def ae4:bK:=bK.mk (0:Int) (0:Int) (0:Int) (0:Int) [] []
mutual
def sK:bK→List P
  |⟨y0,y1,y2,y3,y4,y5⟩=>[P.int .i64 y0,P.int .i64 y1,P.int .i64 y2,P.int .i64 y3,P.str ⟨List.toArray y4⟩,P.fF 6 (Dq y5)]
def Dq:List bK→List (List P)
  | []=>[]
  |x::l=>sK x::Dq l
end
theorem FZ :∀l,Dq l=List.map sK l
  | []=>rfl
  |x::l=>by rw [Dq,FZ l];rfl
theorem Vr (x:bK):sK x=[P.int .i64 (bK.kind x),P.int .i64 (bK.op x),P.int .i64 (bK.value x),P.int .i64 (bK.line x),P.str ⟨List.toArray (bK.name x)⟩,P.fF 6 (List.map sK (bK.args x))]:=by
  cases x
  rw [sK]
  simp only [FZ]
structure eX where
  kind:Int
  line:Int
  name:(List UInt8)
  exprs:(List bK)
  then':(List eX)
  else':(List eX)
def ae5:eX:=eX.mk (0:Int) (0:Int) [] [] [] []
mutual
def sN:eX→List P
  |⟨y0,y1,y2,y3,y4,y5⟩=>[P.int .i64 y0,P.int .i64 y1,P.str ⟨List.toArray y2⟩,P.fF 6 (List.map sK y3),P.fF 6 (yN y4),P.fF 6 (yN y5)]
def yN:List eX→List (List P)
  | []=>[]
  |x::l=>sN x::yN l
end
theorem F5 :∀l,yN l=List.map sN l
  | []=>rfl
  |x::l=>by rw [yN,F5 l];rfl
theorem Vs (x:eX):sN x=[P.int .i64 (eX.kind x),P.int .i64 (eX.line x),P.str ⟨List.toArray (eX.name x)⟩,P.fF 6 (List.map sK (eX.exprs x)),P.fF 6 (List.map sN (eX.then' x)),P.fF 6 (List.map sN (eX.else' x))]:=by
  cases x
  rw [sN]
  simp only [F5]
structure lD where
  func:Int
  count:Int
def Zx:lD:=lD.mk (0:Int) (0:Int)
def Nb (x:lD):List P:=[P.int .i64 (lD.func x),P.int .i64 (lD.count x)]
structure dn where
  from':Int
  to:Int
def ae6:dn:=dn.mk (0:Int) (0:Int)
def ae7 (x:dn):List P:=[P.int .i64 (dn.from' x),P.int .i64 (dn.to x)]
structure aB where
  name:(List UInt8)
  line:Int
  params:(List (List UInt8))
  body:(List eX)
def ae8:aB:=aB.mk [] (0:Int) [] []
def ae9 (x:aB):List P:=[P.str ⟨List.toArray (aB.name x)⟩,P.int .i64 (aB.line x),P.fF 1 (List.map (fun (x:List UInt8)=>[P.str ⟨x.toArray⟩]) (aB.params x)),P.fF 6 (List.map sN (aB.body x))]
structure nR where
  block:Int
  instr:Int
  targets:(List lD)
def ae_:nR:=nR.mk (0:Int) (0:Int) []
def XG (x:nR):List P:=[P.int .i64 (nR.block x),P.int .i64 (nR.instr x),P.fF 2 (List.map Nb (nR.targets x))]
structure mX where
  func:Int
  block:Int
def afa:mX:=mX.mk (0:Int) (0:Int)
def afb (x:mX):List P:=[P.int .i64 (mX.func x),P.int .i64 (mX.block x)]
structure dw where
  entries:Int
  blocks:(List Int)
  edges:(List (Int×Int))
  sites:(List nR)
def Lj:dw:=dw.mk (0:Int) [] [] []
def Ll (x:dw):List P:=[P.int .i64 (dw.entries x),P.fF 1 (List.map (fun (x:Int)=>[P.int .i64 x]) (dw.blocks x)),P.fF 2 (List.map (fun (x:Int×Int)=>(fun (x:Int)=>[P.int .i64 x]) x.1++(fun (x:Int)=>[P.int .i64 x]) x.2) (dw.edges x)),P.fF 3 (List.map XG (dw.sites x))]
structure fM where
  kind:Int
  op:Int
  dst:Int
  a:Int
  b:Int
  value:Int
  args:(List Int)
def acd:fM:=fM.mk (0:Int) (0:Int) (0:Int) (0:Int) (0:Int) (0:Int) []
def SC (x:fM):List P:=[P.int .i64 (fM.kind x),P.int .i64 (fM.op x),P.int .i64 (fM.dst x),P.int .i64 (fM.a x),P.int .i64 (fM.b x),P.int .i64 (fM.value x),P.fF 1 (List.map (fun (x:Int)=>[P.int .i64 x]) (fM.args x))]
structure aG where
  instrs:(List fM)
  aA:Int
  Du:Int
  fO:Int
  dh:Int
  line:Int
  jU:Int
  jm:Int
def ace:aG:=aG.mk [] (0:Int) (0:Int) (0:Int) (0:Int) (0:Int) (0:Int) (0:Int)
def SE (x:aG):List P:=[P.fF 7 (List.map SC (aG.instrs x)),P.int .i64 (aG.aA x),P.int .i64 (aG.Du x),P.int .i64 (aG.fO x),P.int .i64 (aG.dh x),P.int .i64 (aG.line x),P.int .i64 (aG.jU x),P.int .i64 (aG.jm x)]
structure aJ where
  func:Int
  block:Int
  way:Int
def acf:aJ:=aJ.mk (0:Int) (0:Int) (0:Int)
def acg (x:aJ):List P:=[P.int .i64 (aJ.func x),P.int .i64 (aJ.block x),P.int .i64 (aJ.way x)]
structure aF where
  name:(List UInt8)
  params:Int
  regs:Int
  blocks:(List aG)
def SG:aF:=aF.mk [] (0:Int) (0:Int) []
def SH (x:aF):List P:=[P.str ⟨List.toArray (aF.name x)⟩,P.int .i64 (aF.params x),P.int .i64 (aF.regs x),P.fF 8 (List.map SE (aF.blocks x))]
structure aW where
  name:(List UInt8)
  size:Int
def Zy:aW:=aW.mk [] (0:Int)
def Zz (x:aW):List P:=[P.str ⟨List.toArray (aW.name x)⟩,P.int .i64 (aW.size x)]
def reC:Nat→Type
  |0=>Unit
  |1=>Unit
  |2=>Unit
  |3=>aW
  |4=>aF
  |5=>aG
  |6=>fM
  |7=>Unit
  |8=>aJ
  |9=>Unit
  |10=>mX
  |11=>dw
  |12=>nR
  |13=>lD
  |14=>Unit
  |15=>Unit
  |16=>Unit
  |17=>Unit
  |18=>aB
  |19=>eX
  |20=>bK
  |21=>Unit
  |22=>dn
  |23=>Unit
  |24=>Unit
  |25=>Unit
  |26=>Unit
  |27=>Unit
  |28=>Unit
  |_=>Unit
def reF:Nat→List Ty
  |0=>[]
  |1=>[]
  |2=>[]
  |3=>[.str,(.int .i64)]
  |4=>[.str,(.int .i64),(.int .i64),(.sl (.st 5))]
  |5=>[(.sl (.st 6)),(.int .i64),(.int .i64),(.int .i64),(.int .i64),(.int .i64),(.int .i64),(.int .i64)]
  |6=>[(.int .i64),(.int .i64),(.int .i64),(.int .i64),(.int .i64),(.int .i64),(.sl (.int .i64))]
  |7=>[]
  |8=>[(.int .i64),(.int .i64),(.int .i64)]
  |9=>[]
  |10=>[(.int .i64),(.int .i64)]
  |11=>[(.int .i64),(.sl (.int .i64)),(.sl (.prod (.int .i64) (.int .i64))),(.sl (.st 12))]
  |12=>[(.int .i64),(.int .i64),(.sl (.st 13))]
  |13=>[(.int .i64),(.int .i64)]
  |14=>[]
  |15=>[]
  |16=>[]
  |17=>[]
  |18=>[.str,(.int .i64),(.sl .str),(.sl (.st 19))]
  |19=>[(.int .i64),(.int .i64),.str,(.sl (.st 20)),(.sl (.st 19)),(.sl (.st 19))]
  |20=>[(.int .i64),(.int .i64),(.int .i64),(.int .i64),.str,(.sl (.st 20))]
  |21=>[]
  |22=>[(.int .i64),(.int .i64)]
  |23=>[]
  |24=>[]
  |25=>[]
  |26=>[]
  |27=>[]
  |28=>[]
  |_=>[]
def anK:(n:Nat)→reC n
  |0=>()
  |1=>()
  |2=>()
  |3=>Zy
  |4=>SG
  |5=>ace
  |6=>acd
  |7=>()
  |8=>acf
  |9=>()
  |10=>afa
  |11=>Lj
  |12=>ae_
  |13=>Zx
  |14=>()
  |15=>()
  |16=>()
  |17=>()
  |18=>ae8
  |19=>ae5
  |20=>ae4
  |21=>()
  |22=>ae6
  |23=>()
  |24=>()
  |25=>()
  |26=>()
  |27=>()
  |28=>()
  |_+29=>()
def afc:(n:Nat)→reC n→List (TP reC)
  |0,x=>[]
  |1,x=>[]
  |2,x=>[]
  |3,x=>[⟨.str,aW.name x⟩,⟨(.int .i64),aW.size x⟩]
  |4,x=>[⟨.str,aF.name x⟩,⟨(.int .i64),aF.params x⟩,⟨(.int .i64),aF.regs x⟩,⟨(.sl (.st 5)),aF.blocks x⟩]
  |5,x=>[⟨(.sl (.st 6)),aG.instrs x⟩,⟨(.int .i64),aG.aA x⟩,⟨(.int .i64),aG.Du x⟩,⟨(.int .i64),aG.fO x⟩,⟨(.int .i64),aG.dh x⟩,⟨(.int .i64),aG.line x⟩,⟨(.int .i64),aG.jU x⟩,⟨(.int .i64),aG.jm x⟩]
  |6,x=>[⟨(.int .i64),fM.kind x⟩,⟨(.int .i64),fM.op x⟩,⟨(.int .i64),fM.dst x⟩,⟨(.int .i64),fM.a x⟩,⟨(.int .i64),fM.b x⟩,⟨(.int .i64),fM.value x⟩,⟨(.sl (.int .i64)),fM.args x⟩]
  |7,x=>[]
  |8,x=>[⟨(.int .i64),aJ.func x⟩,⟨(.int .i64),aJ.block x⟩,⟨(.int .i64),aJ.way x⟩]
  |9,x=>[]
  |10,x=>[⟨(.int .i64),mX.func x⟩,⟨(.int .i64),mX.block x⟩]
  |11,x=>[⟨(.int .i64),dw.entries x⟩,⟨(.sl (.int .i64)),dw.blocks x⟩,⟨(.sl (.prod (.int .i64) (.int .i64))),dw.edges x⟩,⟨(.sl (.st 12)),dw.sites x⟩]
  |12,x=>[⟨(.int .i64),nR.block x⟩,⟨(.int .i64),nR.instr x⟩,⟨(.sl (.st 13)),nR.targets x⟩]
  |13,x=>[⟨(.int .i64),lD.func x⟩,⟨(.int .i64),lD.count x⟩]
  |14,x=>[]
  |15,x=>[]
  |16,x=>[]
  |17,x=>[]
  |18,x=>[⟨.str,aB.name x⟩,⟨(.int .i64),aB.line x⟩,⟨(.sl .str),aB.params x⟩,⟨(.sl (.st 19)),aB.body x⟩]
  |19,x=>[⟨(.int .i64),eX.kind x⟩,⟨(.int .i64),eX.line x⟩,⟨.str,eX.name x⟩,⟨(.sl (.st 20)),eX.exprs x⟩,⟨(.sl (.st 19)),eX.then' x⟩,⟨(.sl (.st 19)),eX.else' x⟩]
  |20,x=>[⟨(.int .i64),bK.kind x⟩,⟨(.int .i64),bK.op x⟩,⟨(.int .i64),bK.value x⟩,⟨(.int .i64),bK.line x⟩,⟨.str,bK.name x⟩,⟨(.sl (.st 20)),bK.args x⟩]
  |21,x=>[]
  |22,x=>[⟨(.int .i64),dn.from' x⟩,⟨(.int .i64),dn.to x⟩]
  |23,x=>[]
  |24,x=>[]
  |25,x=>[]
  |26,x=>[]
  |27,x=>[]
  |28,x=>[]
  |_+29,_=>[]
def aks:(n:Nat)→List (TP reC)→reC n
  |0,ws=>()
  |1,ws=>()
  |2,ws=>()
  |3,ws=>aW.mk (TP.get .str [] ws 0) (TP.get (.int .i64) (0:Int) ws 1)
  |4,ws=>aF.mk (TP.get .str [] ws 0) (TP.get (.int .i64) (0:Int) ws 1) (TP.get (.int .i64) (0:Int) ws 2) (TP.get (.sl (.st 5)) [] ws 3)
  |5,ws=>aG.mk (TP.get (.sl (.st 6)) [] ws 0) (TP.get (.int .i64) (0:Int) ws 1) (TP.get (.int .i64) (0:Int) ws 2) (TP.get (.int .i64) (0:Int) ws 3) (TP.get (.int .i64) (0:Int) ws 4) (TP.get (.int .i64) (0:Int) ws 5) (TP.get (.int .i64) (0:Int) ws 6) (TP.get (.int .i64) (0:Int) ws 7)
  |6,ws=>fM.mk (TP.get (.int .i64) (0:Int) ws 0) (TP.get (.int .i64) (0:Int) ws 1) (TP.get (.int .i64) (0:Int) ws 2) (TP.get (.int .i64) (0:Int) ws 3) (TP.get (.int .i64) (0:Int) ws 4) (TP.get (.int .i64) (0:Int) ws 5) (TP.get (.sl (.int .i64)) [] ws 6)
  |7,ws=>()
  |8,ws=>aJ.mk (TP.get (.int .i64) (0:Int) ws 0) (TP.get (.int .i64) (0:Int) ws 1) (TP.get (.int .i64) (0:Int) ws 2)
  |9,ws=>()
  |10,ws=>mX.mk (TP.get (.int .i64) (0:Int) ws 0) (TP.get (.int .i64) (0:Int) ws 1)
  |11,ws=>dw.mk (TP.get (.int .i64) (0:Int) ws 0) (TP.get (.sl (.int .i64)) [] ws 1) (TP.get (.sl (.prod (.int .i64) (.int .i64))) [] ws 2) (TP.get (.sl (.st 12)) [] ws 3)
  |12,ws=>nR.mk (TP.get (.int .i64) (0:Int) ws 0) (TP.get (.int .i64) (0:Int) ws 1) (TP.get (.sl (.st 13)) [] ws 2)
  |13,ws=>lD.mk (TP.get (.int .i64) (0:Int) ws 0) (TP.get (.int .i64) (0:Int) ws 1)
  |14,ws=>()
  |15,ws=>()
  |16,ws=>()
  |17,ws=>()
  |18,ws=>aB.mk (TP.get .str [] ws 0) (TP.get (.int .i64) (0:Int) ws 1) (TP.get (.sl .str) [] ws 2) (TP.get (.sl (.st 19)) [] ws 3)
  |19,ws=>eX.mk (TP.get (.int .i64) (0:Int) ws 0) (TP.get (.int .i64) (0:Int) ws 1) (TP.get .str [] ws 2) (TP.get (.sl (.st 20)) [] ws 3) (TP.get (.sl (.st 19)) [] ws 4) (TP.get (.sl (.st 19)) [] ws 5)
  |20,ws=>bK.mk (TP.get (.int .i64) (0:Int) ws 0) (TP.get (.int .i64) (0:Int) ws 1) (TP.get (.int .i64) (0:Int) ws 2) (TP.get (.int .i64) (0:Int) ws 3) (TP.get .str [] ws 4) (TP.get (.sl (.st 20)) [] ws 5)
  |21,ws=>()
  |22,ws=>dn.mk (TP.get (.int .i64) (0:Int) ws 0) (TP.get (.int .i64) (0:Int) ws 1)
  |23,ws=>()
  |24,ws=>()
  |25,ws=>()
  |26,ws=>()
  |27,ws=>()
  |28,ws=>()
  |_+29,_=>()
def air:(n:Nat)→reC n→List P
  |0,x=>[]
  |1,x=>[]
  |2,x=>[]
  |3,x=>Zz x
  |4,x=>SH x
  |5,x=>SE x
  |6,x=>SC x
  |7,x=>[]
  |8,x=>acg x
  |9,x=>[]
  |10,x=>afb x
  |11,x=>Ll x
  |12,x=>XG x
  |13,x=>Nb x
  |14,x=>[]
  |15,x=>[]
  |16,x=>[]
  |17,x=>[]
  |18,x=>ae9 x
  |19,x=>sN x
  |20,x=>sK x
  |21,x=>[]
  |22,x=>ae7 x
  |23,x=>[]
  |24,x=>[]
  |25,x=>[]
  |26,x=>[]
  |27,x=>[]
  |28,x=>[]
  |_+29,_=>[]
theorem akt :∀n,(reF n).all Ty.word=true
  |0=>rfl
  |1=>rfl
  |2=>rfl
  |3=>rfl
  |4=>rfl
  |5=>rfl
  |6=>rfl
  |7=>rfl
  |8=>rfl
  |9=>rfl
  |10=>rfl
  |11=>rfl
  |12=>rfl
  |13=>rfl
  |14=>rfl
  |15=>rfl
  |16=>rfl
  |17=>rfl
  |18=>rfl
  |19=>rfl
  |20=>rfl
  |21=>rfl
  |22=>rfl
  |23=>rfl
  |24=>rfl
  |25=>rfl
  |26=>rfl
  |27=>rfl
  |28=>rfl
  |_+29=>rfl
theorem ais :∀(n:Nat) (x:reC n),(afc n x).map (·.t)=reF n
  |0,x=>rfl
  |1,x=>rfl
  |2,x=>rfl
  |3,x=>rfl
  |4,x=>rfl
  |5,x=>rfl
  |6,x=>rfl
  |7,x=>rfl
  |8,x=>rfl
  |9,x=>rfl
  |10,x=>rfl
  |11,x=>rfl
  |12,x=>rfl
  |13,x=>rfl
  |14,x=>rfl
  |15,x=>rfl
  |16,x=>rfl
  |17,x=>rfl
  |18,x=>rfl
  |19,x=>rfl
  |20,x=>rfl
  |21,x=>rfl
  |22,x=>rfl
  |23,x=>rfl
  |24,x=>rfl
  |25,x=>rfl
  |26,x=>rfl
  |27,x=>rfl
  |28,x=>rfl
  |_+29,_=>rfl
theorem ait :∀(n:Nat) (ws:List (TP reC)),ws.map (·.t)=reF n→afc n (aks n ws)=ws
  |0,ws,h=>by
    have e:=dF h
    subst e
    rfl
  |1,ws,h=>by
    have e:=dF h
    subst e
    rfl
  |2,ws,h=>by
    have e:=dF h
    subst e
    rfl
  |3,ws,h=>by
    obtain ⟨x0,GI,e0,h0⟩:=aT h
    subst e0
    obtain ⟨x1,LY,e1,h1⟩:=aT h0
    subst e1
    have e:=dF h1
    subst e
    rfl
  |4,ws,h=>by
    obtain ⟨x0,GI,e0,h0⟩:=aT h
    subst e0
    obtain ⟨x1,LY,e1,h1⟩:=aT h0
    subst e1
    obtain ⟨x2,ws2,e2,h2⟩:=aT h1
    subst e2
    obtain ⟨x3,ws3,e3,h3⟩:=aT h2
    subst e3
    have e:=dF h3
    subst e
    rfl
  |5,ws,h=>by
    obtain ⟨x0,GI,e0,h0⟩:=aT h
    subst e0
    obtain ⟨x1,LY,e1,h1⟩:=aT h0
    subst e1
    obtain ⟨x2,ws2,e2,h2⟩:=aT h1
    subst e2
    obtain ⟨x3,ws3,e3,h3⟩:=aT h2
    subst e3
    obtain ⟨x4,ws4,e4,h4⟩:=aT h3
    subst e4
    obtain ⟨x5,ws5,e5,h5⟩:=aT h4
    subst e5
    obtain ⟨x6,ws6,e6,h6⟩:=aT h5
    subst e6
    obtain ⟨x7,ws7,e7,h7⟩:=aT h6
    subst e7
    have e:=dF h7
    subst e
    rfl
  |6,ws,h=>by
    obtain ⟨x0,GI,e0,h0⟩:=aT h
    subst e0
    obtain ⟨x1,LY,e1,h1⟩:=aT h0
    subst e1
    obtain ⟨x2,ws2,e2,h2⟩:=aT h1
    subst e2
    obtain ⟨x3,ws3,e3,h3⟩:=aT h2
    subst e3
    obtain ⟨x4,ws4,e4,h4⟩:=aT h3
    subst e4
    obtain ⟨x5,ws5,e5,h5⟩:=aT h4
    subst e5
    obtain ⟨x6,ws6,e6,h6⟩:=aT h5
    subst e6
    have e:=dF h6
    subst e
    rfl
  |7,ws,h=>by
    have e:=dF h
    subst e
    rfl
  |8,ws,h=>by
    obtain ⟨x0,GI,e0,h0⟩:=aT h
    subst e0
    obtain ⟨x1,LY,e1,h1⟩:=aT h0
    subst e1
    obtain ⟨x2,ws2,e2,h2⟩:=aT h1
    subst e2
    have e:=dF h2
    subst e
    rfl
  |9,ws,h=>by
    have e:=dF h
    subst e
    rfl
  |10,ws,h=>by
    obtain ⟨x0,GI,e0,h0⟩:=aT h
    subst e0
    obtain ⟨x1,LY,e1,h1⟩:=aT h0
    subst e1
    have e:=dF h1
    subst e
    rfl
  |11,ws,h=>by
    obtain ⟨x0,GI,e0,h0⟩:=aT h
    subst e0
    obtain ⟨x1,LY,e1,h1⟩:=aT h0
    subst e1
    obtain ⟨x2,ws2,e2,h2⟩:=aT h1
    subst e2
    obtain ⟨x3,ws3,e3,h3⟩:=aT h2
    subst e3
    have e:=dF h3
    subst e
    rfl
  |12,ws,h=>by
    obtain ⟨x0,GI,e0,h0⟩:=aT h
    subst e0
    obtain ⟨x1,LY,e1,h1⟩:=aT h0
    subst e1
    obtain ⟨x2,ws2,e2,h2⟩:=aT h1
    subst e2
    have e:=dF h2
    subst e
    rfl
  |13,ws,h=>by
    obtain ⟨x0,GI,e0,h0⟩:=aT h
    subst e0
    obtain ⟨x1,LY,e1,h1⟩:=aT h0
    subst e1
    have e:=dF h1
    subst e
    rfl
  |14,ws,h=>by
    have e:=dF h
    subst e
    rfl
  |15,ws,h=>by
    have e:=dF h
    subst e
    rfl
  |16,ws,h=>by
    have e:=dF h
    subst e
    rfl
  |17,ws,h=>by
    have e:=dF h
    subst e
    rfl
  |18,ws,h=>by
    obtain ⟨x0,GI,e0,h0⟩:=aT h
    subst e0
    obtain ⟨x1,LY,e1,h1⟩:=aT h0
    subst e1
    obtain ⟨x2,ws2,e2,h2⟩:=aT h1
    subst e2
    obtain ⟨x3,ws3,e3,h3⟩:=aT h2
    subst e3
    have e:=dF h3
    subst e
    rfl
  |19,ws,h=>by
    obtain ⟨x0,GI,e0,h0⟩:=aT h
    subst e0
    obtain ⟨x1,LY,e1,h1⟩:=aT h0
    subst e1
    obtain ⟨x2,ws2,e2,h2⟩:=aT h1
    subst e2
    obtain ⟨x3,ws3,e3,h3⟩:=aT h2
    subst e3
    obtain ⟨x4,ws4,e4,h4⟩:=aT h3
    subst e4
    obtain ⟨x5,ws5,e5,h5⟩:=aT h4
    subst e5
    have e:=dF h5
    subst e
    rfl
  |20,ws,h=>by
    obtain ⟨x0,GI,e0,h0⟩:=aT h
    subst e0
    obtain ⟨x1,LY,e1,h1⟩:=aT h0
    subst e1
    obtain ⟨x2,ws2,e2,h2⟩:=aT h1
    subst e2
    obtain ⟨x3,ws3,e3,h3⟩:=aT h2
    subst e3
    obtain ⟨x4,ws4,e4,h4⟩:=aT h3
    subst e4
    obtain ⟨x5,ws5,e5,h5⟩:=aT h4
    subst e5
    have e:=dF h5
    subst e
    rfl
  |21,ws,h=>by
    have e:=dF h
    subst e
    rfl
  |22,ws,h=>by
    obtain ⟨x0,GI,e0,h0⟩:=aT h
    subst e0
    obtain ⟨x1,LY,e1,h1⟩:=aT h0
    subst e1
    have e:=dF h1
    subst e
    rfl
  |23,ws,h=>by
    have e:=dF h
    subst e
    rfl
  |24,ws,h=>by
    have e:=dF h
    subst e
    rfl
  |25,ws,h=>by
    have e:=dF h
    subst e
    rfl
  |26,ws,h=>by
    have e:=dF h
    subst e
    rfl
  |27,ws,h=>by
    have e:=dF h
    subst e
    rfl
  |28,ws,h=>by
    have e:=dF h
    subst e
    rfl
  |_+29,ws,h=>by have e:=dF h;subst e;rfl
theorem aiu :∀(n:Nat) (x:reC n),air n x=(afc n x).map fun w=>I_ (ji reF) (oZ reF air (ji reF)) w.t w.x
  |0,x=>by kernel_rfl
  |1,x=>by kernel_rfl
  |2,x=>by kernel_rfl
  |3,x=>by kernel_rfl
  |4,x=>by kernel_rfl
  |5,x=>by kernel_rfl
  |6,x=>by kernel_rfl
  |7,x=>by kernel_rfl
  |8,x=>by kernel_rfl
  |9,x=>by kernel_rfl
  |10,x=>by kernel_rfl
  |11,x=>by kernel_rfl
  |12,x=>by kernel_rfl
  |13,x=>by kernel_rfl
  |14,x=>by kernel_rfl
  |15,x=>by kernel_rfl
  |16,x=>by kernel_rfl
  |17,x=>by kernel_rfl
  |18,x=>by kernel_rfl
  |19,x=>(Vs x).trans (by kernel_rfl)
  |20,x=>(Vr x).trans (by kernel_rfl)
  |21,x=>by kernel_rfl
  |22,x=>by kernel_rfl
  |23,x=>by kernel_rfl
  |24,x=>by kernel_rfl
  |25,x=>by kernel_rfl
  |26,x=>by kernel_rfl
  |27,x=>by kernel_rfl
  |28,x=>by kernel_rfl
  |_+29,_=>rfl
def reG:Nat→Option ((e:Ty)×List (D reC e))
  |_=>none
instance re:RE where
  C:=reC
  F:=reF
  dflt:=anK
  un:=afc
  ro:=aks
  er:=air
  Fwd:=akt
  ag2:=ais
  ag3:=ait
  ag4:=aiu
  G:=reG
theorem mixed:Fit Try.prog:=⟨Fw.Ytfklooeiipkijaa.aip,fun _ _ _ _ h=>h.elim⟩
def zH:List (Nat×Ty):=[(3,(.int .i64)),(4,.bool),(5,(.int .u8)),(9,.str),(35,(.st 4)),(38,(.st 8)),(43,(.st 10)),(45,(.st 5)),(47,(.sl (.int .i64))),(65,(.st 11)),(66,(.prod (.int .i64) (.int .i64))),(88,(.st 3)),(92,(.st 6)),(99,(.st 22)),(104,(.st 12)),(106,(.st 13)),(111,(.st 18)),(126,(.st 19)),(143,(.st 20))]
def ety:TypeId→Option Ty:=fun t=>zH.lookup t
def kS (l:List Nat) (r:List (Nat×Md)):List (Nat×Md):=l.map (fun n=>(n,.keep))++r
def kO (l:List Nat) (r:List (Nat×Mo)):List (Nat×Mo):=l.map (fun n=>(n,.keep))++r
def lS (l r:List (Nat×Md)):=l++r
def lO (l r:List (Nat×Mo)):=l++r
abbrev q0:jT:=.p false false (.int .i64)
abbrev q1:jT:=.p true false (.int .i64)
abbrev q2:jT:=.p false true (.int .i64)
abbrev q3:lH:=.one (.p false false .bool)
abbrev q4:iD:=.box [(.p false true (.sl (.int .u8))),q0]
abbrev q5:iD:=.aP true true (.st 5) [(0,(.st 6))]
abbrev q6:iD:=.box [(.p false true (.sl (.st 3))),(.p false true (.sl (.st 18))),(.p false true (.sl .str)),q2,q2,(.own 50001),q2]
abbrev q7:iD:=.box [(.p false true (.sl (.st 3))),(.p false true (.sl (.st 18))),(.own 50001),q2,q2]
abbrev q8:iD:=.arr false true false (.int .i64)
abbrev q9:jT:=.p true true (.sl (.st 18))
abbrev q10:iD:=.arr false false false (.int .i64)
abbrev q11:iD:=.box [(.box 50001 0),(.own 50002),(.own 50003),(.own 50004),q2]
abbrev q12:jT:=.p true true (.sl (.st 3))
abbrev q14:iD:=.box [(.p false true (.sl (.st 3))),(.p false true (.sl (.st 18))),(.own 50001),q0,q0]
abbrev wX:iD:=.arr false false true .str
abbrev q16:lH:=.one q0
abbrev q17:jT:=.p true false (.sl (.int .i64))
abbrev P_:iD:=.box [(.p false true (.sl (.int .u8))),q2]
abbrev XH:jT:=.p true true (.sl .str)
abbrev q20:lH:=.agg [(.p true false (.sl (.st 3))),(.p true false (.sl (.st 4))),q1,q1]
abbrev yO:lH:=.one (.box 50000 0)
abbrev q22:iD:=.arr false false true (.st 3)
abbrev q23:iD:=.arr false false true (.st 18)
abbrev q24:iD:=.aP false true (.st 5) [(0,(.st 6))]
abbrev Z9:iD:=.arr false false false (.st 8)
abbrev q26:iD:=.aP false false (.st 4) [(3,(.st 5))]
abbrev q27:iD:=.box [q12,q9,XH,q0,q0,(.own 1033),q0]
abbrev SI:jT:=.p false false .str
abbrev q30:jT:=.p true false (.sl (.st 19))
abbrev q31:iD:=.box [q12,q9,XH,q2,q2,(.own 100002),q2]
abbrev q32:lH:=.agg [(.p true false (.sl (.st 3))),(.p true false (.sl (.st 18)))]
abbrev q33:iD:=.box [(.box 50001 0),(.own 50002),(.own 50003),(.own 50004),q0]
abbrev q34:iD:=.box [(.p false true (.sl (.st 3))),(.p false true (.sl (.st 18))),(.p false true (.sl .str)),q0,q0,(.own 50001),q0]
abbrev q35:jT:=.p true false .str
abbrev q13:lH:=.agg [q35,q1,q1,(.p true false (.sl (.st 5)))]
abbrev wY:lH:=.one q1
abbrev q37:iD:=.arr false true false .bool
abbrev q38:iD:=.arr false true false (.prod (.int .i64) (.int .i64))
abbrev q39:iD:=.arr false true false (.st 22)
abbrev q40:iD:=.arr false false true (.st 19)
abbrev q41:lH:=.one (.own 100001)
abbrev q42:iD:=.arr false true true .str
abbrev q43:jT:=.p true false (.sl (.st 20))
abbrev q28:lH:=.agg [q1,q1,q1,q1,q35,q43]
abbrev q44:iD:=.arr false false true (.int .i64)
abbrev q45:iD:=.aP false false (.sl (.int .i64)) [(0,(.int .i64))]
abbrev q46:jT:=.p true false (.sl (.int .u8))
abbrev q47:iD:=.arr false false false (.st 3)
abbrev q48:iD:=.box [(.p true false (.sl (.st 22)))]
abbrev q49:iD:=.box [q12,q9,(.own 100002),q0,q0]
abbrev q50:iD:=.box [q12,q9,(.own 100002),q2,q2]
abbrev q51:iD:=.arr false true true (.st 20)
abbrev q52:lH:=.one (.own 100000)
abbrev q53:iD:=.arr false false false .bool
abbrev q54:iD:=.box [q12,q9,XH,q0,q0,(.own 60001),q0]
abbrev Qa:lH:=.one q17
abbrev q56:iD:=.arr false false true (.st 20)
abbrev q57:lH:=.agg [q1,q1,q1,q1,q1,q1,q17]
abbrev q58:iD:=.arr false true false (.st 5)
abbrev q59:iD:=.arr false false false .str
abbrev q60:jT:=.p true true (.int .i64)
abbrev q61:jT:=.p true false (.sl .str)
abbrev q62:iD:=.box [(.box 50000 0),(.own 101003),(.own 100701),(.own 100702),q0]
abbrev q63:iD:=.box [(.box 50000 0),(.own 103003),(.own 100701),(.own 100702),q0]
abbrev q64:iD:=.box [(.box 50000 0),(.own 103003),(.own 105004),(.own 100702),q0]
abbrev q65:iD:=.box [(.box 50000 0),(.own 103003),(.own 105004),(.own 109005),q0]
abbrev q66:iD:=.box [(.box 50001 0),(.own 50002),(.own 50003),(.own 100005),q2]
abbrev q67:lH:=.agg [q1,q1,q35,q43,q30,q30]
abbrev q68:iD:=.box [(.p true false (.sl (.st 6))),q1,q1,q1,q1,q1,q1,q1]
abbrev q69:iD:=.arr false false false (.st 18)
abbrev q70:iD:=.arr false true false (.st 18)
abbrev q71:iD:=.arr false true false (.st 11)
abbrev q72:iD:=.arr false true true (.st 19)
abbrev q73:iD:=.arr false true false (.st 4)
abbrev j0:gG:=.seq .nil .nil
abbrev j1:gG:=.seq .nil j0
abbrev j2:JT:=⟨[],[(50000,.ob q27),(1033,.ob q5)]⟩
abbrev j4:gG:=.seq j1 .nil
abbrev j5:JT:=⟨kS [0,4] [],lO [(50000,.ob q11),(50001,.ob q4)] (kO [50002,50003,4,50004] [])⟩
abbrev j6:JT:=⟨kS [0,3,4] [],lO [(50000,.ob q7)] (kO [50001,3,4] [])⟩
abbrev j7:JT:=⟨kS [0,1,5,6,7] [],lO [(50000,.ob q49)] (kO [100001,7,100002,101003] [])⟩
abbrev j8:JT:=⟨kS [0,3,4] [],lO [(50000,.ob q14)] (kO [50001,3,4] [])⟩
abbrev j9:gG:=.seq j0 (.seq j4 .nil)
abbrev j10:gG:=.seq .nil (.seq .nil (.seq (.seq .nil (.meet false ⟨[(3,.sl q16)],[]⟩ (.loop ⟨[(1,.keep),(3,.sl q16),(4,.sl q16)],[(1,.keep)]⟩ (.seq j0 j0)))) .nil))
abbrev j11:gG:=.seq .nil j1
abbrev j12:gG:=.seq .nil (.seq (.seq .nil (.meet true ⟨[],[]⟩ (.loop ⟨kS [1,2] [(5,.sl q16)],[(2,.keep)]⟩ j9))) .nil)
abbrev j13:JT:=⟨kS [1,4] [(5,.sl q3)],[(1,.keep)]⟩
abbrev j14:gG:=.seq .nil (.meet false ⟨kS [1,2,3,4,7,8,9] [],kO [1,2,11,14,7] [(9,.ob q68),(103005,.keep)]⟩ .nil)
abbrev j15:gG:=.seq j0 .nil
abbrev j16:gG:=.seq (.meet false ⟨[(2,.sl q3)],[]⟩ .nil) .nil
abbrev j17:JT:=⟨kS [7,8,9,10,14] [(17,.sl q3)],[(22,.keep),(24,.ob q37),(46,.ob q8),(31,.ob q10),(49,.ob q8)]⟩
abbrev j18:gG:=.seq (.seq .nil (.meet true ⟨[],[]⟩ (.loop ⟨kS [0,1] [(5,.sl q16)],[]⟩ j9))) .nil
abbrev j19:JT:=⟨kS [0,2,3,4,7,8] [],lO [(50000,.ob q4)] (kO [2,3] [(100004,.ob q26),(19,.keep)])⟩
abbrev j20:JT:=⟨[],[(50000,.ob q31),(100002,.ob q5)]⟩
abbrev j21:JT:=⟨[(1,.keep),(6,.sl q3)],[(1,.keep)]⟩
abbrev j22:JT:=⟨kS [2,3] [(5,.sl q16)],kO [2,3] []⟩
abbrev j23:gG:=.seq .nil (.seq .nil j4)
abbrev j24:JT:=⟨lS [(3,.sl q52)] (kS [9,10] [(11,.sl q16)]),[(100000,.ob Z9)]⟩
abbrev j25:JT:=⟨kS [1,4,6,7,8,26,27,28] [],kO [4,6,24,26,17] [(21,.ob q38)]⟩
abbrev j26:JT:=⟨kS [5,6,10,12] [(14,.sl wY)],kO [22,100003,10,46] []⟩
abbrev j27:JT:=⟨kS [0,4] [],kO [50000,50001,50002,50003,4,50004] []⟩
abbrev j28:gG:=.seq (.meet false ⟨[(6,.sl q3)],[]⟩ .nil) .nil
abbrev j29:gG:=.seq .nil j15
abbrev j30:gG:=.seq (.seq j11 .nil) .nil
abbrev j3:gG:=.seq .nil (.seq (.seq .nil (.meet true ⟨[],[]⟩ (.loop ⟨kS [0,1,7] [(8,.sl q16)],[]⟩ (.seq .nil (.seq .nil j30))))) .nil)
abbrev j31:JT:=⟨[],[(50000,.ob q14),(50001,.keep)]⟩
abbrev j32:JT:=⟨[(3,.sl q52)],[(100000,.ob Z9)]⟩
def sg6:dD:={ bH:=2,pin:=⟨[(0,(.one q46)),(1,wY)],[]⟩,aS:=⟨[(0,(.one (.box 14 0)))],[(14,(.box [q46,q0]))]⟩,dA:=1,bg:=[],aX:=[14] }
def an6:gG:=(.seq .nil (.seq (.seq .nil (.meet false ⟨[(0,.sl (.one q46))],[]⟩ .nil)) .nil))
def sg9:dD:={ bH:=1,pin:=⟨[(0,q13)],[]⟩,aS:=⟨[(0,q52)],[(100000,Z9)]⟩,dA:=1,bg:=[],aX:=[100000] }
def an9:gG:=(.seq .nil (.seq .nil (.seq (.seq .nil (.meet false j32 (.loop j24 (.seq .nil (.seq .nil (.seq (.seq (.seq .nil (.seq (.seq .nil (.meet false ⟨lS [(3,.sl (.one (.own 101000)))] (kS [4,5,9,10,11] []),[(101000,.ob Z9),(5,.keep)]⟩ .nil)) (.seq .nil (.meet false ⟨lS [(3,.sl (.one (.own 102000)))] (kS [9,10,11] []),[(102000,.ob Z9)]⟩ .nil)))) .nil) .nil)))))) .nil)))
def akB:dD:={ bH:=2,pin:=⟨[(0,yO),(1,wY)],[(50000,P_)]⟩,aS:=⟨[(0,q16)],[(50000,q4)]⟩,dA:=1,bg:=[50000],aX:=[] }
def anU:gG:=(.seq .nil (.seq (.seq (.meet false ⟨kS [0,1] [(19,.sl q3)],[(50000,.keep)]⟩ .nil) j0) j23))
def anV:dD:={ bH:=1,pin:=⟨[(0,wY)],[]⟩,aS:=⟨[(0,q3)],[]⟩,dA:=1,bg:=[],aX:=[] }
def anW:gG:=(.seq .nil j16)
def anX:dD:={ bH:=1,pin:=⟨[(0,wY)],[]⟩,aS:=⟨[(0,q3)],[]⟩,dA:=1,bg:=[],aX:=[] }
def anY:gG:=j0
def anZ:dD:={ bH:=1,pin:=⟨[(0,wY)],[]⟩,aS:=⟨[(0,q3)],[]⟩,dA:=1,bg:=[],aX:=[] }
def an0:gG:=(.seq .nil j16)
def an1:dD:={ bH:=3,pin:=⟨[(0,q20),(1,q13),(2,(.one (.p true false (.sl (.st 12)))))],[]⟩,aS:=⟨[(0,q3)],[]⟩,dA:=1,bg:=[],aX:=[] }
def an2:gG:=(.seq .nil (.seq (.seq .nil (.meet true ⟨[],[]⟩ (.loop ⟨kS [2,3,4] [(7,.sl q16)],kO [3,4] []⟩ (.seq j0 (.seq (.seq (.seq .nil (.seq (.seq (.meet false ⟨kS [2,3,4,7,8] [(56,.sl q3)],kO [3,4,8] []⟩ .nil) j0) (.seq .nil (.seq (.seq (.meet false ⟨kS [2,3,4,7,8,9] [(107,.sl q3)],kO [3,4,8,9] []⟩ .nil) j0) (.seq .nil (.meet true ⟨kS [2,3,4,7] [],kO [3,4] []⟩ (.loop ⟨kS [2,3,4,7,8,9] [(10,.sl q16)],kO [3,4,8,9] []⟩ (.seq j0 (.seq (.seq (.seq .nil (.seq (.meet false ⟨kS [2,3,4,7,8,9,10] [(169,.sl q3)],kO [3,4,8,9] []⟩ .nil) j0)) .nil) .nil))))))))) .nil) .nil))))) .nil))
def an3:dD:={ bH:=3,pin:=⟨[(0,q13),(1,wY),(2,(.one (.p true false (.sl (.st 10)))))],[]⟩,aS:=⟨[(0,(.one (.own 12)))],[(12,q10)]⟩,dA:=1,bg:=[],aX:=[12] }
def an_:gG:=(.seq .nil (.seq .nil (.seq (.seq .nil (.meet false ⟨[(7,.keep)],[(12,.ob q10)]⟩ (.loop ⟨kS [1,2,7] [(8,.sl q16)],[(12,.ob q10)]⟩ (.seq j0 (.seq (.seq (.seq (.meet false ⟨kS [1,2,7,8] [(43,.sl q3)],[(12,.keep)]⟩ .nil) (.meet false ⟨kS [1,2,7,8] [],[(12,.ob q10)]⟩ .nil)) .nil) .nil))))) .nil)))
def akC:dD:={ bH:=1,pin:=⟨[(0,wY)],[]⟩,aS:=⟨[(0,(.one SI))],[]⟩,dA:=1,bg:=[],aX:=[] }
def aoa:gG:=j23
def aob:dD:={ bH:=3,pin:=⟨[(0,yO),(1,q20),(2,q13)],[(50000,P_)]⟩,aS:=⟨[(0,(.agg [q0,q0,q0,q0,q0,q0,(.own 60001)]))],[(50000,q4),(60001,q10)]⟩,dA:=1,bg:=[50000],aX:=[60001] }
def aoc:gG:=(.seq .nil (.seq .nil (.seq (.seq .nil (.seq (.seq .nil (.meet false ⟨kS [0,4,6,7] [],lO [(50000,.ob q4)] (kO [4,6] [(7,.ob (.box [q0,q0,q0,q0,q0,q0,(.own 110004)])),(110004,.ob q10)])⟩ (.seq .nil (.seq .nil (.meet false ⟨kS [0,4,6,7] [],lO [(50000,.ob q4)] (kO [4,6] [(7,.ob (.box [q0,q0,q0,q0,q0,q0,(.own 109004)])),(109004,.ob q10)])⟩ (.seq .nil (.seq .nil (.meet false ⟨kS [0,4,6,7] [],lO [(50000,.ob q4)] (kO [4,6] [(7,.ob (.box [q0,q0,q0,q0,q0,q0,(.own 108004)])),(108004,.ob q10)])⟩ (.seq .nil (.seq (.seq .nil (.meet false ⟨kS [0,4,5,6,7,27] [(46,.sl q3)],kO [50000,4,5,6,7] []⟩ .nil)) (.meet false ⟨kS [0,4,6,7] [],lO [(50000,.ob q4)] (kO [4,6] [(7,.ob (.box [q0,q0,q0,q0,q0,q0,(.own 107004)])),(107004,.ob q10)])⟩ (.seq .nil (.seq .nil (.meet false ⟨kS [0,4,6,7] [],lO [(50000,.ob q4)] (kO [4,6] [(7,.ob (.box [q0,q0,q0,q0,q0,q0,(.own 106004)])),(106004,.ob q10)])⟩ (.seq (.seq .nil (.seq .nil (.meet false ⟨kS [0,4,6,7] [],lO [(50000,.ob q4)] (kO [4,6] [(7,.ob (.box [q0,q0,q0,q0,q0,q0,(.own 101005)])),(101005,.ob q10)])⟩ (.loop ⟨kS [0,4,5,6,7] [(8,.sl q16)],lO [(50000,.ob q4)] (kO [4,5,6] [(7,.ob (.box [q0,q0,q0,q0,q0,q0,(.own 101005)])),(101005,.ob q10)])⟩ (.seq j0 j0))))) (.seq .nil (.meet false ⟨kS [0,4,6,7] [],lO [(50000,.ob q4)] (kO [4,6] [(7,.ob (.box [q0,q0,q0,q0,q0,q0,(.own 105004)])),(105004,.ob q10)])⟩ (.seq (.seq .nil (.meet false ⟨kS [0,4,6,7] [],lO [(50000,.ob q4)] (kO [4,6] [(7,.ob (.box [q0,q0,q0,q0,q0,q0,(.own 103005)])),(103005,.ob q10)])⟩ (.loop ⟨kS [0,4,5,6,7] [(9,.sl q16)],lO [(50000,.ob q4)] (kO [4,5,6] [(7,.ob (.box [q0,q0,q0,q0,q0,q0,(.own 103005)])),(103005,.ob q10)])⟩ (.seq j0 j0)))) .nil)))))))))))))))))) .nil)) (.seq (.seq (.meet false ⟨kS [0,4,6,7] [(107,.sl q3)],lO [(50000,.ob q4)] (kO [4,6,7,110004] [])⟩ .nil) j0) .nil))))
def aod:dD:={ bH:=2,pin:=⟨[(0,wY),(1,yO)],[(50000,(.box [(.own 50001)])),(50001,q44)]⟩,aS:=⟨[(0,q16)],[(50000,(.box [(.own 50001)])),(50001,q44)]⟩,dA:=1,bg:=[50000,50001],aX:=[] }
def aoe:gG:=(.seq .nil (.seq (.meet false ⟨[(0,.sl (.one q60))],[(50000,.keep),(50001,.ob q44)]⟩ (.loop ⟨[(0,.sl (.one q60)),(1,.keep)],[(50000,.keep),(50001,.ob q44)]⟩ (.seq j0 j0))) .nil))
def aof:dD:={ bH:=1,pin:=⟨[(0,q13)],[]⟩,aS:=⟨[(0,(.one (.own 104000)))],[(104000,q39)]⟩,dA:=1,bg:=[],aX:=[104000] }
def aog:gG:=(.seq .nil (.seq .nil (.seq .nil (.seq (.seq .nil (.meet false ⟨kS [1,3] [(4,.sl q41)],[(1,.keep),(100001,.ob q39)]⟩ (.loop ⟨kS [1,3] (lS [(4,.sl q41)] (kS [14,15] [(16,.sl q16)])),[(1,.keep),(100001,.ob q39),(14,.keep)]⟩ (.seq .nil (.seq .nil (.seq (.seq (.seq .nil (.seq .nil (.seq .nil (.seq (.seq .nil (.meet false ⟨kS [1,3] (lS [(4,.sl (.one (.own 102001)))] (kS [14,15,16] [])),[(1,.keep),(102001,.ob q39),(14,.keep)]⟩ (.seq .nil (.seq .nil (.meet false ⟨kS [1,3] (lS [(4,.sl (.one (.own 101001)))] (kS [14,15,16] [])),[(1,.keep),(101001,.ob q39),(14,.keep)]⟩ .nil))))) .nil)))) .nil) .nil)))))) (.seq (.seq .nil (.meet false ⟨[(4,.sl (.one (.own 104000)))],[(104000,.ob q39)]⟩ (.loop ⟨lS [(3,.keep),(4,.sl (.one (.own 104000)))] (kS [56,57] [(58,.sl q16)]),[(104000,.ob q39)]⟩ (.seq .nil (.seq .nil (.seq (.seq (.seq .nil (.seq .nil (.meet false ⟨lS [(3,.keep),(4,.sl (.one (.own 105000)))] (kS [56,57,58] []),[(105000,.ob q39)]⟩ .nil))) .nil) .nil)))))) .nil)))))
def aoh:dD:={ bH:=5,pin:=⟨[(0,wY),(1,(.one (.box 50002 0))),(2,(.one (.box 50003 0))),(3,(.one (.box 50004 0))),(4,yO)],[(50000,(.box [(.own 50001)])),(50002,(.box [(.fn 35 [50000])])),(50003,(.box [(.p false true (.sl (.st 22)))])),(50004,(.box [(.own 50005)])),(50001,q44),(50005,(.arr false false true .bool))]⟩,aS:=⟨[],[(50000,(.box [(.own 50001)])),(50001,q44),(50002,(.box [(.fn 35 [50000])])),(50003,(.box [(.p false true (.sl (.st 22)))])),(50004,(.box [(.own 50005)])),(50005,(.arr false false true .bool))]⟩,dA:=0,bg:=[50000,50001,50002,50003,50004,50005],aX:=[] }
def aoi:gG:=j0
def aoj:dD:={ bH:=1,pin:=⟨[(0,Qa)],[]⟩,aS:=⟨[(0,(.one (.own 60000)))],[(60000,q8)]⟩,dA:=1,bg:=[],aX:=[60000] }
def aok:gG:=(.seq .nil j4)
def aol:dD:={ bH:=1,pin:=⟨[(0,wY)],[]⟩,aS:=⟨[(0,q3)],[]⟩,dA:=1,bg:=[],aX:=[] }
def aom:gG:=j0
def aon:dD:={ bH:=2,pin:=⟨[(0,Qa),(1,Qa)],[]⟩,aS:=⟨[(0,q3)],[]⟩,dA:=1,bg:=[],aX:=[] }
def aoo:gG:=(.seq .nil (.seq j1 j18))
def aop:dD:={ bH:=2,pin:=⟨[(0,yO),(1,wY)],[(50000,q6),(50001,q24)]⟩,aS:=⟨[(0,q16)],[(50000,(.box [(.p false true (.sl (.st 3))),(.p false true (.sl (.st 18))),(.p false true (.sl .str)),q0,q0,(.own 30),q0])),(30,q5)]⟩,dA:=1,bg:=[50000],aX:=[30] }
def aoq:gG:=j11
def akD:TypeId→Option Ty:=fun t=>(([(1000045,(.prod (.st 0) .bool)),(3000009,.bool)]:List (Nat×Ty))++zH).lookup t
def aor:dD:={ bH:=2,pin:=⟨[(0,yO),(1,q57)],[(50000,q6),(50001,q24)]⟩,aS:=⟨[],[(50000,q34),(50001,q5)]⟩,dA:=0,bg:=[50000,50001],aX:=[] }
def aos:gG:=.nil
def akE:TypeId→Option Ty:=fun t=>(([(1000045,(.prod (.st 0) .bool))]:List (Nat×Ty))++zH).lookup t
def aot:dD:={ bH:=3,pin:=⟨[(0,yO),(1,wY),(2,(.agg [q1,q1,q1,q1]))],[(50000,q6),(50001,q24)]⟩,aS:=⟨[],[(50000,q34),(50001,q5)]⟩,dA:=0,bg:=[50000,50001],aX:=[] }
def aou:gG:=.nil
def akF:TypeId→Option Ty:=fun t=>(([(1000045,(.prod (.st 0) .bool))]:List (Nat×Ty))++zH).lookup t
def akG:dD:={ bH:=2,pin:=⟨[(0,(.one (.own 55000))),(1,(.one q30))],[(55000,wX)]⟩,aS:=⟨[(0,q52)],[(100000,q42)]⟩,dA:=1,bg:=[],aX:=[100000] }
def aov:gG:=(.seq .nil (.seq (.seq .nil (.meet false ⟨[(0,.sl q52)],[(100000,.ob q42)]⟩ (.loop ⟨[(0,.sl q52),(1,.keep),(5,.sl q16)],[(100000,.ob q42)]⟩ (.seq j0 (.seq (.seq (.seq (.seq .nil (.meet false ⟨lS [(0,.sl (.one (.own 101000)))] (kS [1,5] []),[(101000,.ob q42)]⟩ .nil)) .nil) .nil) .nil))))) .nil))
def aow:dD:={ bH:=2,pin:=⟨[(0,q32),(1,(.one q35))],[]⟩,aS:=⟨[(0,q16)],[]⟩,dA:=1,bg:=[],aX:=[] }
def aox:gG:=j12
def aoy:dD:={ bH:=2,pin:=⟨[(0,q32),(1,(.one q35))],[]⟩,aS:=⟨[(0,q16)],[]⟩,dA:=1,bg:=[],aX:=[] }
def aoz:gG:=j12
def akH:dD:={ bH:=1,pin:=⟨[(0,(.one q30))],[]⟩,aS:=⟨[(0,q16)],[]⟩,dA:=1,bg:=[],aX:=[] }
def aoA:gG:=(.seq .nil (.seq .nil (.seq (.seq .nil (.meet false ⟨[(3,.sl q16)],[]⟩ (.loop ⟨[(0,.keep),(3,.sl q16),(4,.sl q16)],[]⟩ (.seq j0 j0)))) .nil)))
def aoB:dD:={ bH:=2,pin:=⟨[(0,(.one q61)),(1,(.one q35))],[]⟩,aS:=⟨[(0,q3)],[]⟩,dA:=1,bg:=[],aX:=[] }
def aoC:gG:=(.seq .nil j18)
def aoD:dD:={ bH:=2,pin:=⟨[(0,q32),(1,(.one q35))],[]⟩,aS:=⟨[(0,q16)],[]⟩,dA:=1,bg:=[],aX:=[] }
def aoE:gG:=(.seq .nil (.seq (.seq .nil (.seq .nil (.seq j4 .nil))) j4))
def aoF:dD:={ bH:=1,pin:=⟨[(0,(.agg [q1,q1,q1,q1]))],[]⟩,aS:=⟨[(0,(.one (.own 60000)))],[(60000,q8)]⟩,dA:=1,bg:=[],aX:=[60000] }
def aoG:gG:=(.seq .nil (.seq (.seq (.seq (.meet false ⟨[(1,.keep),(3,.sl q3)],[(1,.keep)]⟩ .nil) (.seq .nil (.seq (.meet false ⟨[(1,.keep),(19,.sl q3)],[(1,.keep)]⟩ .nil) j0))) .nil) .nil))
def aoH:dD:={ bH:=2,pin:=⟨[(0,yO),(1,(.one q35))],[(50000,q6),(50001,q24)]⟩,aS:=⟨[(0,q16)],[(50000,q34),(50001,q24)]⟩,dA:=1,bg:=[50000,50001],aX:=[],kept:=[50001] }
def aoI:gG:=(.seq .nil (.seq (.seq .nil (.meet true ⟨[],kO [50000,50001] []⟩ (.loop ⟨kS [0,1] [(5,.sl q16)],kO [50000,50001] []⟩ j9))) .nil))
def akI:TypeId→Option Ty:=fun t=>(([(1000045,(.prod (.st 0) .bool)),(3000010,.bool)]:List (Nat×Ty))++zH).lookup t
def aoJ:dD:={ bH:=1,pin:=⟨[(0,q13)],[]⟩,aS:=⟨[(0,q16)],[]⟩,dA:=1,bg:=[],aX:=[] }
def aoK:gG:=j10
def aoL:dD:={ bH:=2,pin:=⟨[(0,q13),(1,(.agg [q1,q1,q1,q1]))],[]⟩,aS:=⟨[(0,q16)],[]⟩,dA:=1,bg:=[],aX:=[] }
def aoM:gG:=(.seq .nil (.seq (.seq (.meet false ⟨kS [2,3] [(14,.sl q3)],kO [2,3] []⟩ .nil) j0) (.seq (.seq (.meet false ⟨kS [2,3] [(29,.sl q3)],kO [2,3] []⟩ .nil) j0) (.seq .nil (.seq (.seq .nil (.meet true ⟨[],[]⟩ (.loop ⟨kS [2,5] [(6,.sl q16)],kO [2,31] []⟩ (.seq j0 (.seq (.seq (.seq (.meet false ⟨kS [2,5,6] [(52,.sl q3)],kO [2,31] []⟩ .nil) j0) .nil) .nil))))) .nil)))))
def akJ:dD:={ bH:=1,pin:=⟨[(0,q28)],[]⟩,aS:=⟨[(0,q16)],[]⟩,dA:=1,bg:=[],aX:=[] }
def aoN:gG:=j10
def aoO:dD:={ bH:=3,pin:=⟨[(0,yO),(1,wY),(2,wY)],[(50000,q7),(50001,wX)]⟩,aS:=⟨[],[(50000,q14),(50001,wX)]⟩,dA:=0,bg:=[50000,50001],aX:=[],kept:=[50001] }
def aoP:gG:=(.seq .nil (.meet false ⟨[],[(50000,.ob (.box [(.p false true (.sl (.st 3))),(.p false true (.sl (.st 18))),(.own 50001),q60,q60])),(50001,.keep)]⟩ .nil))
def aoQ:dD:={ bH:=2,pin:=⟨[(0,yO),(1,(.one q35))],[(50000,q7),(50001,wX)]⟩,aS:=⟨[(0,q16)],[(50000,q14),(50001,wX)]⟩,dA:=1,bg:=[50000,50001],aX:=[],kept:=[50001] }
def aoR:gG:=(.seq .nil j4)
def akK:dD:={ bH:=3,pin:=⟨[(0,yO),(1,q28),(2,wY)],[(50000,q6),(50001,q24)]⟩,aS:=⟨[],[(50000,q54),(60001,q5)]⟩,dA:=0,bg:=[50000],aX:=[60001] }
def aoS:gG:=(.seq .nil (.seq .nil (.seq (.seq (.meet false ⟨kS [0,2,4] [(24,.sl q3)],kO [50000,4,50001] []⟩ .nil) j0) (.seq .nil (.seq .nil (.seq (.seq .nil (.meet false j2 (.seq .nil (.seq .nil (.meet false j2 (.seq .nil (.seq .nil (.meet false j2 (.seq .nil (.seq .nil (.meet false j2 (.seq .nil (.seq .nil (.meet false j2 (.seq .nil (.seq .nil (.meet false j2 (.seq .nil (.seq .nil (.meet false j2 (.seq .nil (.seq .nil (.meet false j2 (.seq .nil (.seq .nil (.meet false j2 (.seq .nil (.seq .nil (.meet false j2 .nil))))))))))))))))))))))))))))) .nil))))))
def akL:TypeId→Option Ty:=fun t=>(([(1000045,(.prod (.st 0) .bool))]:List (Nat×Ty))++zH).lookup t
def akM:dD:={ bH:=3,pin:=⟨[(0,yO),(1,q28),(2,wY)],[(50000,q6),(50001,q24)]⟩,aS:=⟨[],[(50000,(.box [q12,q9,XH,q0,q0,(.own 61),q0])),(61,q5)]⟩,dA:=0,bg:=[50000],aX:=[61] }
def aoT:gG:=(.seq .nil (.seq .nil (.seq .nil (.seq .nil (.seq .nil (.seq .nil (.seq .nil (.seq .nil (.seq .nil (.seq .nil (.seq .nil (.seq .nil (.seq .nil (.seq (.seq .nil (.meet false ⟨kS [0,10,11,12] [],[(50000,.ob (.box [q12,q9,XH,q0,q0,(.own 61),q0])),(61,.ob q5)]⟩ .nil)) .nil))))))))))))))
def akN:TypeId→Option Ty:=fun t=>(([(1000045,(.prod (.st 0) .bool))]:List (Nat×Ty))++zH).lookup t
def akO:dD:={ bH:=3,pin:=⟨[(0,yO),(1,(.one q43)),(2,wY)],[(50000,q6),(50001,q24)]⟩,aS:=⟨[(0,q41)],[(50000,(.box [q12,q9,XH,q0,q0,(.own 100002),q0])),(100001,q10),(100002,q5)]⟩,dA:=1,bg:=[50000],aX:=[100001,100002] }
def aoU:gG:=(.seq .nil (.seq .nil (.seq (.seq .nil (.meet false ⟨[(7,.sl q41)],[(50000,.ob q31),(100001,.ob q10),(100002,.ob q5)]⟩ (.loop ⟨kS [0,1,2] [(7,.sl q41),(8,.sl q16)],[(50000,.ob q31),(100001,.ob q10),(100002,.ob q5)]⟩ (.seq j0 j15)))) .nil)))
def akP:TypeId→Option Ty:=fun t=>(([(1000045,(.prod (.st 0) .bool))]:List (Nat×Ty))++zH).lookup t
def aoV:dD:={ bH:=1,pin:=⟨[(0,q57)],[]⟩,aS:=⟨[(0,(.one (.own 60000)))],[(60000,q8)]⟩,dA:=1,bg:=[],aX:=[60000] }
def aoW:gG:=(.seq .nil (.seq (.seq .nil (.seq (.seq (.seq .nil (.meet false j13 (.seq .nil (.seq .nil (.meet false j13 (.seq .nil (.seq .nil (.meet false j13 (.seq .nil (.seq .nil (.meet false j13 .nil))))))))))) (.seq .nil (.seq (.seq .nil (.meet false ⟨kS [1,4] [(14,.sl q3)],[(1,.keep)]⟩ .nil)) (.seq .nil (.seq .nil j11))))) .nil)) .nil))
def aoX:dD:={ bH:=1,pin:=⟨[(0,q57)],[]⟩,aS:=⟨[(0,q16),(1,q3)],[]⟩,dA:=2,bg:=[],aX:=[] }
def aoY:gG:=(.seq .nil (.seq (.seq .nil (.seq (.seq (.seq .nil (.meet false j21 (.seq .nil (.seq .nil (.meet false j21 (.seq .nil (.seq .nil (.meet false j21 .nil)))))))) j0) .nil)) (.seq (.seq (.meet false ⟨[(1,.keep),(18,.sl q3)],[(1,.keep)]⟩ .nil) j0) .nil)))
def aoZ:dD:={ bH:=3,pin:=⟨[(0,q20),(1,wY),(2,(.one (.p true false .bool)))],[]⟩,aS:=⟨[(0,q3)],[]⟩,dA:=1,bg:=[],aX:=[] }
def ao0:gG:=(.seq .nil j28)
def ao1:dD:={ bH:=4,pin:=⟨[(0,yO),(1,q28),(2,wY),(3,wY)],[(50000,q7),(50001,wX)]⟩,aS:=⟨[],[(50000,q14),(50001,wX)]⟩,dA:=0,bg:=[50000,50001],aX:=[],kept:=[50001] }
def ao3:gG:=(.seq .nil (.seq .nil (.seq (.seq .nil (.meet false j31 (.seq .nil (.seq (.meet false ⟨kS [0,5] [(20,.sl q3)],kO [50000,50001,5] []⟩ .nil) (.meet false j31 .nil))))) .nil)))
def ao4:dD:={ bH:=3,pin:=⟨[(0,yO),(1,(.one q35)),(2,wY)],[(50000,q7),(50001,wX)]⟩,aS:=⟨[(0,(.agg [q0,q0,q0,q0,SI,.cO]))],[(50000,q14),(50001,wX)]⟩,dA:=1,bg:=[50000,50001],aX:=[],kept:=[50001] }
def ao5:gG:=(.seq .nil (.seq .nil (.seq (.seq .nil (.meet false ⟨kS [1,2,6] [(7,.sl q16)],kO [50000,50001,6] []⟩ .nil)) .nil)))
def akQ:dD:={ bH:=2,pin:=⟨[(0,yO),(1,q28)],[(50000,q7),(50001,wX)]⟩,aS:=⟨[(0,(.agg [q0,q0,q0,q0,SI,(.own 60002)]))],[(50000,q14),(50001,wX),(60002,q51)]⟩,dA:=1,bg:=[50000,50001],aX:=[60002],kept:=[50001] }
def ao6:gG:=(.seq .nil (.seq (.seq .nil (.seq (.seq .nil (.seq j0 (.seq .nil (.meet true j6 (.seq .nil (.seq .nil (.meet true j6 (.seq .nil (.seq .nil (.meet true j6 (.seq (.seq .nil (.seq (.seq .nil (.meet true j8 (.seq .nil (.seq .nil (.meet true j8 (.seq .nil (.seq .nil (.seq (.seq .nil (.meet false j8 .nil)) (.seq (.seq .nil (.meet false j8 .nil)) .nil))))))))) .nil)) (.seq .nil (.meet false j6 (.seq (.seq .nil (.meet false j6 .nil)) .nil)))))))))))))) .nil)) j0))
def akR:dD:={ bH:=2,pin:=⟨[(0,yO),(1,(.one q43))],[(50000,q7),(50001,wX)]⟩,aS:=⟨[(0,(.one (.own 100002)))],[(50000,q14),(50001,wX),(100002,q51)]⟩,dA:=1,bg:=[50000,50001],aX:=[100002],kept:=[50001] }
def ao7:gG:=(.seq .nil (.seq .nil (.seq (.seq .nil (.meet false ⟨[(5,.sl (.one (.own 100002)))],[(50000,.ob q7),(50001,.keep),(100002,.ob q51)]⟩ (.loop ⟨kS [0,1] [(5,.sl (.one (.own 100002))),(6,.sl q16)],[(50000,.ob q7),(50001,.keep),(100002,.ob q51)]⟩ (.seq j0 j0)))) .nil)))
def ao8:dD:={ bH:=3,pin:=⟨[(0,wY),(1,(.one q35)),(2,q28)],[]⟩,aS:=⟨[(0,(.agg [q0,q0,SI,(.own 10),.cO,.cO]))],[(10,(.arr false true false (.st 20)))]⟩,dA:=1,bg:=[],aX:=[10] }
def ao9:gG:=j0
def ao_:dD:={ bH:=2,pin:=⟨[(0,yO),(1,(.one (.p true false .bool)))],[(50000,q11),(50001,P_),(50002,q22),(50003,q23),(50004,wX)]⟩,aS:=⟨[(0,(.one SI)),(1,q3)],[(50000,q33),(50001,q4),(50002,q22),(50003,q23),(50004,wX)]⟩,dA:=2,bg:=[50000,50001,50002,50003,50004],aX:=[],kept:=[50002,50003,50004] }
def apa:gG:=(.seq .nil (.seq .nil (.seq (.seq .nil (.meet false ⟨[(0,.keep),(6,.sl (.one (.own 100005)))],kO [50000,50001,50002,50003,50004] [(100005,.ob wX)]⟩ (.loop ⟨kS [0,1] [(6,.sl (.one (.own 100005))),(7,.sl q16)],kO [50000,50001,50002,50003,50004] [(100005,.ob wX)]⟩ (.seq j0 (.seq (.seq (.seq .nil (.meet false ⟨kS [0,1] [(6,.sl (.one (.own 101005))),(7,.keep)],kO [50000,50001,50002,50003,50004] [(101005,.ob wX)]⟩ .nil)) .nil) .nil))))) j4)))
def apb:dD:={ bH:=0,pin:=⟨[],[]⟩,aS:=⟨[(0,(.one (.own 1)))],[(1,q59)]⟩,dA:=1,bg:=[],aX:=[1] }
def apc:gG:=j0
def apd:dD:={ bH:=1,pin:=⟨[(0,yO)],[(50000,q11),(50001,P_),(50002,q22),(50003,q23),(50004,wX)]⟩,aS:=⟨[(0,(.agg [q0,q0,q0,q0,SI,.cO]))],[(50000,q33),(50001,q4),(50002,q22),(50003,q23),(50004,wX)]⟩,dA:=1,bg:=[50000,50001,50002,50003,50004],aX:=[],kept:=[50002,50003,50004] }
def ape:gG:=(.seq .nil (.seq .nil (.seq (.seq .nil (.seq (.seq .nil (.seq .nil (.seq .nil (.meet true ⟨kS [2,3] [],lO [(50000,.ob q11),(50001,.ob q4)] (kO [50002,50003,50004,2] [])⟩ (.seq j11 (.seq (.seq .nil (.meet false ⟨kS [0,2,3] [(26,.sl q3)],kO [50000,50001,50002,50003,50004,2] []⟩ .nil)) (.meet true ⟨kS [2,3] [],kO [50000,50001,50002,50003,50004,2] []⟩ j4))))))) .nil)) (.seq .nil (.seq (.seq .nil (.meet false ⟨[(2,.keep),(6,.sl q16)],lO [(50000,.keep),(50001,.ob q4)] (kO [50002,50003,50004,2] [])⟩ .nil)) .nil)))))
def apf:dD:={ bH:=3,pin:=⟨[(0,wY),(1,wY),(2,(.one q43))],[]⟩,aS:=⟨[(0,(.agg [q0,q0,q0,q0,SI,q43]))],[]⟩,dA:=1,bg:=[],aX:=[] }
def apg:gG:=j0
def aph:dD:={ bH:=2,pin:=⟨[(0,q20),(1,(.agg [(.p true false (.sl (.st 11)))]))],[]⟩,aS:=⟨[(0,q3)],[]⟩,dA:=1,bg:=[],aX:=[] }
def apj:gG:=(.seq .nil (.seq j1 (.seq (.seq .nil (.meet true ⟨[],[]⟩ (.loop j22 (.seq j0 (.seq (.seq (.seq .nil (.seq (.seq (.meet false ⟨kS [2,3,5,6,7] [(63,.sl q3)],kO [2,3,6,7] []⟩ .nil) j0) (.seq .nil (.meet true ⟨kS [2,3,5] [],kO [2,3] []⟩ (.loop ⟨kS [2,3,5,6,7] [(8,.sl q16)],kO [2,3,6,7] []⟩ (.seq j0 (.seq (.seq (.seq .nil (.seq (.meet false ⟨kS [2,3,5,6,7,8] [(130,.sl q3)],kO [2,3,6,7] []⟩ .nil) j0)) .nil) .nil))))))) .nil) .nil))))) .nil)))
def apk:dD:={ bH:=1,pin:=⟨[(0,wY)],[]⟩,aS:=⟨[(0,q3)],[]⟩,dA:=1,bg:=[],aX:=[] }
def apl:gG:=j0
def apm:dD:={ bH:=1,pin:=⟨[(0,q13)],[]⟩,aS:=⟨[(0,(.one (.own 35)))],[(35,q37)]⟩,dA:=1,bg:=[],aX:=[35] }
def apn:gG:=(.seq .nil (.seq .nil (.seq (.seq .nil (.meet false ⟨kS [1,3] [],kO [1,3] [(16,.ob q10)]⟩ (.loop ⟨kS [1,3,18] [(19,.sl q16)],kO [1,3] [(16,.ob q10)]⟩ (.seq .nil j29)))) (.seq .nil (.seq (.meet false ⟨kS [3,5] [(6,.sl (.one (.box 6 0))),(7,.sl q16)],kO [3,5] [(6,.ob q48),(16,.keep)]⟩ .nil) (.seq .nil (.seq .nil (.seq (.seq .nil (.meet false ⟨kS [7,8,9] [],[(8,.ob (.box [(.own 35)])),(5,.ob (.box [(.fn 35 [3])])),(6,.ob q48),(3,.ob (.box [(.own 16)])),(35,.ob q37),(16,.ob q8)]⟩ (.loop ⟨kS [6,7,8,9] [(10,.sl q16)],[(6,.ob q48),(8,.ob (.box [(.own 35)])),(5,.ob (.box [(.fn 35 [3])])),(3,.ob (.box [(.own 16)])),(35,.ob q37),(16,.ob q8)]⟩ (.seq j0 j0)))) (.seq (.seq .nil (.meet false ⟨kS [8,9] [],[(8,.ob (.box [(.own 35)])),(5,.ob (.box [(.fn 35 [3])])),(6,.ob q48),(3,.ob (.box [(.own 16)])),(35,.ob q37),(16,.ob q8)]⟩ (.loop ⟨kS [7,8,9] [(11,.sl q16)],[(8,.ob (.box [(.own 35)])),(5,.ob (.box [(.fn 35 [3])])),(6,.ob q48),(3,.ob (.box [(.own 16)])),(35,.ob q37),(16,.ob q8)]⟩ (.seq j0 j0)))) j0)))))))))
def apo:dD:={ bH:=3,pin:=⟨[(0,q13),(1,Qa),(2,Qa)],[]⟩,aS:=⟨[(0,(.one (.own 49)))],[(49,q8)]⟩,dA:=1,bg:=[],aX:=[49] }
def apq:gG:=(.seq .nil (.seq .nil (.seq .nil (.seq .nil (.seq .nil (.seq (.seq .nil (.meet false ⟨kS [1,7,8,9,10] [(11,.sl q16)],kO [22,24,26,31] []⟩ (.loop ⟨kS [1,7,8,9,10] (lS [(11,.sl q16)] (kS [32,33] [(34,.sl q16)])),kO [22,24,26,31] []⟩ (.seq .nil j29)))) (.seq .nil (.seq .nil (.seq (.seq .nil (.meet false ⟨kS [7,8,9,10,14] [],kO [22,24] [(46,.ob q8),(31,.ob q10),(49,.ob q8)]⟩ (.loop ⟨kS [1,7,8,9,10,14,50,51] [(52,.sl q16)],kO [22,24] [(46,.ob q8),(31,.ob q10),(49,.ob q8)]⟩ (.seq .nil (.seq .nil (.seq (.meet false ⟨kS [1,7,8,9,10,14,50,51,52] [],kO [22,24] [(46,.ob q8),(31,.ob q10),(49,.ob q8)]⟩ (.seq .nil (.seq j29 (.seq (.seq .nil (.meet false ⟨kS [1,7,8,9,10,14,15,16,50,51,52] [],kO [22,24,46,31] [(49,.ob q8),(16,.keep)]⟩ .nil)) .nil)))) .nil)))))) (.seq (.seq .nil (.meet false ⟨[(14,.keep)],[(49,.ob q8)]⟩ (.loop j17 (.seq j0 (.seq (.seq .nil (.seq .nil (.meet false j17 (.loop ⟨kS [7,8,9,10,14] (lS [(17,.sl q3)] (kS [110,111] [(112,.sl q16)])),[(22,.keep),(24,.ob q37),(46,.ob q8),(31,.ob q10),(49,.ob q8)]⟩ (.seq .nil (.seq .nil (.seq (.meet false ⟨kS [7,8,9,10,14] (lS [(17,.sl q3)] (kS [110,111,112] [])),[(22,.keep),(24,.ob q37),(46,.ob q8),(31,.ob q10),(49,.ob q8)]⟩ (.seq .nil (.seq (.seq (.meet false ⟨kS [7,8,9,10,14,17,18,19,110,111,112] [(137,.sl q3)],kO [22,24,46,31,49,19] []⟩ .nil) .nil) (.seq .nil (.seq (.seq .nil (.meet false ⟨kS [7,8,9,10,14,18,19] (lS [(20,.sl wY)] (kS [110,111,112] [])),kO [22,24,46,31,49,19] []⟩ .nil)) j11))))) .nil))))))) .nil))))) .nil))))))))))
def apr:dD:={ bH:=3,pin:=⟨[(0,q13),(1,(.agg [q1,q17,(.p true false (.sl (.prod (.int .i64) (.int .i64)))),(.p true false (.sl (.st 12)))])),(2,Qa)],[]⟩,aS:=⟨[(0,q3)],[]⟩,dA:=1,bg:=[],aX:=[] }
def aps:gG:=(.seq .nil (.seq .nil (.seq .nil (.seq .nil (.seq (.seq .nil (.meet true ⟨kS [4,7] [(8,.sl wY),(9,.sl q16)],[(4,.keep),(16,.ob q8)]⟩ (.loop ⟨kS [2,3,4,7] [(8,.sl wY),(9,.sl q16),(10,.sl q16)],kO [3,4] [(16,.ob q8)]⟩ (.seq j0 (.seq (.meet true ⟨kS [2,3,4,7] [(8,.sl q16),(9,.sl q16),(10,.keep)],kO [3,4] [(16,.ob q8)]⟩ (.seq .nil (.seq .nil (.seq j1 (.seq .nil (.seq .nil (.seq (.seq .nil (.meet false ⟨kS [2,3,4,7,8,9,10] [(12,.sl wY)],kO [3,4] [(16,.ob q8)]⟩ j0)) j1))))))) .nil))))) j28)))))
def Vt:dD:={ bH:=2,pin:=⟨[(0,Qa),(1,(.one (.fn 39 [])))],[]⟩,aS:=⟨[(0,q16)],[]⟩,dA:=1,bg:=[],aX:=[] }
def Vu:gG:=j3
def Vx:dD:={ bH:=2,pin:=⟨[(0,Qa),(1,(.one (.fn 24 [])))],[]⟩,aS:=⟨[(0,q16)],[]⟩,dA:=1,bg:=[],aX:=[] }
def Vy:gG:=j3
def Vz:dD:={ bH:=2,pin:=⟨[(0,Qa),(1,(.one (.fn 19 [])))],[]⟩,aS:=⟨[(0,q16)],[]⟩,dA:=1,bg:=[],aX:=[] }
def VA:gG:=j3
def apt:dD:={ bH:=1,pin:=⟨[(0,(.agg [q35,q1,q61,q30]))],[]⟩,aS:=⟨[(0,(.one (.own 8)))],[(8,(.arr false true false .str))]⟩,dA:=1,bg:=[],aX:=[8] }
def apu:gG:=j0
def akS:dD:={ bH:=2,pin:=⟨[(0,yO),(1,(.one q30))],[(50000,q6),(50001,q24)]⟩,aS:=⟨[(0,q3)],[(50000,q54),(60001,q5)]⟩,dA:=1,bg:=[50000],aX:=[60001] }
def apv:gG:=(.seq .nil (.seq (.seq .nil (.meet true ⟨[],[(50000,.ob (.box [q12,q9,XH,q2,q2,(.own 100001),q2])),(100001,.ob q5)]⟩ (.loop ⟨kS [0,1] [(5,.sl q16)],[(50000,.ob (.box [q12,q9,XH,q2,q2,(.own 100001),q2])),(100001,.ob q5)]⟩ j9))) .nil))
def akT:TypeId→Option Ty:=fun t=>(([(1000045,(.prod (.st 0) .bool))]:List (Nat×Ty))++zH).lookup t
def akU:dD:={ bH:=2,pin:=⟨[(0,yO),(1,q67)],[(50000,q6),(50001,q24)]⟩,aS:=⟨[(0,q3)],[(50000,q54),(60001,q5)]⟩,dA:=1,bg:=[50000],aX:=[60001] }
def apw:gG:=(.seq .nil (.seq .nil (.seq j29 (.seq (.seq .nil (.meet false ⟨kS [0,3,5] [],[(50000,.ob q31),(3,.keep),(100002,.ob q5)]⟩ (.loop ⟨kS [0,3,5] [(6,.sl q16)],[(50000,.ob q31),(3,.keep),(100002,.ob q5)]⟩ (.seq j0 j0)))) (.seq (.seq .nil (.seq (.seq (.seq .nil (.meet false ⟨kS [0,3,5,38] [(39,.sl q3)],kO [50000,3,100002] []⟩ .nil)) (.meet true j20 (.seq (.seq .nil (.seq .nil (.meet false ⟨[],[(50000,.ob (.box [q12,q9,XH,q0,q0,(.own 100002),q0])),(100002,.ob q5)]⟩ .nil))) (.seq .nil (.meet true j20 (.seq .nil (.seq .nil (.seq j0 (.seq .nil (.meet true j20 j11)))))))))) .nil)) .nil)))))
def akV:TypeId→Option Ty:=fun t=>(([(1000045,(.prod (.st 0) .bool)),(3000022,.bool),(3000011,.bool)]:List (Nat×Ty))++zH).lookup t
def akW:dD:={ bH:=3,pin:=⟨[(0,yO),(1,q67),(2,wY)],[(50000,q6),(50001,q24)]⟩,aS:=⟨[],[(50000,(.box [q12,q9,XH,q0,q0,(.own 57),q0])),(57,q5)]⟩,dA:=0,bg:=[50000],aX:=[57] }
def apx:gG:=(.seq .nil (.seq .nil (.seq .nil (.seq .nil (.seq .nil (.seq .nil (.seq .nil (.seq (.seq .nil (.meet false ⟨kS [0,2,4,8,9] [],[(50000,.ob (.box [q12,q9,XH,q0,q0,(.own 41),q0])),(4,.keep),(41,.ob q5)]⟩ .nil)) .nil))))))))
def akX:TypeId→Option Ty:=fun t=>(([(1000045,(.prod (.st 0) .bool))]:List (Nat×Ty))++zH).lookup t
def akY:dD:={ bH:=3,pin:=⟨[(0,yO),(1,q67),(2,wY)],[(50000,q6),(50001,q24)]⟩,aS:=⟨[(0,q3)],[(50000,q54),(60001,q5)]⟩,dA:=1,bg:=[50000],aX:=[60001] }
def apy:gG:=(.seq .nil (.seq .nil (.seq .nil (.seq .nil (.seq .nil (.seq (.seq .nil (.seq (.seq .nil (.seq .nil (.seq (.seq .nil (.meet false ⟨[],[(50000,.ob (.box [q12,q9,XH,q0,q0,(.own 39),q0])),(39,.ob q5)]⟩ .nil)) .nil))) .nil)) (.seq .nil (.seq .nil (.seq .nil (.seq .nil (.seq (.seq (.meet false ⟨kS [0,4,9,10,13,14] [(77,.sl q3)],kO [50000,4,67] []⟩ .nil) j0) (.seq .nil (.seq (.seq .nil (.meet false ⟨kS [0,13,14,15] [],[(50000,.ob (.box [q12,q9,XH,q0,q0,(.own 81),q0])),(81,.ob q5)]⟩ .nil)) (.seq (.seq .nil (.meet false ⟨[],[(50000,.ob (.box [q12,q9,XH,q0,q0,(.own 81),q0])),(81,.ob q5)]⟩ .nil)) .nil))))))))))))))
def akZ:TypeId→Option Ty:=fun t=>(([(1000045,(.prod (.st 0) .bool)),(3000033,.bool)]:List (Nat×Ty))++zH).lookup t
def apz:dD:={ bH:=1,pin:=⟨[(0,q13)],[]⟩,aS:=⟨[(0,(.one (.own 11)))],[(11,q53)]⟩,dA:=1,bg:=[],aX:=[11] }
def apA:gG:=(.seq .nil (.seq .nil (.seq j1 (.seq .nil (.seq .nil (.seq (.meet false ⟨[(3,.keep)],[(11,.ob q53)]⟩ (.loop ⟨kS [1,3] [(4,.sl (.one (.own 100002)))],[(1,.keep),(11,.ob q53),(100002,.ob q8)]⟩ (.seq j0 (.seq (.seq .nil (.seq .nil (.seq .nil (.seq .nil (.meet false ⟨kS [1,3] [(4,.sl (.one (.own 101002)))],[(1,.keep),(11,.ob q53),(101002,.ob q8)]⟩ (.loop ⟨kS [1,3] [(4,.sl (.one (.own 101002))),(6,.keep),(7,.sl q16)],[(1,.keep),(11,.ob q53),(101002,.ob q8),(39,.keep)]⟩ (.seq j0 (.seq (.seq (.seq .nil (.meet false ⟨kS [1,3] (lS [(4,.sl (.one (.own 102002)))] (kS [6,7] [])),[(1,.keep),(11,.ob q53),(102002,.ob q8),(39,.keep)]⟩ j0)) .nil) .nil)))))))) .nil)))) .nil))))))
def ak0:TypeId→Option Ty:=fun t=>(([(2000000,.bool)]:List (Nat×Ty))++zH).lookup t
def ak1:dD:={ bH:=2,pin:=⟨[(0,yO),(1,(.one q30))],[(50000,q7),(50001,wX)]⟩,aS:=⟨[(0,q41)],[(50000,q49),(100001,q72),(100002,q42)]⟩,dA:=1,bg:=[50000],aX:=[100001,100002] }
def apB:gG:=(.seq .nil (.seq .nil (.seq (.seq .nil (.meet false ⟨[(5,.sl q41)],[(50000,.ob q50),(100001,.ob q72),(100002,.ob q42)]⟩ (.loop ⟨kS [0,1] [(5,.sl q41),(6,.sl q16)],[(50000,.ob q50),(100001,.ob q72),(100002,.ob q42)]⟩ (.seq j0 (.seq (.seq (.seq .nil (.seq .nil (.seq (.seq .nil (.meet false ⟨kS [0,1,5,6,7] [(8,.sl (.one (.own 101003)))],lO [(50000,.ob q50)] (kO [100001,7] [(101003,.ob q51),(100002,.keep)])⟩ (.loop ⟨kS [0,1,5,6,7] [(8,.sl (.one (.own 101003))),(9,.sl q16)],lO [(50000,.ob q50)] (kO [100001,7] [(101003,.ob q51),(100002,.keep)])⟩ (.seq j0 (.seq (.seq (.seq (.seq .nil (.meet false ⟨kS [0,1,5,6,7,8,9] [],lO [(50000,.ob q50)] (kO [100001,7,101003,100002] [])⟩ .nil)) .nil) .nil) .nil))))) (.seq .nil (.seq .nil (.seq (.seq .nil (.seq (.seq .nil (.meet false ⟨kS [0,1,5,6,7] [],lO [(50000,.ob (.box [q12,q9,(.own 110003),q0,q0]))] (kO [100001,7] [(110003,.ob q42),(101003,.keep)])⟩ (.seq (.seq (.seq .nil (.meet false j7 .nil)) .nil) (.seq (.seq .nil (.meet false ⟨kS [0,1,5,6,7,10] [(80,.sl q3)],kO [50000,100001,7,100002,101003] []⟩ .nil)) (.meet false j7 (.seq (.seq .nil (.meet false j7 (.seq .nil (.seq (.meet false ⟨kS [0,1,5,6,7] [(108,.sl q3)],kO [50000,100001,7,100002,101003] []⟩ .nil) (.meet false j7 .nil))))) .nil)))))) .nil)) j0)))))) .nil) .nil))))) .nil)))
def apC:dD:={ bH:=3,pin:=⟨[(0,q20),(1,q13),(2,q57)],[]⟩,aS:=⟨[(0,q16)],[]⟩,dA:=1,bg:=[],aX:=[] }
def apD:gG:=(.seq .nil (.seq (.seq (.meet false ⟨kS [3,4,5] [(48,.sl q3)],kO [3,4,5] []⟩ .nil) j0) (.seq .nil (.seq (.seq .nil (.seq .nil (.meet false ⟨kS [3,4,5] [(7,.sl (.one (.own 101003)))],kO [3,4,5] [(101003,.ob q8)]⟩ .nil))) (.seq (.seq .nil (.meet true ⟨kS [3,5] [],kO [3,5] []⟩ (.loop ⟨kS [3,4,5,7] [(10,.sl q16)],kO [3,4,5,101003] []⟩ (.seq j0 (.seq (.seq (.seq (.meet false ⟨kS [3,4,5,7,10] [(80,.sl q3)],kO [3,4,5,101003] []⟩ .nil) j0) .nil) .nil))))) (.seq (.seq .nil (.seq (.seq (.seq .nil (.meet false ⟨kS [3,5,82] [(83,.sl q3)],kO [3,5] []⟩ .nil)) (.meet true ⟨[],[]⟩ (.seq j1 (.seq (.seq .nil (.meet false ⟨kS [3,5,82] [(91,.sl q3)],kO [3,5] []⟩ .nil)) (.meet true ⟨[],[]⟩ (.seq j1 (.seq .nil (.meet true ⟨[],[]⟩ (.seq (.seq (.seq (.meet false ⟨kS [3,5] [(111,.sl q3)],kO [3,5] []⟩ .nil) j0) j1) (.seq .nil (.meet true ⟨[],[]⟩ (.seq j1 (.seq .nil (.meet true ⟨[],[]⟩ (.seq (.seq (.meet false ⟨[(140,.sl q3)],[]⟩ .nil) j0) (.seq .nil (.meet true ⟨[],[]⟩ (.seq (.seq (.meet false ⟨[(152,.sl q3)],[]⟩ .nil) j0) .nil)))))))))))))))))) .nil)) .nil))))))
def apE:dD:={ bH:=1,pin:=⟨[(0,yO)],[(50000,q11),(50001,P_),(50002,q22),(50003,q23),(50004,wX)]⟩,aS:=⟨[(0,(.one SI)),(1,q3)],[(50000,q33),(50001,q4),(50002,q22),(50003,q23),(50004,wX)]⟩,dA:=2,bg:=[50000,50001,50002,50003,50004],aX:=[],kept:=[50002,50003,50004] }
def apF:gG:=(.seq .nil (.seq .nil (.seq (.seq .nil (.meet true ⟨[],kO [50000,50001,50002,50003,50004] []⟩ (.loop ⟨kS [0,4] [(5,.sl q16)],kO [50000,50001,50002,50003,50004,8] []⟩ (.seq j0 (.seq (.seq (.seq .nil (.seq (.seq .nil (.meet false ⟨kS [0,4,5] [(6,.sl q3)],kO [50000,50001,50002,50003,50004,8] []⟩ (.loop ⟨kS [0,4,5] [(6,.sl q3),(7,.sl q16)],kO [50000,50001,50002,50003,50004,8] []⟩ (.seq j0 (.seq (.seq (.meet false ⟨kS [0,4,5] [(6,.sl q3),(7,.keep)],kO [50000,50001,50002,50003,50004,8] []⟩ .nil) .nil) .nil))))) j1)) .nil) .nil))))) .nil)))
def ak2:dD:={ bH:=2,pin:=⟨[(0,yO),(1,wY)],[(50000,q11),(50001,P_),(50002,q22),(50003,q23),(50004,wX)]⟩,aS:=⟨[(0,(.agg [q0,q0,q0,q0,SI,(.p false true (.sl (.st 20)))]))],[(50000,q33),(50001,q4),(50002,q22),(50003,q23),(50004,wX)]⟩,dA:=1,bg:=[50000,50001,50002,50003,50004],aX:=[],kept:=[50002,50003,50004] }
def apG:gG:=(.seq .nil (.seq .nil (.seq (.seq (.meet false ⟨kS [0,1,4,5] [(18,.sl q3)],lO [(50000,.keep),(50001,.ob P_)] (kO [50002,50003,50004,4] [])⟩ .nil) j0) (.seq (.seq .nil (.seq (.seq .nil (.seq .nil (.seq .nil (.seq .nil (.seq .nil (.seq .nil (.seq (.seq .nil (.meet false ⟨kS [0,1,4,5,22] [(58,.sl q3)],kO [50000,50001,50002,50003,50004,4] []⟩ .nil)) (.seq .nil (.seq .nil (.meet true ⟨kS [0,1,4,5] [],lO [(50000,.ob q11),(50001,.ob q4)] (kO [50002,50003,50004,4] [])⟩ (.seq j11 .nil))))))))))) .nil)) .nil))))
def ak3:dD:={ bH:=2,pin:=⟨[(0,yO),(1,wY)],[(50000,q11),(50001,P_),(50002,q22),(50003,q23),(50004,wX)]⟩,aS:=⟨[(0,(.agg [q0,q0,q0,q0,SI,(.own 60005)]))],[(50000,q33),(50001,q4),(50002,q22),(50003,q23),(50004,wX),(60005,q56)]⟩,dA:=1,bg:=[50000,50001,50002,50003,50004],aX:=[60005],kept:=[50002,50003,50004] }
def apH:gG:=(.seq .nil (.seq .nil (.seq .nil (.seq .nil (.seq (.seq (.meet false ⟨kS [0,1,4,5,6,7] [(46,.sl q3)],lO [(50000,.keep),(50001,.ob q4)] (kO [50002,50003,50004,4,5] [])⟩ .nil) (.meet false ⟨kS [0,1,4,5] [(6,.sl q16),(7,.keep)],lO [(50000,.keep),(50001,.ob q4)] (kO [50002,50003,50004,4,5] [])⟩ .nil)) (.seq .nil (.seq (.seq .nil (.meet false ⟨kS [0,1,4,5,7] [(8,.sl (.one (.own 102007)))],lO [(50000,.ob q11),(50001,.ob q4)] (kO [50002,50003,50004,4,5] [(102007,.ob q56)])⟩ (.loop ⟨kS [0,1,4,5,6,7] [(8,.sl (.one (.own 102007))),(9,.sl q16)],lO [(50000,.ob q11),(50001,.ob q4)] (kO [50002,50003,50004,4,5] [(102007,.ob q56)])⟩ (.seq j0 j0)))) (.seq j1 (.seq .nil (.seq (.seq .nil (.meet false ⟨kS [4,8,10] [],lO [(50000,.ob q11),(50001,.ob q4)] (kO [50002,50003,50004,4,102007] [(10,.ob (.box [q0,q0,q0,q0,(.p false true .str),(.p false true (.sl (.st 20)))]))])⟩ .nil)) j4))))))))))
def ak4:dD:={ bH:=3,pin:=⟨[(0,yO),(1,wY),(2,wY)],[(50000,q11),(50001,P_),(50002,q22),(50003,q23),(50004,wX)]⟩,aS:=⟨[(0,(.one (.own 100004)))],[(50000,(.box [(.box 50001 0),(.own 50002),(.own 50003),(.own 100005),q0])),(50001,q4),(50002,q22),(50003,q23),(100004,q40),(100005,wX)]⟩,dA:=1,bg:=[50000,50001,50002,50003],aX:=[100004,100005],kept:=[50002,50003] }
def apI:gG:=(.seq .nil (.seq .nil (.seq (.seq .nil (.meet false ⟨[(7,.sl (.one (.own 100004)))],lO [(50000,.ob q66),(50001,.ob P_)] (kO [50002,50003] [(100004,.ob q40),(100005,.ob wX)])⟩ (.loop ⟨kS [0,1,2] [(7,.sl (.one (.own 100004))),(8,.sl q16)],lO [(50000,.ob q66),(50001,.ob P_)] (kO [50002,50003] [(100004,.ob q40),(100005,.ob wX)])⟩ (.seq (.seq (.meet false ⟨kS [0,1,2,7,8] [(18,.sl q3)],kO [50000,50001,50002,50003,100004,100005] []⟩ .nil) .nil) j15)))) .nil)))
def ak5:dD:={ bH:=2,pin:=⟨[(0,yO),(1,wY)],[(50000,q11),(50001,P_),(50002,q22),(50003,q23),(50004,wX)]⟩,aS:=⟨[(0,(.agg [q0,q0,SI,(.own 60004),(.own 60005),(.own 60006)]))],[(50000,(.box [(.box 50001 0),(.own 50002),(.own 50003),(.own 60007),q0])),(50001,q4),(50002,q22),(50003,q23),(60004,q56),(60005,q40),(60006,q40),(60007,wX)]⟩,dA:=1,bg:=[50000,50001,50002,50003],aX:=[60004,60005,60006,60007],kept:=[50002,50003] }
def apJ:gG:=(.seq .nil (.seq .nil (.seq (.seq .nil (.seq (.seq (.seq .nil (.meet false ⟨kS [0,1,4,5,19] [(20,.sl q3)],kO [50000,50001,50002,50003,4,50004] []⟩ .nil)) (.meet true j5 (.seq j23 (.seq .nil (.meet true j5 (.seq j1 (.seq .nil (.meet true j5 (.seq j11 (.seq .nil (.meet true j5 (.seq j11 (.seq (.seq .nil (.meet false ⟨kS [0,1,4,5,19] [(95,.sl q3)],kO [50000,50001,50002,50003,4,50004] []⟩ .nil)) (.meet true j27 (.seq (.seq .nil (.seq (.seq .nil (.seq .nil (.seq (.seq .nil (.meet false ⟨kS [4,13] [],lO [(50000,.ob (.box [(.box 50001 0),(.own 50002),(.own 50003),(.own 102006),q0])),(50001,.ob q4)] (kO [50002,50003,4] (lO [(13,.ob (.box [q0,q0,SI,(.own 102),(.own 109),(.own 102009)])),(102006,.ob wX)] (kO [102,109] [(102009,.ob q40)])))⟩ .nil)) .nil))) .nil)) (.seq .nil (.meet true j27 (.seq j1 (.seq .nil (.seq j4 .nil)))))))))))))))))))) .nil)) .nil)))
def ak6:dD:={ bH:=2,pin:=⟨[(0,yO),(1,wY)],[(50000,q11),(50001,P_),(50002,q22),(50003,q23),(50004,wX)]⟩,aS:=⟨[(0,(.agg [q0,q0,SI,(.own 60004),(.own 60005),.cO]))],[(50000,(.box [(.box 50001 0),(.own 50002),(.own 50003),(.own 60006),q0])),(50001,q4),(50002,q22),(50003,q23),(60004,q56),(60005,q40),(60006,wX)]⟩,dA:=1,bg:=[50000,50001,50002,50003],aX:=[60004,60005,60006],kept:=[50002,50003] }
def apK:gG:=(.seq .nil (.seq .nil (.seq (.seq (.meet false ⟨kS [0,1,4,5,6] [(28,.sl q3)],lO [(50000,.keep),(50001,.ob q4)] (kO [50002,50003,4,50004] [])⟩ .nil) (.meet false ⟨kS [0,1,4] [(5,.sl (.one (.p false true .str))),(6,.sl q3)],lO [(50000,.keep),(50001,.ob q4)] (kO [50002,50003,4,50004] [])⟩ .nil)) (.seq (.seq (.meet false ⟨kS [0,1,4,5] [(54,.sl q3)],lO [(50000,.keep),(50001,.ob q4)] (kO [50002,50003,4,50004] [])⟩ .nil) j4) (.seq .nil j11)))))
def apL:dD:={ bH:=2,pin:=⟨[(0,q20),(1,(.agg [q1,q1,q1,q17,(.p true false (.sl (.st 11))),q1,(.p true false (.sl (.st 10))),q17]))],[]⟩,aS:=⟨[(0,q3)],[]⟩,dA:=1,bg:=[],aX:=[] }
def apM:gG:=(.seq .nil (.seq (.seq .nil (.meet true ⟨[],[]⟩ (.loop j22 j9))) .nil))
def apN:dD:={ bH:=2,pin:=⟨[(0,q13),(1,(.one (.p true false .bool)))],[]⟩,aS:=⟨[(0,q41)],[(100001,Z9)]⟩,dA:=1,bg:=[],aX:=[100001] }
def apO:gG:=(.seq .nil (.seq .nil (.seq .nil (.seq (.seq .nil (.meet false ⟨[(6,.sl q41)],[(100001,.ob Z9)]⟩ (.loop ⟨kS [1,5] (lS [(6,.sl q41)] (kS [12,13] [(14,.sl q16)])),[(10,.keep),(100001,.ob Z9),(12,.keep)]⟩ (.seq .nil (.seq .nil (.seq (.seq (.seq .nil (.seq .nil (.meet false ⟨kS [1,5] (lS [(6,.sl (.one (.own 101001)))] (kS [12,13,14] [])),[(10,.keep),(101001,.ob Z9),(12,.keep)]⟩ .nil))) .nil) .nil)))))) .nil))))
def VB:dD:={ bH:=2,pin:=⟨[(0,Qa),(1,(.one (.fn 39 [])))],[]⟩,aS:=⟨[(0,q3)],[]⟩,dA:=1,bg:=[],aX:=[] }
def VD:gG:=j0
def VE:dD:={ bH:=2,pin:=⟨[(0,Qa),(1,(.one (.fn 24 [])))],[]⟩,aS:=⟨[(0,q3)],[]⟩,dA:=1,bg:=[],aX:=[] }
def VF:gG:=j0
def VG:dD:={ bH:=2,pin:=⟨[(0,Qa),(1,(.one (.fn 19 [])))],[]⟩,aS:=⟨[(0,q3)],[]⟩,dA:=1,bg:=[],aX:=[] }
def VH:gG:=j0
def apP:dD:={ bH:=2,pin:=⟨[(0,q13),(1,Qa)],[]⟩,aS:=⟨[(0,(.agg [q0,(.own 17),(.own 21),.cO])),(1,q3)],[(17,q10),(21,q38)]⟩,dA:=2,bg:=[],aX:=[17,21] }
def apQ:gG:=(.seq .nil (.seq .nil (.seq .nil (.seq .nil (.seq (.seq .nil (.meet false ⟨kS [4,6] [(7,.sl q3)],kO [4,6] [(17,.ob q10),(21,.ob q38)]⟩ (.loop ⟨kS [1,4,6] (lS [(7,.sl q3)] (kS [8,26,27] [(28,.sl q16)])),kO [4,6,24,26] [(17,.ob q10),(21,.ob q38)]⟩ (.seq .nil (.seq .nil (.seq (.seq (.seq .nil (.seq (.meet false ⟨kS [1,4,6] (lS [(7,.sl q3)] (kS [8,9,10,26,27,28] [])),kO [4,6,24,10,26,17,21] []⟩ .nil) (.seq .nil (.seq .nil (.meet false j25 (.seq (.meet false j25 .nil) .nil)))))) .nil) .nil)))))) (.seq (.meet false ⟨[(4,.keep),(5,.sl q3)],lO [(4,.ob (.box [q1,(.own 17),(.own 21),.cO]))] (kO [17,21] [])⟩ .nil) .nil))))))
def apR:dD:={ bH:=1,pin:=⟨[(0,q13)],[]⟩,aS:=⟨[(0,(.agg [SI,q0,q0,(.own 103005)]))],[(103005,q58)]⟩,dA:=1,bg:=[],aX:=[103005] }
def apS:gG:=(.seq .nil (.seq .nil (.seq .nil (.seq .nil (.seq (.seq .nil (.meet false ⟨kS [1,2,3,4] [],kO [1,2,11] [(14,.ob q10)]⟩ (.loop ⟨kS [1,2,3,4] [(5,.sl q16),(6,.sl q16)],kO [1,2,11] [(14,.ob q10)]⟩ (.seq j0 (.seq (.seq (.seq .nil (.seq .nil (.meet false ⟨kS [1,2,3,4] [(5,.sl q16),(6,.keep)],kO [1,2,11,14] []⟩ .nil))) .nil) .nil))))) (.seq .nil (.seq .nil (.seq (.seq .nil (.meet false ⟨kS [2,7] [],[(2,.keep),(7,.ob (.box [q35,q1,q1,(.own 103005)])),(103005,.ob q58)]⟩ (.loop ⟨kS [1,2,3,4,7] [(8,.sl q16)],kO [1,2,11,14] [(7,.ob (.box [q35,q1,q1,(.own 103005)])),(103005,.ob q58)]⟩ (.seq j0 (.seq (.meet false ⟨kS [1,2,3,4,7,8] [],kO [1,2,11,14] [(7,.ob (.box [q35,q1,q1,(.own 106005)])),(106005,.ob q58)]⟩ (.seq j0 (.seq .nil (.seq j14 (.seq j14 .nil))))) .nil))))) .nil))))))))
def apT:dD:={ bH:=1,pin:=⟨[(0,q32)],[]⟩,aS:=⟨[(0,(.agg [(.own 60000),(.own 60001)])),(1,q16),(2,q16)],[(60000,(.arr false true false (.st 3))),(60001,q70)]⟩,dA:=3,bg:=[],aX:=[60000,60001] }
def apU:gG:=(.seq .nil (.seq (.seq (.meet false ⟨kS [1,2] [(20,.sl q3)],kO [1,2] []⟩ .nil) j0) (.seq (.seq (.meet false ⟨kS [1,2] [(42,.sl q3)],kO [1,2] []⟩ .nil) j0) (.seq (.seq .nil (.meet true ⟨kS [1,2] [],kO [1,2] []⟩ (.loop ⟨kS [1,2] [(5,.sl q16)],kO [1,2] []⟩ j9))) (.seq (.seq .nil (.meet true ⟨kS [1,2] [],kO [1,2] []⟩ (.loop ⟨kS [1,2] [(6,.sl q16)],kO [1,2] []⟩ (.seq j0 (.seq (.seq (.seq (.meet false ⟨kS [1,2,6] [(89,.sl q3)],kO [1,2] []⟩ .nil) j0) .nil) .nil))))) (.seq .nil (.seq (.seq .nil (.meet true ⟨[(2,.keep)],[(2,.ob (.box [(.own 99),(.own 107003)])),(99,.keep),(107003,.ob q70)]⟩ (.loop ⟨kS [1,2] [(7,.sl q16)],[(1,.keep),(2,.ob (.box [(.own 99),(.own 107003)])),(99,.keep),(107003,.ob q70)]⟩ (.seq j0 (.seq (.seq (.seq .nil (.seq (.seq (.meet false ⟨kS [1,2,7,8] [(128,.sl q3)],kO [1,2,8,99,107003] []⟩ .nil) j0) (.seq (.seq .nil (.meet true ⟨kS [1,2,7,8] [],kO [1,2,8,99,107003] []⟩ (.loop ⟨kS [1,2,7,8] [(9,.sl q16)],kO [1,2,8,99,107003] []⟩ (.seq j0 (.seq (.seq (.seq (.meet false ⟨kS [1,2,7,8,9] [(158,.sl q3)],kO [1,2,8,99,107003] []⟩ .nil) j0) .nil) .nil))))) j23))) .nil) .nil))))) .nil)))))))
def apV:dD:={ bH:=1,pin:=⟨[(0,yO)],[(50000,P_)]⟩,aS:=⟨[(0,(.agg [(.own 103003),(.own 105004)]))],[(50000,q4),(103003,q22),(105004,q23)]⟩,dA:=1,bg:=[50000],aX:=[103003,105004] }
def apW:gG:=(.seq .nil (.seq (.meet false ⟨kS [0,2] [(3,.sl (.one (.box 12 0)))],kO [50000,2] [(12,.ob (.box [(.box 50000 0),(.own 100700),(.own 100701),(.own 100702),q0])),(100700,.ob q47),(100701,.ob q69),(100702,.ob q59)]⟩ .nil) (.seq (.seq .nil (.meet false ⟨kS [0,2,3] [],kO [50000,2] (lO [(12,.ob q62),(101003,.ob q47)] (kO [100701,100702] []))⟩ (.loop ⟨kS [0,2,3] [(4,.sl q16)],kO [50000,2] (lO [(12,.ob q62),(101003,.ob q47)] (kO [100701,100702] []))⟩ (.seq j0 j0)))) (.seq (.seq .nil (.meet false ⟨kS [0,2,3] [],lO [(50000,.ob q4),(2,.keep),(12,.ob q63),(103003,.ob q47)] (kO [100701,100702] [])⟩ (.loop ⟨kS [0,2,3] [(5,.sl q16)],lO [(50000,.ob q4),(2,.keep),(12,.ob q63),(103003,.ob q47)] (kO [100701,100702] [])⟩ (.seq j0 j0)))) (.seq .nil (.seq (.seq .nil (.meet false ⟨kS [0,2,3] [],[(50000,.ob q4),(2,.keep),(12,.ob q64),(103003,.keep),(105004,.ob q69),(100702,.keep)]⟩ (.loop ⟨kS [0,2,3] [(6,.sl q16)],[(50000,.ob q4),(2,.keep),(12,.ob q64),(103003,.keep),(105004,.ob q69),(100702,.keep)]⟩ (.seq j0 (.seq (.seq (.seq .nil (.seq (.seq .nil (.meet false ⟨kS [0,2,3,6,7] [],kO [50000,2,12] (lO [(7,.ob (.box [SI,q0,(.own 106007),.cO]))] (kO [103003,105004,100702] [(106007,.ob q59)]))⟩ (.loop ⟨kS [0,2,3,6,7] [(8,.sl q16)],kO [50000,2,12] (lO [(7,.ob (.box [SI,q0,(.own 106007),.cO]))] (kO [103003,105004,100702] [(106007,.ob q59)]))⟩ (.seq j0 j0)))) .nil)) .nil) .nil))))) (.seq (.seq .nil (.meet false ⟨kS [2,3] [],[(50000,.ob q4),(2,.keep),(12,.ob q65),(103003,.ob q22),(105004,.ob q23),(109005,.ob wX)]⟩ (.loop ⟨kS [0,2,3] [(9,.sl q16)],[(50000,.ob q4),(2,.keep),(12,.ob q65),(103003,.ob q22),(105004,.ob q23),(109005,.ob wX)]⟩ (.seq j0 (.seq j15 .nil))))) .nil)))))))
def apX:dD:={ bH:=2,pin:=⟨[(0,q20),(1,q13)],[]⟩,aS:=⟨[(0,q16)],[]⟩,dA:=1,bg:=[],aX:=[] }
def apY:gG:=(.seq .nil (.seq (.seq (.meet false ⟨kS [2,3] [(25,.sl q3)],kO [2,3] []⟩ .nil) j0) (.seq (.seq (.meet false ⟨kS [2,3] [(45,.sl q3)],kO [2,3] []⟩ .nil) j0) (.seq (.seq .nil (.meet true ⟨[(3,.keep)],[(3,.keep)]⟩ (.loop j22 (.seq j0 (.seq (.seq (.seq (.seq .nil (.meet true ⟨kS [2,3,5] [],kO [2,3] []⟩ (.loop ⟨kS [2,3,5] [(6,.sl q16)],kO [2,3] []⟩ (.seq j0 j30)))) j11) .nil) .nil))))) (.seq .nil (.seq (.seq .nil (.meet true ⟨[],[]⟩ (.loop ⟨[(9,.keep),(10,.sl q16)],[(91,.keep)]⟩ j9))) .nil))))))
def sg8:dD:={ bH:=1,pin:=⟨[(0,q20)],[]⟩,aS:=⟨[(0,q52)],[(100000,Z9)]⟩,dA:=1,bg:=[],aX:=[100000] }
def an8:gG:=(.seq .nil (.seq .nil (.seq (.seq .nil (.meet false j32 (.loop j24 (.seq .nil (.seq .nil (.seq (.seq (.seq .nil (.seq .nil (.meet false ⟨lS [(3,.sl (.one (.own 101000)))] (kS [9,10,11] []),[(101000,.ob Z9)]⟩ (.loop ⟨lS [(3,.sl (.one (.own 101000)))] (kS [4,9,10,11,17,18] [(19,.sl q16)]),[(101000,.ob Z9),(17,.keep)]⟩ (.seq .nil (.seq .nil (.seq j15 .nil))))))) .nil) .nil)))))) .nil)))
def apZ:dD:={ bH:=3,pin:=⟨[(0,q20),(1,Qa),(2,(.one (.p true false (.sl (.st 10)))))],[]⟩,aS:=⟨[(0,(.agg [(.own 60000)])),(1,q16)],[(60000,q71)]⟩,dA:=2,bg:=[],aX:=[60000] }
def ap0:gG:=(.seq .nil (.seq (.seq (.meet false ⟨kS [1,2,3,6] [(31,.sl q3)],kO [3,6] []⟩ .nil) j0) (.seq .nil (.seq (.seq .nil (.meet false ⟨kS [1,2,3,6,8] [],kO [3,6] [(36,.ob q45)]⟩ (.loop ⟨kS [1,2,3,6,8,38,39] [(40,.sl q16)],kO [3,6] [(36,.ob q45)]⟩ (.seq .nil j29)))) (.seq (.seq .nil (.meet true ⟨kS [1,3,6,8] [],kO [3,6] [(36,.ob q45)]⟩ (.loop ⟨kS [1,3,6,8,53,54] [(55,.sl q16)],kO [3,6] [(36,.ob q45)]⟩ (.seq .nil (.seq .nil (.seq (.seq (.seq .nil (.seq (.seq (.meet false ⟨kS [1,3,6,8,12,53,54,55] [(84,.sl q3)],kO [3,6,36,12] []⟩ .nil) j0) .nil)) .nil) .nil)))))) (.seq .nil (.seq (.seq .nil (.meet true ⟨kS [6,13] [],[(6,.keep),(13,.ob (.box [(.own 106002)])),(106002,.ob q71)]⟩ (.loop ⟨lS [(1,.sl Qa),(6,.keep),(8,.sl (.one (.p false false (.sl (.sl (.int .i64))))))] (kS [13,99,100] [(101,.sl q16)]),[(6,.keep),(13,.ob (.box [(.own 106002)])),(106002,.ob q71)]⟩ (.seq .nil (.seq .nil (.seq (.seq (.seq .nil (.seq .nil (.seq (.seq .nil (.meet false ⟨lS [(1,.sl Qa)] (kS [6,8,13,14,15,16,99,100,101] []),kO [6,13,15] [(109,.ob q8),(106002,.keep)]⟩ (.loop ⟨lS [(1,.sl Qa)] (kS [6,8,13,14,15,16,99,100,101,114,115] [(116,.sl q16)]),kO [6,13,15] (lO [(109,.ob q8)] (kO [111,106002] []))⟩ (.seq .nil (.seq .nil (.seq (.seq (.seq .nil (.seq .nil (.meet false ⟨lS [(1,.sl Qa)] (kS [6,8,13,14,15,16,99,100,101,114,115,116] []),kO [6,13,15] (lO [(109,.ob q8)] (kO [111,106002] []))⟩ j0))) .nil) .nil)))))) (.seq .nil (.seq .nil (.seq (.seq (.meet false ⟨kS [1,6,8,13,20,99,100,101] [(156,.sl q3)],kO [6,13,20,106002,145,1145] []⟩ .nil) j0) .nil)))))) .nil) .nil)))))) .nil)))))))
def ak7:TypeId→Option Ty:=fun t=>(([(1000047,(.prod (.st 0) .bool)),(3000081,.bool),(3000048,.bool),(3000034,.bool)]:List (Nat×Ty))++zH).lookup t
def ap1:dD:={ bH:=1,pin:=⟨[(0,yO)],[(50000,P_)]⟩,aS:=⟨[(0,(.agg [(.own 19),(.own 100004),q0,q0]))],[(50000,q4),(19,q47),(100004,q26)]⟩,dA:=1,bg:=[50000],aX:=[19,100004] }
def ap2:gG:=(.seq .nil (.seq .nil (.seq .nil (.seq (.seq .nil (.meet false ⟨kS [0,2,3,4] [],[(50000,.ob q4),(2,.keep),(3,.ob (.box [(.own 19),(.own 100004),q0,q0])),(19,.keep),(100004,.ob q26)]⟩ (.loop ⟨kS [0,2,3,4] [(5,.sl q16)],[(50000,.ob q4),(2,.keep),(3,.ob (.box [(.own 19),(.own 100004),q0,q0])),(19,.keep),(100004,.ob q26)]⟩ (.seq j0 (.seq (.seq (.seq .nil (.seq (.seq .nil (.meet false ⟨kS [0,2,3,4,5,6] [],lO [(50000,.ob q4)] (kO [2,3] (lO [(6,.ob (.box [SI,q0,q0,.cO]))] (kO [19,100004] [])))⟩ .nil)) .nil)) .nil) .nil))))) (.seq .nil (.seq (.seq .nil (.meet false ⟨kS [2,3] [],lO [(50000,.ob q4)] (kO [2,3,19] [(100004,.ob q26)])⟩ (.loop ⟨kS [0,2,3,4] [(7,.sl q16)],lO [(50000,.ob q4)] (kO [2,3,19] [(100004,.ob q26)])⟩ (.seq j0 (.seq (.seq (.seq .nil (.seq (.seq .nil (.meet false j19 (.loop ⟨kS [0,2,3,4,7,8] [(9,.sl q16)],lO [(50000,.ob q4)] (kO [2,3] [(100004,.ob q26),(19,.keep)])⟩ (.seq j0 (.seq (.seq (.seq .nil (.seq (.seq .nil (.meet false ⟨kS [0,2,3,4,7,8,9,10] [],lO [(50000,.ob q4)] (kO [2,3] [(100004,.ob q26),(10,.ob (.box [(.own 105006),q0,q0,q0,q0,q0,q0,q0])),(19,.keep),(105006,.ob (.arr false false false (.st 6)))])⟩ (.loop ⟨kS [0,2,3,4,7,8,9,10] [(11,.sl q16)],lO [(50000,.ob q4)] (kO [2,3] [(100004,.ob q26),(10,.ob (.box [(.own 105006),q0,q0,q0,q0,q0,q0,q0])),(19,.keep),(105006,.ob (.arr false false false (.st 6)))])⟩ (.seq j0 j0)))) .nil)) .nil) .nil))))) (.seq (.seq .nil (.meet false j19 (.loop ⟨kS [0,2,3,4,7,8] [(12,.sl q16)],lO [(50000,.ob q4)] (kO [2,3] [(100004,.ob q26),(19,.keep)])⟩ (.seq j0 j15)))) .nil))) .nil) .nil))))) .nil))))))
def ak8:TypeId→Option Ty:=fun t=>(([(1000035,(.prod (.st 3) .bool)),(3000140,.bool),(3000133,.bool),(3000113,.bool),(3000078,.bool)]:List (Nat×Ty))++zH).lookup t
def ap3:dD:={ bH:=1,pin:=⟨[(0,yO)],[(50000,P_)]⟩,aS:=⟨[(0,(.agg [(.own 9),(.own 1009)]))],[(50000,q4),(9,q22),(1009,q23)]⟩,dA:=1,bg:=[50000],aX:=[9,1009] }
def ap4:gG:=j1
def ap5:dD:={ bH:=1,pin:=⟨[(0,q20)],[]⟩,aS:=⟨[(0,q16)],[]⟩,dA:=1,bg:=[],aX:=[] }
def ap6:gG:=(.seq .nil (.seq (.seq (.meet false ⟨[(1,.keep),(31,.sl q3)],[(1,.keep)]⟩ .nil) j0) (.seq (.seq .nil (.meet true ⟨[(1,.keep)],[(1,.keep)]⟩ (.loop ⟨[(1,.keep),(3,.sl q16)],[(1,.keep)]⟩ (.seq j0 (.seq (.seq (.seq (.meet false ⟨kS [1,3] [(54,.sl q3)],[(1,.keep)]⟩ .nil) j0) .nil) .nil))))) (.seq (.seq (.meet false ⟨[(1,.keep),(65,.sl q3)],[(1,.keep)]⟩ .nil) j0) (.seq j1 (.seq (.seq .nil (.meet true ⟨[],[]⟩ (.loop ⟨[(1,.keep),(4,.sl q16)],[(1,.keep)]⟩ (.seq j0 j30)))) .nil))))))
def sg5:dD:={ bH:=0,pin:=⟨[],[]⟩,aS:=⟨[(0,q3)],[]⟩,dA:=1,bg:=[],aX:=[] }
def an5:gG:=(.seq .nil (.seq .nil (.seq .nil (.seq (.meet false ⟨[(0,.sl q3)],[]⟩ .nil) .nil))))
def ap7:dD:={ bH:=1,pin:=⟨[(0,q32)],[]⟩,aS:=⟨[(0,(.agg [(.own 60000),(.own 60001),q0,q0])),(1,q16)],[(60000,(.arr false true false (.st 3))),(60001,q73)]⟩,dA:=2,bg:=[],aX:=[60000,60001] }
def ap8:gG:=(.seq .nil (.seq .nil (.seq (.seq .nil (.meet false ⟨kS [2,4] [],[(2,.keep),(4,.ob (.box [(.own 11),(.own 100004),q0,q0])),(11,.keep),(100004,.ob q73)]⟩ (.loop ⟨kS [1,2,4] [(5,.sl q16)],kO [1,2] [(4,.ob (.box [(.own 11),(.own 100004),q0,q0])),(11,.keep),(100004,.ob q73)]⟩ (.seq j0 (.seq (.seq (.seq .nil (.seq (.meet false ⟨kS [1,2,4,5,6] [(7,.sl (.one (.box 33 0)))],kO [1,2,4,6] (lO [(33,.ob (.box [(.p true false (.sl (.st 3))),(.p true false (.sl (.st 18))),q61,q0,q0,(.own 101700),q0]))] (kO [11,100004] [(101700,.ob (.aP false false (.st 5) [(0,(.st 6))]))]))⟩ .nil) (.seq .nil (.seq .nil (.seq (.seq .nil (.meet false ⟨kS [1,2,4,5,6,7] [],kO [1,2,4,6] (lO [(33,.ob (.box [(.p true false (.sl (.st 3))),(.p true false (.sl (.st 18))),q61,q0,q0,(.own 49),q0]))] (kO [11,100004] [(49,.ob (.aP true false (.st 5) [(0,(.st 6))]))]))⟩ j4)) .nil))))) .nil) .nil))))) j4)))
def ak9:TypeId→Option Ty:=fun t=>(([(1000045,(.prod (.st 0) .bool)),(3000082,.bool),(3000053,.bool),(3000038,.bool),(3000018,.bool),(3000013,.bool)]:List (Nat×Ty))++zH).lookup t
def ap9:dD:={ bH:=1,pin:=⟨[(0,yO)],[(50000,P_)]⟩,aS:=⟨[(0,(.agg [(.own 8),(.own 1008),q0,q0]))],[(50000,q4),(8,q22),(1008,(.arr false false true (.st 4)))]⟩,dA:=1,bg:=[50000],aX:=[8,1008] }
def ap_:gG:=j1
def sg7:dD:={ bH:=1,pin:=⟨[(0,yO)],[(50000,P_)]⟩,aS:=⟨[(0,(.agg [(.own 60001),(.p false true (.sl (.st 4))),q0,q0]))],[(50000,q4),(60001,q22)]⟩,dA:=1,bg:=[50000],aX:=[60001] }
def an7:gG:=(.seq .nil j4)
def sg4:dD:={ bH:=1,pin:=⟨[(0,(.one q46))],[]⟩,aS:=⟨[(0,q3)],[]⟩,dA:=1,bg:=[],aX:=[] }
def an4:gG:=(.seq .nil (.seq j1 (.seq .nil (.seq .nil (.seq .nil (.seq .nil (.seq (.seq .nil (.meet false ⟨kS [4,5] [(6,.sl (.one (.own 100003)))],kO [4,22] [(100003,.ob q10),(20,.keep)]⟩ (.loop ⟨kS [3,4,5] [(6,.sl (.one (.own 100003))),(7,.sl q16)],lO [(18,.ob (.box [q46,q0]))] (kO [4,22] [(100003,.ob q10),(20,.keep)])⟩ (.seq j0 j0)))) (.seq .nil (.seq .nil (.seq j1 (.seq (.seq .nil (.seq j16 .nil)) (.seq (.seq (.meet false ⟨kS [5,6,10] [(71,.sl q3)],kO [22,100003,10,46] []⟩ .nil) j0) (.seq (.seq .nil (.meet true ⟨[],[]⟩ (.loop ⟨kS [5,6,10] [(12,.sl q16)],kO [22,100003,10,46] []⟩ (.seq j0 (.seq (.seq (.seq .nil (.seq .nil (.seq (.seq .nil (.meet false j26 (.seq (.meet false j26 .nil) .nil))) j1))) .nil) .nil))))) .nil)))))))))))))
end Go.Fg.Ytfklooeiipkijaa

